import PyProof.Rows.All
import Wide.All
import OpenK.AllK
import Wide.FinOn
import HandS.ForMost
import HandS.Defaults
import HandS.HeadEnd
import HandS.HeadHook2
import HandS.Head2
import HandS.RaiseMore
import PySem.Challenge.RW_replaytravel_k01_worths_brought
set_option Elab.async false
set_option linter.all false
set_option maxRecDepth 100000
set_option maxHeartbeats 4000000
namespace Rt
open PySem PySem.Spec L2

/-! ### globals and callees, each with what a call of it wants -/
def GlV (mg : Str → Option Value) (x : Str) (v : V) : Prop := ∃ u, mg x = some u ∧ RelV v u
theorem pe_g {X : Cx} {x : Str} {v : V} {pos : Pos} (h : GlV X.mg x v) (hg : Gl X x := by rfl) (hd : (x == ("__debug__" : Str)) = false := by decide) : PE X (.Name x pos) (tC v) := by
  obtain ⟨u, h1, h2⟩ := h
  exact pe_glob hg h1 h2 hd

/-- a def of the text, at a global name, with its promise -/
def Cal (P : Program) (w : World) (K : PySem.W.Frag) (mg : Str → Option Value) (base : Heap) (CX : CXT) (k : Nat) (x : Str) (ps : List Str) (dvs : List V) (sp : Sp) : Prop :=
  ∃ (f : Addr) (fd : FuncData) (ds : List Value), FnOk P w K mg base CX k f fd ps sp ∧ mg x = some (.ref f) ∧ PySem.W.keepIn K (.ref f) = true ∧ Binds K fd ps ds ∧ Vals dvs ds
theorem pe_c {X : Cx} {CX : CXT} {k j : Nat} {x : Str} {ps : List Str} {dvs : List V} {sp : Sp} {E : XK} {p pos : Pos} {e : Expr} {es : List Expr} {t : TA}
    (C : Cal X.prog X.w X.K X.mg X.base CX k x ps dvs sp) (hr : Room j X.A) (hx : Passes CX X E) (ha : PA X (e :: es) t) (hkj : k ≤ j := by decide) (hg : Gl X x := by rfl)
    (hdb : (x == ("__debug__" : Str)) = false := by decide) (he : starEach (e :: es) X.env = (false, eval e X.env) :: starEach es X.env := by rfl) (hpl : (backTo pos (starEach es X.env)).any (·.1) = false := by rfl) :
    PE X (.Call (.Name x p) (e :: es) [] pos) (tCall sp dvs E t) := by
  obtain ⟨f, fd, ds, h1, h2, h3, h4, h5⟩ := C
  exact pe_call h1 (hr.mono hkj) hg h2 h3 h4 h5 hx ha hdb he hpl

/-! ### readings by steps -/
section
variable {σ : St} {H : Hp} {Q : VK} {ta tb te : TE} {D : Ends}
theorem r_var {i : Nat} {v : V} (h : σ[i]? = some (some v)) (q : Q v H) : tVar i σ H Q := ⟨v, h, q⟩
theorem r_c {v : V} (q : Q v H) : tC v σ H Q := q
theorem r_op {r : R2} (q : ta σ H fun x H1 => tb σ H1 fun y H2 => r x y H2 Q) : tOp r ta tb σ H Q := q
theorem r_un {r : V → Hp → VK → Prop} (q : ta σ H fun x H1 => r x H1 Q) : tUn r ta σ H Q := q
theorem r_I {C : Int → Int → Prop} {g : Int → Int → V} {i j : Int} (h : C i j) (q : Q (g i j) H) : rI C g (.int i) (.int j) H Q := ⟨i, j, rfl, rfl, h, q⟩
theorem r_I0 {g : Int → Int → V} {i j : Int} (q : Q (g i j) H) : rI0 g (.int i) (.int j) H Q := ⟨i, j, rfl, rfl, q⟩
theorem r_U {g : Int → V} {i : Int} (q : Q (g i) H) : rU g (.int i) H Q := ⟨i, rfl, q⟩
theorem dec_int {i j : Int} : decide (V.int i = V.int j) = decide (i = j) := by
  by_cases h : i = j
  · subst h; simp
  · have h2 : ¬ V.int i = V.int j := fun e => h (V.int.inj e)
    rw [decide_eq_false h, decide_eq_false h2]
theorem r_eqI {i j : Int} (q : Q (.bl (decide (i = j))) H) : rEq (.int i) (.int j) H Q := ⟨rfl, by rw [dec_int]; exact q⟩
theorem r_neI {i j : Int} (q : Q (.bl (!decide (i = j))) H) : rNe (.int i) (.int j) H Q := ⟨rfl, by rw [dec_int]; exact q⟩
theorem dec_str {i j : Str} : decide (V.str i = V.str j) = decide (i = j) := by
  by_cases h : i = j
  · subst h; simp
  · have h2 : ¬ V.str i = V.str j := fun e => h (V.str.inj e)
    rw [decide_eq_false h, decide_eq_false h2]
theorem r_eqS {i j : Str} (q : Q (.bl (decide (i = j))) H) : rEq (.str i) (.str j) H Q := ⟨rfl, by rw [dec_str]; exact q⟩
theorem r_neS {i j : Str} (q : Q (.bl (!decide (i = j))) H) : rNe (.str i) (.str j) H Q := ⟨rfl, by rw [dec_str]; exact q⟩
theorem r_test {te : TE} {R : Bool → Hp → Prop} (q : te σ H fun x H' => ∃ k, x = .bl k ∧ R k H') : tTest te σ H R := q
theorem r_B {te : TE} {R : Bool → Hp → Prop} (q : te σ H fun x H' => ∃ k, x = .bl k ∧ R k H') : tB te σ H R := q
theorem r_bl {k : Bool} {R : Bool → Prop} (q : R k) : ∃ j, V.bl k = .bl j ∧ R j := ⟨k, rfl, q⟩
theorem r_bl2 {k : Bool} {R : Bool → Hp → Prop} (q : R k H) : ∃ j, V.bl k = .bl j ∧ R j H := ⟨k, rfl, q⟩
theorem r_and {t u : TT} {R : Bool → Hp → Prop} (q : t σ H fun c H1 => if c = true then u σ H1 R else R false H1) : tAnd t u σ H R := q
theorem r_or {t u : TT} {R : Bool → Hp → Prop} (q : t σ H fun c H1 => if c = true then R true H1 else u σ H1 R) : tOr t u σ H R := q
theorem r_not {t : TT} {R : Bool → Hp → Prop} (q : t σ H fun c H1 => R (!c) H1) : tNot t σ H R := q
theorem r_if {t : TT} (q : t σ H fun c H1 => if c = true then ta σ H1 Q else tb σ H1 Q) : tIf t ta tb σ H Q := q
theorem r_ifS {c : TT} {t u : TS} (q : c σ H fun b H1 => if b = true then t D σ H1 else u D σ H1) : tIfS c t u D σ H := q
theorem r_seq {t u : TS} (q : t { D with nx := u D } σ H) : tSeq t u D σ H := q
theorem r_next (q : D.nx σ H) : tNext D σ H := q
theorem r_drop (q : te σ H fun _ H1 => D.nx σ H1) : tDrop te D σ H := q
theorem r_ret (q : te σ H D.rt) : tRet te D σ H := q
theorem r_asg {g : TG} (q : te σ H fun x H1 => g x σ H1 D.nx) : tAsg te g D σ H := q
theorem r_name {i : Nat} {v : V} {R : St → Hp → Prop} (q : R (σ.set i (some v)) H) : gName i v σ H R := q
theorem r_sub {v : V} {to ti : TE} {t : TSet} {R : St → Hp → Prop} (q : to σ H fun o H1 => ti σ H1 fun i H2 => t o i v H2 fun H3 => R σ H3) : gSub to ti t v σ H R := q
theorem r_nil {R : List V → Hp → Prop} (q : R [] H) : tNil σ H R := q
theorem r_cons {tr : TA} {R : List V → Hp → Prop} (q : ta σ H fun x H1 => tr σ H1 fun xs H2 => R (x :: xs) H2) : tCons ta tr σ H R := q
def MkL (xs : List V) (Q : VK) (H : Hp) : Prop := xs.length ≤ sizeLine ∧ ∀ p, H p = none → Q (.ref p) (upd H p (.lst xs))
def MkT (xs : List V) (Q : VK) (H : Hp) : Prop := xs.length ≤ sizeLine ∧ ∀ p, H p = none → Q (.ref p) (upd H p (.tup xs))
theorem same_new {p : Addr} {o : HO} (hp : H p = none) : Same H (upd H p o) := fun b u e => by rw [upd_ne (ne_of_none e hp)]; exact e
theorem r_mkL {xs : List V} (h : xs.length ≤ sizeLine) (q : ∀ p H', H p = none → Same H H' → H' p = some (.lst xs) → Q (.ref p) H') : MkL xs Q H := ⟨h, fun p hp => q p _ hp (same_new hp) upd_same⟩
theorem r_mkT {xs : List V} (h : xs.length ≤ sizeLine) (q : ∀ p H', H p = none → Same H H' → H' p = some (.tup xs) → Q (.ref p) H') : MkT xs Q H := ⟨h, fun p hp => q p _ hp (same_new hp) upd_same⟩
theorem r_lst {t : TA} (q : t σ H fun xs H1 => MkL xs Q H1) : tLst t σ H Q := q
theorem r_tup {t : TA} (q : t σ H fun xs H1 => MkT xs Q H1) : tTup t σ H Q := q
theorem r_cb {r : List V → Hp → VK → Prop} {t : TA} (q : t σ H fun vs H1 => r vs H1 Q) : tCB r t σ H Q := q
theorem r_call {sp : Sp} {dvs : List V} {E : XK} {t : TA} (q : t σ H fun vs H1 => sp (vs ++ dvs) H1 Q E) : tCall sp dvs E t σ H Q := q
theorem r_call0 {sp : Sp} {E : XK} {t : TA} (q : t σ H fun vs H1 => sp vs H1 Q E) : tCall sp [] E t σ H Q := by
  unfold tCall
  simp only [List.append_nil]
  exact q
theorem r_lenAnd {zs : List V} {m : Nat} {A : Prop} (h : zs.length = m) (q : A) : zs.length = m ∧ A := ⟨h, q⟩
theorem r_sl {r : V → Option Int → Option Int → Hp → VK → Prop} {tl th : TO} (q : te σ H fun x H1 => tl σ H1 fun l H2 => th σ H2 fun u H3 => r x l u H3 Q) : tSl r te tl th σ H Q := q
theorem r_nopart {R : Option Int → Hp → Prop} (q : R none H) : tNoPart σ H R := q
theorem r_part {R : Option Int → Hp → Prop} (q : te σ H fun x H1 => ∃ i, x = .int i ∧ R (some i) H1) : tPart te σ H R := q
theorem r_ex_int {i : Int} {R : Int → Prop} (q : R i) : ∃ j, V.int i = .int j ∧ R j := ⟨i, rfl, q⟩
theorem r_slL {K : PySem.W.Frag} {a : Addr} {xs : List V} {lo hi : Option Int} (h : SqL K H a xs) (q : ∀ p H', H p = none → Same H H' → H' p = some (.lst (cutV xs lo hi)) → Q (.ref p) H') : rSlL K (.ref a) lo hi H Q := ⟨a, xs, rfl, h, fun p hp => q p _ hp (same_new hp) upd_same⟩
theorem r_ixL {K : PySem.W.Frag} {a : Addr} {xs : List V} {i : Int} {v : V} (h : SqL K H a xs) (hi : atI xs i = some v) (q : Q v H) : rIxL K (.ref a) (.int i) H Q := ⟨a, xs, i, v, rfl, rfl, h, hi, q⟩
theorem r_ixT {K : PySem.W.Frag} {a : Addr} {xs : List V} {i : Int} {v : V} (h : SqT K H a xs) (hi : atI xs i = some v) (q : Q v H) : rIxT K (.ref a) (.int i) H Q := ⟨a, xs, i, v, rfl, rfl, h, hi, q⟩
/-- len of a list or a tuple -/
def rLenS (K : PySem.W.Frag) : List V → Hp → VK → Prop := fun xs H Q => ∃ p ys, xs = [.ref p] ∧ (SqL K H p ys ∨ SqT K H p ys) ∧ Q (.int ys.length) H
theorem cr_len {X : Cx} : CallR X (.builtin "len") (rLenS X.K) := call_len_seq
theorem r_lenL {K : PySem.W.Frag} {a : Addr} {xs : List V} (h : SqL K H a xs) (q : Q (.int xs.length) H) : rLenS K [.ref a] H Q := ⟨a, xs, rfl, .inl h, q⟩
theorem r_lenT {K : PySem.W.Frag} {a : Addr} {xs : List V} (h : SqT K H a xs) (q : Q (.int xs.length) H) : rLenS K [.ref a] H Q := ⟨a, xs, rfl, .inr h, q⟩
def rListS (K : PySem.W.Frag) : List V → Hp → VK → Prop := fun xs H Q => ∃ p ys, xs = [.ref p] ∧ (SqL K H p ys ∨ SqT K H p ys) ∧ ∀ l, H l = none → Q (.ref l) (upd H l (.lst ys))
theorem cr_list {X : Cx} : CallR X (.type "list") (rListS X.K) := call_list_of
theorem r_listL {K : PySem.W.Frag} {a : Addr} {xs : List V} (h : SqL K H a xs) (q : ∀ p H', H p = none → Same H H' → H' p = some (.lst xs) → Q (.ref p) H') : rListS K [.ref a] H Q := ⟨a, xs, rfl, .inl h, fun p hp => q p _ hp (same_new hp) upd_same⟩
def rIntB : List V → Hp → VK → Prop := fun xs H Q => (∃ i, xs = [.int i] ∧ Q (.int i) H) ∨ ∃ k, xs = [.bl k] ∧ Q (.int (if k then 1 else 0)) H
theorem cr_int {X : Cx} : CallR X (.type "int") rIntB := call_int1
theorem r_intI {i : Int} (q : Q (.int i) H) : rIntB [.int i] H Q := .inl ⟨i, rfl, q⟩
theorem r_intB {k : Bool} (q : Q (.int (if k then 1 else 0)) H) : rIntB [.bl k] H Q := .inr ⟨k, rfl, q⟩
def rReprI : List V → Hp → VK → Prop := fun xs H Q => ∃ i, xs = [.int i] ∧ i.natAbs.log2 < 1920 ∧ Q (.str (toString i)) H
theorem cr_reprI {X : Cx} : CallR X (.builtin "repr") rReprI := SkE.call_repr_int
theorem r_reprI {i : Int} (h : i.natAbs.log2 < 1920) (q : Q (.str (toString i)) H) : rReprI [.int i] H Q := ⟨i, rfl, h, q⟩
theorem r_ite {c : Prop} [Decidable c] {A B : Prop} (h1 : c → A) (h2 : ¬ c → B) : if decide c = true then A else B := by
  by_cases h : c
  · rw [decide_eq_true h]; exact h1 h
  · rw [decide_eq_false h]; exact h2 h
theorem r_iteN {c : Prop} [Decidable c] {A B : Prop} (h1 : ¬ c → A) (h2 : c → B) : if (!decide c) = true then A else B := by
  by_cases h : c
  · rw [decide_eq_true h]; exact h2 h
  · rw [decide_eq_false h]; exact h1 h
theorem r_iteB {c : Bool} {A B : Prop} (h1 : c = true → A) (h2 : c = false → B) : if c = true then A else B := by
  cases c
  · exact h2 rfl
  · exact h1 rfl
theorem r_iteT {A B : Prop} (h1 : A) : if true = true then A else B := by rw [if_pos rfl]; exact h1
theorem r_iteF {A B : Prop} (h1 : B) : if false = true then A else B := h1
end
/-- a repr's size -/
theorem log_small {i : Int} (h1 : -(2 ^ 200) < i) (h2 : i < 2 ^ 200) : i.natAbs.log2 < 1920 := by
  by_cases h : i.natAbs = 0
  · rw [h]; decide
  · have : i.natAbs < 2 ^ 200 := by
      have e : ((2 : Int) ^ 200) = ((2 ^ 200 : Nat) : Int) := by norm_cast
      omega
    have := (Nat.log2_lt h).mpr this
    omega
end Rt
namespace Rt
open PySem L2
section
variable {H : Hp} {Q : VK}
theorem r_mod {i j : Int} (h : 0 < j) (q : Q (.int (i % j)) H) : rI (fun _ j => 0 < j) (fun i j => .int (i % j)) (.int i) (.int j) H Q := ⟨i, j, rfl, rfl, h, q⟩
theorem r_fdiv {i j : Int} (h1 : 0 < j) (h2 : j < 1073741824) (q : Q (.int (i / j)) H) : rI CDiv (fun i j => .int (i / j)) (.int i) (.int j) H Q := ⟨i, j, rfl, rfl, ⟨h1, h2⟩, q⟩
theorem r_mul {i j : Int} (h : CMul i j) (q : Q (.int (i * j)) H) : rI CMul (fun i j => .int (i * j)) (.int i) (.int j) H Q := ⟨i, j, rfl, rfl, h, q⟩
theorem r_pow18 (q : Q (.int 1000000000000000000) H) : rI CPow (fun i j => .int (i ^ j.toNat)) (.int 10) (.int 18) H Q := ⟨10, 18, rfl, rfl, ⟨by decide, by decide, by decide⟩, q⟩
theorem pow64 : (2 : Int) ^ 64 = 18446744073709551616 := by decide
theorem cmul_l {i j : Int} (h1 : -18446744073709551616 < i) (h2 : i < 18446744073709551616) : CMul i j := by
  left
  rw [pow64]
  exact ⟨h1, h2⟩
theorem cmul_r {i j : Int} (h1 : -18446744073709551616 < j) (h2 : j < 18446744073709551616) : CMul i j := by
  right
  rw [pow64]
  exact ⟨h1, h2⟩
/-- an object is new: what stood stands -/
theorem r_new {p0 : HO} {R : Addr → Hp → Prop} (q : ∀ p H', H p = none → Same H H' → H' p = some p0 → R p H') : ∀ p, H p = none → R p (upd H p p0) := fun p hp =>
  q p _ hp (fun b o e => by rw [upd_ne (ne_of_none e hp)]; exact e) upd_same
/-- all but the object at p is as it was -/
def Keep (p : Addr) (H H' : Hp) : Prop := ∀ b o, H b = some o → b ≠ p → H' b = some o
theorem Keep.refl (p : Addr) (H : Hp) : Keep p H H := fun _ _ h _ => h
theorem Keep.trans {p : Addr} {H H1 H2 : Hp} (a : Keep p H H1) (b : Keep p H1 H2) : Keep p H H2 := fun c o h n => b c o (a c o h n) n
theorem Same.keep {p : Addr} {H H' : Hp} (a : Same H H') : Keep p H H' := fun c o h _ => a c o h
theorem keep_upd {p : Addr} {o : HO} : Keep p H (upd H p o) := fun b u h n => by rw [upd_ne n]; exact h
theorem r_upd {p : Addr} {o : HO} {R : Hp → Prop} (q : ∀ H', Keep p H H' → H' p = some o → R H') : R (upd H p o) := q _ keep_upd upd_same
theorem Keep.seq {K : PySem.W.Frag} {p a : Addr} {H H' : Hp} {xs : List V} (e : Keep p H H') (h : SqL K H a xs) (n : a ≠ p) : SqL K H' a xs := by
  rcases h with (h | ⟨o, h⟩) | h
  · exact .inl (.inl (e _ _ h n))
  · exact .inl (.inr ⟨o, e _ _ h n⟩)
  · exact .inr h
end
theorem cxK {CX : CXT} {P : Program} {w : World} {K : PySem.W.Frag} {mg : Str → Option Value} {base : Heap} {N : List Str} {qual : Str} {sc : Scope} {f : Addr} {cd : Value} {A : Around} {outer : List Env} {s : Shared} {H : Hp} {E : XK} : (cxOf CX P w K mg base N qual sc f cd A outer s H E).K = K := rfl
theorem same_at {H H' : Hp} {a : Addr} {o : HO} (s : Same H H') (h : H a = some o) : H' a = some o := s _ _ h
theorem keep_at {p : Addr} {H H' : Hp} {a : Addr} {o : HO} (s : Keep p H H') (h : H a = some o) (n : a ≠ p) : H' a = some o := s _ _ h n
theorem r_ixIntsMod {K : PySem.W.Frag} {H : Hp} {Q : VK} {c : Addr} {cs : List Int} {a : Int} (h : SqL K H c (cs.map V.int)) (hp : 0 < ((cs.map V.int).length : Int)) (q : ∀ x, x ∈ cs → Q (.int x) H) :
    rIxL K (.ref c) (.int (a % ((cs.map V.int).length : Int))) H Q := by
  have h0 := Int.emod_nonneg a (b := ((cs.map V.int).length : Int)) (by omega)
  have h1 := Int.emod_lt_of_pos a hp
  obtain ⟨j, hj⟩ := Int.eq_ofNat_of_zero_le h0
  have hl : j < cs.length := by
    have e : (cs.map V.int).length = cs.length := List.length_map ..
    omega
  rw [hj]
  exact r_ixL h (atI_nat (v := V.int cs[j]) (by rw [List.getElem?_map, List.getElem?_eq_getElem hl]; rfl)) (q _ (List.getElem_mem hl))
theorem r_setL {a : Addr} {xs : List V} {k : Int} {j : Nat} {v : V} {H : Hp} {R : Hp → Prop} (h : H a = some (.lst xs)) (hj : ixN xs.length k = some j)
    (q : ∀ H', Keep a H H' → H' a = some (.lst (xs.set j v)) → R H') : rSetL (.ref a) (.int k) v H R := ⟨a, xs, k, j, rfl, rfl, h, hj, q _ keep_upd upd_same⟩
/-! ### a call by keywords alone -/
def KCal (P : Program) (w : World) (K : PySem.W.Frag) (mg : Str → Option Value) (base : Heap) (CX : CXT) (k : Nat) (x : Str) (ps : List Str) (n : Nat) (ks : List Str) (gV : List V → List V → List V) (sp : Sp) : Prop :=
  ∃ (f : Addr) (fd : FuncData) (g : List Value → List Value → List Value), FnOk P w K mg base CX k f fd ps sp ∧ mg x = some (.ref f) ∧ PySem.W.keepIn K (.ref f) = true ∧ KBn K fd ps n ks g gV
def tCallW (m : Nat) (sp : Sp) (gV : List V → List V → List V) (E : XK) (tk : TA) : TE := fun σ H Q => tk σ H fun zs H2 => zs.length = m ∧ sp (gV [] zs) H2 Q E
theorem r_callW {m : Nat} {sp : Sp} {gV : List V → List V → List V} {E : XK} {tk : TA} {σ : L2.St} {H : Hp} {Q : VK} (q : tk σ H fun zs H2 => zs.length = m ∧ sp (gV [] zs) H2 Q E) : tCallW m sp gV E tk σ H Q := q
theorem pe_ckw {X : Cx} {CX : CXT} {k j : Nat} {x : Str} {ps ks : List Str} {gV : List V → List V → List V} {sp : Sp} {E : XK} {p pos : Pos} {kws : List Keyword} {tk : TA}
    (C : KCal X.prog X.w X.K X.mg X.base CX k x ps 0 ks gV sp) (hr : Room j X.A) (hx : Passes CX X E) (hkw : PK X kws tk) (hkj : k ≤ j := by decide) (hg : Gl X x := by rfl)
    (hall : (backToKw pos (keywordEach kws X.env)).all (·.1.isSome) = true := by rfl) (hks : (backToKw pos (keywordEach kws X.env)).filterMap (·.1) = ks := by rfl)
    (hdb : (x == ("__debug__" : Str)) = false := by decide)
    (hpl : ((backTo pos (starEach [] X.env)).any (·.1) || (backToKw pos (keywordEach kws X.env)).any (·.1.isNone)) = false := by rfl) :
    PE X (.Call (.Name x p) [] kws pos) (tCallW ks.length sp gV E tk) := by
  obtain ⟨f, fd, g, h1, h2, h3, hb⟩ := C
  refine ⟨fun pins s σ H Q I h => ?_⟩
  refine wpAny_Call_Name_kw (ld_glob I hg h2 ?_ hdb)
  refine PySem.W.callWith_KW0 (h₀ := X.base) I.ok.mod.kin h3 hall (thn (hkw.run pos pins s σ H _ I h) fun ws s2 ⟨zs, H2, I2, rz, l2, q2⟩ => ⟨I2.kIn, ?_⟩) hpl
  rw [hks]
  exact run_fnN h1 (hr.mono hkj) hb hx I2 .nil rz rfl l2 q2
theorem FunDkall {K : PySem.W.Frag} {x qual : Str} {params : Arguments} {body : List Stmt} {scope : Scope} {kws : List (Str × V)} {f : Addr} {fd : FuncData} {ps : List Str} (F : FunD K x qual params body scope [] kws f fd) (n : Nat) (ks : List Str)
    (g : {α : Type} → List α → List α → List α)
    (hrel : ∀ {vs zs : List V} {us ws : List Value}, Vals vs us → Vals zs ws → Vals (g vs zs) (g us ws))
    (h : ∀ (kV doc pm : Value) (an : Option Addr) (cdv ct : Value) (us ws : List Value), us.length = n → ws.length = ks.length → bindArgs (PySem.W.fnOf x qual params body scope .none kV doc pm an cdv ct) ⟨us, ks.zip ws⟩ = pure (ps.zip (g us ws))) :
    KBn K fd ps n ks (fun us ws => g us ws) (fun vs zs => g vs zs) := by
  obtain ⟨oc, od, dV, kV, doc, pm, an, cdv, ct, osl, rfl, lk, hcd, hD, hK⟩ := F.ex
  rcases hD with ⟨_, rfl⟩ | ⟨e, _⟩
  · exact ⟨fun s us ws X l1 l2 => .of_eq (h kV doc pm an cdv ct us ws l1 l2), fun r1 r2 => hrel r1 r2⟩
  · exact absurd rfl e
/-! ### loops -/
/-- a for loop that stands ahead of its turns -/
def ForW (J : It) (g : TG) (tb : TS) (D : Ends) (σ : L2.St) (H : Hp) : Prop :=
  ∃ W : Nat → Nat → L2.St → Hp → Prop, (∃ m, W 0 m σ H) ∧
    ∀ i m σ H, W i m σ H → (J.stop i H ∧ D.nx σ H) ∨
      (J.go i H ∧ ∃ N : L2.St → Hp → Prop, (∀ σ' H', N σ' H' → ∃ m', m' < m ∧ W (i + 1) m' σ' H') ∧
        ∀ x H', J.yld i H x H' → g x σ H' fun σ2 H2 => tb { D with nx := N, ct := N, bk := D.nx } σ2 H2)
def Rng1 (vs : List V) (R : It → Hp → Prop) (H : Hp) : Prop := ∃ j : Int, vs = [.int j] ∧ -(2 ^ 62) ≤ j ∧ j < 2 ^ 62 ∧ R (Itr 0 j.toNat) H
def Rng2 (vs : List V) (R : It → Hp → Prop) (H : Hp) : Prop :=
  ∃ i j : Int, vs = [.int i, .int j] ∧ (-(2 ^ 62) ≤ i ∧ i < 2 ^ 62 ∧ -(2 ^ 62) ≤ j ∧ j < 2 ^ 62) ∧ R (Itr i (j - i).toNat) H
section
variable {g : TG} {tb : TS} {D : Ends} {σ : L2.St} {H : Hp} {R : It → Hp → Prop} {K : PySem.W.Frag}
theorem r_for {wi : TI} (q : wi σ H fun J H1 => ForW J g tb D σ H1) : tFor wi g tb D σ H := q
theorem r_rg1 {ta : TA} (q : ta σ H fun vs H1 => Rng1 vs R H1) : iRng1 ta σ H R := q
theorem r_rg2 {ta : TA} (q : ta σ H fun vs H1 => Rng2 vs R H1) : iRng2 ta σ H R := q
theorem r_rng1 {n : Int} (h1 : -1000000000 ≤ n) (h2 : n ≤ 1000000000) (q : R (Itr 0 n.toNat) H) : Rng1 [.int n] R H :=
  ⟨n, rfl, by have e : (2 : Int) ^ 62 = 4611686018427387904 := by decide
              omega, by have e : (2 : Int) ^ 62 = 4611686018427387904 := by decide
                        omega, q⟩
theorem r_rng2 {i j : Int} (h1 : -1000000000 ≤ i) (h2 : i ≤ 1000000000) (h3 : -1000000000 ≤ j) (h4 : j ≤ 1000000000) (q : R (Itr i (j - i).toNat) H) : Rng2 [.int i, .int j] R H := by
  have e : (2 : Int) ^ 62 = 4611686018427387904 := by decide
  exact ⟨i, j, rfl, ⟨by omega, by omega, by omega, by omega⟩, q⟩
/-- its turns: what holds ahead of the i-th -/
theorem r_turns {lo : Int} {n : Nat} (Pv : Nat → L2.St → Hp → Prop) (h0 : Pv 0 σ H)
    (hs : ∀ i σ H, i < n → Pv i σ H → g (.int (lo + i)) σ H fun σ2 H2 => tb { D with nx := Pv (i + 1), ct := Pv (i + 1), bk := D.nx } σ2 H2)
    (hd : ∀ σ H, Pv n σ H → D.nx σ H) : ForW (Itr lo n) g tb D σ H := for_range Pv h0 hs hd
theorem r_turnsL {a : Addr} {xs : List V} (Pv : Nat → L2.St → Hp → Prop) (h0 : Pv 0 σ H) (hl : ∀ i σ H, i ≤ xs.length → Pv i σ H → SqL K H a xs)
    (hs : ∀ i x σ H, xs[i]? = some x → Pv i σ H → g x σ H fun σ2 H2 => tb { D with nx := Pv (i + 1), ct := Pv (i + 1), bk := D.nx } σ2 H2)
    (hd : ∀ σ H, Pv xs.length σ H → D.nx σ H) : ForW (Itl K a) g tb D σ H := for_list Pv h0 hl hs hd
theorem r_turnsT {a : Addr} {xs : List V} (Pv : Nat → L2.St → Hp → Prop) (h0 : Pv 0 σ H) (hl : ∀ i σ H, i ≤ xs.length → Pv i σ H → SqT K H a xs)
    (hs : ∀ i x σ H, xs[i]? = some x → Pv i σ H → g x σ H fun σ2 H2 => tb { D with nx := Pv (i + 1), ct := Pv (i + 1), bk := D.nx } σ2 H2)
    (hd : ∀ σ H, Pv xs.length σ H → D.nx σ H) : ForW (Itt K a) g tb D σ H := for_tup Pv h0 hl hs hd
end
/-! ### the feed that the laws draw from: a list of the cells, how many were begun, what is left of a great one -/
def FeedOk (H : Hp) (p : Addr) (n : Int) : Prop :=
  ∃ (c : Addr) (cs : List Int) (a l : Int), c ≠ p ∧ H p = some (.lst [.ref c, .int a, .int l]) ∧ H c = some (.lst (cs.map V.int)) ∧ 0 ≤ a ∧ a ≤ n
theorem FeedOk.same {H H' : Hp} {p : Addr} {n : Int} (s : Same H H') (h : FeedOk H p n) : FeedOk H' p n := by
  obtain ⟨c, cs, a, l, h1, h2, h3, h4, h5⟩ := h
  exact ⟨c, cs, a, l, h1, s _ _ h2, s _ _ h3, h4, h5⟩
theorem FeedOk.mono {H : Hp} {p : Addr} {n m : Int} (h : FeedOk H p n) (e : n ≤ m) : FeedOk H p m := by
  obtain ⟨c, cs, a, l, h1, h2, h3, h4, h5⟩ := h
  exact ⟨c, cs, a, l, h1, h2, h3, h4, by omega⟩
/-- one of so many -/
def spDraw : Sp := fun vs H Q _ => ∃ (p : Addr) (n many : Int), vs = [.ref p, .int many] ∧ FeedOk H p n ∧ n ≤ 1000000000 ∧ 0 < many ∧ many < 1073741824 ∧
  ∀ r H', 0 ≤ r → r < many → FeedOk H' p (n + 1) → Keep p H H' → Q (.int r) H'
theorem r_draw {p : Addr} {n many : Int} {H : Hp} {Q : VK} {E : XK} (h : FeedOk H p n) (h1 : n ≤ 1000000000) (h2 : 0 < many) (h3 : many < 1073741824)
    (q : ∀ r H', 0 ≤ r → r < many → FeedOk H' p (n + 1) → Keep p H H' → Q (.int r) H') : spDraw [.ref p, .int many] H Q E := ⟨p, n, many, rfl, h, h1, h2, h3, q⟩
theorem Keep.same {p : Addr} {H H1 H2 : Hp} (a : Keep p H H1) (b : Same H1 H2) : Keep p H H2 := fun c o h n => b c o (a c o h n)
theorem feed_mk {H : Hp} {p c : Addr} {cs : List Int} (h1 : H p = some (.lst [.ref c, .int 0, .int 0])) (h2 : H c = some (.lst (cs.map V.int))) (h : c ≠ p) : FeedOk H p 0 :=
  ⟨c, cs, 0, 0, h, h1, h2, Int.le_refl 0, Int.le_refl 0⟩
theorem cut_ints (ns : List Int) (lo hi : Option Int) : ∃ ms : List Int, cutV (ns.map V.int) lo hi = ms.map V.int := by
  unfold cutV
  rw [List.length_map, ← List.map_drop, ← List.map_take]
  exact ⟨_, rfl⟩
theorem keep_back {p : Addr} {H H1 H2 : Hp} (b : Keep p H1 H2) (a : Keep p H H1) : Keep p H H2 := a.trans b
theorem keep_backS {p : Addr} {H H1 H2 : Hp} (b : Same H1 H2) (a : Keep p H H1) : Keep p H H2 := Keep.same a b
theorem feed_ne {H : Hp} {p a : Addr} {n : Int} (h : H a = none) (F : FeedOk H p n) : a ≠ p := by
  obtain ⟨c, cs, x, l, h1, h2, _⟩ := F
  exact (ne_of_none h2 h).symm
theorem glv_int {mg : Str → Option Value} {x : Str} {i : Int} (h : ∃ t, mg x = some (.int i t)) : GlV mg x (.int i) := by
  obtain ⟨t, h⟩ := h
  exact ⟨_, h, t, rfl⟩
theorem glv_str {mg : Str → Option Value} {x z : Str} (h : ∃ t, mg x = some (.str z t)) : GlV mg x (.str z) := by
  obtain ⟨t, h⟩ := h
  exact ⟨_, h, t, rfl⟩
end Rt
namespace K01
open PySem L2 Rt
local macro_rules | `(tactic| k_offL) => `(tactic| fail)
local macro_rules | `(tactic| k_caught0) => `(tactic| first | assumption | exact FeedOk.same (by assumption) (by k_caught0) | fail)
local macro_rules | `(tactic| k_clsL) => `(tactic| first | decide | omega | assumption | rfl | fail)
local macro_rules | `(tactic| k_caughtB) => `(tactic| first | assumption | exact same_at (by assumption) (by k_caughtB) | exact keep_at (by assumption) (by k_caughtB) (by k_caughtNB) | fail)
local macro_rules | `(tactic| k_caughtNB) => `(tactic| first | assumption | (apply Ne.symm; assumption) | exact ne_of_none (by assumption) (by assumption) | (apply Ne.symm; exact ne_of_none (by assumption) (by assumption)) | exact feed_ne (by assumption) (by k_caught0) | (apply Ne.symm; exact feed_ne (by assumption) (by k_caught0)) | fail)
local macro_rules | `(tactic| k_caughtN0) => `(tactic| repeat' (first
  | ((with_reducible refine' r_var ?hvar ?_); (case hvar => rfl)) | with_reducible refine r_c ?_ | with_reducible refine r_op ?_ | with_reducible refine r_un ?_
  | ((with_reducible refine r_mod ?hmod ?_); (case hmod => k_clsL)) | ((with_reducible refine r_fdiv ?hd1 ?hd2 ?_); (case hd1 => k_clsL); (case hd2 => k_clsL)) | with_reducible refine r_pow18 ?_
  | ((with_reducible refine r_mul ?hmul ?_); (case hmul => first | exact cmul_r (by decide) (by decide) | exact cmul_l (by decide) (by decide) | exact cmul_l (by omega) (by omega) | exact cmul_r (by omega) (by omega)))
  | with_reducible refine r_I0 ?_ | with_reducible refine r_U ?_ | with_reducible refine r_eqI ?_ | with_reducible refine r_neI ?_ | with_reducible refine r_eqS ?_ | with_reducible refine r_neS ?_
  | with_reducible refine r_test ?_ | with_reducible refine r_B ?_ | with_reducible refine r_bl ?_ | with_reducible refine r_and ?_ | with_reducible refine r_or ?_ | with_reducible refine r_not ?_ | with_reducible refine r_if ?_ | with_reducible refine r_ifS ?_
  | with_reducible refine r_seq ?_ | with_reducible refine r_next ?_ | with_reducible refine r_drop ?_ | with_reducible refine r_ret ?_ | with_reducible refine r_asg ?_ | with_reducible refine r_name ?_ | with_reducible refine r_sub ?_
  | with_reducible refine r_nil ?_ | with_reducible refine r_cons ?_ | with_reducible refine r_lst ?_ | with_reducible refine r_tup ?_ | with_reducible refine r_cb ?_ | with_reducible refine r_call0 ?_ | with_reducible refine r_call ?_ | ((with_reducible refine r_lenAnd ?hx1 ?_); (case hx1 => rfl)) | with_reducible refine r_sl ?_ | with_reducible refine r_nopart ?_ | with_reducible refine r_part ?_ | with_reducible refine r_ex_int ?_
  | ((with_reducible refine' r_ixL ?hx1 ?hx2 ?_); (case hx1 => exact SqL.of (by k_caughtB)); (case hx2 => rfl)) | ((with_reducible refine' r_lenL ?hx1 ?_); (case hx1 => exact SqL.of (by k_caughtB)))
  | ((with_reducible refine' r_setL ?hx1 ?hx2 ?_); (case hx1 => k_caughtB); (case hx2 => rfl); intro H' hK' hS'; try dsimp only [List.set, Int.reduceToNat] at hS')
  | ((with_reducible refine r_ixIntsMod ?hx1 ?hx2 ?_); (case hx1 => exact SqL.of (by k_caughtB)); (case hx2 => k_clsL); intro x hx)
  | with_reducible refine r_ite (fun _ => ?_) (fun _ => ?_) | with_reducible refine r_iteN (fun _ => ?_) (fun _ => ?_) | with_reducible refine r_iteT ?_ | with_reducible refine r_iteF ?_
  | with_reducible refine r_for ?_ | with_reducible refine r_rg1 ?_ | with_reducible refine r_rg2 ?_ | ((with_reducible refine r_rng1 ?hr1 ?hr2 ?_); (case hr1 => k_clsL); (case hr2 => k_clsL))
  | ((with_reducible refine' r_listL ?hx1 ?_); (case hx1 => first | assumption | exact SqL.of (by k_caughtB)); intro pN HN hpN hSN hAN)
  | ((with_reducible refine' r_slL ?hx1 ?_); (case hx1 => first | assumption | exact SqL.of (by k_caughtB)); intro pN HN hpN hSN hAN)
  | with_reducible refine r_intB ?_ | with_reducible refine r_intI ?_ | ((with_reducible refine r_reprI ?hx1 ?_); (case hx1 => exact log_small (by omega) (by omega)))
  | ((with_reducible refine r_mkL ?hx1 ?_); (case hx1 => exact Nat.le_of_ble_eq_true rfl); intro pN HN hpN hSN hAN) | ((with_reducible refine r_mkT ?hx1 ?_); (case hx1 => exact Nat.le_of_ble_eq_true rfl); intro pN HN hpN hSN hAN)
  | with_reducible refine r_callW ?_
  | k_offL
  | (dsimp only [List.set])))
local macro_rules | `(tactic| k_offL) => `(tactic| ((with_reducible refine' r_draw ?hf1 ?hf2 ?hf3 ?hf4 ?_); (case hf1 => k_caught0); (case hf2 => omega); (case hf3 => k_clsL); (case hf4 => k_clsL); intro rN HN hr0 hr1 hFN hKN))
local macro_rules | `(tactic| one_sign) => `(tactic| first | assumption | exact Keep.refl _ _ | exact keep_back (by assumption) (by one_sign) | exact keep_backS (by assumption) (by one_sign) | fail)
local macro_rules | `(tactic| got_up) => `(tactic| first | assumption | omega | exact FeedOk.mono (by k_caught0) (by omega) | one_sign | exact Int.emod_nonneg _ (by omega) | exact Int.emod_lt_of_pos _ (by omega))
def top (i : Nat) : Stmt := PySem.Challenge.pw_replaytravel_k01_worths_brought.main.body.getD i (.Pass ⟨0, 0, 0, 0⟩)
abbrev FnP (K : PySem.W.Frag) (x : Str) (st : Stmt) (f : Addr) (fd : FuncData) : Prop := FunD K x x (defArgs st) (defBody st) (defScope st) [] [] f fd
abbrev s_brought : Stmt := top 3
abbrev s__law_feed : Stmt := top 5
abbrev s__law_draw : Stmt := top 6
abbrev s__law_number : Stmt := top 7
abbrev s_law : Stmt := top 8
structure Txt (mg : Str → Option Value) : Prop where
  g_LEAST : GlV mg "LEAST" (.int (-32768))
  g_ROUND : GlV mg "ROUND" (.int (65536))
  b_int : mg "int" = none
  b_len : mg "len" = none
  b_list : mg "list" = none
  b_range : mg "range" = none
  b_repr : mg "repr" = none
section
variable {P : Program} {w : World} {K : PySem.W.Frag} {mg : Str → Option Value} {base : Heap}

/-! brought -/
def br (n : Int) : Int := (n + 32768) % 65536 - 32768
def spBrought : Sp := fun vs H Q _ => ∃ n : Int, vs = [.int n] ∧ Q (.int (br n)) H
theorem sc_brought : FnScope ["n"] ["n"] (defScope s_brought) := ⟨rfl, rfl, rfl, by decide +kernel, rfl, by decide +kernel, by decide +kernel⟩
theorem ok_brought {f : Addr} {fd : FuncData} (F : FnP K "brought" s_brought f fd) (T : Txt mg)  : FnOk P w K mg base CX0 1 f fd ["n"] spBrought := by
  refine F.ok sc_brought (fun vs H Q E h => ?_) (fun cdv A outer s H vs Q E hr h => ?_)
  · obtain ⟨n, rfl, q⟩ := h
    rfl
  · obtain ⟨n, rfl, q⟩ := h
    refine ⟨_, PSs.nox (pss_one (ps_ret (pe_op op_add (pe_op op_mod (pe_op op_sub (pv 0) (pe_g T.g_LEAST)) (pe_g T.g_ROUND)) (pe_g T.g_LEAST)))), ?_⟩
    show tRet _ _ [some (.int n)] H
    try dsimp only [cxK]
    k_caughtN0
    have e : (n - -32768) % 65536 + -32768 = br n := by unfold br; omega
    rw [e]; exact q
theorem sc__law_draw : FnScope ["_law_feed_here", "_law_many", "_law_got", "_law_at", "_law_cell", "_law_number_here"] ["_law_feed_here", "_law_many"] (defScope s__law_draw) := ⟨rfl, rfl, rfl, by decide +kernel, rfl, by decide +kernel, by decide +kernel⟩
theorem ok__law_draw {f : Addr} {fd : FuncData} (F : FnP K "_law_draw" s__law_draw f fd) (T : Txt mg)  : FnOk P w K mg base CX0 1 f fd ["_law_feed_here", "_law_many"] spDraw := by
  refine F.ok sc__law_draw (fun vs H Q E h => ?_) (fun cdv A outer s H vs Q E hr h => ?_)
  · obtain ⟨p, n, many, rfl, _⟩ := h
    rfl
  · obtain ⟨p, n, many, rfl, ⟨c, cs, a, l, hcp, hp, hc, ha0, han⟩, hn, hm0, hm1, q⟩ := h
    refine ⟨_, PSs.nox (pss_cons (ps_if (pt_cmpR op_gt (pe_ix ix_list (pv 0) pe_int (fun _ _ => rfl)) pe_int (nomark _)) (pss_cons (ps_set (i := 2) sc__law_draw.nd rfl (.inl rfl) (pe_op op_mod (pe_ix ix_list (pv 0) pe_int (fun _ _ => rfl)) (pv 1)))
      (pss_cons (ps_asg (pe_op op_fdiv (pe_ix ix_list (pv 0) pe_int (fun _ _ => rfl)) (pv 1)) (pg_sub (pv 0) pe_int set_list))
      (pss_one (ps_ret (pv 2))))) pss_nil)
      (pss_cons (ps_set (i := 3) sc__law_draw.nd rfl (.inl rfl) (pe_ix ix_list (pv 0) pe_int (fun _ _ => rfl)))
      (pss_cons (ps_asg (pe_op op_add (pv 3) pe_int) (pg_sub (pv 0) pe_int set_list))
      (pss_cons (ps_set (i := 4) sc__law_draw.nd rfl (.inl rfl) (pv 3))
      (pss_cons (ps_if (pt_cmpR op_gt (pe_callB cr_len rfl T.b_len (by decide +kernel) (pa_cons (pe_ix ix_list (pv 0) pe_int (fun _ _ => rfl)) pa_nil)) pe_int (nomark _)) (pss_one (ps_set (i := 4) sc__law_draw.nd rfl (.inl rfl) (pe_ix ix_list (pe_ix ix_list (pv 0) pe_int (fun _ _ => rfl)) (pe_op op_mod (pv 3) (pe_callB cr_len rfl T.b_len (by decide +kernel) (pa_cons (pe_ix ix_list (pv 0) pe_int (fun _ _ => rfl)) pa_nil))) (fun _ _ => rfl)))) pss_nil)
      (pss_cons (ps_if (PW.pt (pw_and (pt_cmpR op_ge (pv 4) (pe_op op_pow pe_int pe_int) (nomark _)) (pw_and1 (pt_cmpR op_lt (pv 3) (pe_callB cr_len rfl T.b_len (by decide +kernel) (pa_cons (pe_ix ix_list (pv 0) pe_int (fun _ _ => rfl)) pa_nil)) (nomark _))))) (pss_cons (ps_asg (pe_op op_fdiv (pv 4) (pv 1)) (pg_sub (pv 0) pe_int set_list))
      (pss_one (ps_ret (pe_op op_mod (pv 4) (pv 1))))) pss_nil)
      (pss_cons (ps_set (i := 5) sc__law_draw.nd rfl (.inl rfl) (pe_op op_mod (pe_op op_mul (pe_op op_add (pe_op op_add (pe_op op_mod (pv 4) pe_int) (pe_op op_mul (pe_op op_mul pe_int (pv 3)) (pv 3))) pe_int) pe_int) pe_int))
      (pss_cons (ps_set (i := 5) sc__law_draw.nd rfl (.inl rfl) (pe_op op_mod (pe_op op_add (pe_op op_mul (pv 5) (pv 5)) (pe_op op_mul pe_int (pv 3))) pe_int))
      (pss_one (ps_ret (pe_op op_mod (pe_op op_fdiv (pe_op op_mod (pe_op op_mul (pv 5) (pe_op op_add (pe_op op_mod (pv 5) pe_int) pe_int)) pe_int) pe_int) (pv 1)))))))))))), ?_⟩
    show tSeq _ _ _ [some (.ref p), some (.int many), none, none, none, none] H
    try dsimp only [cxK]
    k_caughtN0
    all_goals refine q _ _ ?_ ?_ ⟨c, cs, _, _, hcp, (by assumption), (by k_caughtB), ?_, ?_⟩ ?_
    all_goals first | exact Int.emod_nonneg _ (by omega) | exact Int.emod_lt_of_pos _ (by omega) | omega | assumption | exact Keep.trans (by assumption) (by assumption)

def spFeed (K : PySem.W.Frag) : Sp := fun vs H Q _ => ∃ (a : Addr) (ns : List Int), vs = [.ref a] ∧ SqL K H a (ns.map V.int) ∧ ∀ p H', H p = none → Same H H' → FeedOk H' p 0 → Q (.ref p) H'
theorem sc__law_feed : FnScope ["_law_script"] ["_law_script"] (defScope s__law_feed) := ⟨rfl, rfl, rfl, by decide +kernel, rfl, by decide +kernel, by decide +kernel⟩
theorem ok__law_feed {f : Addr} {fd : FuncData} (F : FnP K "_law_feed" s__law_feed f fd) (T : Txt mg)  : FnOk P w K mg base CX0 1 f fd ["_law_script"] (spFeed K) := by
  refine F.ok sc__law_feed (fun vs H Q E h => ?_) (fun cdv A outer s H vs Q E hr h => ?_)
  · obtain ⟨a, ns, rfl, hS, q⟩ := h
    rfl
  · obtain ⟨a, ns, rfl, hS, q⟩ := h
    refine ⟨_, PSs.nox (pss_one (ps_ret (pe_lst (pa_cons (pe_callTy cr_list rfl T.b_list (by decide +kernel) (pa_cons (pe_slice sl_list (pv 0) po_none (po_some pe_int)) pa_nil)) (pa_cons pe_int (pa_cons pe_int pa_nil)))))), ?_⟩
    show tRet _ _ [some (.ref a)] H
    try dsimp only [cxK]
    k_caughtN0
    obtain ⟨ms, hm⟩ := cut_ints ns none (some 63)
    generalize cutV (List.map V.int ns) none (some 63) = zs at *
    subst hm
    exact q _ _ (Same.free (by assumption) (Same.free (by assumption) (by assumption))) (Same.trans (by assumption) (Same.trans (by assumption) (by assumption))) (feed_mk (by assumption) (by k_caughtB) (by k_caughtNB))

def spNumber : Sp := fun vs H Q _ => ∃ (p : Addr) (n : Int), vs = [.ref p] ∧ FeedOk H p n ∧ 0 ≤ n ∧ n ≤ 100000000 ∧ ∀ z H', FeedOk H' p (n + 40) → Keep p H H' → Q (.int z) H'
theorem sc__law_number : FnScope ["_law_feed_here", "_law_way", "_law_figures", "_law_number_here", "_law_k"] ["_law_feed_here"] (defScope s__law_number) := ⟨rfl, rfl, rfl, by decide +kernel, rfl, by decide +kernel, by decide +kernel⟩
theorem ok__law_number {f : Addr} {fd : FuncData} (F : FnP K "_law_number" s__law_number f fd) (T : Txt mg) (C__law_draw : Cal P w K mg base CX0 1 "_law_draw" ["_law_feed_here", "_law_many"] [] spDraw) : FnOk P w K mg base CX0 2 f fd ["_law_feed_here"] spNumber := by
  refine F.ok sc__law_number (fun vs H Q E h => ?_) (fun cdv A outer s H vs Q E hr h => ?_)
  · obtain ⟨p, n, rfl, hF, hn0, hn1, q⟩ := h
    rfl
  · obtain ⟨p, n, rfl, hF, hn0, hn1, q⟩ := h
    refine ⟨_, PSs.nox (pss_cons (ps_set (i := 1) sc__law_number.nd rfl (.inl rfl) (pe_c C__law_draw hr pass0 (pa_cons (pv 0) (pa_cons pe_int pa_nil))))
      (pss_cons (ps_if (pt_cmpR op_eq (pv 1) pe_int (nomark _)) (pss_one (ps_ret (pe_op op_sub (pe_c C__law_draw hr pass0 (pa_cons (pv 0) (pa_cons pe_int pa_nil))) pe_int))) pss_nil)
      (pss_cons (ps_if (pt_cmpR op_eq (pv 1) pe_int (nomark _)) (pss_one (ps_ret (pe_op op_add (pe_op op_sub (pe_op op_add (pe_op op_mul (pe_op op_sub (pe_c C__law_draw hr pass0 (pa_cons (pv 0) (pa_cons pe_int pa_nil))) pe_int) pe_int) (pe_c C__law_draw hr pass0 (pa_cons (pv 0) (pa_cons pe_int pa_nil)))) pe_int) (pe_op op_mul pe_int (pe_c C__law_draw hr pass0 (pa_cons (pv 0) (pa_cons pe_int pa_nil))))))) pss_nil)
      (pss_cons (ps_set (i := 2) sc__law_number.nd rfl (.inl rfl) (pe_op op_add pe_int (pe_c C__law_draw hr pass0 (pa_cons (pv 0) (pa_cons pe_int pa_nil)))))
      (pss_cons (ps_set (i := 3) sc__law_number.nd rfl (.inl rfl) pe_int)
      (pss_cons (ps_for PassesOwn.never rfl (pi_range1 rfl T.b_range (pa_cons (pv 2) pa_nil)) (pg_name (i := 4) sc__law_number.nd rfl (.inl rfl)) (pss_one (ps_set (i := 3) sc__law_number.nd rfl (.inl rfl) (pe_op op_add (pe_op op_mul (pv 3) pe_int) (pe_c C__law_draw hr pass0 (pa_cons (pv 0) (pa_cons pe_int pa_nil)))))))
      (pss_one (ps_ret (pe_op op_mul (pv 3) (pe_ix ix_list (pe_lst (pa_cons pe_int (pa_cons (pe_un un_neg pe_int) pa_nil))) (pe_c C__law_draw hr pass0 (pa_cons (pv 0) (pa_cons pe_int pa_nil))) (fun _ _ => rfl))))))))))), ?_⟩
    show tSeq _ _ _ [some (.ref p), none, none, none, none] H
    try dsimp only [cxK]
    k_caughtN0
    · exact q _ _ (by got_up) (by got_up)
    · exact q _ _ (by got_up) (by got_up)
    · rename_i r1 H1 _ _ F1 K1 _ _ r2 H2 _ _ F2 K2
      refine r_turns (fun i σ H3 => ∃ z v, σ = [some (.ref p), some (.int r1), some (.int (1 + r2)), some (.int z), v] ∧ FeedOk H3 p (n + 2 + i) ∧ Keep p H H3) ⟨0, none, rfl, by got_up, by got_up⟩ ?_ ?_
      · rintro i σ H3 hi ⟨z, v, rfl, F3, K3⟩
        k_caughtN0
        exact ⟨_, _, rfl, by got_up, by got_up⟩
      · rintro σ H3 ⟨z, v, rfl, F3, K3⟩
        k_caughtN0
        rename_i r4 H4 a4 b4 F4 K4
        have : r4 = 0 ∨ r4 = 1 := by omega
        rcases this with rfl | rfl <;> k_caughtN0 <;> exact q _ _ (by got_up) (by got_up)

def spLaw (K : PySem.W.Frag) : Sp := fun vs H Q _ => ∃ (a : Addr) (ns : List Int), vs = [.ref a] ∧ SqL K H a (ns.map V.int) ∧ ns.length ≤ 63 ∧ ∀ H', Q (.bl true) H'

theorem r_feed {K : PySem.W.Frag} {a : Addr} {ns : List Int} {H : Hp} {Q : VK} {E : XK} (h : SqL K H a (ns.map V.int)) (q : ∀ p H', H p = none → Same H H' → FeedOk H' p 0 → Q (.ref p) H') : spFeed K [.ref a] H Q E := ⟨a, ns, rfl, h, q⟩
theorem r_number {p : Addr} {n : Int} {H : Hp} {Q : VK} {E : XK} (h : FeedOk H p n) (h0 : 0 ≤ n) (h1 : n ≤ 100000000) (q : ∀ z H', FeedOk H' p (n + 40) → Keep p H H' → Q (.int z) H') : spNumber [.ref p] H Q E := ⟨p, n, rfl, h, h0, h1, q⟩
theorem r_br {n : Int} {H : Hp} {Q : VK} {E : XK} (q : Q (.int (br n)) H) : spBrought [.int n] H Q E := ⟨n, rfl, q⟩
local macro_rules | `(tactic| k_offL) => `(tactic| ((with_reducible refine' r_feed ?hf1 ?_); (case hf1 => assumption); intro pN HN hpN hSN hFN))
local macro_rules | `(tactic| k_offL) => `(tactic| ((with_reducible refine' r_number ?hf1 ?hf2 ?hf3 ?_); (case hf1 => k_caught0); (case hf2 => omega); (case hf3 => omega); intro zN HN hFN hKN))
local macro_rules | `(tactic| k_offL) => `(tactic| (with_reducible refine r_br ?_))
theorem sc_law : FnScope ["_law_script", "_law_feed_here", "_law_k", "_law_number_here", "_law_rest", "_law_due", "_law_found"] ["_law_script"] (defScope s_law) := ⟨rfl, rfl, rfl, by decide +kernel, rfl, by decide +kernel, by decide +kernel⟩
theorem ok_law {f : Addr} {fd : FuncData} (F : FnP K "law" s_law f fd) (T : Txt mg) (C__law_feed : Cal P w K mg base CX0 1 "_law_feed" ["_law_script"] [] (spFeed K)) (C__law_number : Cal P w K mg base CX0 2 "_law_number" ["_law_feed_here"] [] spNumber) (C_brought : Cal P w K mg base CX0 1 "brought" ["n"] [] spBrought) (W_brought : KCal P w K mg base CX0 1 "brought" ["n"] 0 ["n"] (fun vs zs => zs) spBrought) : FnOk P w K mg base CX0 3 f fd ["_law_script"] (spLaw K) := by
  refine F.ok sc_law (fun vs H Q E h => ?_) (fun cdv A outer s H vs Q E hr h => ?_)
  · obtain ⟨a, ns, rfl, hS, h63, q⟩ := h
    rfl
  · obtain ⟨a, ns, rfl, hS, h63, q⟩ := h
    refine ⟨_, PSs.nox (pss_cons (ps_set (i := 1) sc_law.nd rfl (.inl rfl) (pe_c C__law_feed hr pass0 (pa_cons (pv 0) pa_nil)))
      (pss_cons (ps_for PassesOwn.never rfl (pi_range1 rfl T.b_range (pa_cons pe_int pa_nil)) (pg_name (i := 2) sc_law.nd rfl (.inl rfl)) (pss_cons (ps_set (i := 3) sc_law.nd rfl (.inl rfl) (pe_c C__law_number hr pass0 (pa_cons (pv 1) pa_nil)))
      (pss_cons (ps_set (i := 4) sc_law.nd rfl (.inl rfl) (pe_op op_sub (pv 3) (pe_op op_mul (pe_op op_fdiv (pv 3) pe_int) pe_int)))
      (pss_cons (ps_set (i := 5) sc_law.nd rfl (.inl rfl) (pe_ix ix_list (pe_lst (pa_cons (pv 4) (pa_cons (pe_op op_sub (pv 4) pe_int) pa_nil))) (pe_callTy cr_int rfl T.b_int (by decide +kernel) (pa_cons (pe_cmpR op_gt (pv 4) pe_int (nomark _)) pa_nil)) (fun _ _ => rfl)))
      (pss_cons (ps_set (i := 6) sc_law.nd rfl (.inl rfl) (pe_c C_brought hr pass0 (pa_cons (pv 3) pa_nil)))
      (pss_cons (ps_if (PW.pt (pw_or (pt_cmpR op_ne (pe_callB cr_reprI rfl T.b_repr (by decide +kernel) (pa_cons (pv 6) pa_nil)) (pe_callB cr_reprI rfl T.b_repr (by decide +kernel) (pa_cons (pv 5) pa_nil)) (nomark _)) (pw_or (pt_cmpR op_ne (pe_c C_brought hr pass0 (pa_cons (pv 6) pa_nil)) (pv 5) (nomark _)) (pw_or1 (pt_cmpR op_ne (pe_ckw W_brought hr pass0 (pk_cons (pv 3) pk_nil)) (pv 5) (nomark _)))))) (pss_one (ps_ret pe_bl)) pss_nil)
      (pss_one (ps_if (PW.pt (pw_or (pt_cmpR op_ne (pe_c C_brought hr pass0 (pa_cons (pe_op op_add (pv 3) pe_int) pa_nil)) (pv 5) (nomark _)) (pw_or1 (pt_cmpR op_ne (pe_c C_brought hr pass0 (pa_cons (pe_op op_sub (pv 3) pe_int) pa_nil)) (pv 5) (nomark _))))) (pss_one (ps_ret pe_bl)) pss_nil))))))))
      (pss_one (ps_ret pe_bl)))), ?_⟩
    show tSeq _ _ _ [some (.ref a), none, none, none, none, none, none] H
    try dsimp only [cxK]
    k_caughtN0
    rename_i p H1 hp1 hS1 hF1
    refine r_turns (fun i σ H3 => ∃ v2 v3 v4 v5 v6, σ = [some (.ref a), some (.ref p), v2, v3, v4, v5, v6] ∧ FeedOk H3 p (40 * i)) ⟨none, none, none, none, none, rfl, by got_up⟩ ?_ ?_
    · rintro i σ H3 hi ⟨v2, v3, v4, v5, v6, rfl, F3⟩
      k_caughtN0
      rename_i z H4 F4 K4 pl H5 hpl S5 A5
      have hb : -32768 ≤ br z ∧ br z ≤ 32767 := by unfold br; omega
      obtain ⟨hb1, hb2⟩ := hb
      by_cases hc : 32767 < z - z / 65536 * 65536
      all_goals
        simp only [hc, decide_true, decide_false, if_true, Bool.false_eq_true, if_false]
        first
          | rw [show z - z / 65536 * 65536 - 65536 = br z by unfold br; omega] at A5
          | rw [show z - z / 65536 * 65536 = br z by unfold br; omega] at A5
        k_caughtN0
        all_goals first
          | exact absurd rfl (by assumption)
          | exact ⟨_, _, _, _, _, rfl, by got_up⟩
          | (exfalso; rename_i hx; exact hx (by unfold br; omega))
    · rintro σ H3 ⟨v2, v3, v4, v5, v6, rfl, F3⟩
      k_caughtN0
      exact q _
end
/-! ### the head -/
def dd_brought : He.DefD := ⟨("brought", none), "brought", "brought", defArgs s_brought, defBody s_brought, defScope s_brought, [], []⟩
def dd__law_feed : He.DefD := ⟨("_law_feed", none), "_law_feed", "_law_feed", defArgs s__law_feed, defBody s__law_feed, defScope s__law_feed, [], []⟩
def dd__law_draw : He.DefD := ⟨("_law_draw", none), "_law_draw", "_law_draw", defArgs s__law_draw, defBody s__law_draw, defScope s__law_draw, [], []⟩
def dd__law_number : He.DefD := ⟨("_law_number", none), "_law_number", "_law_number", defArgs s__law_number, defBody s__law_number, defScope s__law_number, [], []⟩
def dd_law : He.DefD := ⟨("law", none), "law", "law", defArgs s_law, defBody s_law, defScope s_law, [], []⟩
def fn : List He.DefD := [dd_brought, dd__law_feed, dd__law_draw, dd__law_number, dd_law]
def fa : List He.Fa := [.glo "brought", .glo "_law_feed", .glo "_law_draw", .glo "_law_number", .glo "law", .free "int", .free "len", .free "list", .free "range", .free "repr", .int "LEAST" (-32768), .int "ROUND" (65536)]
def loose : List PySem.Str := (["__name__", "LEAST", "ROUND", "brought", "_law_feed", "_law_draw", "_law_number"] : List PySem.Str)
abbrev R : PySem.W.OpenRow := PySem.W.OpenLaw.row PySem.Challenge.rw_replaytravel_k01_worths_brought
abbrev hk : PySem.W.Hook := He.hookD 4 fa fn
def ob (s : PySem.W.SharedT) : He.AlD := He.obsDG 4 fa fn (HandSHeadRun.getT s)
theorem ob_eq (s : PySem.W.SharedT) : ob s = hk.obs s.abs := He.obsDG_eq (HandSHeadRun.getT_eq s)
theorem run (w : World) : HandSHeadRun.RunEq R (PySem.W.view R.prog [8]) hk ob 600 loose w := by
  intro os
  kernel_rfl
theorem facts {P : Program} {w : World} {K : PySem.W.Frag} {h : Heap} {mg : Str → Option Value} {f : Addr} (X : K.In h) (G : h.Ns mainGlobals mg) (hfa : mg ("law" : Str) = some (.ref f)) (c : He.SaysD fa fn K) :
    ∃ fd : FuncData, (∀ (s : Shared) (v : Value), BindsTo s fd ⟨[v], []⟩ [("_law_script", v)]) ∧ ∀ base : Heap, K.In base → base.Ns mainGlobals mg → FnOk P w K mg base CX0 3 f fd ["_law_script"] (spLaw K) := by
  obtain ⟨fd_brought, F_brought⟩ := c.def_ 0 (d := dd_brought) rfl
  have g_brought := He.glo_ok X G (c.fact 0 (f := .glo "brought") rfl)
  obtain ⟨fd__law_feed, F__law_feed⟩ := c.def_ 1 (d := dd__law_feed) rfl
  have g__law_feed := He.glo_ok X G (c.fact 1 (f := .glo "_law_feed") rfl)
  obtain ⟨fd__law_draw, F__law_draw⟩ := c.def_ 2 (d := dd__law_draw) rfl
  have g__law_draw := He.glo_ok X G (c.fact 2 (f := .glo "_law_draw") rfl)
  obtain ⟨fd__law_number, F__law_number⟩ := c.def_ 3 (d := dd__law_number) rfl
  have g__law_number := He.glo_ok X G (c.fact 3 (f := .glo "_law_number") rfl)
  obtain ⟨fd_law, F_law⟩ := c.def_ 4 (d := dd_law) rfl
  have g_law := He.glo_ok X G (c.fact 4 (f := .glo "law") rfl)
  have e := hfa.symm.trans g_law
  cases e
  have T : Txt mg := ⟨(glv_int (He.int_ok X G (c.fact 10 (f := .int "LEAST" (-32768)) rfl))), (glv_int (He.int_ok X G (c.fact 11 (f := .int "ROUND" (65536)) rfl))), (He.free_ok X G (c.fact 5 (f := .free "int") rfl)), (He.free_ok X G (c.fact 6 (f := .free "len") rfl)), (He.free_ok X G (c.fact 7 (f := .free "list") rfl)), (He.free_ok X G (c.fact 8 (f := .free "range") rfl)), (He.free_ok X G (c.fact 9 (f := .free "repr") rfl))⟩
  have b := FunD.bindsA (ps := ["_law_script"]) F_law fun _ _ _ _ _ _ us hl => match us, hl with | [_], _ => rfl
  refine ⟨fd_law, fun s v => b s [v] rfl, fun base hb1 hb2 => ?_⟩
  have O_brought : FnOk P w K mg base CX0 1 _ fd_brought ["n"] spBrought := ok_brought F_brought T 
  have C_brought : Cal P w K mg base CX0 1 "brought" ["n"] [] spBrought := ⟨_, _, [], O_brought, g_brought, F_brought.kp, FunD.bindsN (ps := ["n"]) F_brought (fun _ _ _ _ _ _ us hl => match us, hl with | [_], _ => rfl), .nil⟩
  have W_brought : KCal P w K mg base CX0 1 "brought" ["n"] 0 ["n"] (fun vs zs => zs) spBrought := ⟨_, _, _, O_brought, g_brought, F_brought.kp, FunDkall (ps := ["n"]) F_brought 0 ["n"] (fun _ zs => zs) (fun _ r => r) (fun _ _ _ _ _ _ us ws h1 h2 => match us, ws, h1, h2 with | [], [_], _, _ => rfl)⟩
  have O__law_feed : FnOk P w K mg base CX0 1 _ fd__law_feed ["_law_script"] (spFeed K) := ok__law_feed F__law_feed T 
  have C__law_feed : Cal P w K mg base CX0 1 "_law_feed" ["_law_script"] [] (spFeed K) := ⟨_, _, [], O__law_feed, g__law_feed, F__law_feed.kp, FunD.bindsN (ps := ["_law_script"]) F__law_feed (fun _ _ _ _ _ _ us hl => match us, hl with | [_], _ => rfl), .nil⟩
  have O__law_draw : FnOk P w K mg base CX0 1 _ fd__law_draw ["_law_feed_here", "_law_many"] spDraw := ok__law_draw F__law_draw T 
  have C__law_draw : Cal P w K mg base CX0 1 "_law_draw" ["_law_feed_here", "_law_many"] [] spDraw := ⟨_, _, [], O__law_draw, g__law_draw, F__law_draw.kp, FunD.bindsN (ps := ["_law_feed_here", "_law_many"]) F__law_draw (fun _ _ _ _ _ _ us hl => match us, hl with | [_, _], _ => rfl), .nil⟩
  have O__law_number : FnOk P w K mg base CX0 2 _ fd__law_number ["_law_feed_here"] spNumber := ok__law_number F__law_number T C__law_draw
  have C__law_number : Cal P w K mg base CX0 2 "_law_number" ["_law_feed_here"] [] spNumber := ⟨_, _, [], O__law_number, g__law_number, F__law_number.kp, FunD.bindsN (ps := ["_law_feed_here"]) F__law_number (fun _ _ _ _ _ _ us hl => match us, hl with | [_], _ => rfl), .nil⟩
  exact ok_law F_law T C__law_feed C__law_number C_brought W_brought
end K01
open PySem PySem.W PySem.Calls PyProof.Rows
set_option maxHeartbeats 0 in
theorem PySem.Challenge.cw_replaytravel_k01_worths_brought_holds : PySem.Challenge.rw_replaytravel_k01_worths_brought.Holds := by
  w_on; o_law
  refine HandSHeadRun.head_any (r := OpenLaw.row PySem.Challenge.rw_replaytravel_k01_worths_brought) (q := view (OpenLaw.row PySem.Challenge.rw_replaytravel_k01_worths_brought).prog [8]) (H := K01.hk) (ob := K01.ob) (M := 600) (loose := K01.loose) (d := HandSHeadRun.topDef (OpenLaw.row PySem.Challenge.rw_replaytravel_k01_worths_brought).prog 8) (kwd := []) K01.ob_eq
    (by kernel_rfl) (fun s => by kernel_rfl) K01.run (by kernel_rfl) (by kernel_rfl) (by kernel_rfl) (by rfl) (by first | assumption | decide +kernel) (by decide +kernel) ⟨rfl, rfl, rfl, rfl, rfl, by decide +kernel⟩ ?hw ?hc
  case hw => w_witness2
  case hc =>
    refine L2.walk_ofE (l := PySem.Challenge.rw_replaytravel_k01_worths_brought) (n := 63) (k := 3) (x := "_law_script") (CX := L2.CX0) rfl (by decide) (by kernel_rfl) ⟨rfl, by decide, by decide⟩ ?F (fun _ _ _ _ z => z)
    intro w mg fa h Y G hmg0
    obtain ⟨K, KX, c⟩ := Y
    have hmg : mg ("law" : PySem.Str) = some (.ref fa) := by
      have e : (HandSHeadRun.topDef (OpenLaw.row PySem.Challenge.rw_replaytravel_k01_worths_brought).prog 8).name = ("law" : PySem.Str) := by kernel_rfl
      rw [← e]
      exact hmg0
    obtain ⟨fd, hb, hF⟩ := K01.facts (P := (PySem.Challenge.rw_replaytravel_k01_worths_brought).prog) (w := w) KX G hmg c
    exact ⟨K, fd, _, KX, hb, fun H a ns hl _ hS => ⟨a, ns, rfl, hS, hl, fun _ => rfl⟩, hF⟩
