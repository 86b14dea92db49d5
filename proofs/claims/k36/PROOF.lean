import PyProof.Rows.All
import Wide.All
import OpenK.AllK
import Wide.FinOn
import HandS.ForMost
import HandS.Defaults
import HandS.HeadEnd
import HandS.HeadHook2
import HandS.Head2
import HandS.RaiseMore
import HandS.TupAny
import HandS.Deep
import HandS.Style
import HandS.IsInst
import HandS.TupLe
import HandS.HeadHook1
import KE.KDictKeyed
import HandS.SetFor
import HandS.Exc
import HandS.DictComp
import HandS.HeadHook3
import HandS.HeadHook4
import KE.KBits
import PySem.Challenge.RW_replaytravel_k36_befores_kept
set_option Elab.async false
set_option linter.all false
set_option maxRecDepth 100000
set_option maxHeartbeats 4000000
/-! Values as data: what a def does, told without the heap. -/
namespace Vt
open PySem PySem.Spec L2
/-- the world that hashes of texts ask -/
class WorldC where
  w : World
variable [WorldC]
/-- values as data: tdic, a dict whose keys are tuples; obj, an object by its class's name and its fields; exc, an exception; glo, what a global name stands for; ty, a built-in class; raw, a value itself -/
inductive D where
  | none
  | bool (b : Bool)
  | int (i : Int)
  | str (x : Str)
  | list (ds : List D)
  | tuple (ds : List D)
  | dict (kvs : List (D × D))
  | tdic (kvs : List (D × D))
  | obj (n : Str) (fs : List (Str × D))
  | exc (n : Str) (fs : List (Str × D))
  | glo (n : Str)
  | ty (n : String)
  | raw (v : V)
abbrev Fds := List (Str × D)
/-- a set of addresses -/
abbrev AS := Addr → Prop
abbrev DEnv := List (Option D)
def kD : Key → D
  | .inl i => .int i
  | .inr x => .str x
/-- what may be written, or was laid by a store -/
def mutO : HO → Bool
  | .tup _ => false
  | .frz _ _ => false
  | _ => true
/-- an exception that was caught: its class, its dict -/
def exH (e C d : Addr) : HO := .ext fun h => ∃ o : Obj, h.get? e = some o ∧ o.cls = .ref C ∧ o.dict = some d ∧ ∃ vs, o.data = .fields vs
def Live (M : AS) (H : Hp) : Prop := ∀ a, M a → ∃ o, H a = some o ∧ mutO o = true
/-! ### dicts whose keys are tuples, of tuples too -/
abbrev NKV := List (NestedKey × Addr × V)
/-- the object at a is a dict of these entries: key, the key's tuple, value -/
def rawN (w : World) (a : Addr) (xs : NKV) (h : Heap) : Prop :=
  xs.length ≤ sizeLine ∧ (a == sysModules) = false ∧ (xs.map (·.1)).Nodup ∧ ∃ ys : List (NestedKey × Addr × Value), Paired (fun (p : NestedKey × Addr × V) (q : NestedKey × Addr × Value) => p.1 = q.1 ∧ p.2.1 = q.2.1 ∧ RelV p.2.2 q.2.2) xs ys ∧
    ∃ o es ep, h.get? a = some o ∧ o.ExactDict ∧ o.data = .dict es ep ∧ es.toList = ys.map fun y => (⟨y.1.hash w, .ref y.2.1, y.2.2⟩ : DictEntry)
def dN (a : Addr) (xs : NKV) : HO := .ext (rawN WorldC.w a xs)
mutual
/-- a key as data -/
def nkD : NestedKey → D
  | .none => .none
  | .num i => .int i
  | .text x => .str x
  | .tup ks => .tuple (nkDs ks)
def nkDs : List NestedKey → List D
  | [] => []
  | k :: ks => nkD k :: nkDs ks
end
mutual
/-- v is the key k -/
inductive NkIs (K : PySem.W.Frag) (H : Hp) : NestedKey → V → Prop
  | none : NkIs K H .none .non
  | num (i : Int) : NkIs K H (.num i) (.int i)
  | text (x : Str) : NkIs K H (.text x) (.str x)
  | tup {a : Addr} {xs : List V} {ks : List NestedKey} : SqT K H a xs → NkAll K H ks xs → NkIs K H (.tup ks) (.ref a)
inductive NkAll (K : PySem.W.Frag) (H : Hp) : List NestedKey → List V → Prop
  | nil : NkAll K H [] []
  | cons {k : NestedKey} {ks : List NestedKey} {v : V} {vs : List V} : NkIs K H k v → NkAll K H ks vs → NkAll K H (k :: ks) (v :: vs)
end
/-- a tuple that may be a key -/
def NkOk (K : PySem.W.Frag) (H : Hp) (k : NestedKey) (b : Addr) : Prop := NkIs K H k (.ref b) ∧ k.depth ≤ 8
mutual
/-- v denotes d; no list or dict that it reaches lies in M -/
inductive Dz (K : PySem.W.Frag) (M : AS) (H : Hp) : V → D → Prop
  | non : Dz K M H .non .none
  | bl (b : Bool) : Dz K M H (.bl b) (.bool b)
  | int (i : Int) : Dz K M H (.int i) (.int i)
  | str (x : Str) : Dz K M H (.str x) (.str x)
  | lst {a : Addr} {xs : List V} {ds : List D} : ¬ M a → H a = some (.lst xs) → DzA K M H xs ds → Dz K M H (.ref a) (.list ds)
  | tup {a : Addr} {xs : List V} {ds : List D} : SqT K H a xs → DzA K M H xs ds → Dz K M H (.ref a) (.tuple ds)
  | dic {a : Addr} {kvs : List (Key × V)} {ds : List (D × D)} : ¬ M a → H a = some (.dK kvs) → DzK K M H kvs ds → Dz K M H (.ref a) (.dict ds)
  | tdc {a : Addr} {xs : NKV} {ds : List (D × D)} : ¬ M a → H a = some (dN a xs) → DzN K M H xs ds → Dz K M H (.ref a) (.tdic ds)
  | obj {a dx : Addr} {n : Str} {vs : List (Str × V)} {fs : Fds} : ¬ M a → H a = some (.ins (He.ga K n) dx vs) → DzF K M H vs fs → Dz K M H (.ref a) (.obj n fs)
  | exc {a dx : Addr} {n : Str} {vs : List (Str × V)} {fs : Fds} : ¬ M a → ¬ M dx → H a = some (exH a (He.ga K n) dx) → H dx = some (.xd vs) → DzF K M H vs fs → Dz K M H (.ref a) (.exc n fs)
  | glo (n : Str) : Dz K M H (.ref (He.ga K n)) (.glo n)
  | ty (n : String) : Dz K M H (.ty n) (.ty n)
  | raw (v : V) : Dz K M H v (.raw v)
inductive DzA (K : PySem.W.Frag) (M : AS) (H : Hp) : List V → List D → Prop
  | nil : DzA K M H [] []
  | cons {v : V} {vs : List V} {d : D} {ds : List D} : Dz K M H v d → DzA K M H vs ds → DzA K M H (v :: vs) (d :: ds)
inductive DzK (K : PySem.W.Frag) (M : AS) (H : Hp) : List (Key × V) → List (D × D) → Prop
  | nil : DzK K M H [] []
  | cons {k : Key} {v : V} {vs : List (Key × V)} {d : D} {ds : List (D × D)} : Dz K M H v d → DzK K M H vs ds → DzK K M H ((k, v) :: vs) ((kD k, d) :: ds)
inductive DzN (K : PySem.W.Frag) (M : AS) (H : Hp) : NKV → List (D × D) → Prop
  | nil : DzN K M H [] []
  | cons {k : NestedKey} {b : Addr} {v : V} {vs : NKV} {d : D} {ds : List (D × D)} : NkOk K H k b → Dz K M H v d → DzN K M H vs ds → DzN K M H ((k, b, v) :: vs) ((nkD k, d) :: ds)
inductive DzF (K : PySem.W.Frag) (M : AS) (H : Hp) : List (Str × V) → Fds → Prop
  | nil : DzF K M H [] []
  | cons {f : Str} {v : V} {vs : List (Str × V)} {d : D} {ds : Fds} : Dz K M H v d → DzF K M H vs ds → DzF K M H ((f, v) :: vs) ((f, d) :: ds)
end
section
variable {K : PySem.W.Frag} {M M' : AS} {H H' : Hp}
theorem sqT_stay {a : Addr} {xs : List V} (l : Live M H) (k : ∀ a o, H a = some o → ¬ M a → H' a = some o) (h : SqT K H a xs) : SqT K H' a xs := by
  rcases h with (h | ⟨o, h⟩) | h
  · refine .inl (.inl (k _ _ h fun m => ?_))
    obtain ⟨o, e, z⟩ := l _ m
    rw [h] at e; cases e; cases z
  · refine .inl (.inr ⟨o, k _ _ h fun m => ?_⟩)
    obtain ⟨o, e, z⟩ := l _ m
    rw [h] at e; cases e; cases z
  · exact .inr h
mutual
theorem NkIs.frame (l : Live M H) (k : ∀ a o, H a = some o → ¬ M a → H' a = some o) : ∀ {z : NestedKey} {v : V}, NkIs K H z v → NkIs K H' z v
  | .none, _, h => by cases h; exact .none
  | .num i, _, h => by cases h; exact .num i
  | .text x, _, h => by cases h; exact .text x
  | .tup ks, _, h => by
    cases h with
    | tup e a => exact .tup (sqT_stay l k e) (NkAll.frame l k a)
theorem NkAll.frame (l : Live M H) (k : ∀ a o, H a = some o → ¬ M a → H' a = some o) : ∀ {zs : List NestedKey} {vs : List V}, NkAll K H zs vs → NkAll K H' zs vs
  | [], _, h => by cases h; exact .nil
  | z :: zs, _, h => by
    cases h with
    | cons h t => exact .cons (NkIs.frame l k h) (NkAll.frame l k t)
end
theorem NkOk.frame (l : Live M H) (k : ∀ a o, H a = some o → ¬ M a → H' a = some o) {z : NestedKey} {b : Addr} (h : NkOk K H z b) : NkOk K H' z b := ⟨h.1.frame l k, h.2⟩
mutual
theorem Dz.frame (l : Live M H) (k : ∀ a o, H a = some o → ¬ M a → H' a = some o) (f : ∀ a o, H a = some o → M' a → M a) : ∀ {d : D} {v : V}, Dz K M H v d → Dz K M' H' v d
  | .none, _, h => by cases h; exact .non
  | .bool b, _, h => by cases h; exact .bl b
  | .int i, _, h => by cases h; exact .int i
  | .str x, _, h => by cases h; exact .str x
  | .list ds, _, h => by
    cases h with
    | lst n e a => exact .lst (fun m => n (f _ _ e m)) (k _ _ e n) (DzA.frame l k f a)
  | .tuple ds, _, h => by
    cases h with
    | tup e a => exact .tup (sqT_stay l k e) (DzA.frame l k f a)
  | .dict ds, _, h => by
    cases h with
    | dic n e a => exact .dic (fun m => n (f _ _ e m)) (k _ _ e n) (DzK.frame l k f a)
  | .tdic ds, _, h => by
    cases h with
    | tdc n e a => exact .tdc (fun m => n (f _ _ e m)) (k _ _ e n) (DzN.frame l k f a)
  | .obj _ ds, _, h => by
    cases h with
    | obj n e a => exact .obj (fun m => n (f _ _ e m)) (k _ _ e n) (DzF.frame l k f a)
  | .exc _ ds, _, h => by
    cases h with
    | exc n n2 e e2 a => exact .exc (fun m => n (f _ _ e m)) (fun m => n2 (f _ _ e2 m)) (k _ _ e n) (k _ _ e2 n2) (DzF.frame l k f a)
  | .glo _, _, h => by cases h; exact .glo _
  | .ty _, _, h => by cases h; exact .ty _
  | .raw _, _, h => by cases h; exact .raw _
theorem DzA.frame (l : Live M H) (k : ∀ a o, H a = some o → ¬ M a → H' a = some o) (f : ∀ a o, H a = some o → M' a → M a) : ∀ {ds : List D} {vs : List V}, DzA K M H vs ds → DzA K M' H' vs ds
  | [], _, h => by cases h; exact .nil
  | d :: ds, _, h => by
    cases h with
    | cons h t => exact .cons (Dz.frame l k f h) (DzA.frame l k f t)
theorem DzK.frame (l : Live M H) (k : ∀ a o, H a = some o → ¬ M a → H' a = some o) (f : ∀ a o, H a = some o → M' a → M a) : ∀ {ds : List (D × D)} {vs : List (Key × V)}, DzK K M H vs ds → DzK K M' H' vs ds
  | [], _, h => by cases h; exact .nil
  | _ :: ds, _, h => by
    cases h with
    | cons h t => exact .cons (Dz.frame l k f h) (DzK.frame l k f t)
theorem DzN.frame (l : Live M H) (k : ∀ a o, H a = some o → ¬ M a → H' a = some o) (f : ∀ a o, H a = some o → M' a → M a) : ∀ {ds : List (D × D)} {vs : NKV}, DzN K M H vs ds → DzN K M' H' vs ds
  | [], _, h => by cases h; exact .nil
  | _ :: ds, _, h => by
    cases h with
    | cons z h t => exact .cons (z.frame l k) (Dz.frame l k f h) (DzN.frame l k f t)
theorem DzF.frame (l : Live M H) (k : ∀ a o, H a = some o → ¬ M a → H' a = some o) (f : ∀ a o, H a = some o → M' a → M a) : ∀ {ds : Fds} {vs : List (Str × V)}, DzF K M H vs ds → DzF K M' H' vs ds
  | [], _, h => by cases h; exact .nil
  | _ :: ds, _, h => by
    cases h with
    | cons h t => exact .cons (Dz.frame l k f h) (DzF.frame l k f t)
end
mutual
theorem Dz.mono (f : ∀ a, M' a → M a) : ∀ {d : D} {v : V}, Dz K M H v d → Dz K M' H v d
  | .none, _, h => by cases h; exact .non
  | .bool b, _, h => by cases h; exact .bl b
  | .int i, _, h => by cases h; exact .int i
  | .str x, _, h => by cases h; exact .str x
  | .list ds, _, h => by
    cases h with
    | lst n e a => exact .lst (fun m => n (f _ m)) e (DzA.mono f a)
  | .tuple ds, _, h => by
    cases h with
    | tup e a => exact .tup e (DzA.mono f a)
  | .dict ds, _, h => by
    cases h with
    | dic n e a => exact .dic (fun m => n (f _ m)) e (DzK.mono f a)
  | .tdic ds, _, h => by
    cases h with
    | tdc n e a => exact .tdc (fun m => n (f _ m)) e (DzN.mono f a)
  | .obj _ ds, _, h => by
    cases h with
    | obj n e a => exact .obj (fun m => n (f _ m)) e (DzF.mono f a)
  | .exc _ ds, _, h => by
    cases h with
    | exc n n2 e e2 a => exact .exc (fun m => n (f _ m)) (fun m => n2 (f _ m)) e e2 (DzF.mono f a)
  | .glo _, _, h => by cases h; exact .glo _
  | .ty _, _, h => by cases h; exact .ty _
  | .raw _, _, h => by cases h; exact .raw _
theorem DzA.mono (f : ∀ a, M' a → M a) : ∀ {ds : List D} {vs : List V}, DzA K M H vs ds → DzA K M' H vs ds
  | [], _, h => by cases h; exact .nil
  | _ :: ds, _, h => by
    cases h with
    | cons h t => exact .cons (Dz.mono f h) (DzA.mono f t)
theorem DzK.mono (f : ∀ a, M' a → M a) : ∀ {ds : List (D × D)} {vs : List (Key × V)}, DzK K M H vs ds → DzK K M' H vs ds
  | [], _, h => by cases h; exact .nil
  | _ :: ds, _, h => by
    cases h with
    | cons h t => exact .cons (Dz.mono f h) (DzK.mono f t)
theorem DzN.mono (f : ∀ a, M' a → M a) : ∀ {ds : List (D × D)} {vs : NKV}, DzN K M H vs ds → DzN K M' H vs ds
  | [], _, h => by cases h; exact .nil
  | _ :: ds, _, h => by
    cases h with
    | cons z h t => exact .cons z (Dz.mono f h) (DzN.mono f t)
theorem DzF.mono (f : ∀ a, M' a → M a) : ∀ {ds : Fds} {vs : List (Str × V)}, DzF K M H vs ds → DzF K M' H vs ds
  | [], _, h => by cases h; exact .nil
  | _ :: ds, _, h => by
    cases h with
    | cons h t => exact .cons (Dz.mono f h) (DzF.mono f t)
end
/-! data without a list or a dict in it -/
mutual
def imm : D → Bool
  | .list _ => false
  | .dict _ => false
  | .tdic _ => false
  | .obj _ _ => false
  | .exc _ _ => false
  | .tuple ds => immA ds
  | _ => true
def immA : List D → Bool
  | [] => true
  | d :: ds => imm d && immA ds
end
mutual
theorem Dz.any : ∀ {d : D} {v : V}, imm d = true → Dz K M H v d → Dz K M' H v d
  | .none, _, _, h => by cases h; exact .non
  | .bool b, _, _, h => by cases h; exact .bl b
  | .int i, _, _, h => by cases h; exact .int i
  | .str x, _, _, h => by cases h; exact .str x
  | .list ds, _, i, h => by cases i
  | .tuple ds, _, i, h => by
    cases h with
    | tup e a => exact .tup e (DzA.any (by simpa [imm] using i) a)
  | .dict ds, _, i, h => by cases i
  | .tdic ds, _, i, h => by cases i
  | .obj _ ds, _, i, h => by cases i
  | .exc _ ds, _, i, h => by cases i
  | .glo _, _, i, h => by cases h; exact .glo _
  | .ty _, _, i, h => by cases h; exact .ty _
  | .raw _, _, i, h => by cases h; exact .raw _
theorem DzA.any : ∀ {ds : List D} {vs : List V}, immA ds = true → DzA K M H vs ds → DzA K M' H vs ds
  | [], _, _, h => by cases h; exact .nil
  | d :: ds, _, i, h => by
    have i2 : imm d = true ∧ immA ds = true := by simpa [immA] using i
    cases h with
    | cons h t => exact .cons (Dz.any i2.1 h) (DzA.any i2.2 t)
end
theorem DzA.len : ∀ {ds : List D} {vs : List V}, DzA K M H vs ds → vs.length = ds.length
  | [], _, h => by cases h; rfl
  | _ :: _, _, h => by
    cases h with
    | cons _ t => simp [t.len]
theorem DzA.get : ∀ {ds : List D} {vs : List V} {i : Nat} {d : D}, DzA K M H vs ds → ds[i]? = some d → ∃ v, vs[i]? = some v ∧ Dz K M H v d
  | [], _, _, _, _, e => by simp at e
  | _ :: _, _, 0, _, h, e => by
    cases h with
    | cons h t =>
      simp at e
      subst e
      exact ⟨_, rfl, h⟩
  | _ :: _, _, i + 1, _, h, e => by
    cases h with
    | cons h t =>
      obtain ⟨v, e1, e2⟩ := t.get (i := i) (by simpa using e)
      exact ⟨v, by simpa using e1, e2⟩
theorem DzA.getV : ∀ {ds : List D} {vs : List V} {i : Nat} {v : V}, DzA K M H vs ds → vs[i]? = some v → ∃ d, ds[i]? = some d ∧ Dz K M H v d
  | [], _, _, _, h, e => by cases h; simp at e
  | _ :: _, _, 0, _, h, e => by
    cases h with
    | cons h t =>
      simp at e
      subst e
      exact ⟨_, rfl, h⟩
  | _ :: _, _, i + 1, _, h, e => by
    cases h with
    | cons h t =>
      obtain ⟨v, e1, e2⟩ := t.getV (i := i) (by simpa using e)
      exact ⟨v, by simpa using e1, e2⟩
theorem DzA.app : ∀ {ds es : List D} {vs ws : List V}, DzA K M H vs ds → DzA K M H ws es → DzA K M H (vs ++ ws) (ds ++ es)
  | [], _, _, _, h, g => by cases h; exact g
  | _ :: _, _, _, _, h, g => by
    cases h with
    | cons h t => exact .cons h (t.app g)
theorem DzA.take : ∀ {ds : List D} {vs : List V} (n : Nat), DzA K M H vs ds → DzA K M H (vs.take n) (ds.take n)
  | _, _, 0, _ => .nil
  | [], _, _ + 1, h => by cases h; exact .nil
  | _ :: _, _, n + 1, h => by
    cases h with
    | cons h t => exact .cons h (t.take n)
theorem DzA.drop : ∀ {ds : List D} {vs : List V} (n : Nat), DzA K M H vs ds → DzA K M H (vs.drop n) (ds.drop n)
  | _, _, 0, h => h
  | [], _, _ + 1, h => by cases h; exact .nil
  | _ :: _, _, n + 1, h => by
    cases h with
    | cons h t => exact t.drop n
theorem DzA.set : ∀ {ds : List D} {vs : List V} {v : V} {d : D} (n : Nat), DzA K M H vs ds → Dz K M H v d → DzA K M H (vs.set n v) (ds.set n d)
  | [], _, _, _, _, h, _ => by cases h; exact .nil
  | _ :: _, _, _, _, 0, h, g => by
    cases h with
    | cons h t => exact .cons g t
  | _ :: _, _, _, _, n + 1, h, g => by
    cases h with
    | cons h t => exact .cons h (t.set n g)
theorem DzA.one {v : V} {d : D} (h : Dz K M H v d) : DzA K M H [v] [d] := .cons h .nil
theorem DzA.rev : ∀ {ds : List D} {vs : List V}, DzA K M H vs ds → DzA K M H vs.reverse ds.reverse
  | [], _, h => by cases h; exact .nil
  | _ :: _, _, h => by
    cases h with
    | cons h t =>
      rw [List.reverse_cons, List.reverse_cons]
      exact t.rev.app (.one h)
theorem DzA.erase : ∀ {ds : List D} {vs : List V} (n : Nat), DzA K M H vs ds → DzA K M H (vs.eraseIdx n) (ds.eraseIdx n)
  | [], _, _, h => by cases h; exact .nil
  | _ :: _, _, 0, h => by
    cases h with
    | cons h t => exact t
  | _ :: _, _, n + 1, h => by
    cases h with
    | cons h t => exact .cons h (t.erase n)
/-- texts, ints, truths alone -/
theorem DzA.ints : ∀ {ns : List Int} {vs : List V}, DzA K M H vs (ns.map D.int) → vs = ns.map V.int
  | [], _, h => by cases h; rfl
  | _ :: _, _, h => by
    cases h with
    | cons h t => cases h; simp [t.ints]
theorem DzA.ofInts : ∀ (ns : List Int), DzA K M H (ns.map V.int) (ns.map D.int)
  | [] => .nil
  | n :: ns => .cons (.int n) (DzA.ofInts ns)
theorem DzA.strs : ∀ {ns : List Str} {vs : List V}, DzA K M H vs (ns.map D.str) → vs = ns.map V.str
  | [], _, h => by cases h; rfl
  | _ :: _, _, h => by
    cases h with
    | cons h t => cases h; simp [t.strs]
theorem DzA.ofStrs : ∀ (ns : List Str), DzA K M H (ns.map V.str) (ns.map D.str)
  | [] => .nil
  | n :: ns => .cons (.str n) (DzA.ofStrs ns)
theorem DzA.bools : ∀ {ns : List Bool} {vs : List V}, DzA K M H vs (ns.map D.bool) → vs = ns.map V.bl
  | [], _, h => by cases h; rfl
  | _ :: _, _, h => by
    cases h with
    | cons h t => cases h; simp [t.bools]
/-! data as the library has it: without dicts, objects -/
mutual
def noDic : D → Bool
  | .none => true
  | .bool _ => true
  | .int _ => true
  | .str _ => true
  | .list ds => noDicA ds
  | .tuple ds => noDicA ds
  | _ => false
def noDicA : List D → Bool
  | [] => true
  | d :: ds => noDic d && noDicA ds
end
mutual
def pyD : D → PyData
  | .none => .none
  | .bool b => .bool b
  | .int i => .int i
  | .str x => .str x
  | .list ds => .list (pyA ds)
  | .tuple ds => .tuple (pyA ds)
  | _ => .none
def pyA : List D → List PyData
  | [] => []
  | d :: ds => pyD d :: pyA ds
end
mutual
theorem Dz.dp : ∀ {d : D} {v : V}, noDic d = true → Dz K M H v d → Dp K H v (pyD d)
  | .none, _, _, h => by cases h; unfold pyD; exact .non
  | .bool b, _, _, h => by cases h; unfold pyD; exact .bl b
  | .int i, _, _, h => by cases h; unfold pyD; exact .int i
  | .str x, _, _, h => by cases h; unfold pyD; exact .str x
  | .list ds, _, i, h => by
    cases h with
    | lst n e a => unfold pyD; exact .lst (SqL.of e) (DzA.dp (by simpa [noDic] using i) a)
  | .tuple ds, _, i, h => by
    cases h with
    | tup e a => unfold pyD; exact .tup e (DzA.dp (by simpa [noDic] using i) a)
  | .dict ds, _, i, h => by cases i
  | .obj _ ds, _, i, h => by cases i
  | .exc _ ds, _, i, h => by cases i
  | .glo _, _, i, h => by cases i
  | .ty _, _, i, h => by cases i
  | .raw _, _, i, h => by cases i
theorem DzA.dp : ∀ {ds : List D} {vs : List V}, noDicA ds = true → DzA K M H vs ds → DpAll K H vs (pyA ds)
  | [], _, _, h => by cases h; unfold pyA; exact .nil
  | d :: ds, _, i, h => by
    have i2 : noDic d = true ∧ noDicA ds = true := by simpa [noDicA] using i
    cases h with
    | cons h t => unfold pyA; exact .cons (Dz.dp i2.1 h) (DzA.dp i2.2 t)
end
end
/-! ### steps of the heap -/
/-- from H to H': but what is owned, all stays; what is owned then was so, or is new -/
def Trn (M M' : AS) (H H' : Hp) : Prop := (∀ a o, H a = some o → ¬ M a → H' a = some o) ∧ (∀ a o, H a = some o → M' a → M a) ∧ ∀ a o, H a = some o → ∃ o', H' a = some o'
section
variable {K : PySem.W.Frag} {M M1 M2 : AS} {H H1 H2 : Hp}
theorem Trn.refl : Trn M M H H := ⟨fun _ _ h _ => h, fun _ _ _ h => h, fun _ o h => ⟨o, h⟩⟩
theorem Trn.trans (a : Trn M M1 H H1) (b : Trn M1 M2 H1 H2) : Trn M M2 H H2 := by
  refine ⟨fun c o h n => b.1 c o (a.1 c o h n) fun m => n (a.2.1 c o h m), fun c o h m => ?_, fun c o h => ?_⟩
  · obtain ⟨o', e⟩ := a.2.2 c o h
    exact a.2.1 c o h (b.2.1 c o' e m)
  · obtain ⟨o', e⟩ := a.2.2 c o h
    exact b.2.2 c o' e
theorem Trn.same (s : Same H H1) : Trn M M H H1 := ⟨fun a o h _ => s a o h, fun _ _ _ h => h, fun a o h => ⟨o, s a o h⟩⟩
theorem Trn.less (f : ∀ a, M1 a → M a) : Trn M M1 H H := ⟨fun _ _ h _ => h, fun a _ _ m => f a m, fun _ o h => ⟨o, h⟩⟩
theorem Trn.none {a : Addr} (t : Trn M M1 H H1) (h : H1 a = none) : H a = none := by
  cases e : H a with
  | none => rfl
  | some o =>
    obtain ⟨o', e'⟩ := t.2.2 a o e
    rw [h] at e'; cases e'
theorem Dz.trn {v : V} {d : D} (l : Live M H) (t : Trn M M1 H H1) (h : Dz K M H v d) : Dz K M1 H1 v d := h.frame l t.1 t.2.1
theorem DzA.trn {v : List V} {d : List D} (l : Live M H) (t : Trn M M1 H H1) (h : DzA K M H v d) : DzA K M1 H1 v d := h.frame l t.1 t.2.1
theorem Live.same (l : Live M H) (s : Same H H1) : Live M H1 := fun a m => let ⟨o, e, z⟩ := l a m; ⟨o, s a o e, z⟩
theorem Live.not (l : Live M H) {p : Addr} (h : H p = none) : ¬ M p := fun m => by
  obtain ⟨o, e, _⟩ := l p m
  rw [h] at e; cases e
theorem Dz.same {v : V} {d : D} (s : Same H H1) (l : Live M H) (h : Dz K M H v d) : Dz K M H1 v d := h.trn l (Trn.same s)
theorem DzA.same {v : List V} {d : List D} (s : Same H H1) (l : Live M H) (h : DzA K M H v d) : DzA K M H1 v d := h.trn l (Trn.same s)
theorem same_mk {p : Addr} {o : HO} (hp : H p = none) : Same H (upd H p o) := fun b u e => by rw [upd_ne (ne_of_none e hp)]; exact e
/-- a new list, a new tuple -/
theorem Dz.newL {p : Addr} {xs : List V} {ds : List D} (l : Live M H) (hp : H p = none) (h : DzA K M H xs ds) : Dz K M (upd H p (.lst xs)) (.ref p) (.list ds) :=
  .lst (l.not hp) upd_same (h.same (same_mk hp) l)
theorem Dz.newT {p : Addr} {xs : List V} {ds : List D} (l : Live M H) (hp : H p = none) (h : DzA K M H xs ds) : Dz K M (upd H p (.tup xs)) (.ref p) (.tuple ds) :=
  .tup (.inl (.inl upd_same)) (h.same (same_mk hp) l)
end
end Vt
namespace Vt
open PySem PySem.Spec L2
variable [WorldC]
/-! ### trees that are owned -/
/-- the form of what is owned: leaf, what is only read; a list, a dict of such; a dict of written keys; an object -/
inductive Sh where
  | leaf
  | lst (s : Sh)
  | dic (s : Sh)
  | tdc (s : Sh)
  | rcd (fs : List (Str × Sh))
  | obj (n : Str) (fs : List (Str × Sh))
mutual
inductive Tz (K : PySem.W.Frag) (M : AS) (H : Hp) : Sh → V → D → List Addr → Prop
  | leaf {v : V} {d : D} : Dz K M H v d → Tz K M H .leaf v d []
  | lst {s : Sh} {a : Addr} {xs : List V} {ds : List D} {L : List Addr} : H a = some (.lst xs) → TzC K M H (List.replicate xs.length s) xs ds L → Tz K M H (.lst s) (.ref a) (.list ds) (a :: L)
  | dic {s : Sh} {a : Addr} {kvs : List (Key × V)} {ds : List (D × D)} {L : List Addr} : H a = some (.dK kvs) → ds.map (·.1) = kvs.map (fun q => kD q.1) → (s = .leaf ∨ (kvs.map (·.1)).Nodup) → TzC K M H (List.replicate kvs.length s) (kvs.map (·.2)) (ds.map (·.2)) L → Tz K M H (.dic s) (.ref a) (.dict ds) (a :: L)
  | tdc {s : Sh} {a : Addr} {xs : NKV} {ds : List (D × D)} {L : List Addr} : H a = some (dN a xs) → ds.map (·.1) = xs.map (fun q => nkD q.1) → (∀ x ∈ xs, NkOk K H x.1 x.2.1) → TzC K M H (List.replicate xs.length s) (xs.map (·.2.2)) (ds.map (·.2)) L → Tz K M H (.tdc s) (.ref a) (.tdic ds) (a :: L)
  | rcd {fs : List (Str × Sh)} {a : Addr} {kvs : List (Key × V)} {ds : List (D × D)} {L : List Addr} : H a = some (.dK kvs) → ds.map (·.1) = kvs.map (fun q => kD q.1) → fs.map (fun q => (.inr q.1 : Key)) = kvs.map (·.1) → TzC K M H (fs.map (·.2)) (kvs.map (·.2)) (ds.map (·.2)) L → Tz K M H (.rcd fs) (.ref a) (.dict ds) (a :: L)
  | obj {n : Str} {fs : List (Str × Sh)} {a dx : Addr} {vs : List (Str × V)} {ds : Fds} {L : List Addr} : H a = some (.ins (He.ga K n) dx vs) → ds.map (·.1) = vs.map (·.1) → fs.map (·.1) = vs.map (·.1) → TzC K M H (fs.map (·.2)) (vs.map (·.2)) (ds.map (·.2)) L → Tz K M H (.obj n fs) (.ref a) (.obj n ds) (a :: L)
inductive TzC (K : PySem.W.Frag) (M : AS) (H : Hp) : List Sh → List V → List D → List Addr → Prop
  | nil : TzC K M H [] [] [] []
  | cons {s : Sh} {ss : List Sh} {v : V} {vs : List V} {d : D} {ds : List D} {L L' : List Addr} : Tz K M H s v d L → TzC K M H ss vs ds L' → TzC K M H (s :: ss) (v :: vs) (d :: ds) (L ++ L')
end
section
variable {K : PySem.W.Frag} {M M' : AS} {H H' : Hp}
mutual
theorem Tz.frame (l : Live M H) (g : ∀ a o, H a = some o → M' a → M a) : ∀ {s : Sh} {v : V} {d : D} {L : List Addr}, (∀ a o, H a = some o → ¬ M a ∨ a ∈ L → H' a = some o) → Tz K M H s v d L → Tz K M' H' s v d L
  | _, _, _, _, k, .leaf h => .leaf (h.frame l (fun a o e n => k a o e (.inl n)) g)
  | _, _, _, _, k, .lst e h => .lst (k _ _ e (.inr (by simp))) (TzC.frame l g (fun a o e n => k a o e (n.imp id fun m => by simp [m])) h)
  | _, _, _, _, k, .dic e h1 hn h => .dic (k _ _ e (.inr (by simp))) h1 hn (TzC.frame l g (fun a o e n => k a o e (n.imp id fun m => by simp [m])) h)
  | _, _, _, _, k, .tdc e h1 hk h => .tdc (k _ _ e (.inr (by simp))) h1 (fun x hx => (hk x hx).frame l fun a o e n => k a o e (.inl n)) (TzC.frame l g (fun a o e n => k a o e (n.imp id fun m => by simp [m])) h)
  | _, _, _, _, k, .rcd e h1 h2 h => .rcd (k _ _ e (.inr (by simp))) h1 h2 (TzC.frame l g (fun a o e n => k a o e (n.imp id fun m => by simp [m])) h)
  | _, _, _, _, k, .obj e h1 h2 h => .obj (k _ _ e (.inr (by simp))) h1 h2 (TzC.frame l g (fun a o e n => k a o e (n.imp id fun m => by simp [m])) h)
theorem TzC.frame (l : Live M H) (g : ∀ a o, H a = some o → M' a → M a) : ∀ {ss : List Sh} {vs : List V} {ds : List D} {L : List Addr}, (∀ a o, H a = some o → ¬ M a ∨ a ∈ L → H' a = some o) → TzC K M H ss vs ds L → TzC K M' H' ss vs ds L
  | _, _, _, _, _, .nil => .nil
  | _, _, _, _, k, .cons h t => .cons (Tz.frame l g (fun a o e n => k a o e (n.imp id fun m => List.mem_append_left _ m)) h) (TzC.frame l g (fun a o e n => k a o e (n.imp id fun m => List.mem_append_right _ m)) t)
end
mutual
theorem Tz.live : ∀ {s : Sh} {v : V} {d : D} {L : List Addr}, Tz K M H s v d L → Live (· ∈ L) H
  | _, _, _, _, .leaf h => fun a m => by cases m
  | _, _, _, _, .lst e h => fun a m => by
    rcases List.mem_cons.mp m with rfl | m
    · exact ⟨_, e, rfl⟩
    · exact TzC.live h a m
  | _, _, _, _, .dic e _ _ h => fun a m => by
    rcases List.mem_cons.mp m with rfl | m
    · exact ⟨_, e, rfl⟩
    · exact TzC.live h a m
  | _, _, _, _, .tdc e _ _ h => fun a m => by
    rcases List.mem_cons.mp m with rfl | m
    · exact ⟨_, e, rfl⟩
    · exact TzC.live h a m
  | _, _, _, _, .rcd e _ _ h => fun a m => by
    rcases List.mem_cons.mp m with rfl | m
    · exact ⟨_, e, rfl⟩
    · exact TzC.live h a m
  | _, _, _, _, .obj e _ _ h => fun a m => by
    rcases List.mem_cons.mp m with rfl | m
    · exact ⟨_, e, rfl⟩
    · exact TzC.live h a m
theorem TzC.live : ∀ {ss : List Sh} {vs : List V} {ds : List D} {L : List Addr}, TzC K M H ss vs ds L → Live (· ∈ L) H
  | _, _, _, _, .nil => fun a m => by cases m
  | _, _, _, _, .cons h t => fun a m => by
    rcases List.mem_append.mp m with m | m
    · exact Tz.live h a m
    · exact TzC.live t a m
end
/-! read as data: what it owns set aside -/
theorem zipKD {kvs : List (Key × V)} {ds : List (D × D)} (e : ds.map (·.1) = kvs.map (fun q => kD q.1)) (h : DzA K M H (kvs.map (·.2)) (ds.map (·.2))) : DzK K M H kvs ds := by
  induction kvs generalizing ds with
  | nil => cases ds with
    | nil => exact .nil
    | cons _ _ => cases e
  | cons q kvs ih => cases ds with
    | nil => cases e
    | cons p ds =>
      obtain ⟨k, v⟩ := q
      obtain ⟨k', d⟩ := p
      simp only [List.map_cons, List.cons.injEq] at e
      obtain ⟨rfl, e⟩ := e
      cases h with
      | cons h t => exact .cons h (ih e t)
theorem zipND {xs : NKV} {ds : List (D × D)} (e : ds.map (·.1) = xs.map (fun q => nkD q.1)) (hk : ∀ x ∈ xs, NkOk K H x.1 x.2.1) (h : DzA K M H (xs.map (·.2.2)) (ds.map (·.2))) : DzN K M H xs ds := by
  induction xs generalizing ds with
  | nil => cases ds with
    | nil => exact .nil
    | cons _ _ => cases e
  | cons q xs ih => cases ds with
    | nil => cases e
    | cons p ds =>
      obtain ⟨k, b, v⟩ := q
      obtain ⟨k', d⟩ := p
      simp only [List.map_cons, List.cons.injEq] at e
      obtain ⟨rfl, e⟩ := e
      cases h with
      | cons h t => exact .cons (hk (k, b, v) List.mem_cons_self) h (ih e (fun x hx => hk x (List.mem_cons_of_mem _ hx)) t)
theorem DzN.split : ∀ {xs : NKV} {ds : List (D × D)}, DzN K M H xs ds → ds.map (·.1) = xs.map (fun q => nkD q.1) ∧ (∀ x ∈ xs, NkOk K H x.1 x.2.1) ∧ DzA K M H (xs.map (·.2.2)) (ds.map (·.2))
  | _, _, .nil => ⟨rfl, (fun _ h => by cases h), .nil⟩
  | _, _, .cons z h t => ⟨by simp [t.split.1], (fun x hx => by
      rcases List.mem_cons.mp hx with rfl | hx
      · exact z
      · exact t.split.2.1 x hx), .cons h t.split.2.2⟩
theorem zipFD {vs : List (Str × V)} {ds : Fds} (e : ds.map (·.1) = vs.map (·.1)) (h : DzA K M H (vs.map (·.2)) (ds.map (·.2))) : DzF K M H vs ds := by
  induction vs generalizing ds with
  | nil => cases ds with
    | nil => exact .nil
    | cons _ _ => cases e
  | cons q vs ih => cases ds with
    | nil => cases e
    | cons p ds =>
      obtain ⟨k, v⟩ := q
      obtain ⟨k', d⟩ := p
      simp only [List.map_cons, List.cons.injEq] at e
      obtain ⟨rfl, e⟩ := e
      cases h with
      | cons h t => exact .cons h (ih e t)
theorem DzK.split : ∀ {kvs : List (Key × V)} {ds : List (D × D)}, DzK K M H kvs ds → ds.map (·.1) = kvs.map (fun q => kD q.1) ∧ DzA K M H (kvs.map (·.2)) (ds.map (·.2))
  | _, _, .nil => ⟨rfl, .nil⟩
  | _, _, .cons h t => ⟨by simp [t.split.1], .cons h t.split.2⟩
theorem DzF.split : ∀ {vs : List (Str × V)} {ds : Fds}, DzF K M H vs ds → ds.map (·.1) = vs.map (·.1) ∧ DzA K M H (vs.map (·.2)) (ds.map (·.2))
  | _, _, .nil => ⟨rfl, .nil⟩
  | _, _, .cons h t => ⟨by simp [t.split.1], .cons h t.split.2⟩
mutual
theorem Tz.dz : ∀ {s : Sh} {v : V} {d : D} {L : List Addr}, (∀ a, M' a → M a) → (∀ a ∈ L, ¬ M' a) → Tz K M H s v d L → Dz K M' H v d
  | _, _, _, _, f, _, .leaf h => h.mono f
  | _, _, _, _, f, n, .lst e h => .lst (n _ (by simp)) e (TzC.dz f (fun a m => n a (by simp [m])) h)
  | _, _, _, _, f, n, .dic e h1 _ h => .dic (n _ (by simp)) e (zipKD h1 (TzC.dz f (fun a m => n a (by simp [m])) h))
  | _, _, _, _, f, n, .tdc e h1 hk h => .tdc (n _ (by simp)) e (zipND h1 hk (TzC.dz f (fun a m => n a (by simp [m])) h))
  | _, _, _, _, f, n, .rcd e h1 _ h => .dic (n _ (by simp)) e (zipKD h1 (TzC.dz f (fun a m => n a (by simp [m])) h))
  | _, _, _, _, f, n, .obj e h1 _ h => .obj (n _ (by simp)) e (zipFD h1 (TzC.dz f (fun a m => n a (by simp [m])) h))
theorem TzC.dz : ∀ {ss : List Sh} {vs : List V} {ds : List D} {L : List Addr}, (∀ a, M' a → M a) → (∀ a ∈ L, ¬ M' a) → TzC K M H ss vs ds L → DzA K M' H vs ds
  | _, _, _, _, _, _, .nil => .nil
  | _, _, _, _, f, n, .cons h t => .cons (Tz.dz f (fun a m => n a (List.mem_append_left _ m)) h) (TzC.dz f (fun a m => n a (List.mem_append_right _ m)) t)
end
theorem TzC.len : ∀ {ss : List Sh} {vs : List V} {ds : List D} {L : List Addr}, TzC K M H ss vs ds L → vs.length = ds.length ∧ ss.length = ds.length
  | _, _, _, _, .nil => ⟨rfl, rfl⟩
  | _, _, _, _, .cons _ t => by simp [t.len.1, t.len.2]
/-- leaves alone -/
theorem TzC.leaf : ∀ {n : Nat} {vs : List V} {ds : List D} {L : List Addr}, TzC K M H (List.replicate n .leaf) vs ds L → L = [] ∧ DzA K M H vs ds
  | 0, _, _, _, h => by cases h; exact ⟨rfl, .nil⟩
  | n + 1, _, _, _, h => by
    rw [List.replicate_succ] at h
    cases h with
    | cons h t =>
      cases h with
      | leaf h =>
        obtain ⟨hL, t2⟩ := TzC.leaf t
        subst hL
        exact ⟨rfl, .cons h t2⟩
theorem DzA.leafC : ∀ {vs : List V} {ds : List D}, DzA K M H vs ds → TzC K M H (List.replicate vs.length .leaf) vs ds []
  | _, _, .nil => .nil
  | _, _, .cons h t => .cons (.leaf h) t.leafC
/-! ### the places of a tree -/
def kidV (H : Hp) : V → Nat → Option V
  | .ref a, n => match H a with
    | some (.lst xs) => xs[n]?
    | some (.dK kvs) => (kvs.map (·.2))[n]?
    | some (.ins _ _ vs) => (vs.map (·.2))[n]?
    | _ => none
  | _, _ => none
def kidsD : D → List D
  | .list ds => ds
  | .dict kvs => kvs.map (·.2)
  | .obj _ fs => fs.map (·.2)
  | _ => []
def setKid : D → Nat → D → D
  | .list ds, n, e => .list (ds.set n e)
  | .dict kvs, n, e => .dict (kvs.modify n fun q => (q.1, e))
  | .obj c fs, n, e => .obj c (fs.modify n fun q => (q.1, e))
  | d, _, _ => d
def atD : D → List Nat → Option D
  | d, [] => some d
  | d, n :: p => match (kidsD d)[n]? with
    | some e => atD e p
    | none => none
def putD : D → List Nat → D → D
  | _, [], e => e
  | d, n :: p, e => match (kidsD d)[n]? with
    | some c => setKid d n (putD c p e)
    | none => d
inductive NodeAt (H : Hp) : V → List Nat → V → Prop
  | nil {v : V} : NodeAt H v [] v
  | cons {v w x : V} {n : Nat} {p : List Nat} : kidV H v n = some w → NodeAt H w p x → NodeAt H v (n :: p) x
def kidS : Sh → Nat → Option Sh
  | .lst s, _ => some s
  | .dic s, _ => some s
  | .rcd fs, n => (fs.map (·.2))[n]?
  | .obj _ fs, n => (fs.map (·.2))[n]?
  | .tdc _, _ => none
  | .leaf, _ => none
inductive ShAt : Sh → List Nat → Sh → Prop
  | nil {s : Sh} : ShAt s [] s
  | cons {s t u : Sh} {n : Nat} {p : List Nat} : kidS s n = some t → ShAt t p u → ShAt s (n :: p) u
theorem NodeAt.snoc {w x : V} {n : Nat} : ∀ {p : List Nat} {v : V}, NodeAt H v p w → kidV H w n = some x → NodeAt H v (p ++ [n]) x
  | _, _, .nil, h => .cons h .nil
  | _, _, .cons h t, g => .cons h (t.snoc g)
theorem ShAt.snoc {t u : Sh} {n : Nat} : ∀ {p : List Nat} {s : Sh}, ShAt s p t → kidS t n = some u → ShAt s (p ++ [n]) u
  | _, _, .nil, h => .cons h .nil
  | _, _, .cons h t, g => .cons h (t.snoc g)
theorem modify_fst {α β : Type} (n : Nat) (e : β) : ∀ (l : List (α × β)), (l.modify n fun q => (q.1, e)).map (·.1) = l.map (·.1) := by
  intro l
  apply List.ext_getElem?
  intro i
  rw [List.getElem?_map, List.getElem?_map, List.getElem?_modify]
  cases l[i]? with
  | none => rfl
  | some q => by_cases h : n = i <;> simp [h]
theorem modify_snd {α β : Type} (n : Nat) (e : β) : ∀ (l : List (α × β)), (l.modify n fun q => (q.1, e)).map (·.2) = (l.map (·.2)).set n e := by
  intro l
  apply List.ext_getElem?
  intro i
  rw [List.getElem?_map, List.getElem?_modify, List.getElem?_set]
  by_cases h : n = i
  · subst h
    rw [if_pos rfl]
    by_cases hl : n < (l.map (·.2)).length
    · rw [if_pos hl]
      have : n < l.length := by simpa using hl
      rw [List.getElem?_eq_getElem this]
      simp
    · rw [if_neg hl]
      have : l.length ≤ n := by simpa using hl
      rw [List.getElem?_eq_none this]
      rfl
  · rw [if_neg h, List.getElem?_map]
    cases l[i]? with
    | none => simp
    | some q => simp [h]
/-- the n-th of the children, and how it is put back -/
theorem TzC.kid : ∀ {n : Nat} {ss : List Sh} {vs : List V} {ds : List D} {L : List Addr} {w : V}, TzC K M H ss vs ds L → vs[n]? = some w → ∃ s d L1 L' L2, ss[n]? = some s ∧ ds[n]? = some d ∧ L = L1 ++ L' ++ L2 ∧ Tz K M H s w d L' ∧
    ∀ (M' : AS) (H' : Hp) (w2 : V) (d2 : D) (L2' : List Addr), Live M H → Tz K M' H' s w2 d2 L2' → (∀ a o, H a = some o → ¬ M a ∨ a ∈ L1 ∨ a ∈ L2 → H' a = some o) → (∀ a o, H a = some o → M' a → M a) → TzC K M' H' ss (vs.set n w2) (ds.set n d2) (L1 ++ L2' ++ L2)
  | n, _, _, _, _, _, .nil, e => by simp at e
  | 0, _, _, _, _, _, @TzC.cons _ _ _ _ s ss v vs d ds L L' h t, e => by
    simp at e
    subst e
    refine ⟨s, d, [], L, L', rfl, rfl, by simp, h, fun M' H' w2 d2 L2' l h2 k g => ?_⟩
    rw [List.nil_append]
    exact .cons h2 (TzC.frame l g (fun a o e n => k a o e (n.imp id .inr)) t)
  | n + 1, _, _, _, _, _, @TzC.cons _ _ _ _ s ss v vs d ds L L' h t, e => by
    obtain ⟨s1, d1, L1, Lm, L2, e1, e2, eL, h1, back⟩ := TzC.kid (n := n) t (by simpa using e)
    refine ⟨s1, d1, L ++ L1, Lm, L2, by simpa using e1, by simpa using e2, by rw [eL]; simp, h1, fun M' H' w2 d2 L2' l h2 k g => ?_⟩
    have := back M' H' w2 d2 L2' l h2 (fun a o e n => k a o e (n.imp id fun m => m.imp (fun m => List.mem_append_right _ m) id)) g
    have h3 := TzC.cons (Tz.frame l g (fun a o e n => k a o e (n.imp id fun m => .inl (List.mem_append_left _ m))) h) this
    rw [List.append_assoc, List.append_assoc]
    rw [List.append_assoc] at h3
    exact h3
/-- ZOOM: the part of a tree at a place, and how another one is put there -/
theorem Tz.zoom : ∀ {p : List Nat} {s s' : Sh} {v v' : V} {d : D} {L : List Addr}, NodeAt H v p v' → ShAt s p s' → Tz K M H s v d L → ∃ d' L1 L' L2, atD d p = some d' ∧ L = L1 ++ L' ++ L2 ∧ Tz K M H s' v' d' L' ∧
    ∀ (M' : AS) (H' : Hp) (d2 : D) (L2' : List Addr), Live M H → Tz K M' H' s' v' d2 L2' → (∀ a o, H a = some o → ¬ M a ∨ a ∈ L1 ∨ a ∈ L2 → H' a = some o) → (∀ a o, H a = some o → M' a → M a) → Tz K M' H' s v (putD d p d2) (L1 ++ L2' ++ L2)
  | [], _, _, _, _, d, L, .nil, .nil, h => ⟨d, [], L, [], rfl, by simp, h, fun M' H' d2 L2' l h2 k g => by simpa [putD] using h2⟩
  | n :: p, s, s', v, v', d, L, @NodeAt.cons _ _ w _ _ _ hw hn, @ShAt.cons _ t _ _ _ hs ht, h => by
    have go : ∀ {ss : List Sh} {vs : List V} {a : Addr} {Lc : List Addr}, L = a :: Lc → vs[n]? = some w → ss[n]? = some t → TzC K M H ss vs (kidsD d) Lc → (H a).isSome = true →
        (∀ (M' : AS) (H' : Hp) (c : D) (Lx : List Addr), H' a = H a → TzC K M' H' ss vs ((kidsD d).set n c) Lx → Tz K M' H' s v (setKid d n c) (a :: Lx)) →
        ∃ d' L1 L' L2, atD d (n :: p) = some d' ∧ L = L1 ++ L' ++ L2 ∧ Tz K M H s' v' d' L' ∧
          ∀ (M' : AS) (H' : Hp) (d2 : D) (L2' : List Addr), Live M H → Tz K M' H' s' v' d2 L2' → (∀ a o, H a = some o → ¬ M a ∨ a ∈ L1 ∨ a ∈ L2 → H' a = some o) → (∀ a o, H a = some o → M' a → M a) → Tz K M' H' s v (putD d (n :: p) d2) (L1 ++ L2' ++ L2) := by
      intro ss vs a Lc eL ev es hc ha back
      obtain ⟨s1, d1, L1, Lm, L2, e1, e2, eLc, h1, b1⟩ := TzC.kid hc ev
      rw [es] at e1
      cases e1
      obtain ⟨d', K1, K', K2, f1, f2, f3, b2⟩ := Tz.zoom hn ht h1
      refine ⟨d', a :: (L1 ++ K1), K', K2 ++ L2, by simp only [atD, e2]; exact f1, by rw [eL, eLc, f2]; simp, f3, fun M' H' d2 L2' l h2 k g => ?_⟩
      have z := b2 M' H' d2 L2' l h2 (fun a o e n => k a o e (n.imp id fun m => m.imp (fun m => by simp [m]) fun m => by simp [m])) g
      have z2 := b1 M' H' w _ _ l z (fun a o e n => k a o e (n.imp id fun m => m.imp (fun m => by simp [m]) fun m => by simp [m])) g
      have ew : vs.set n w = vs := by
        apply List.ext_getElem?
        intro i
        by_cases hi : n = i
        · subst hi
          rw [List.getElem?_set_self (List.getElem?_eq_some_iff.mp ev).1, ev]
        · rw [List.getElem?_set_ne hi]
      rw [ew] at z2
      simp only [putD, e2]
      obtain ⟨o, ho⟩ := Option.isSome_iff_exists.mp ha
      have ea : H' a = H a := by rw [ho]; exact k a o ho (.inr (.inl (by simp)))
      have := back M' H' _ _ ea z2
      simpa [List.append_assoc] using this
    cases h with
    | leaf h => cases hs
    | @lst s0 a xs ds Lc e hc =>
      simp only [kidV, e] at hw
      cases hs
      refine go rfl hw ?_ hc (by rw [e]; rfl) fun M' H' c Lx ea h2 => .lst (by rw [ea]; exact e) h2
      rw [List.getElem?_replicate, if_pos (List.getElem?_eq_some_iff.mp hw).1]
    | @dic s0 a kvs ds Lc e e1 hnd hc =>
      simp only [kidV, e] at hw
      cases hs
      refine go rfl hw ?_ hc (by rw [e]; rfl) fun M' H' c Lx ea h2 => .dic (by rw [ea]; exact e) (by rw [modify_fst]; exact e1) hnd (by rw [modify_snd]; exact h2)
      have := (List.getElem?_eq_some_iff.mp hw).1
      rw [List.getElem?_replicate, if_pos (by simpa using this)]
    | @tdc s0 a xs ds Lc e e1 hk hc => cases hs
    | @rcd fs a kvs ds Lc e e1 e2 hc =>
      simp only [kidV, e] at hw
      exact go rfl hw hs hc (by rw [e]; rfl) fun M' H' c Lx ea h2 => .rcd (by rw [ea]; exact e) (by rw [modify_fst]; exact e1) e2 (by rw [modify_snd]; exact h2)
    | @obj nm fs a dx vs ds Lc e e1 e2 hc =>
      simp only [kidV, e] at hw
      exact go rfl hw hs hc (by rw [e]; rfl) fun M' H' c Lx ea h2 => .obj (by rw [ea]; exact e) (by rw [modify_fst]; exact e1) e2 (by rw [modify_snd]; exact h2)
end
end Vt
namespace Vt
open PySem PySem.Spec L2
variable [WorldC]
/-- a kind of thing that a def owns while it runs: its content, its footprint -/
structure Kind where
  ok : PySem.W.Frag → AS → Hp → V → D → AS → Prop
  live : ∀ {K : PySem.W.Frag} {M : AS} {H : Hp} {v : V} {d : D} {F : AS}, ok K M H v d F → Live F H
  frame : ∀ {K : PySem.W.Frag} {M M' : AS} {H H' : Hp} {v : V} {d : D} {F : AS}, Live M H → ok K M H v d F →
    (∀ a o, H a = some o → ¬ M a ∨ F a → H' a = some o) → (∀ a o, H a = some o → M' a → M a) → ok K M' H' v d F
/-- a tree -/
def kT (s : Sh) : Kind where
  ok := fun K M H v d F => ∃ L, Tz K M H s v d L ∧ L.Nodup ∧ ∀ b, F b ↔ b ∈ L
  live := fun ⟨L, h, _, f⟩ b hb => h.live b ((f b).mp hb)
  frame := fun l ⟨L, h, n, f⟩ k g => ⟨L, h.frame l g (fun a o e m => k a o e (m.imp id (f a).mpr)), n, f⟩
abbrev kL : Kind := kT (.lst .leaf)
abbrev kM : Kind := kT (.dic .leaf)
/-- locked: only read while it is so, and not stored -/
def kLk (v0 : V) (d0 : D) : Kind where
  ok := fun K M H v d F => v = v0 ∧ d = d0 ∧ Dz K M H v d ∧ ∀ b, ¬ F b
  live := fun ⟨_, _, _, f⟩ b hb => (f b hb).elim
  frame := fun l ⟨e1, e2, h, f⟩ k g => ⟨e1, e2, h.frame l (fun a o e n => k a o e (.inl n)) g, f⟩
theorem kL_ok {K : PySem.W.Frag} {M : AS} {H : Hp} {v : V} {d : D} {F : AS} : kL.ok K M H v d F ↔ ∃ a xs ds, v = .ref a ∧ d = .list ds ∧ H a = some (.lst xs) ∧ DzA K M H xs ds ∧ ∀ b, F b ↔ b = a := by
  refine ⟨fun ⟨L, h, n, f⟩ => ?_, fun ⟨a, xs, ds, e1, e2, e, h, f⟩ => ?_⟩
  · cases h with
    | lst e h =>
      obtain ⟨rfl, h2⟩ := h.leaf
      exact ⟨_, _, _, rfl, rfl, e, h2, fun b => by rw [f b]; simp⟩
  · subst e1 e2
    exact ⟨[a], .lst e h.leafC, by simp, fun b => by rw [f b]; simp⟩
theorem kM_ok {K : PySem.W.Frag} {M : AS} {H : Hp} {v : V} {d : D} {F : AS} : kM.ok K M H v d F ↔ ∃ a kvs ds, v = .ref a ∧ d = .dict ds ∧ H a = some (.dK kvs) ∧ DzK K M H kvs ds ∧ ∀ b, F b ↔ b = a := by
  refine ⟨fun ⟨L, h, n, f⟩ => ?_, fun ⟨a, xs, ds, e1, e2, e, h, f⟩ => ?_⟩
  · cases h with
    | @dic _ _ kvs ds _ e e1 _ h =>
      have hl : kvs.length = (kvs.map (·.2)).length := by simp
      obtain ⟨rfl, h2⟩ := h.leaf
      exact ⟨_, _, _, rfl, rfl, e, zipKD e1 h2, fun b => by rw [f b]; simp⟩
  · subst e1 e2
    obtain ⟨k1, k2⟩ := h.split
    have := k2.leafC
    rw [List.length_map] at this
    exact ⟨[a], .dic e k1 (.inl rfl) this, by simp, fun b => by rw [f b]; simp⟩
/-- what stands around: what others own, what stays in its slot -/
structure Fx where
  N0 : AS
  pv : List (Nat × V)
abbrev Op := List (Nat × Kind)
def Own (op : Op) (F : Nat → AS) : AS := fun a => ∃ p ∈ op, F p.1 a
def Mx (c : Fx) (op : Op) (F : Nat → AS) (ex : List Nat) : AS := fun a => c.N0 a ∨ ∃ p ∈ op, p.1 ∉ ex ∧ F p.1 a
abbrev Mt (c : Fx) (op : Op) (F : Nat → AS) : AS := Mx c op F []
structure Sim (K : PySem.W.Frag) (c : Fx) (op : Op) (F : Nat → AS) (σ : St) (H : Hp) (ρ : DEnv) : Prop where
  len : σ.length = ρ.length
  fr : ∀ i d, ρ[i]? = some (some d) → (∀ p ∈ op, p.1 ≠ i) → ∃ v, σ[i]? = some (some v) ∧ Dz K (Mt c op F) H v d
  ops : ∀ p ∈ op, ∃ v d, σ[p.1]? = some (some v) ∧ ρ[p.1]? = some (some d) ∧ p.2.ok K (Mt c op F) H v d (F p.1)
  dis : ∀ p ∈ op, ∀ q ∈ op, ∀ a, F p.1 a → F q.1 a → p.1 = q.1
  nd : (op.map (·.1)).Nodup
  n0 : Live c.N0 H
  n0d : ∀ p ∈ op, ∀ a, F p.1 a → ¬ c.N0 a
  pv : ∀ p ∈ c.pv, σ[p.1]? = some (some p.2)
theorem op_uniq : ∀ {op : Op} {p q : Nat × Kind}, (op.map (·.1)).Nodup → p ∈ op → q ∈ op → p.1 = q.1 → q = p
  | [], _, _, _, h, _, _ => by cases h
  | r :: op, p, q, nd, h1, h2, e => by
    simp only [List.map_cons, List.nodup_cons, List.mem_map, not_exists, not_and] at nd
    rcases List.mem_cons.mp h1 with z | k1
    · rcases List.mem_cons.mp h2 with z2 | k2
      · rw [z, z2]
      · exact absurd (by rw [← e, z]) (nd.1 q k2)
    · rcases List.mem_cons.mp h2 with z2 | k2
      · exact absurd (by rw [e, z2]) (nd.1 p k1)
      · exact op_uniq nd.2 k1 k2 e
section
variable {K : PySem.W.Frag} {c : Fx} {op : Op} {F F' : Nat → AS} {σ : St} {H H' : Hp} {ρ : DEnv} {ex ex' : List Nat}
theorem Mx.less (h : ∀ i, i ∈ ex → i ∈ ex') {a : Addr} (m : Mx c op F ex' a) : Mx c op F ex a := by
  rcases m with m | ⟨p, hp, n, m⟩
  · exact .inl m
  · exact .inr ⟨p, hp, fun z => n (h _ z), m⟩
theorem Mx.all {a : Addr} (m : Mx c op F ex a) : Mt c op F a := m.less (ex := []) (by simp)
theorem Sim.live (S : Sim K c op F σ H ρ) : Live (Mt c op F) H := fun a m => by
  rcases m with m | ⟨p, hp, _, m⟩
  · exact S.n0 a m
  · obtain ⟨v, d, _, _, ok⟩ := S.ops p hp
    exact p.2.live ok a m
theorem Sim.liveX (S : Sim K c op F σ H ρ) : Live (Mx c op F ex) H := fun a m => S.live a m.all
theorem Sim.own (S : Sim K c op F σ H ρ) : Live (Own op F) H := fun a ⟨p, hp, m⟩ => S.live a (.inr ⟨p, hp, by simp, m⟩)
/-- what is behind a step of the heap for what is not owned -/
theorem mx_trn (n : Live c.N0 H) (t : Trn (Own op F) (Own op F') H H') : Trn (Mt c op F) (Mt c op F') H H' :=
  ⟨fun a o e m => t.1 a o e fun ⟨p, hp, z⟩ => m (.inr ⟨p, hp, by simp, z⟩), fun a o e m => by
    rcases m with m | ⟨p, hp, _, m⟩
    · exact .inl m
    · obtain ⟨q, hq, z⟩ := t.2.1 a o e ⟨p, hp, m⟩
      exact .inr ⟨q, hq, by simp, z⟩, t.2.2⟩
theorem Sim.same (S : Sim K c op F σ H ρ) (s : Same H H') : Sim K c op F σ H' ρ where
  len := S.len
  fr := fun i d e n => let ⟨v, e1, z⟩ := S.fr i d e n; ⟨v, e1, z.same s S.live⟩
  ops := fun p hp => let ⟨v, d, e1, e2, ok⟩ := S.ops p hp; ⟨v, d, e1, e2, p.2.frame S.live ok (fun a o z _ => s a o z) fun _ _ _ m => m⟩
  dis := S.dis
  nd := S.nd
  n0 := S.n0.same s
  n0d := S.n0d
  pv := S.pv
/-- a name is stored -/
theorem Sim.set {i : Nat} {v : V} {d : D} (S : Sim K c op F σ H ρ) (h : Dz K (Mt c op F) H v d) (n : ∀ p ∈ op, p.1 ≠ i) (n2 : ∀ p ∈ c.pv, p.1 ≠ i) : Sim K c op F (σ.set i (some v)) H (ρ.set i (some d)) where
  len := by simp [S.len]
  fr := fun j e z nj => by
    by_cases hj : i = j
    · subst hj
      by_cases hl : i < ρ.length
      · rw [List.getElem?_set_self hl] at z
        cases z
        exact ⟨v, by rw [List.getElem?_set_self (by rw [S.len]; exact hl)], h⟩
      · rw [List.getElem?_eq_none (by simpa using hl)] at z; cases z
    · rw [List.getElem?_set_ne hj] at z
      rw [List.getElem?_set_ne hj]
      exact S.fr j e z nj
  ops := fun p hp => by
    have ne := n p hp
    rw [List.getElem?_set_ne (Ne.symm ne), List.getElem?_set_ne (Ne.symm ne)]
    exact S.ops p hp
  dis := S.dis
  nd := S.nd
  n0 := S.n0
  n0d := S.n0d
  pv := fun p hp => by
    rw [List.getElem?_set_ne (Ne.symm (n2 p hp))]
    exact S.pv p hp
/-- an owned thing is changed -/
theorem Sim.put {p : Nat × Kind} {v : V} {d : D} (S : Sim K c op F σ H ρ) (hp : p ∈ op) (e : σ[p.1]? = some (some v)) (k : ∀ a o, H a = some o → ¬ F p.1 a → H' a = some o)
    (kk : ∀ a o, H a = some o → ∃ o', H' a = some o') (ok : p.2.ok K (Mt c op F) H' v d (F p.1)) : Sim K c op F σ H' (ρ.set p.1 (some d)) ∧ Trn (Own op F) (Own op F) H H' := by
  have t : Trn (Own op F) (Own op F) H H' := ⟨fun a o z n => k a o z fun m => n ⟨p, hp, m⟩, fun _ _ _ m => m, kk⟩
  have tm := mx_trn S.n0 t
  refine ⟨⟨by simp [S.len], fun j e' z nj => ?_, fun q hq => ?_, S.dis, S.nd, fun a m => ?_, S.n0d, S.pv⟩, t⟩
  · rw [List.getElem?_set_ne (nj p hp)] at z
    obtain ⟨w, e1, h⟩ := S.fr j e' z nj
    exact ⟨w, e1, h.trn S.live tm⟩
  · by_cases hq1 : p.1 = q.1
    · obtain ⟨w, e2, z1, z2, _⟩ := S.ops p hp
      have hl : p.1 < ρ.length := (List.getElem?_eq_some_iff.mp z2).1
      have pq : q = p := op_uniq S.nd hp hq hq1
      subst pq
      exact ⟨v, d, e, by rw [List.getElem?_set_self hl], ok⟩
    · rw [List.getElem?_set_ne hq1]
      obtain ⟨w, e2, z1, z2, okq⟩ := S.ops q hq
      refine ⟨w, e2, z1, z2, q.2.frame S.live okq (fun a o z h => k a o z fun m => ?_) fun _ _ _ m => m⟩
      rcases h with h | h
      · exact h (.inr ⟨p, hp, by simp, m⟩)
      · exact hq1 (S.dis p hp q hq a m h)
  · obtain ⟨o, z, mo⟩ := S.n0 a m
    exact ⟨o, k a o z fun f => S.n0d p hp a f m, mo⟩
end
/-- v denotes d, or is a list, a dict that is owned, its things beyond -/
def DzT (K : PySem.W.Frag) (M Mx : AS) (H : Hp) (v : V) (d : D) : Prop :=
  Dz K M H v d ∨ (∃ a xs ds, v = .ref a ∧ d = .list ds ∧ ¬ Mx a ∧ H a = some (.lst xs) ∧ DzA K M H xs ds) ∨
    ∃ a kvs ds, v = .ref a ∧ d = .dict ds ∧ ¬ Mx a ∧ H a = some (.dK kvs) ∧ DzK K M H kvs ds
section
variable {K : PySem.W.Frag} {M N : AS} {H H' : Hp} {v : V} {d : D}
theorem DzT.dz (f : ∀ a, N a → M a) (h : DzT K M N H v d) : Dz K N H v d := by
  rcases h with h | ⟨a, xs, ds, rfl, rfl, n, e, h⟩ | ⟨a, xs, ds, rfl, rfl, n, e, h⟩
  · exact h.mono f
  · exact .lst n e (h.mono f)
  · exact .dic n e (h.mono f)
theorem DzT.same (s : Same H H') (l : Live M H) (h : DzT K M N H v d) : DzT K M N H' v d := by
  rcases h with h | ⟨a, xs, ds, rfl, rfl, n, e, h⟩ | ⟨a, xs, ds, rfl, rfl, n, e, h⟩
  · exact .inl (h.same s l)
  · exact .inr (.inl ⟨a, xs, ds, rfl, rfl, n, s _ _ e, h.same s l⟩)
  · exact .inr (.inr ⟨a, xs, ds, rfl, rfl, n, s _ _ e, h.frame l (fun b o z _ => s b o z) fun _ _ _ m => m⟩)
theorem DzT.mono {M1 N1 : AS} (f : ∀ a, M1 a → M a) (g : ∀ a, N1 a → N a) (h : DzT K M N H v d) : DzT K M1 N1 H v d := by
  rcases h with h | ⟨a, xs, ds, rfl, rfl, n, e, h⟩ | ⟨a, xs, ds, rfl, rfl, n, e, h⟩
  · exact .inl (h.mono f)
  · exact .inr (.inl ⟨a, xs, ds, rfl, rfl, fun z => n (g _ z), e, h.mono f⟩)
  · exact .inr (.inr ⟨a, xs, ds, rfl, rfl, fun z => n (g _ z), e, h.mono f⟩)
/-- a list's things -/
theorem DzT.list {ds : List D} (h : DzT K M N H v (.list ds)) : ∃ a xs, v = .ref a ∧ H a = some (.lst xs) ∧ DzA K M H xs ds := by
  rcases h with h | ⟨a, xs, ds, rfl, e2, n, e, h⟩ | ⟨a, xs, ds, rfl, e2, n, e, h⟩
  · cases h with
    | lst n e h => exact ⟨_, _, rfl, e, h⟩
  · cases e2
    exact ⟨a, xs, rfl, e, h⟩
  · cases e2
theorem DzT.tuple {ds : List D} (h : DzT K M N H v (.tuple ds)) : ∃ a xs, v = .ref a ∧ SqT K H a xs ∧ DzA K M H xs ds := by
  rcases h with h | ⟨a, xs, ds, rfl, e2, n, e, h⟩ | ⟨a, xs, ds, rfl, e2, n, e, h⟩
  · cases h with
    | tup e h => exact ⟨_, _, rfl, e, h⟩
  · cases e2
  · cases e2
theorem DzT.dict {ds : List (D × D)} (h : DzT K M N H v (.dict ds)) : ∃ a xs, v = .ref a ∧ H a = some (.dK xs) ∧ DzK K M H xs ds := by
  rcases h with h | ⟨a, xs, ds, rfl, e2, n, e, h⟩ | ⟨a, xs, ds, rfl, e2, n, e, h⟩
  · cases h with
    | dic n e h => exact ⟨_, _, rfl, e, h⟩
  · cases e2
  · cases e2
    exact ⟨a, xs, rfl, e, h⟩
theorem DzT.tdic {ds : List (D × D)} (h : DzT K M N H v (.tdic ds)) : ∃ a xs, v = .ref a ∧ H a = some (dN a xs) ∧ DzN K M H xs ds := by
  rcases h with h | ⟨_, _, _, _, e, _⟩ | ⟨_, _, _, _, e, _⟩
  · cases h with
    | tdc n e a => exact ⟨_, _, rfl, e, a⟩
  · cases e
  · cases e
theorem DzT.int {i : Int} (h : DzT K M N H v (.int i)) : v = .int i := by
  rcases h with h | ⟨a, xs, ds, rfl, e2, n, e, h⟩ | ⟨a, xs, ds, rfl, e2, n, e, h⟩
  · cases h; rfl
  · cases e2
  · cases e2
theorem DzT.str {i : Str} (h : DzT K M N H v (.str i)) : v = .str i := by
  rcases h with h | ⟨a, xs, ds, rfl, e2, n, e, h⟩ | ⟨a, xs, ds, rfl, e2, n, e, h⟩
  · cases h; rfl
  · cases e2
  · cases e2
theorem DzT.bool {i : Bool} (h : DzT K M N H v (.bool i)) : v = .bl i := by
  rcases h with h | ⟨a, xs, ds, rfl, e2, n, e, h⟩ | ⟨a, xs, ds, rfl, e2, n, e, h⟩
  · cases h; rfl
  · cases e2
  · cases e2
theorem DzT.none (h : DzT K M N H v .none) : v = .non := by
  rcases h with h | ⟨a, xs, ds, rfl, e2, n, e, h⟩ | ⟨a, xs, ds, rfl, e2, n, e, h⟩
  · cases h; rfl
  · cases e2
  · cases e2
theorem DzT.dp (i : noDic d = true) (f : ∀ a, N a → M a) (h : DzT K M N H v d) : Dp K H v (pyD d) := (h.dz f).dp i
end
/-! ### readings of data -/
/-- by a truth -/
structure Br (k : Bool) (A B : Prop) : Prop where
  t : k = true → A
  f : k = false → B
theorem br {k : Bool} {A B : Prop} (h1 : k = true → A) (h2 : k = false → B) : Br k A B := ⟨h1, h2⟩
theorem br_d {p : Prop} [Decidable p] {A B : Prop} (h1 : p → A) (h2 : ¬ p → B) : Br (decide p) A B := ⟨fun h => h1 (of_decide_eq_true h), fun h => h2 (of_decide_eq_false h)⟩
theorem br_n {p : Prop} [Decidable p] {A B : Prop} (h1 : ¬ p → A) (h2 : p → B) : Br (!decide p) A B := ⟨fun h => h1 (by simpa using h), fun h => h2 (by simpa using h)⟩
theorem br_z {i j : Int} {A B : Prop} (h1 : i ≠ j → A) (h2 : i = j → B) : Br (i != j) A B := ⟨fun h => h1 (by simpa using h), fun h => h2 (by simpa using h)⟩
theorem br_e {α : Type} {xs : List α} {A B : Prop} (h1 : xs ≠ [] → A) (h2 : xs = [] → B) : Br (!xs.isEmpty) A B := ⟨fun h => h1 (by cases xs <;> simp_all), fun h => h2 (by cases xs <;> simp_all)⟩
theorem br_t {A B : Prop} (h : A) : Br true A B := ⟨fun _ => h, fun z => nomatch z⟩
theorem br_f {A B : Prop} (h : B) : Br false A B := ⟨fun z => (nomatch z), fun _ => h⟩
/-- where there is one -/
structure Opt {α : Type} (o : Option α) (Q : α → Prop) : Prop where
  ex : ∃ a, o = some a ∧ Q a
theorem opt {α : Type} {o : Option α} {a : α} {Q : α → Prop} (h : o = some a) (q : Q a) : Opt o Q := ⟨⟨a, h, q⟩⟩
/-- what a name holds -/
def At (ρ : List (Option D)) (i : Nat) (Q : D → Prop) : Prop := match ρ[i]? with | some (some d) => Q d | _ => False
theorem At.ex {ρ : List (Option D)} {i : Nat} {Q : D → Prop} (h : At ρ i Q) : ∃ d, ρ[i]? = some (some d) ∧ Q d := by
  unfold At at h
  split at h
  · rename_i d e
    exact ⟨d, e, h⟩
  · exact h.elim
theorem at_ {ρ : List (Option D)} {i : Nat} {Q : D → Prop} {d : D} (e : ρ[i]? = some (some d)) (q : Q d) : At ρ i Q := by
  unfold At
  rw [e]
  exact q
abbrev DTE := DEnv → (D → DEnv → Prop) → Prop
abbrev DTT := DEnv → (Bool → DEnv → Prop) → Prop
abbrev DTA := DEnv → (List D → DEnv → Prop) → Prop
/-- what stays behind an expression -/
structure Stp (K : PySem.W.Frag) (c : Fx) (op : Op) (q : Bool) (F : Nat → AS) (σ : St) (H : Hp) (ρ : DEnv) (F' : Nat → AS) (H' : Hp) (ρ' : DEnv) : Prop where
  sim : Sim K c op F' σ H' ρ'
  trn : Trn (Own op F) (Own op F') H H'
  qt : q = true → Same H H' ∧ ρ' = ρ ∧ F' = F
def VQ (K : PySem.W.Frag) (c : Fx) (op : Op) (dx tx : List Nat) (q : Bool) (F : Nat → AS) (σ : St) (H : Hp) (ρ : DEnv) (Q : D → DEnv → Prop) : VK := fun v H' =>
  ∃ d ρ' F', Stp K c op q F σ H ρ F' H' ρ' ∧ DzT K (Mx c op F' dx) (Mx c op F' (dx ++ tx)) H' v d ∧ Q d ρ'
def AQ (K : PySem.W.Frag) (c : Fx) (op : Op) (dx : List Nat) (q : Bool) (F : Nat → AS) (σ : St) (H : Hp) (ρ : DEnv) (Q : List D → DEnv → Prop) : List V → Hp → Prop := fun vs H' =>
  ∃ ds ρ' F', Stp K c op q F σ H ρ F' H' ρ' ∧ DzA K (Mx c op F' dx) H' vs ds ∧ Q ds ρ'
def BQ (K : PySem.W.Frag) (c : Fx) (op : Op) (q : Bool) (F : Nat → AS) (σ : St) (H : Hp) (ρ : DEnv) (Q : Bool → DEnv → Prop) : Bool → Hp → Prop := fun b H' =>
  ∃ ρ' F', Stp K c op q F σ H ρ F' H' ρ' ∧ Q b ρ'
def Sd (K : PySem.W.Frag) (op : Op) (t : TE) (dx tx : List Nat) (q : Bool) (t' : DTE) : Prop :=
  ∀ (c : Fx) (F : Nat → AS) (σ : St) (H : Hp) (ρ : DEnv) (Q : D → DEnv → Prop), Sim K c op F σ H ρ → t' ρ Q → ∀ R : VK, (∀ v H', VQ K c op dx tx q F σ H ρ Q v H' → R v H') → t σ H R
def SdA (K : PySem.W.Frag) (op : Op) (t : TA) (dx : List Nat) (q : Bool) (t' : DTA) : Prop :=
  ∀ (c : Fx) (F : Nat → AS) (σ : St) (H : Hp) (ρ : DEnv) (Q : List D → DEnv → Prop), Sim K c op F σ H ρ → t' ρ Q → ∀ R : List V → Hp → Prop, (∀ v H', AQ K c op dx q F σ H ρ Q v H' → R v H') → t σ H R
def SdT (K : PySem.W.Frag) (op : Op) (t : TT) (q : Bool) (t' : DTT) : Prop :=
  ∀ (c : Fx) (F : Nat → AS) (σ : St) (H : Hp) (ρ : DEnv) (Q : Bool → DEnv → Prop), Sim K c op F σ H ρ → t' ρ Q → ∀ R : Bool → Hp → Prop, (∀ v H', BQ K c op q F σ H ρ Q v H' → R v H') → t σ H R
structure DE (X : Cx) (op : Op) (e : Expr) (t : TE) (dx tx : List Nat) (q : Bool) (t' : DTE) : Prop where
  pe : PE X e t
  sd : Sd X.K op t dx tx q t'
structure DA (X : Cx) (op : Op) (es : List Expr) (t : TA) (dx : List Nat) (q : Bool) (t' : DTA) : Prop where
  pa : PA X es t
  sd : SdA X.K op t dx q t'
structure DT (X : Cx) (op : Op) (e : Expr) (t : TT) (q : Bool) (t' : DTT) : Prop where
  pt : PT X e t
  sd : SdT X.K op t q t'
end Vt
namespace Vt
open PySem PySem.Spec L2
variable [WorldC]
/-- what is new, or was taken out of what is owned, and not yet laid anywhere -/
def Fx.addS (c : Fx) (X : List Addr) : Fx := ⟨fun a => c.N0 a ∨ a ∈ X, c.pv⟩
def noOp (op : Op) (i : Nat) : Bool := op.all fun p => p.1 != i
theorem noOp_ne {op : Op} {i : Nat} (h : noOp op i = true) : ∀ p ∈ op, p.1 ≠ i := fun p hp e => by
  have := List.all_eq_true.mp h p hp
  simp [e] at this
section
variable {K : PySem.W.Frag} {c : Fx} {op l1 l2 : Op} {F F' : Nat → AS} {σ : St} {H H' : Hp} {ρ : DEnv} {X : List Addr} {i : Nat} {s s' : Sh} {v v' : V} {d d2 : D} {p : List Nat}
theorem mt_addS {ex : List Nat} {a : Addr} : Mx (c.addS X) op F ex a ↔ Mx c op F ex a ∨ a ∈ X := by
  constructor
  · rintro ((m | m) | m)
    · exact .inl (.inl m)
    · exact .inr m
    · exact .inl (.inr m)
  · rintro ((m | m) | m)
    · exact .inl (.inl m)
    · exact .inr m
    · exact .inl (.inr m)
theorem mt_addS0 {ex : List Nat} : Mx (c.addS []) op F ex = Mx c op F ex := by
  funext a
  exact propext ⟨fun m => (mt_addS.mp m).elim id fun z => absurd z List.not_mem_nil, fun m => mt_addS.mpr (.inl m)⟩
theorem mt_addS1 : Mt (c.addS []) op F = Mt c op F := mt_addS0
theorem Sim.addS0 (S : Sim K c op F σ H ρ) : Sim K (c.addS []) op F σ H ρ where
  len := S.len
  fr := fun i d e n => by rw [mt_addS1]; exact S.fr i d e n
  ops := fun q hq => by rw [mt_addS1]; exact S.ops q hq
  dis := S.dis
  nd := S.nd
  n0 := fun a m => S.n0 a (m.elim id fun z => absurd z List.not_mem_nil)
  n0d := fun q hq a f m => S.n0d q hq a f (m.elim id fun z => absurd z List.not_mem_nil)
  pv := S.pv
/-- what was new is let go -/
theorem Sim.dropS (S : Sim K (c.addS X) op F σ H ρ) : Sim K c op F σ H ρ where
  len := S.len
  fr := fun i d e n => let ⟨v, e1, h⟩ := S.fr i d e n; ⟨v, e1, h.mono fun a m => mt_addS.mpr (.inl m)⟩
  ops := fun q hq => let ⟨v, d, e1, e2, ok⟩ := S.ops q hq; ⟨v, d, e1, e2, q.2.frame S.live ok (fun a o e _ => e) fun a o e m => mt_addS.mpr (.inl m)⟩
  dis := S.dis
  nd := S.nd
  n0 := fun a m => S.n0 a (.inl m)
  n0d := fun q hq a f m => S.n0d q hq a f (.inl m)
  pv := S.pv
/-- UPD: at a place of what is owned stands another tree -/
theorem Sim.putAtY (S : Sim K (c.addS X) op F σ H ρ) (hX : ∀ a ∈ X, ¬ c.N0 a) (hm : (i, kT s) ∈ op) (hv : σ[i]? = some (some v)) (na : NodeAt H v p v') (sa : ShAt s p s') :
    ∃ d d' L', ρ[i]? = some (some d) ∧ atD d p = some d' ∧ Tz K (Mt (c.addS X) op F) H s' v' d' L' ∧ L'.Nodup ∧ (∀ a ∈ L', F i a) ∧
      ∀ (H' : Hp) (d2 : D) (Ln Y : List Addr), (∀ a o, H a = some o → a ∉ L' → a ∉ X → H' a = some o) → (∀ a o, H a = some o → ∃ o', H' a = some o') → (∀ a o, H a = some o → a ∈ Ln ∨ a ∈ Y → a ∈ L' ∨ a ∈ X) → Ln.Nodup →
        (∀ a ∈ Y, a ∉ Ln) → Live (· ∈ Y) H' →
        Tz K (fun a => (Mt c op F a ∧ a ∉ L') ∨ a ∈ Ln ∨ a ∈ Y) H' s' v' d2 Ln →
        ∃ F', Sim K (c.addS Y) op F' σ H' (ρ.set i (some (putD d p d2))) ∧ Trn (fun a => Own op F a ∨ a ∈ X) (fun a => Own op F' a ∨ a ∈ Y) H H' ∧ (∀ a, Mt c op F' a ↔ (Mt c op F a ∧ a ∉ L') ∨ a ∈ Ln) ∧ (∀ j, j ≠ i → F' j = F j) ∧ (∀ a ∈ Y, ¬ c.N0 a) := by
  obtain ⟨w, d, e1, e2, L, tz, nd, hf⟩ := S.ops _ hm
  rw [hv] at e1
  cases e1
  obtain ⟨d', L1, L', Lb, a1, eL, tz', back⟩ := Tz.zoom na sa tz
  have nd2 := nd
  rw [eL, List.append_assoc, List.nodup_append, List.nodup_append] at nd2
  obtain ⟨n1, ⟨n2, n3, n23⟩, n123⟩ := nd2
  have inL : ∀ a ∈ L', F i a := fun a m => (hf a).mpr (by rw [eL]; simp [m])
  refine ⟨d, d', L', e2, a1, tz', n2, inL, fun H' d2 Ln Y k kk old0 ndx yn liveY tz2 => ?_⟩
  have hil : i < ρ.length := (List.getElem?_eq_some_iff.mp e2).1
  have out1 : ∀ a, a ∈ L1 ∨ a ∈ Lb → a ∉ L' ∧ F i a := fun a m => by
    refine ⟨fun z => ?_, (hf a).mpr (by rw [eL]; rcases m with m | m <;> simp [m])⟩
    rcases m with m | m
    · exact n123 a m a (List.mem_append_left _ z) rfl
    · exact n23 a z a m rfl
  have out2 : ∀ q ∈ op, q.1 ≠ i → ∀ a, F q.1 a → a ∉ L' := fun q hq ne a f z => ne (S.dis q hq (i, kT s) hm a f (inL a z))
  have nX : ∀ q ∈ op, ∀ a, F q.1 a → a ∉ X := fun q hq a f z => S.n0d q hq a f (.inr z)
  have live0 : ∀ a, Mt c op F a → ∃ o, H a = some o := fun a m => let ⟨o, e, _⟩ := S.live a (mt_addS.mpr (.inl m)); ⟨o, e⟩
  have old : ∀ a o, H a = some o → a ∈ Ln → a ∈ L' ∨ a ∈ X := fun a o e m => old0 a o e (.inl m)
  have oldY : ∀ a o, H a = some o → a ∈ Y → a ∈ L' ∨ a ∈ X := fun a o e m => old0 a o e (.inr m)
  have newN : ∀ q ∈ op, ∀ a, F q.1 a → a ∉ L' → a ∉ Ln := fun q hq a f nl z => by
    obtain ⟨o, e⟩ := live0 a (.inr ⟨q, hq, by simp, f⟩)
    rcases old a o e z with z | z
    · exact nl z
    · exact nX q hq a f z
  have newN0 : ∀ a, c.N0 a → a ∉ Ln := fun a m z => by
    obtain ⟨o, e⟩ := live0 a (.inl m)
    rcases old a o e z with z | z
    · exact S.n0d _ hm a (inL a z) (.inl m)
    · exact hX a z m
  have yN0 : ∀ a ∈ Y, ¬ c.N0 a := fun a z m => by
    obtain ⟨o, e⟩ := live0 a (.inl m)
    rcases oldY a o e z with z | z
    · exact S.n0d _ hm a (inL a z) (.inl m)
    · exact hX a z m
  have yF : ∀ q ∈ op, ∀ a, F q.1 a → a ∉ L' → a ∉ Y := fun q hq a f nl z => by
    obtain ⟨o, e⟩ := live0 a (.inr ⟨q, hq, by simp, f⟩)
    rcases oldY a o e z with z | z
    · exact nl z
    · exact nX q hq a f z
  -- the new footprint
  obtain ⟨F', hF⟩ : ∃ F' : Nat → AS, F' = fun j a => if j = i then a ∈ L1 ++ Ln ++ Lb else F j a := ⟨_, rfl⟩
  have Fi : ∀ a, F' i a ↔ a ∈ L1 ++ Ln ++ Lb := fun a => by rw [hF]; simp
  have Fj : ∀ j, j ≠ i → F' j = F j := fun j ne => by rw [hF]; funext a; simp [ne]
  have mt : ∀ a, Mt c op F' a ↔ (Mt c op F a ∧ a ∉ L') ∨ a ∈ Ln := fun a => by
    constructor
    · rintro (m | ⟨q, hq, _, m⟩)
      · exact .inl ⟨.inl m, fun z => S.n0d _ hm a (inL a z) (.inl m)⟩
      · by_cases hi : q.1 = i
        · rw [hi, Fi] at m
          rcases List.mem_append.mp m with m | m
          · rcases List.mem_append.mp m with m | m
            · exact .inl ⟨.inr ⟨_, hm, by simp, (out1 a (.inl m)).2⟩, (out1 a (.inl m)).1⟩
            · exact .inr m
          · exact .inl ⟨.inr ⟨_, hm, by simp, (out1 a (.inr m)).2⟩, (out1 a (.inr m)).1⟩
        · rw [Fj _ hi] at m
          exact .inl ⟨.inr ⟨q, hq, by simp, m⟩, out2 q hq hi a m⟩
    · rintro (⟨m | ⟨q, hq, _, m⟩, nl⟩ | m)
      · exact .inl m
      · by_cases hi : q.1 = i
        · rw [hi, hf a, eL] at m
          refine .inr ⟨_, hm, by simp, (Fi a).mpr ?_⟩
          rcases List.mem_append.mp m with m | m
          · rcases List.mem_append.mp m with m | m
            · simp [m]
            · exact absurd m nl
          · simp [m]
        · exact .inr ⟨q, hq, by simp, by rw [Fj _ hi]; exact m⟩
      · exact .inr ⟨_, hm, by simp, (Fi a).mpr (by simp [m])⟩
  have trn : Trn (fun a => Own op F a ∨ a ∈ X) (fun a => Own op F' a ∨ a ∈ Y) H H' := by
    refine ⟨fun a o e n => k a o e (fun m => n (.inl ⟨_, hm, inL a m⟩)) fun m => n (.inr m), fun a o e my => ?_, kk⟩
    rcases my with ⟨q, hq, m⟩ | m
    rotate_left
    · exact (oldY a o e m).elim (fun z => .inl ⟨_, hm, inL a z⟩) .inr
    by_cases hi : q.1 = i
    · rw [hi, Fi] at m
      rcases List.mem_append.mp m with m | m
      · rcases List.mem_append.mp m with m | m
        · exact .inl ⟨_, hm, (out1 a (.inl m)).2⟩
        · exact (old a o e m).elim (fun z => .inl ⟨_, hm, inL a z⟩) .inr
      · exact .inl ⟨_, hm, (out1 a (.inr m)).2⟩
    · rw [Fj _ hi] at m
      exact .inl ⟨q, hq, m⟩
  -- how what is only read goes over
  have kM : ∀ a o, H a = some o → ¬ Mt (c.addS X) op F a → H' a = some o := fun a o e n => k a o e (fun m => n (.inr ⟨_, hm, by simp, inL a m⟩)) fun m => n (.inl (.inr m))
  have em : Mt (c.addS Y) op F' = fun a => (Mt c op F a ∧ a ∉ L') ∨ a ∈ Ln ∨ a ∈ Y := funext fun a => propext ((mt_addS (ex := [])).trans ((or_congr (mt a) Iff.rfl).trans or_assoc))
  have gM : ∀ a o, H a = some o → Mt (c.addS Y) op F' a → Mt (c.addS X) op F a := fun a o e m => by
    rw [em] at m
    rcases m with ⟨m, _⟩ | m | m
    rotate_left 2
    · rcases oldY a o e m with m | m
      · exact .inr ⟨_, hm, by simp, inL a m⟩
      · exact .inl (.inr m)
    · exact mt_addS.mpr (.inl m)
    · rcases old a o e m with m | m
      · exact .inr ⟨_, hm, by simp, inL a m⟩
      · exact .inl (.inr m)
  refine ⟨F', ⟨by simpa using S.len, fun j e z nj => ?_, fun q hq => ?_, fun q hq r hr a fq fr => ?_, S.nd, fun a m => ?_, fun q hq a f m => ?_, S.pv⟩, trn, mt, Fj, yN0⟩
  · rw [List.getElem?_set_ne (nj _ hm)] at z
    obtain ⟨w, f1, f2⟩ := S.fr j e z nj
    exact ⟨w, f1, f2.frame S.live kM gM⟩
  · by_cases hi : i = q.1
    · have pq : q = (i, kT s) := op_uniq S.nd hm hq hi
      subst pq
      refine ⟨v, putD d p d2, hv, by rw [List.getElem?_set_self hil], L1 ++ Ln ++ Lb, ?_, ?_, fun b => Fi b⟩
      · refine back _ _ _ _ S.live (by rw [em]; exact tz2) (fun a o e m => ?_) gM
        rcases m with m | m
        · exact kM a o e m
        · refine k a o e (out1 a m).1 fun z => nX _ hm a (out1 a m).2 z
      · rw [List.append_assoc, List.nodup_append, List.nodup_append]
        refine ⟨n1, ⟨ndx, n3, fun a h1 b h2 e => ?_⟩, fun a h1 b h2 e => ?_⟩
        · subst e
          exact newN _ hm a (out1 a (.inr h2)).2 (out1 a (.inr h2)).1 h1
        · subst e
          rcases List.mem_append.mp h2 with h2 | h2
          · exact newN _ hm a (out1 a (.inl h1)).2 (out1 a (.inl h1)).1 h2
          · exact n123 a h1 a (List.mem_append_right _ h2) rfl
    · rw [List.getElem?_set_ne hi, Fj _ (Ne.symm hi)]
      obtain ⟨w, e, f1, f2, ok⟩ := S.ops q hq
      refine ⟨w, e, f1, f2, q.2.frame S.live ok (fun a o e m => ?_) gM⟩
      rcases m with m | m
      · exact kM a o e m
      · exact k a o e (out2 q hq (Ne.symm hi) a m) (nX q hq a m)
  · by_cases hq1 : q.1 = i
    · by_cases hr1 : r.1 = i
      · rw [hq1, hr1]
      · rw [hq1, Fi] at fq
        rw [Fj _ hr1] at fr
        exfalso
        have nr := out2 r hr hr1 a fr
        rcases List.mem_append.mp fq with m | m
        · rcases List.mem_append.mp m with m | m
          · exact hr1 (S.dis r hr _ hm a fr (out1 a (.inl m)).2)
          · exact newN r hr a fr nr m
        · exact hr1 (S.dis r hr _ hm a fr (out1 a (.inr m)).2)
    · rw [Fj _ hq1] at fq
      by_cases hr1 : r.1 = i
      · rw [hr1, Fi] at fr
        exfalso
        have nr := out2 q hq hq1 a fq
        rcases List.mem_append.mp fr with m | m
        · rcases List.mem_append.mp m with m | m
          · exact hq1 (S.dis q hq _ hm a fq (out1 a (.inl m)).2)
          · exact newN q hq a fq nr m
        · exact hq1 (S.dis q hq _ hm a fq (out1 a (.inr m)).2)
      · rw [Fj _ hr1] at fr
        exact S.dis q hq r hr a fq fr
  · rcases m with m | m
    · obtain ⟨o, e, mo⟩ := S.n0 a (.inl m)
      exact ⟨o, k a o e (fun z => S.n0d _ hm a (inL a z) (.inl m)) fun z => hX a z m, mo⟩
    · exact liveY a m
  · rcases m with m | my
    · by_cases hq1 : q.1 = i
      · rw [hq1, Fi] at f
        rcases List.mem_append.mp f with z | z
        · rcases List.mem_append.mp z with z | z
          · exact S.n0d _ hm a (out1 a (.inl z)).2 (.inl m)
          · exact newN0 a m z
        · exact S.n0d _ hm a (out1 a (.inr z)).2 (.inl m)
      · rw [Fj _ hq1] at f
        exact S.n0d q hq a f (.inl m)
    · by_cases hq1 : q.1 = i
      · rw [hq1, Fi] at f
        rcases List.mem_append.mp f with z | z
        · rcases List.mem_append.mp z with z | z
          · exact yF _ hm a (out1 a (.inl z)).2 (out1 a (.inl z)).1 my
          · exact yn a my z
        · exact yF _ hm a (out1 a (.inr z)).2 (out1 a (.inr z)).1 my
      · rw [Fj _ hq1] at f
        exact yF q hq a f (out2 q hq hq1 a f) my
theorem Sim.putAt (S : Sim K (c.addS X) op F σ H ρ) (hX : ∀ a ∈ X, ¬ c.N0 a) (hm : (i, kT s) ∈ op) (hv : σ[i]? = some (some v)) (na : NodeAt H v p v') (sa : ShAt s p s') :
    ∃ d d' L', ρ[i]? = some (some d) ∧ atD d p = some d' ∧ Tz K (Mt (c.addS X) op F) H s' v' d' L' ∧ L'.Nodup ∧ (∀ a ∈ L', F i a) ∧
      ∀ (H' : Hp) (d2 : D) (Ln : List Addr), (∀ a o, H a = some o → a ∉ L' → a ∉ X → H' a = some o) → (∀ a o, H a = some o → ∃ o', H' a = some o') → (∀ a o, H a = some o → a ∈ Ln → a ∈ L' ∨ a ∈ X) → Ln.Nodup →
        Tz K (fun a => (Mt c op F a ∧ a ∉ L') ∨ a ∈ Ln) H' s' v' d2 Ln →
        ∃ F', Sim K c op F' σ H' (ρ.set i (some (putD d p d2))) ∧ Trn (fun a => Own op F a ∨ a ∈ X) (Own op F') H H' ∧ (∀ a, Mt c op F' a ↔ (Mt c op F a ∧ a ∉ L') ∨ a ∈ Ln) ∧ ∀ j, j ≠ i → F' j = F j := by
  obtain ⟨d, d', L', e1, a1, tz', n2, inL, put⟩ := S.putAtY hX hm hv na sa
  refine ⟨d, d', L', e1, a1, tz', n2, inL, fun H' d2 Ln k kk old ndx tz2 => ?_⟩
  have e0 : (fun a => (Mt c op F a ∧ a ∉ L') ∨ a ∈ Ln ∨ a ∈ ([] : List Addr)) = fun a => (Mt c op F a ∧ a ∉ L') ∨ a ∈ Ln := funext fun a => propext (or_congr Iff.rfl ⟨fun m => m.elim id fun z => absurd z List.not_mem_nil, .inl⟩)
  obtain ⟨F', S', t', mt, fj, _⟩ := put H' d2 Ln [] k kk (fun a o e m => m.elim (old a o e) fun z => absurd z List.not_mem_nil) ndx (fun a m => absurd m List.not_mem_nil) (fun a m => absurd m List.not_mem_nil) (by rw [e0]; exact tz2)
  refine ⟨F', S'.dropS, ?_, mt, fj⟩
  have e1 : (fun a => Own op F' a ∨ a ∈ ([] : List Addr)) = Own op F' := funext fun a => propext ⟨fun m => m.elim id fun z => absurd z List.not_mem_nil, .inl⟩
  rw [e1] at t'
  exact t'
/-- HOLD: what is new is laid in a slot, and owned from then on -/
theorem own_hold {h : noOp op i = true} : ∀ a, Own ((i, kT s) :: op) (fun j a => if j = i then a ∈ X else F j a) a ↔ Own op F a ∨ a ∈ X := fun a => by
  constructor
  · rintro ⟨q, hq, f⟩
    rcases List.mem_cons.mp hq with rfl | hq
    · exact .inr (by simpa using f)
    · have ne := noOp_ne h q hq
      exact .inl ⟨q, hq, by simpa [ne] using f⟩
  · rintro (⟨q, hq, f⟩ | m)
    · have ne := noOp_ne h q hq
      exact ⟨q, List.mem_cons_of_mem _ hq, by simpa [ne] using f⟩
    · exact ⟨_, List.mem_cons_self, by simpa using m⟩
theorem Sim.holdT (S : Sim K (c.addS X) op F σ H ρ) (hX : ∀ a ∈ X, ¬ c.N0 a) (tz : Tz K (Mt (c.addS X) op F) H s v d X) (nd : X.Nodup) (hi : i < ρ.length) (h1 : noOp op i = true) (h2 : ∀ q ∈ c.pv, q.1 ≠ i) :
    Sim K c ((i, kT s) :: op) (fun j a => if j = i then a ∈ X else F j a) (σ.set i (some v)) H (ρ.set i (some d)) := by
  have mt : Mt c ((i, kT s) :: op) (fun j a => if j = i then a ∈ X else F j a) = Mt (c.addS X) op F := by
    funext a
    refine propext ⟨?_, ?_⟩
    · rintro (m | ⟨q, hq, _, m⟩)
      · exact .inl (.inl m)
      · rcases (own_hold (h := h1) a).mp ⟨q, hq, m⟩ with ⟨r, hr, m⟩ | m
        · exact .inr ⟨r, hr, by simp, m⟩
        · exact .inl (.inr m)
    · rintro ((m | m) | ⟨q, hq, _, m⟩)
      · exact .inl m
      · obtain ⟨r, hr, f⟩ := (own_hold (op := op) (F := F) (s := s) (h := h1) a).mpr (.inr m)
        exact .inr ⟨r, hr, by simp, f⟩
      · obtain ⟨r, hr, f⟩ := (own_hold (X := X) (s := s) (h := h1) a).mpr (.inl ⟨q, hq, m⟩)
        exact .inr ⟨r, hr, by simp, f⟩
  have ne := noOp_ne h1
  have nX : ∀ q ∈ op, ∀ a, F q.1 a → a ∉ X := fun q hq a f z => S.n0d q hq a f (.inr z)
  have hl : i < σ.length := by rw [S.len]; exact hi
  refine ⟨by simp [S.len], fun j e z nj => ?_, fun q hq => ?_, fun q hq r hr a fq fr => ?_, ?_, fun a m => S.n0 a (.inl m), fun q hq a f m => ?_, fun q hq => ?_⟩
  · have hj : i ≠ j := nj _ List.mem_cons_self
    rw [List.getElem?_set_ne hj] at z
    rw [List.getElem?_set_ne hj, mt]
    exact S.fr j e z fun q hq => nj q (List.mem_cons_of_mem _ hq)
  · rw [mt]
    rcases List.mem_cons.mp hq with rfl | hq
    · refine ⟨v, d, by rw [List.getElem?_set_self hl], by rw [List.getElem?_set_self hi], X, tz, nd, fun b => by simp⟩
    · have n := ne q hq
      rw [List.getElem?_set_ne (Ne.symm n), List.getElem?_set_ne (Ne.symm n)]
      obtain ⟨w, e, f1, f2, ok⟩ := S.ops q hq
      refine ⟨w, e, f1, f2, ?_⟩
      have : (fun a => if q.1 = i then a ∈ X else F q.1 a) = F q.1 := by funext a; simp [n]
      rw [this]
      exact ok
  · rcases List.mem_cons.mp hq with rfl | hq
    · rcases List.mem_cons.mp hr with rfl | hr
      · rfl
      · have n := ne r hr
        exact absurd (by simpa using fq) (nX r hr a (by simpa [n] using fr))
    · have n := ne q hq
      rcases List.mem_cons.mp hr with rfl | hr
      · exact absurd (by simpa using fr) (nX q hq a (by simpa [n] using fq))
      · have n2 := ne r hr
        exact S.dis q hq r hr a (by simpa [n] using fq) (by simpa [n2] using fr)
  · rw [List.map_cons, List.nodup_cons]
    refine ⟨fun z => ?_, S.nd⟩
    obtain ⟨q, hq, e⟩ := List.mem_map.mp z
    exact ne q hq e
  · rcases List.mem_cons.mp hq with rfl | hq
    · exact hX a (by simpa using f) m
    · have n := ne q hq
      exact S.n0d q hq a (by simpa [n] using f) (.inl m)
  · rw [List.getElem?_set_ne (Ne.symm (h2 q hq))]
    exact S.pv q hq
theorem hold_trn {H0 : Hp} {M0 : AS} (t : Trn M0 (fun a => Own op F a ∨ a ∈ X) H0 H) (h : noOp op i = true) : Trn M0 (Own ((i, kT s) :: op) (fun j a => if j = i then a ∈ X else F j a)) H0 H := by
  have e : Own ((i, kT s) :: op) (fun j a => if j = i then a ∈ X else F j a) = fun a => Own op F a ∨ a ∈ X := funext fun a => propext (own_hold (h := h) a)
  rw [e]
  exact t
/-- FREE: no more owned: only read from here on -/
structure Frees (k : Kind) : Prop where
  dz : ∀ {K : PySem.W.Frag} {M M' : AS} {H : Hp} {v : V} {d : D} {F : AS}, k.ok K M H v d F → (∀ a, M' a → M a) → (∀ a, F a → ¬ M' a) → Dz K M' H v d
theorem frees_T {s : Sh} : Frees (kT s) := ⟨fun ⟨L, tz, _, f⟩ g n => tz.dz g fun a m => n a ((f a).mpr m)⟩
theorem frees_Lk {v0 : V} {d0 : D} : Frees (kLk v0 d0) := ⟨fun ⟨_, _, h, _⟩ g n => h.mono g⟩
theorem Sim.freeAt {k : Kind} (hk : Frees k) (S : Sim K c (l1 ++ (i, k) :: l2) F σ H ρ) : Sim K c (l1 ++ l2) F σ H ρ := by
  have up : ∀ p, p ∈ l1 ++ l2 → p ∈ l1 ++ (i, k) :: l2 := fun p hp => by
    simp only [List.mem_append, List.mem_cons] at hp ⊢
    rcases hp with h | h
    · exact .inl h
    · exact .inr (.inr h)
  have dn : ∀ p, p ∈ l1 ++ (i, k) :: l2 → p ∈ l1 ++ l2 ∨ p = (i, k) := fun p hp => by
    simp only [List.mem_append, List.mem_cons] at hp ⊢
    rcases hp with h | h | h
    · exact .inl (.inl h)
    · exact .inr h
    · exact .inl (.inr h)
  have me : (i, k) ∈ l1 ++ (i, k) :: l2 := by simp
  have le : ∀ a, Mt c (l1 ++ l2) F a → Mt c (l1 ++ (i, k) :: l2) F a := fun a m => by
    rcases m with m | ⟨p, hp, n, m⟩
    · exact .inl m
    · exact .inr ⟨p, up p hp, n, m⟩
  have nd2 : ((l1 ++ l2).map (·.1)).Nodup ∧ ∀ p ∈ l1 ++ l2, p.1 ≠ i := by
    have nd := S.nd
    rw [List.map_append, List.map_cons, List.nodup_append] at nd
    obtain ⟨n1, n2, n3⟩ := nd
    rw [List.nodup_cons] at n2
    refine ⟨?_, fun p hp e => ?_⟩
    · rw [List.map_append, List.nodup_append]
      exact ⟨n1, n2.2, fun a ha b hb => n3 a ha b (List.mem_cons_of_mem _ hb)⟩
    · rcases List.mem_append.mp hp with h | h
      · exact n3 p.1 (List.mem_map_of_mem h) i (by simp) e
      · exact n2.1 (List.mem_map.mpr ⟨p, h, e⟩)
  refine ⟨S.len, fun j d e n => ?_, fun p hp => ?_, fun p hp q hq => S.dis p (up p hp) q (up q hq), nd2.1, S.n0, fun p hp => S.n0d p (up p hp), S.pv⟩
  · by_cases hj : i = j
    · subst hj
      obtain ⟨v, d', e1, e2, ok⟩ := S.ops _ me
      rw [e] at e2
      cases e2
      refine ⟨v, e1, hk.dz ok le fun a f m => ?_⟩
      rcases m with m | ⟨p, hp, _, m⟩
      · exact S.n0d _ me a f m
      · exact n p hp (S.dis p (up p hp) (i, k) me a m f)
    · obtain ⟨v, e1, h⟩ := S.fr j d e fun p hp => by
        rcases dn p hp with h | rfl
        · exact n p h
        · exact hj
      exact ⟨v, e1, h.mono le⟩
  · obtain ⟨v, d, e1, e2, ok⟩ := S.ops p (up p hp)
    exact ⟨v, d, e1, e2, p.2.frame S.live ok (fun a o e h => e) fun a o e m => le a m⟩
theorem own_freeAt {k : Kind} : Trn (Own (l1 ++ (i, k) :: l2) F) (Own (l1 ++ l2) F) H H := Trn.less fun a ⟨p, hp, m⟩ => ⟨p, by
  simp only [List.mem_append, List.mem_cons] at hp ⊢
  rcases hp with h | h
  · exact .inl h
  · exact .inr (.inr h), m⟩
/-- a new tree: its footprint is held by nobody yet -/
def FR (K : PySem.W.Frag) (c : Fx) (op : Op) (s : Sh) (F : Nat → AS) (σ : St) (H : Hp) (Q : D → DEnv → Prop) : VK := fun v H' =>
  ∃ d ρ' F' L, Sim K (c.addS L) op F' σ H' ρ' ∧ Trn (Own op F) (fun a => Own op F' a ∨ a ∈ L) H H' ∧ (∀ a ∈ L, ¬ c.N0 a) ∧ L.Nodup ∧ Tz K (Mt (c.addS L) op F') H' s v d L ∧ Q d ρ'
end
end Vt
namespace Vt
open PySem PySem.Spec L2
variable [WorldC]
section
variable {K : PySem.W.Frag} {c : Fx} {op : Op} {F F1 F2 : Nat → AS} {σ : St} {H H1 H2 : Hp} {ρ ρ1 ρ2 : DEnv} {q q1 q2 : Bool} {dx tx : List Nat}
theorem Stp.refl (S : Sim K c op F σ H ρ) : Stp K c op q F σ H ρ F H ρ := ⟨S, Trn.refl, fun _ => ⟨Same.refl _, rfl, rfl⟩⟩
theorem Stp.quiet (S : Sim K c op F σ H ρ) (s : Same H H1) : Stp K c op q F σ H ρ F H1 ρ := ⟨S.same s, Trn.same s, fun _ => ⟨s, rfl, rfl⟩⟩
theorem Stp.trans (a : Stp K c op q1 F σ H ρ F1 H1 ρ1) (b : Stp K c op q2 F1 σ H1 ρ1 F2 H2 ρ2) : Stp K c op (q1 && q2) F σ H ρ F2 H2 ρ2 := by
  refine ⟨b.sim, a.trn.trans b.trn, fun h => ?_⟩
  obtain ⟨h1, h2⟩ := Bool.and_eq_true_iff.mp h
  obtain ⟨s1, r1, f1⟩ := a.qt h1
  obtain ⟨s2, r2, f2⟩ := b.qt h2
  exact ⟨s1.trans s2, r2.trans r1, f2.trans f1⟩
theorem Stp.loud (a : Stp K c op q F σ H ρ F1 H1 ρ1) : Stp K c op false F σ H ρ F1 H1 ρ1 := ⟨a.sim, a.trn, fun h => by cases h⟩
theorem Stp.then (a : Stp K c op q F σ H ρ F1 H1 ρ1) (s : Same H1 H2) : Stp K c op q F σ H ρ F1 H2 ρ1 := by
  refine ⟨a.sim.same s, a.trn.trans (Trn.same s), fun h => ?_⟩
  obtain ⟨s1, r1, f1⟩ := a.qt h
  exact ⟨s1.trans s, r1, f1⟩
/-- what was reckoned ahead may be used behind -/
def okq (dx tx : List Nat) (q : Bool) : Bool := (dx.isEmpty && tx.isEmpty) || q
theorem dzT_move {v : V} {d : D} (S : Sim K c op F σ H ρ) (st : Stp K c op q F σ H ρ F1 H1 ρ1) (ok : okq dx tx q = true) (h : DzT K (Mx c op F dx) (Mx c op F (dx ++ tx)) H v d) :
    DzT K (Mx c op F1 dx) (Mx c op F1 (dx ++ tx)) H1 v d := by
  unfold okq at ok
  rcases Bool.or_eq_true_iff.mp ok with ok | ok
  · obtain ⟨o1, o2⟩ := Bool.and_eq_true_iff.mp ok
    have e1 : dx = [] := List.isEmpty_iff.mp o1
    have e2 : tx = [] := List.isEmpty_iff.mp o2
    subst e1 e2
    exact .inl ((h.dz fun _ z => z).trn S.live (mx_trn S.n0 st.trn))
  · obtain ⟨s, _, e⟩ := st.qt ok
    subst e
    exact h.same s S.liveX
theorem dzA_move {vs : List V} {ds : List D} (S : Sim K c op F σ H ρ) (st : Stp K c op q F σ H ρ F1 H1 ρ1) (ok : okq dx [] q = true) (h : DzA K (Mx c op F dx) H vs ds) : DzA K (Mx c op F1 dx) H1 vs ds := by
  unfold okq at ok
  rcases Bool.or_eq_true_iff.mp ok with ok | ok
  · obtain ⟨o1, _⟩ := Bool.and_eq_true_iff.mp ok
    have e1 : dx = [] := List.isEmpty_iff.mp o1
    subst e1
    exact h.trn S.live (mx_trn S.n0 st.trn)
  · obtain ⟨s, _, e⟩ := st.qt ok
    subst e
    exact h.same s S.liveX
theorem mxl {ex ex' : List Nat} {a : Addr} (m : Mx c op F (ex ++ ex') a) : Mx c op F ex a := m.less fun i h => List.mem_append_left _ h
theorem mxr {ex ex' : List Nat} {a : Addr} (m : Mx c op F (ex ++ ex') a) : Mx c op F ex' a := m.less fun i h => List.mem_append_right _ h
end
/-! ### names, written values -/
def dVar (i : Nat) : DTE := fun ρ Q => At ρ i fun d => Q d ρ
def dC (d : D) : DTE := fun ρ Q => Q d ρ
section
variable {X : Cx} {op : Op} {e : Expr} {es : List Expr} {t : TE} {i : Nat}
theorem de_var (h : PE X e (tVar i)) (n : noOp op i = true := by rfl) : DE X op e (tVar i) [] [] true (dVar i) := ⟨h, fun c F σ H ρ Q S w R hR => by
  obtain ⟨d, e, q⟩ := w.ex
  obtain ⟨v, e1, hv⟩ := S.fr i d e (noOp_ne n)
  exact ⟨v, e1, hR _ _ ⟨d, ρ, F, Stp.refl S, .inl hv, q⟩⟩⟩
theorem de_own {j : Nat} (h : PE X e (tVar i)) (n : op[j]? = some (i, kL) := by rfl) : DE X op e (tVar i) [] [i] true (dVar i) := ⟨h, fun c F σ H ρ Q S w R hR => by
  obtain ⟨d, e, q⟩ := w.ex
  have hm : (i, kL) ∈ op := List.mem_of_getElem? n
  obtain ⟨v, d', e1, e2, ok⟩ := S.ops _ hm
  obtain ⟨a, xs, ds, rfl, rfl, ha, hd, hf⟩ := kL_ok.mp ok
  rw [e] at e2
  cases e2
  refine ⟨_, e1, hR _ _ ⟨_, ρ, F, Stp.refl S, .inr (.inl ⟨a, xs, ds, rfl, rfl, fun m => ?_, ha, hd⟩), q⟩⟩
  rcases m with m | ⟨p, hp, n1, m⟩
  · exact S.n0d _ hm a ((hf a).mpr rfl) m
  · have := S.dis p hp _ hm a m ((hf a).mpr rfl)
    exact n1 (by simp [this])⟩
theorem de_ownM {j : Nat} (h : PE X e (tVar i)) (n : op[j]? = some (i, kM) := by rfl) : DE X op e (tVar i) [] [i] true (dVar i) := ⟨h, fun c F σ H ρ Q S w R hR => by
  obtain ⟨d, e, q⟩ := w.ex
  have hm : (i, kM) ∈ op := List.mem_of_getElem? n
  obtain ⟨v, d', e1, e2, ok⟩ := S.ops _ hm
  obtain ⟨a, xs, ds, rfl, rfl, ha, hd, hf⟩ := kM_ok.mp ok
  rw [e] at e2
  cases e2
  refine ⟨_, e1, hR _ _ ⟨_, ρ, F, Stp.refl S, .inr (.inr ⟨a, xs, ds, rfl, rfl, fun m => ?_, ha, hd⟩), q⟩⟩
  rcases m with m | ⟨p, hp, n1, m⟩
  · exact S.n0d _ hm a ((hf a).mpr rfl) m
  · have := S.dis p hp _ hm a m ((hf a).mpr rfl)
    exact n1 (by simp [this])⟩
theorem de_ownT {j : Nat} {s : Sh} (h : PE X e (tVar i)) (n : op[j]? = some (i, kT s) := by rfl) : DE X op e (tVar i) [i] [] true (dVar i) := ⟨h, fun c F σ H ρ Q S w R hR => by
  obtain ⟨d, e, q⟩ := w.ex
  have hm : (i, kT s) ∈ op := List.mem_of_getElem? n
  obtain ⟨v, d', e1, e2, L, tz, nd, hf⟩ := S.ops _ hm
  rw [e] at e2
  cases e2
  refine ⟨_, e1, hR _ _ ⟨_, ρ, F, Stp.refl S, .inl (tz.dz (fun a m => m.all) fun a m z => ?_), q⟩⟩
  have hfa := (hf a).mpr m
  rcases z with z | ⟨p, hp, n1, z⟩
  · exact S.n0d _ hm a hfa z
  · have := S.dis p hp _ hm a z hfa
    exact n1 (by simp [this])⟩
theorem de_lk {j : Nat} {v0 : V} {d0 : D} (h : PE X e (tVar i)) (n : op[j]? = some (i, kLk v0 d0) := by rfl) : DE X op e (tVar i) [] [] true (dVar i) := ⟨h, fun c F σ H ρ Q S w R hR => by
  obtain ⟨d, e, q⟩ := w.ex
  have hm : (i, kLk v0 d0) ∈ op := List.mem_of_getElem? n
  obtain ⟨v, d', e1, e2, _, _, h, _⟩ := S.ops _ hm
  rw [e] at e2
  cases e2
  exact ⟨_, e1, hR _ _ ⟨_, ρ, F, Stp.refl S, .inl h, q⟩⟩⟩
theorem de_c {v : V} {d : D} (h : PE X e (tC v)) (hd : ∀ M H, Dz X.K M H v d) : DE X op e (tC v) [] [] true (dC d) := ⟨h, fun c F σ H ρ Q S q R hR => hR _ _ ⟨d, ρ, F, Stp.refl S, .inl (hd _ _), q⟩⟩
theorem de_int {i : Int} (h : PE X e (tC (.int i))) : DE X op e (tC (.int i)) [] [] true (dC (.int i)) := de_c h fun _ _ => .int i
theorem de_str {i : Str} (h : PE X e (tC (.str i))) : DE X op e (tC (.str i)) [] [] true (dC (.str i)) := de_c h fun _ _ => .str i
theorem de_bl {i : Bool} (h : PE X e (tC (.bl i))) : DE X op e (tC (.bl i)) [] [] true (dC (.bool i)) := de_c h fun _ _ => .bl i
theorem de_non (h : PE X e (tC .non)) : DE X op e (tC .non) [] [] true (dC .none) := de_c h fun _ _ => .non
/-- a value that cannot be of another's -/
def dImm (t : DTE) : DTE := fun ρ Q => t ρ fun d ρ' => imm d = true ∧ Q d ρ'
theorem de_imm {dx tx : List Nat} {q : Bool} {t' : DTE} (h : DE X op e t dx tx q t') : DE X op e t [] [] q (dImm t') := ⟨h.pe, fun c F σ H ρ Q S w R hR => h.sd c F σ H ρ _ S w R fun v H' ⟨d, ρ', F', st, hd, i, z⟩ =>
  hR _ _ ⟨d, ρ', F', st, .inl ((hd.dz (fun a m => mxl m)).any i), z⟩⟩
end
/-! ### operations -/
/-- a rule for two values, told of data -/
def R2S (K : PySem.W.Frag) (r : R2) (r' : D → D → (D → Prop) → Prop) : Prop :=
  ∀ (M N : AS) (H : Hp) (x y : V) (d e : D) (Q : D → Prop), Live M H → (∀ a, N a → M a) → DzT K M N H x d → DzT K M N H y e → r' d e Q → ∀ R : VK, (∀ v H' z, Same H H' → Dz K M H' v z → Q z → R v H') → r x y H R
def R1S (K : PySem.W.Frag) (r : V → Hp → VK → Prop) (r' : D → (D → Prop) → Prop) : Prop :=
  ∀ (M N : AS) (H : Hp) (x : V) (d : D) (Q : D → Prop), Live M H → (∀ a, N a → M a) → DzT K M N H x d → r' d Q → ∀ R : VK, (∀ v H' z, Same H H' → Dz K M H' v z → Q z → R v H') → r x H R
/-- for a call's arguments -/
def RAS (K : PySem.W.Frag) (r : List V → Hp → VK → Prop) (r' : List D → (D → Prop) → Prop) : Prop :=
  ∀ (M : AS) (H : Hp) (xs : List V) (ds : List D) (Q : D → Prop), Live M H → DzA K M H xs ds → r' ds Q → ∀ R : VK, (∀ v H' z, Same H H' → Dz K M H' v z → Q z → R v H') → r xs H R
def dOp (r : D → D → (D → Prop) → Prop) (ta tb : DTE) : DTE := fun ρ Q => ta ρ fun x ρ1 => tb ρ1 fun y ρ2 => r x y fun z => Q z ρ2
def dUn (r : D → (D → Prop) → Prop) (ta : DTE) : DTE := fun ρ Q => ta ρ fun x ρ1 => r x fun z => Q z ρ1
section
variable {K : PySem.W.Frag} {op : Op} {ta tb : TE} {dx1 tx1 dx2 tx2 : List Nat} {q1 q2 : Bool} {ta' tb' : DTE}
theorem sd_op {r : R2} {r' : D → D → (D → Prop) → Prop} (s : R2S K r r') (ha : Sd K op ta dx1 tx1 q1 ta') (hb : Sd K op tb dx2 tx2 q2 tb') (ok : okq dx1 tx1 q2 = true) :
    Sd K op (tOp r ta tb) (dx1 ++ dx2) [] (q1 && q2) (dOp r' ta' tb') := fun c F σ H ρ Q S w R hR => by
  refine ha c F σ H ρ _ S w _ fun x H1 ⟨d, ρ1, F1, st1, hx, w1⟩ => ?_
  refine hb c F1 σ H1 ρ1 _ st1.sim w1 _ fun y H2 ⟨e, ρ2, F2, st2, hy, w2⟩ => ?_
  have hx2 := dzT_move st1.sim st2 ok hx
  have st := st1.trans st2
  refine s (Mx c op F2 (dx1 ++ dx2)) (Mx c op F2 ((dx1 ++ dx2) ++ (tx1 ++ tx2))) H2 x y d e _ st2.sim.liveX (fun a m => mxl m) (hx2.mono (fun a m => mxl m) fun a m => m.less ?_) (hy.mono (fun a m => mxr m) fun a m => m.less ?_) w2 _ fun v H' z s1 hz hq =>
    hR _ _ ⟨z, ρ2, F2, st.then s1, .inl hz, hq⟩
  · intro i h
    simp only [List.mem_append] at h ⊢
    rcases h with h | h
    · exact .inl (.inl h)
    · exact .inr (.inl h)
  · intro i h
    simp only [List.mem_append] at h ⊢
    rcases h with h | h
    · exact .inl (.inr h)
    · exact .inr (.inr h)
theorem sd_un {r : V → Hp → VK → Prop} {r' : D → (D → Prop) → Prop} (s : R1S K r r') (ha : Sd K op ta dx1 tx1 q1 ta') : Sd K op (tUn r ta) dx1 [] q1 (dUn r' ta') := fun c F σ H ρ Q S w R hR => by
  refine ha c F σ H ρ _ S w _ fun x H1 ⟨d, ρ1, F1, st1, hx, w1⟩ => ?_
  exact s (Mx c op F1 dx1) (Mx c op F1 (dx1 ++ tx1)) H1 x d _ st1.sim.liveX (fun a m => mxl m) hx w1 _ fun v H' z s1 hz hq => hR _ _ ⟨z, ρ1, F1, st1.then s1, .inl hz, hq⟩
end
section
variable {X : Cx} {op : Op} {a b e : Expr} {pos : Pos} {ta tb tc : TE} {dx1 tx1 dx2 tx2 dx3 tx3 : List Nat} {q1 q2 q3 : Bool} {ta' tb' tc' : DTE}
theorem de_bin {o : Operator} {r : R2} {r' : D → D → (D → Prop) → Prop} (ho : OpR X (binaryOp o) r) (s : R2S X.K r r') (ha : DE X op a ta dx1 tx1 q1 ta') (hb : DE X op b tb dx2 tx2 q2 tb') (ok : okq dx1 tx1 q2 = true := by rfl) :
    DE X op (.BinOp a o b pos) (tOp r ta tb) (dx1 ++ dx2) [] (q1 && q2) (dOp r' ta' tb') := ⟨pe_op ho ha.pe hb.pe, sd_op s ha.sd hb.sd ok⟩
theorem de_unop {o : UnaryOp} {r : V → Hp → VK → Prop} {r' : D → (D → Prop) → Prop} (ho : UnR X (unaryOp o) r) (s : R1S X.K r r') (ha : DE X op a ta dx1 tx1 q1 ta') : DE X op (.UnaryOp o a pos) (tUn r ta) dx1 [] q1 (dUn r' ta') := ⟨pe_un ho ha.pe, sd_un s ha.sd⟩
theorem de_cmp {o : CmpOp} {r : R2} {r' : D → D → (D → Prop) → Prop} (ho : OpR X (compareOp o) r) (s : R2S X.K r r') (ha : DE X op a ta dx1 tx1 q1 ta') (hb : DE X op b tb dx2 tx2 q2 tb') (hm : behindInMarks o b = false) (ok : okq dx1 tx1 q2 = true := by rfl) :
    DE X op (.Compare a [o] [b] pos) (tOp r ta tb) (dx1 ++ dx2) [] (q1 && q2) (dOp r' ta' tb') := ⟨pe_cmpR ho ha.pe hb.pe hm, sd_op s ha.sd hb.sd ok⟩
end
/-! ### tests -/
def dTest (t : DTE) : DTT := fun ρ Q => t ρ fun x ρ1 => match x with | .bool k => Q k ρ1 | _ => False
def dNot (t : DTT) : DTT := fun ρ Q => t ρ fun k ρ1 => Q (!k) ρ1
def dAnd (t u : DTT) : DTT := fun ρ Q => t ρ fun k ρ1 => Br k (u ρ1 Q) (Q false ρ1)
def dOr (t u : DTT) : DTT := fun ρ Q => t ρ fun k ρ1 => Br k (Q true ρ1) (u ρ1 Q)
def dIf (t : DTT) (a b : DTE) : DTE := fun ρ Q => t ρ fun k ρ1 => Br k (a ρ1 Q) (b ρ1 Q)
/-- a value's truth -/
def dTru : D → (Bool → Prop) → Prop
  | .none, Q => Q false
  | .bool b, Q => Q b
  | .int i, Q => Q (i != 0)
  | .str y, Q => y.length ≤ sizeLine ∧ Q ((y.length : Int) != 0)
  | .list xs, Q => Q (!xs.isEmpty)
  | .tuple xs, Q => Q (!xs.isEmpty)
  | .dict xs, Q => Q (!xs.isEmpty)
  | _, _ => False
def dTruth (t : DTE) : DTT := fun ρ Q => t ρ fun x ρ1 => dTru x fun k => Q k ρ1
section
variable {X : Cx} {op : Op} {a b e : Expr} {pos : Pos} {ta tb tc : TE} {dx1 tx1 dx2 tx2 dx3 tx3 : List Nat} {q q1 q2 q3 : Bool} {ta' tb' tc' : DTE} {u w : TT} {u' w' : DTT}
theorem sdt_test {K : PySem.W.Frag} (ha : Sd K op ta dx1 tx1 q1 ta') : SdT K op (tTest ta) q1 (dTest ta') := fun c F σ H ρ Q S w R hR => by
  refine ha c F σ H ρ _ S w _ fun x H1 ⟨d, ρ1, F1, st1, hx, w1⟩ => ?_
  cases d with
  | bool k => exact ⟨k, hx.bool, hR _ _ ⟨ρ1, F1, st1, w1⟩⟩
  | none => exact w1.elim
  | int i => exact w1.elim
  | str i => exact w1.elim
  | list i => exact w1.elim
  | tuple i => exact w1.elim
  | tdic i => exact w1.elim
  | dict i => exact w1.elim
  | obj _ _ => exact w1.elim
  | exc _ _ => exact w1.elim
  | glo _ => exact w1.elim
  | ty _ => exact w1.elim
  | raw _ => exact w1.elim
theorem dt_val (ha : DE X op e ta dx1 tx1 q1 ta') (he : ∀ whole, PySem.isTrue e X.env whole = (do let v ← whole; standAt e.pos; holding [v] (truthy v)) := by intro _; rfl) : DT X op e (tB ta) q1 (dTest ta') := ⟨pt_val ha.pe he, sdt_test ha.sd⟩
theorem dt_cmp {o : CmpOp} {r : R2} {r' : D → D → (D → Prop) → Prop} (ho : OpR X (compareOp o) r) (s : R2S X.K r r') (ha : DE X op a ta dx1 tx1 q1 ta') (hb : DE X op b tb dx2 tx2 q2 tb') (hm : behindInMarks o b = false) (ok : okq dx1 tx1 q2 = true := by rfl) :
    DT X op (.Compare a [o] [b] pos) (tTest (tOp r ta tb)) (q1 && q2) (dTest (dOp r' ta' tb')) := ⟨pt_cmpR ho ha.pe hb.pe hm, sdt_test (sd_op s ha.sd hb.sd ok)⟩
theorem dt_not (ha : DT X op a u q u') : DT X op (.UnaryOp .Not a pos) (tNot u) q (dNot u') := ⟨pt_not ha.pt, fun c F σ H ρ Q S w R hR => ha.sd c F σ H ρ _ S w _ fun k H1 ⟨ρ1, F1, st1, w1⟩ => hR _ _ ⟨ρ1, F1, st1, w1⟩⟩
theorem tru_of {K : PySem.W.Frag} {M N : AS} {H : Hp} {x : V} {d : D} {Q : Bool → Prop} (h : DzT K M N H x d) (w : dTru d Q) : ∃ k, TruV K x H k ∧ Q k := by
  cases d with
  | none => rw [h.none]; exact ⟨_, rfl, w⟩
  | bool b => rw [h.bool]; exact ⟨_, rfl, w⟩
  | int i => rw [h.int]; exact ⟨_, rfl, w⟩
  | str i => rw [h.str]; exact ⟨_, ⟨w.1, rfl⟩, w.2⟩
  | list ds =>
    obtain ⟨a, xs, rfl, e, hd⟩ := h.list
    refine ⟨_, .inl ⟨xs, SqL.of e, rfl⟩, ?_⟩
    have : xs.isEmpty = ds.isEmpty := by cases hd <;> rfl
    rw [this]; exact w
  | tuple ds =>
    obtain ⟨a, xs, rfl, e, hd⟩ := h.tuple
    refine ⟨_, .inr (.inl ⟨xs, e, rfl⟩), ?_⟩
    have : xs.isEmpty = ds.isEmpty := by cases hd <;> rfl
    rw [this]; exact w
  | tdic ds => exact w.elim
  | dict ds =>
    obtain ⟨a, xs, rfl, e, hd⟩ := h.dict
    refine ⟨_, .inr (.inr ⟨xs, e, rfl⟩), ?_⟩
    have : xs.isEmpty = ds.isEmpty := by cases hd <;> rfl
    rw [this]; exact w
  | obj _ _ => exact w.elim
  | exc _ _ => exact w.elim
  | glo _ => exact w.elim
  | ty _ => exact w.elim
  | raw _ => exact w.elim
theorem dt_truth (ha : DE X op e ta dx1 tx1 q1 ta') (he : ∀ whole, PySem.isTrue e X.env whole = (do let v ← whole; standAt e.pos; holding [v] (truthy v)) := by intro _; rfl) :
    DT X op e (fun σ H Q => ta σ H fun x H' => ∃ k, TruV X.K x H' k ∧ Q k H') q1 (dTruth ta') := ⟨pt_truth ha.pe he, fun c F σ H ρ Q S w R hR => by
  refine ha.sd c F σ H ρ _ S w _ fun x H1 ⟨d, ρ1, F1, st1, hx, w1⟩ => ?_
  obtain ⟨k, z1, z2⟩ := tru_of hx w1
  exact ⟨k, z1, hR _ _ ⟨ρ1, F1, st1, z2⟩⟩⟩
structure DW (X : Cx) (op : Op) (e : Expr) (t : TT) (q : Bool) (t' : DTT) : Prop where
  pw : PW X e t
  sd : SdT X.K op t q t'
variable {rest : List Expr}
theorem DW.pt (h : DW X op e u q u') : DT X op e u q u' := ⟨h.pw.pt, h.sd⟩
theorem dw_and1 (h : DT X op a u q u') : DW X op (.BoolOp .And [a] pos) u q u' := ⟨pw_and1 h.pt, h.sd⟩
theorem dw_or1 (h : DT X op a u q u') : DW X op (.BoolOp .Or [a] pos) u q u' := ⟨pw_or1 h.pt, h.sd⟩
theorem Stp.half {K : PySem.W.Frag} {c : Fx} {F F1 : Nat → AS} {σ : St} {H H1 : Hp} {ρ ρ1 : DEnv} (a : Stp K c op q1 F σ H ρ F1 H1 ρ1) : Stp K c op (q1 && q2) F σ H ρ F1 H1 ρ1 :=
  ⟨a.sim, a.trn, fun h => a.qt (Bool.and_eq_true_iff.mp h).1⟩
theorem dw_and (ha : DT X op a u q1 u') (hb : DW X op (.BoolOp .And (b :: rest) pos) w q2 w') : DW X op (.BoolOp .And (a :: b :: rest) pos) (tAnd u w) (q1 && q2) (dAnd u' w') := ⟨pw_and ha.pt hb.pw, fun c F σ H ρ Q S z R hR => by
  refine ha.sd c F σ H ρ _ S z _ fun k H1 ⟨ρ1, F1, st1, w1⟩ => ?_
  cases k with
  | true => exact hb.sd c F1 σ H1 ρ1 _ st1.sim (w1.t rfl) _ fun k H2 ⟨ρ2, F2, st2, w2⟩ => hR _ _ ⟨ρ2, F2, st1.trans st2, w2⟩
  | false => exact hR _ _ ⟨ρ1, F1, st1.half, w1.f rfl⟩⟩
theorem dw_or (ha : DT X op a u q1 u') (hb : DW X op (.BoolOp .Or (b :: rest) pos) w q2 w') : DW X op (.BoolOp .Or (a :: b :: rest) pos) (tOr u w) (q1 && q2) (dOr u' w') := ⟨pw_or ha.pt hb.pw, fun c F σ H ρ Q S z R hR => by
  refine ha.sd c F σ H ρ _ S z _ fun k H1 ⟨ρ1, F1, st1, w1⟩ => ?_
  cases k with
  | false => exact hb.sd c F1 σ H1 ρ1 _ st1.sim (w1.f rfl) _ fun k H2 ⟨ρ2, F2, st2, w2⟩ => hR _ _ ⟨ρ2, F2, st1.trans st2, w2⟩
  | true => exact hR _ _ ⟨ρ1, F1, st1.half, w1.t rfl⟩⟩
/-! ### values by tests -/
def dAndV (ta tb : DTE) : DTE := fun ρ Q => ta ρ fun x ρ1 => match x with | .bool k => Br k (tb ρ1 Q) (Q (.bool false) ρ1) | _ => False
def dOrV (ta tb : DTE) : DTE := fun ρ Q => ta ρ fun x ρ1 => match x with | .bool k => Br k (Q (.bool true) ρ1) (tb ρ1 Q) | _ => False
def dNotV (ta : DTE) : DTE := fun ρ Q => ta ρ fun x ρ1 => match x with | .bool k => Q (.bool (!k)) ρ1 | _ => False
theorem de_one {o} (h : DE X op a ta dx1 tx1 q1 ta') : DE X op (.BoolOp o [a] pos) ta dx1 tx1 q1 ta' := ⟨pe_one h.pe, h.sd⟩
theorem de_and (ha : DE X op a ta dx1 tx1 q1 ta') (hb : DE X op (.BoolOp .And (b :: rest) pos) tb dx2 tx2 q2 tb') : DE X op (.BoolOp .And (a :: b :: rest) pos) (tAndV ta tb) dx2 tx2 (q1 && q2) (dAndV ta' tb') := ⟨pe_and ha.pe hb.pe, fun c F σ H ρ Q S z R hR => by
  refine ha.sd c F σ H ρ _ S z _ fun x H1 ⟨d, ρ1, F1, st1, hx, w1⟩ => ?_
  cases d with
  | bool k =>
    refine ⟨k, hx.bool, ?_⟩
    cases k with
    | true => exact hb.sd c F1 σ H1 ρ1 _ st1.sim (w1.t rfl) _ fun v H2 ⟨e, ρ2, F2, st2, he, w2⟩ => hR _ _ ⟨e, ρ2, F2, st1.trans st2, he, w2⟩
    | false => exact hR _ _ ⟨_, ρ1, F1, st1.half, .inl (.bl false), w1.f rfl⟩
  | none => exact w1.elim
  | int i => exact w1.elim
  | str i => exact w1.elim
  | list i => exact w1.elim
  | tuple i => exact w1.elim
  | tdic i => exact w1.elim
  | dict i => exact w1.elim
  | obj _ _ => exact w1.elim
  | exc _ _ => exact w1.elim
  | glo _ => exact w1.elim
  | ty _ => exact w1.elim
  | raw _ => exact w1.elim⟩
theorem de_or (ha : DE X op a ta dx1 tx1 q1 ta') (hb : DE X op (.BoolOp .Or (b :: rest) pos) tb dx2 tx2 q2 tb') : DE X op (.BoolOp .Or (a :: b :: rest) pos) (tOrV ta tb) dx2 tx2 (q1 && q2) (dOrV ta' tb') := ⟨pe_or ha.pe hb.pe, fun c F σ H ρ Q S z R hR => by
  refine ha.sd c F σ H ρ _ S z _ fun x H1 ⟨d, ρ1, F1, st1, hx, w1⟩ => ?_
  cases d with
  | bool k =>
    refine ⟨k, hx.bool, ?_⟩
    cases k with
    | false => exact hb.sd c F1 σ H1 ρ1 _ st1.sim (w1.f rfl) _ fun v H2 ⟨e, ρ2, F2, st2, he, w2⟩ => hR _ _ ⟨e, ρ2, F2, st1.trans st2, he, w2⟩
    | true => exact hR _ _ ⟨_, ρ1, F1, st1.half, .inl (.bl true), w1.t rfl⟩
  | none => exact w1.elim
  | int i => exact w1.elim
  | str i => exact w1.elim
  | list i => exact w1.elim
  | tuple i => exact w1.elim
  | tdic i => exact w1.elim
  | dict i => exact w1.elim
  | obj _ _ => exact w1.elim
  | exc _ _ => exact w1.elim
  | glo _ => exact w1.elim
  | ty _ => exact w1.elim
  | raw _ => exact w1.elim⟩
theorem de_not (ha : DE X op a ta dx1 tx1 q1 ta') : DE X op (.UnaryOp .Not a pos) (tNotV ta) [] [] q1 (dNotV ta') := ⟨pe_not ha.pe, fun c F σ H ρ Q S z R hR => by
  refine ha.sd c F σ H ρ _ S z _ fun x H1 ⟨d, ρ1, F1, st1, hx, w1⟩ => ?_
  cases d with
  | bool k => exact ⟨k, hx.bool, hR _ _ ⟨_, ρ1, F1, st1, .inl (.bl _), w1⟩⟩
  | none => exact w1.elim
  | int i => exact w1.elim
  | str i => exact w1.elim
  | list i => exact w1.elim
  | tuple i => exact w1.elim
  | tdic i => exact w1.elim
  | dict i => exact w1.elim
  | obj _ _ => exact w1.elim
  | exc _ _ => exact w1.elim
  | glo _ => exact w1.elim
  | ty _ => exact w1.elim
  | raw _ => exact w1.elim⟩
theorem mx_app {K : PySem.W.Frag} {c : Fx} {F : Nat → AS} {H : Hp} {v : V} {d : D} {dx tx dy ty : List Nat} (h1 : ∀ i, i ∈ dx → i ∈ dy) (h2 : ∀ i, i ∈ dx ++ tx → i ∈ dy ++ ty) (h : DzT K (Mx c op F dx) (Mx c op F (dx ++ tx)) H v d) :
    DzT K (Mx c op F dy) (Mx c op F (dy ++ ty)) H v d := h.mono (fun a m => m.less h1) fun a m => m.less h2
theorem de_ifExp {cnd : Expr} (hc : DT X op cnd u q u') (ha : DE X op a ta dx1 tx1 q1 ta') (hb : DE X op b tb dx2 tx2 q2 tb') : DE X op (.IfExp cnd a b pos) (tIf u ta tb) (dx1 ++ dx2) (tx1 ++ tx2) (q && (q1 && q2)) (dIf u' ta' tb') := ⟨pe_ifExp hc.pt ha.pe hb.pe, fun c F σ H ρ Q S z R hR => by
  refine hc.sd c F σ H ρ _ S z _ fun k H1 ⟨ρ1, F1, st1, w1⟩ => ?_
  cases k with
  | true =>
    refine ha.sd c F1 σ H1 ρ1 _ st1.sim (w1.t rfl) _ fun v H2 ⟨e, ρ2, F2, st2, he, w2⟩ => hR _ _ ⟨e, ρ2, F2, st1.trans st2.half, mx_app ?_ ?_ he, w2⟩ <;> intro i h <;> simp only [List.mem_append] at h ⊢
    · exact .inl h
    · rcases h with h | h
      · exact .inl (.inl h)
      · exact .inr (.inl h)
  | false =>
    have st3 : ∀ {F2 H2 ρ2}, Stp X.K c op q2 F1 σ H1 ρ1 F2 H2 ρ2 → Stp X.K c op (q1 && q2) F1 σ H1 ρ1 F2 H2 ρ2 := fun st2 => ⟨st2.sim, st2.trn, fun h => st2.qt (Bool.and_eq_true_iff.mp h).2⟩
    refine hb.sd c F1 σ H1 ρ1 _ st1.sim (w1.f rfl) _ fun v H2 ⟨e, ρ2, F2, st2, he, w2⟩ => hR _ _ ⟨e, ρ2, F2, st1.trans (st3 st2), mx_app ?_ ?_ he, w2⟩ <;> intro i h <;> simp only [List.mem_append] at h ⊢
    · exact .inr h
    · rcases h with h | h
      · exact .inl (.inr h)
      · exact .inr (.inr h)⟩
/-- a op b op c -/
def dChain (r r' : D → D → (D → Prop) → Prop) (ta tb tc : DTE) : DTE := fun ρ Q => ta ρ fun x ρ1 => tb ρ1 fun y ρ2 => r x y fun z => match z with
  | .bool k => Br k (tc ρ2 fun w ρ3 => r' y w fun z => Q z ρ3) (Q (.bool false) ρ2)
  | _ => False
theorem sd_chain {K : PySem.W.Frag} {r s : R2} {r' s' : D → D → (D → Prop) → Prop} (h1 : R2S K r r') (h2 : R2S K s s') (ha : Sd K op ta [] [] q1 ta') (hb : Sd K op tb [] [] q2 tb') (hc : Sd K op tc [] [] q3 tc') :
    Sd K op (tChain r s ta tb tc) [] [] (q1 && (q2 && q3)) (dChain r' s' ta' tb' tc') := fun c F σ H ρ Q S w R hR => by
  refine ha c F σ H ρ _ S w _ fun x H1 ⟨d, ρ1, F1, st1, hx, w1⟩ => ?_
  refine hb c F1 σ H1 ρ1 _ st1.sim w1 _ fun y H2 ⟨e, ρ2, F2, st2, hy, w2⟩ => ?_
  have hx2 := dzT_move st1.sim st2 rfl hx
  refine h1 (Mt c op F2) (Mt c op F2) H2 x y d e _ st2.sim.live (fun _ m => m) hx2 hy w2 _ fun v H3 z s1 hz hq => ?_
  cases z with
  | bool k =>
    cases hz
    refine ⟨k, rfl, ?_⟩
    cases k with
    | true =>
      refine hc c F2 σ H3 ρ2 _ (st2.then s1).sim (hq.t rfl) _ fun w' H4 ⟨g, ρ4, F4, st4, hw, w4⟩ => ?_
      have hy2 := dzT_move (st2.then s1).sim st4 rfl (hy.same s1 st2.sim.live)
      refine h2 (Mt c op F4) (Mt c op F4) H4 y w' e g _ st4.sim.live (fun _ m => m) hy2 hw w4 _ fun v' H5 z' s2 hz' hq' => ?_
      exact hR _ _ ⟨z', ρ4, F4, st1.trans ((st2.then s1).trans (st4.then s2)), .inl hz', hq'⟩
    | false => exact hR _ _ ⟨_, ρ2, F2, st1.trans (st2.then s1).half, .inl (.bl _), hq.f rfl⟩
  | none => exact hq.elim
  | int i => exact hq.elim
  | str i => exact hq.elim
  | list i => exact hq.elim
  | tuple i => exact hq.elim
  | tdic i => exact hq.elim
  | dict i => exact hq.elim
  | obj _ _ => exact hq.elim
  | exc _ _ => exact hq.elim
  | glo _ => exact hq.elim
  | ty _ => exact hq.elim
  | raw _ => exact hq.elim
theorem de_chain {o o' : CmpOp} {r s : R2} {r' s' : D → D → (D → Prop) → Prop} {cc : Expr} (ho : OpR X (compareOp o) r) (ho' : OpR X (compareOp o') s) (h1 : R2S X.K r r') (h2 : R2S X.K s s') (ha : DE X op a ta [] [] q1 ta') (hb : DE X op b tb [] [] q2 tb') (hc : DE X op cc tc [] [] q3 tc')
    (hm : lastMarks [o, o'] [b, cc] = false := by with_unfolding_all rfl) : DE X op (.Compare a [o, o'] [b, cc] pos) (tChain r s ta tb tc) [] [] (q1 && (q2 && q3)) (dChain r' s' ta' tb' tc') :=
  ⟨pe_chain ho ho' ha.pe hb.pe hc.pe hm, sd_chain h1 h2 ha.sd hb.sd hc.sd⟩
theorem dt_chain {o o' : CmpOp} {r s : R2} {r' s' : D → D → (D → Prop) → Prop} {cc : Expr} (ho : OpR X (compareOp o) r) (ho' : OpR X (compareOp o') s) (h1 : R2S X.K r r') (h2 : R2S X.K s s') (ha : DE X op a ta [] [] q1 ta') (hb : DE X op b tb [] [] q2 tb') (hc : DE X op cc tc [] [] q3 tc')
    (hm : lastMarks [o, o'] [b, cc] = false := by with_unfolding_all rfl) : DT X op (.Compare a [o, o'] [b, cc] pos) (tTest (tChain r s ta tb tc)) (q1 && (q2 && q3)) (dTest (dChain r' s' ta' tb' tc')) :=
  ⟨pt_chain ho ho' ha.pe hb.pe hc.pe hm, sdt_test (sd_chain h1 h2 ha.sd hb.sd hc.sd)⟩
end
/-! ### argument lists, displays -/
def dNil : DTA := fun ρ Q => Q [] ρ
def dCons (ta : DTE) (tr : DTA) : DTA := fun ρ Q => ta ρ fun x ρ1 => tr ρ1 fun xs ρ2 => Q (x :: xs) ρ2
def dLst (t : DTA) : DTE := fun ρ Q => t ρ fun xs ρ1 => xs.length ≤ sizeLine ∧ Q (.list xs) ρ1
def dTup (t : DTA) : DTE := fun ρ Q => t ρ fun xs ρ1 => xs.length ≤ sizeLine ∧ Q (.tuple xs) ρ1
def dCB (r : List D → (D → Prop) → Prop) (t : DTA) : DTE := fun ρ Q => t ρ fun xs ρ1 => r xs fun z => Q z ρ1
section
variable {X : Cx} {op : Op} {e : Expr} {es : List Expr} {pos p : Pos} {ta : TE} {t : TA} {dx1 tx1 dx : List Nat} {q q1 : Bool} {ta' : DTE} {t' : DTA}
theorem da_nil : DA X op [] tNil [] true dNil := ⟨pa_nil, fun c F σ H ρ Q S w R hR => hR _ _ ⟨[], ρ, F, Stp.refl S, .nil, w⟩⟩
theorem da_cons (ha : DE X op e ta dx1 tx1 q1 ta') (hr : DA X op es t dx q t') (hs : starEach (e :: es) X.env = (false, eval e X.env) :: starEach es X.env := by rfl) (ok : okq dx1 tx1 q = true := by rfl) :
    DA X op (e :: es) (tCons ta t) ((dx1 ++ tx1) ++ dx) (q1 && q) (dCons ta' t') := ⟨pa_cons ha.pe hr.pa hs, fun c F σ H ρ Q S w R hR => by
  refine ha.sd c F σ H ρ _ S w _ fun x H1 ⟨d, ρ1, F1, st1, hx, w1⟩ => ?_
  refine hr.sd c F1 σ H1 ρ1 _ st1.sim w1 _ fun vs H2 ⟨ds, ρ2, F2, st2, hv, w2⟩ => ?_
  have hx2 := dzT_move st1.sim st2 ok hx
  exact hR _ _ ⟨_, ρ2, F2, st1.trans st2, .cons ((hx2.dz fun a m => mxl m).mono fun a m => mxl m) (hv.mono fun a m => mxr m), w2⟩⟩
theorem de_lst (h : DA X op es t dx q t') : DE X op (.List es pos) (tLst t) dx [] q (dLst t') := ⟨pe_lst h.pa, fun c F σ H ρ Q S w R hR => by
  refine h.sd c F σ H ρ _ S w _ fun vs H1 ⟨ds, ρ1, F1, st1, hv, hl, w1⟩ => ⟨by rw [hv.len]; exact hl, fun p hp => ?_⟩
  exact hR _ _ ⟨_, ρ1, F1, st1.then (same_mk hp), .inl (Dz.newL st1.sim.liveX hp hv), w1⟩⟩
theorem de_tup {x1} (h : DA X op es t dx q t') : DE X op (.Tuple es x1 pos) (tTup t) dx [] q (dTup t') := ⟨pe_tup h.pa, fun c F σ H ρ Q S w R hR => by
  refine h.sd c F σ H ρ _ S w _ fun vs H1 ⟨ds, ρ1, F1, st1, hv, hl, w1⟩ => ⟨by rw [hv.len]; exact hl, fun p hp => ?_⟩
  exact hR _ _ ⟨_, ρ1, F1, st1.then (same_mk hp), .inl (Dz.newT st1.sim.liveX hp hv), w1⟩⟩
theorem sd_cb {r : List V → Hp → VK → Prop} {r' : List D → (D → Prop) → Prop} (s : RAS X.K r r') (h : SdA X.K op t dx q t') : Sd X.K op (tCB r t) dx [] q (dCB r' t') := fun c F σ H ρ Q S w R hR => by
  refine h c F σ H ρ _ S w _ fun vs H1 ⟨ds, ρ1, F1, st1, hv, w1⟩ => ?_
  exact s _ H1 vs ds _ st1.sim.liveX hv w1 _ fun v H2 z s2 hz q => hR _ _ ⟨z, ρ1, F1, st1.then s2, .inl hz, q⟩
theorem de_callB {x id} {r : List V → Hp → VK → Prop} {r' : List D → (D → Prop) → Prop} (hc : CallR X (.builtin id) r) (s : RAS X.K r r') (hm : X.mg x = none) (ha : DA X op (e :: es) t dx q t') (hg : Gl X x := by rfl) (hv : bootBuiltins x = some (.builtin id) := by decide +kernel) (hn : x ≠ "__name__" := by decide)
    (hdb : (x == ("__debug__" : Str)) = false := by decide) (he : starEach (e :: es) X.env = (false, eval e X.env) :: starEach es X.env := by rfl) (hpl : (backTo pos (starEach es X.env)).any (·.1) = false := by rfl) :
    DE X op (.Call (.Name x p) (e :: es) [] pos) (tCB r t) dx [] q (dCB r' t') := ⟨pe_callB hc hg hm hv ha.pa hn hdb he hpl, sd_cb s ha.sd⟩
theorem de_callT {x T} {r : List V → Hp → VK → Prop} {r' : List D → (D → Prop) → Prop} (hc : CallR X (.type T) r) (s : RAS X.K r r') (hm : X.mg x = none) (ha : DA X op (e :: es) t dx q t') (hg : Gl X x := by rfl) (hv : bootBuiltins x = some (.type T) := by decide +kernel) (hn : x ≠ "__name__" := by decide)
    (hdb : (x == ("__debug__" : Str)) = false := by decide) (he : starEach (e :: es) X.env = (false, eval e X.env) :: starEach es X.env := by rfl) (hpl : (backTo pos (starEach es X.env)).any (·.1) = false := by rfl) :
    DE X op (.Call (.Name x p) (e :: es) [] pos) (tCB r t) dx [] q (dCB r' t') := ⟨pe_callTy hc hg hm hv ha.pa hn hdb he hpl, sd_cb s ha.sd⟩
end
end Vt
namespace Vt
open PySem PySem.Spec L2
variable [WorldC]
/-! ### operators -/
def dAdd : D → D → (D → Prop) → Prop
  | .int i, .int j, Q => Q (.int (i + j))
  | .int i, .bool j, Q => Q (.int (i + PyProof.Rows.b2i j))
  | .str a, .str b, Q => a.length + b.length ≤ sizeLine ∧ Q (.str (a ++ b))
  | .list a, .list b, Q => a.length + b.length ≤ sizeLine ∧ Q (.list (a ++ b))
  | .tuple a, .tuple b, Q => a.length + b.length ≤ sizeLine ∧ Q (.tuple (a ++ b))
  | _, _, _ => False
def rAddX (K : PySem.W.Frag) : R2 := fun x y H Q => (∃ i j, x = .int i ∧ y = .int j ∧ Q (.int (i + j)) H) ∨ (∃ i k, x = .int i ∧ y = .bl k ∧ Q (.int (i + PyProof.Rows.b2i k)) H) ∨
  (∃ i j, x = .str i ∧ y = .str j ∧ i.length + j.length ≤ sizeLine ∧ Q (.str (i ++ j)) H) ∨ rCat x y H Q ∨ rCatA K x y H Q
theorem o_add {X : Cx} : OpR X (binaryOp .Add) (rAddX X.K) := op_add.or (op_add_ib.or (op_add_str.or (op_cat.or op_catA)))
theorem s_add {K : PySem.W.Frag} : R2S K (rAddX K) dAdd := fun M N H x y d e Q l f hx hy w R hR => by
  cases d <;> cases e <;> first | exact w.elim | skip
  case int.int i j => exact .inl ⟨i, j, hx.int, hy.int, hR _ _ _ (Same.refl _) (.int _) w⟩
  case int.bool i j => exact .inr (.inl ⟨i, j, hx.int, hy.bool, hR _ _ _ (Same.refl _) (.int _) w⟩)
  case str.str i j => exact .inr (.inr (.inl ⟨i, j, hx.str, hy.str, w.1, hR _ _ _ (Same.refl _) (.str _) w.2⟩))
  case list.list ds es =>
    obtain ⟨a, xs, rfl, ha, hd⟩ := hx.list
    obtain ⟨b, ys, rfl, hb, he⟩ := hy.list
    refine .inr (.inr (.inr (.inl ⟨a, b, xs, ys, rfl, rfl, ha, hb, by rw [hd.len, he.len]; exact w.1, fun p hp => ?_⟩)))
    exact hR _ _ _ (same_mk hp) (Dz.newL l hp (hd.app he)) w.2
  case tuple.tuple ds es =>
    obtain ⟨a, xs, rfl, ha, hd⟩ := hx.tuple
    obtain ⟨b, ys, rfl, hb, he⟩ := hy.tuple
    refine .inr (.inr (.inr (.inr ⟨a, b, xs, ys, rfl, rfl, ha, hb, by rw [hd.len, he.len]; exact w.1, fun e1 => ?_, fun n1 e1 => ?_, fun n1 n2 p hp => ?_⟩)))
    · subst e1
      cases hd
      exact hR _ _ _ (Same.refl _) (.tup hb he) (by simpa using w.2)
    · subst e1
      cases he
      exact hR _ _ _ (Same.refl _) (.tup ha hd) (by simpa using w.2)
    · exact hR _ _ _ (same_mk hp) (Dz.newT l hp (hd.app he)) w.2
def dInt (g : Int → Int → D) (C : Int → Int → Prop) : D → D → (D → Prop) → Prop
  | .int i, .int j, Q => C i j ∧ Q (g i j)
  | _, _, _ => False
def dInt0 (g : Int → Int → D) : D → D → (D → Prop) → Prop
  | .int i, .int j, Q => Q (g i j)
  | _, _, _ => False
theorem s_int {K : PySem.W.Frag} {C : Int → Int → Prop} {g : Int → Int → V} {g' : Int → Int → D} (hg : ∀ M H i j, Dz K M H (g i j) (g' i j)) : R2S K (rI C g) (dInt g' C) := fun M N H x y d e Q l f hx hy w R hR => by
  cases d <;> cases e <;> first | exact w.elim | skip
  case int.int i j => exact ⟨i, j, hx.int, hy.int, w.1, hR _ _ _ (Same.refl _) (hg _ _ _ _) w.2⟩
theorem s_int0 {K : PySem.W.Frag} {g : Int → Int → V} {g' : Int → Int → D} (hg : ∀ M H i j, Dz K M H (g i j) (g' i j)) : R2S K (rI0 g) (dInt0 g') := fun M N H x y d e Q l f hx hy w R hR => by
  cases d <;> cases e <;> first | exact w.elim | skip
  case int.int i j => exact ⟨i, j, hx.int, hy.int, hR _ _ _ (Same.refl _) (hg _ _ _ _) w⟩
def dSub : D → D → (D → Prop) → Prop
  | .int i, .int j, Q => Q (.int (i - j))
  | _, _, _ => False
def dDiv : D → D → (D → Prop) → Prop
  | .int i, .int j, Q => CDiv i j ∧ Q (.int (i / j))
  | _, _, _ => False
def dDivN : D → D → (D → Prop) → Prop
  | .int i, .int j, Q => CDivN i j ∧ Q (.int (i.fdiv j))
  | _, _, _ => False
def dMod : D → D → (D → Prop) → Prop
  | .int i, .int j, Q => 0 < j ∧ Q (.int (i % j))
  | _, _, _ => False
def dModN : D → D → (D → Prop) → Prop
  | .int i, .int j, Q => j ≠ 0 ∧ Q (.int (i.fmod j))
  | _, _, _ => False
def dPow : D → D → (D → Prop) → Prop
  | .int i, .int j, Q => CPow i j ∧ Q (.int (i ^ j.toNat))
  | _, _, _ => False
def dBand : D → D → (D → Prop) → Prop
  | .int i, .int j, Q => Q (.int (Builtin.bitAnd i j))
  | _, _, _ => False
def dBxor : D → D → (D → Prop) → Prop
  | .int i, .int j, Q => Q (.int (Builtin.bitXor i j))
  | _, _, _ => False
theorem s_sub {K : PySem.W.Frag} : R2S K (rI0 fun i j => .int (i - j)) dSub := fun M N H x y d e Q l f hx hy w R hR => by
  cases d <;> cases e <;> first | exact w.elim | skip
  case int.int i j => exact ⟨i, j, hx.int, hy.int, hR _ _ _ (Same.refl _) (.int _) w⟩
theorem s_div {K : PySem.W.Frag} : R2S K (rI CDiv fun i j => .int (i / j)) dDiv := fun M N H x y d e Q l f hx hy w R hR => by
  cases d <;> cases e <;> first | exact w.elim | skip
  case int.int i j => exact ⟨i, j, hx.int, hy.int, w.1, hR _ _ _ (Same.refl _) (.int _) w.2⟩
theorem s_divN {K : PySem.W.Frag} : R2S K (rI CDivN fun i j => .int (i.fdiv j)) dDivN := fun M N H x y d e Q l f hx hy w R hR => by
  cases d <;> cases e <;> first | exact w.elim | skip
  case int.int i j => exact ⟨i, j, hx.int, hy.int, w.1, hR _ _ _ (Same.refl _) (.int _) w.2⟩
theorem s_mod {K : PySem.W.Frag} : R2S K (rI (fun _ j => 0 < j) fun i j => .int (i % j)) dMod := fun M N H x y d e Q l f hx hy w R hR => by
  cases d <;> cases e <;> first | exact w.elim | skip
  case int.int i j => exact ⟨i, j, hx.int, hy.int, w.1, hR _ _ _ (Same.refl _) (.int _) w.2⟩
theorem s_modN {K : PySem.W.Frag} : R2S K (rI (fun _ j => j ≠ 0) fun i j => .int (i.fmod j)) dModN := fun M N H x y d e Q l f hx hy w R hR => by
  cases d <;> cases e <;> first | exact w.elim | skip
  case int.int i j => exact ⟨i, j, hx.int, hy.int, w.1, hR _ _ _ (Same.refl _) (.int _) w.2⟩
theorem s_pow {K : PySem.W.Frag} : R2S K (rI CPow fun i j => .int (i ^ j.toNat)) dPow := fun M N H x y d e Q l f hx hy w R hR => by
  cases d <;> cases e <;> first | exact w.elim | skip
  case int.int i j => exact ⟨i, j, hx.int, hy.int, w.1, hR _ _ _ (Same.refl _) (.int _) w.2⟩
theorem s_band {K : PySem.W.Frag} : R2S K (rI0 fun i j => .int (Builtin.bitAnd i j)) dBand := fun M N H x y d e Q l f hx hy w R hR => by
  cases d <;> cases e <;> first | exact w.elim | skip
  case int.int i j => exact ⟨i, j, hx.int, hy.int, hR _ _ _ (Same.refl _) (.int _) w⟩
theorem s_bxor {K : PySem.W.Frag} : R2S K (rI0 fun i j => .int (Builtin.bitXor i j)) dBxor := fun M N H x y d e Q l f hx hy w R hR => by
  cases d <;> cases e <;> first | exact w.elim | skip
  case int.int i j => exact ⟨i, j, hx.int, hy.int, hR _ _ _ (Same.refl _) (.int _) w⟩
/-- so many times a list, a text -/
def reps {α : Type} (n : Nat) (xs : List α) : List α := (List.replicate n xs).flatten
def dMul : D → D → (D → Prop) → Prop
  | .int i, .int j, Q => CMul i j ∧ Q (.int (i * j))
  | .list a, .int k, Q => -(2 ^ 63) ≤ k ∧ k < 2 ^ 63 ∧ a.length * k.toNat ≤ sizeLine ∧ Q (.list (reps k.toNat a))
  | _, _, _ => False
theorem DzA.reps {K : PySem.W.Frag} {M : AS} {H : Hp} {xs : List V} {ds : List D} (h : DzA K M H xs ds) : ∀ n, DzA K M H (reps n xs) (reps n ds)
  | 0 => .nil
  | n + 1 => by
    unfold Vt.reps
    rw [List.replicate_succ, List.replicate_succ, List.flatten_cons, List.flatten_cons]
    exact h.app (DzA.reps h n)
/-! ### comparisons -/
/-- what may be held beside another: no dicts, no objects, at most 64 deep -/
def shD (d : D) : Bool := noDic d && SeqAt.shaped (pyD d)
def eqD (d e : D) : Bool := PyData.eqv (pyD d) (pyD e)
def dEqv : D → D → (Bool → Prop) → Prop
  | .int i, .int j, Q => Q (decide (i = j))
  | .str i, .str j, Q => Q (decide (i = j))
  | .bool i, .bool j, Q => Q (decide (i = j))
  | d, e, Q => shD d = true ∧ shD e = true ∧ Q (eqD d e)
def dEq (d e : D) (Q : D → Prop) : Prop := dEqv d e fun b => Q (.bool b)
def dNe (d e : D) (Q : D → Prop) : Prop := dEqv d e fun b => Q (.bool !b)
def rEqX (K : PySem.W.Frag) : R2 := fun x y H Q => rEq x y H Q ∨ rEqD K x y H Q
def rNeX (K : PySem.W.Frag) : R2 := fun x y H Q => rNe x y H Q ∨ rNeD K x y H Q
theorem o_eq {X : Cx} (hu : X.A.units + 64 < cLine) : OpR X (compareOp .Eq) (rEqX X.K) := op_eq.or (op_eqD hu)
theorem o_ne {X : Cx} (hu : X.A.units + 64 < cLine) : OpR X (compareOp .NotEq) (rNeX X.K) := op_ne.or (op_neD hu)
theorem shaped_dp {K : PySem.W.Frag} {M N : AS} {H : Hp} {v : V} {d : D} (h : shD d = true) (f : ∀ a, N a → M a) (hx : DzT K M N H v d) : Dp K H v (pyD d) := hx.dp (Bool.and_eq_true_iff.mp h).1 f
theorem shD_sh {d : D} (h : shD d = true) : SeqAt.shaped (pyD d) = true := (Bool.and_eq_true_iff.mp h).2
theorem dec_int {i j : Int} : decide (V.int i = V.int j) = decide (i = j) := by
  by_cases h : i = j
  · subst h; simp
  · rw [decide_eq_false h, decide_eq_false fun e => h (V.int.inj e)]
theorem dec_str {i j : Str} : decide (V.str i = V.str j) = decide (i = j) := by
  by_cases h : i = j
  · subst h; simp
  · rw [decide_eq_false h, decide_eq_false fun e => h (V.str.inj e)]
theorem dec_bl {i j : Bool} : decide (V.bl i = V.bl j) = decide (i = j) := by
  by_cases h : i = j
  · subst h; simp
  · rw [decide_eq_false h, decide_eq_false fun e => h (V.bl.inj e)]
theorem eqv_shapes {d e : D} {Q : Bool → Prop} (w : dEqv d e Q) : (∃ i j, d = .int i ∧ e = .int j ∧ Q (decide (i = j))) ∨ (∃ i j, d = .str i ∧ e = .str j ∧ Q (decide (i = j))) ∨ (∃ i j, d = .bool i ∧ e = .bool j ∧ Q (decide (i = j))) ∨
    (shD d = true ∧ shD e = true ∧ Q (eqD d e)) := by
  cases d <;> cases e <;> first
    | exact .inr (.inr (.inr w))
    | exact .inl ⟨_, _, rfl, rfl, w⟩
    | exact .inr (.inl ⟨_, _, rfl, rfl, w⟩)
    | exact .inr (.inr (.inl ⟨_, _, rfl, rfl, w⟩))
theorem s_eq {K : PySem.W.Frag} : R2S K (rEqX K) dEq := fun M N H x y d e Q l f hx hy w R hR => by
  rcases eqv_shapes w with ⟨i, j, rfl, rfl, w⟩ | ⟨i, j, rfl, rfl, w⟩ | ⟨i, j, rfl, rfl, w⟩ | ⟨h1, h2, w⟩
  · rw [hx.int, hy.int]
    exact .inl ⟨rfl, by rw [dec_int]; exact hR _ _ _ (Same.refl _) (.bl _) w⟩
  · rw [hx.str, hy.str]
    exact .inl ⟨rfl, by rw [dec_str]; exact hR _ _ _ (Same.refl _) (.bl _) w⟩
  · rw [hx.bool, hy.bool]
    exact .inl ⟨rfl, by rw [dec_bl]; exact hR _ _ _ (Same.refl _) (.bl _) w⟩
  · exact .inr ⟨pyD d, pyD e, shaped_dp h1 f hx, shaped_dp h2 f hy, shD_sh h1, shD_sh h2, hR _ _ _ (Same.refl _) (.bl _) w⟩
theorem s_ne {K : PySem.W.Frag} : R2S K (rNeX K) dNe := fun M N H x y d e Q l f hx hy w R hR => by
  rcases eqv_shapes w with ⟨i, j, rfl, rfl, w⟩ | ⟨i, j, rfl, rfl, w⟩ | ⟨i, j, rfl, rfl, w⟩ | ⟨h1, h2, w⟩
  · rw [hx.int, hy.int]
    exact .inl ⟨rfl, by rw [dec_int]; exact hR _ _ _ (Same.refl _) (.bl _) w⟩
  · rw [hx.str, hy.str]
    exact .inl ⟨rfl, by rw [dec_str]; exact hR _ _ _ (Same.refl _) (.bl _) w⟩
  · rw [hx.bool, hy.bool]
    exact .inl ⟨rfl, by rw [dec_bl]; exact hR _ _ _ (Same.refl _) (.bl _) w⟩
  · exact .inr ⟨pyD d, pyD e, shaped_dp h1 f hx, shaped_dp h2 f hy, shD_sh h1, shD_sh h2, hR _ _ _ (Same.refl _) (.bl _) w⟩
def dOrd (g : Int → Int → Bool) (h : Str → Str → Bool) : D → D → (D → Prop) → Prop
  | .int i, .int j, Q => Q (.bool (g i j))
  | .str i, .str j, Q => Q (.bool (h i j))
  | _, _, _ => False
def rOrd (g : Int → Int → Bool) (h : Str → Str → Bool) : R2 := fun x y H Q => (∃ i j, x = .int i ∧ y = .int j ∧ Q (.bl (g i j)) H) ∨ ∃ i j, x = .str i ∧ y = .str j ∧ Q (.bl (h i j)) H
theorem s_ord {K : PySem.W.Frag} {g : Int → Int → Bool} {h : Str → Str → Bool} : R2S K (rOrd g h) (dOrd g h) := fun M N H x y d e Q l f hx hy w R hR => by
  cases d <;> cases e <;> first | exact w.elim | skip
  case int.int i j => exact .inl ⟨i, j, hx.int, hy.int, hR _ _ _ (Same.refl _) (.bl _) w⟩
  case str.str i j => exact .inr ⟨i, j, hx.str, hy.str, hR _ _ _ (Same.refl _) (.bl _) w⟩
abbrev gLt : Int → Int → Bool := fun i j => decide (i < j)
abbrev gLe : Int → Int → Bool := fun i j => decide (i ≤ j)
abbrev gGt : Int → Int → Bool := fun i j => decide (j < i)
abbrev gGe : Int → Int → Bool := fun i j => decide (j ≤ i)
abbrev zLt : Str → Str → Bool := fun i j => decide (i.cps.toList < j.cps.toList)
abbrev zLe : Str → Str → Bool := fun i j => !decide (j.cps.toList < i.cps.toList)
abbrev zGt : Str → Str → Bool := fun i j => decide (j.cps.toList < i.cps.toList)
abbrev zGe : Str → Str → Bool := fun i j => !decide (i.cps.toList < j.cps.toList)
theorem o_lt {X : Cx} : OpR X (compareOp .Lt) (rOrd gLt zLt) := op_lt.or op_lt_str
theorem o_le {X : Cx} : OpR X (compareOp .LtE) (rOrd gLe zLe) := op_le.or op_le_str
theorem o_gt {X : Cx} : OpR X (compareOp .Gt) (rOrd gGt zGt) := op_gt.or op_gt_str
theorem o_ge {X : Cx} : OpR X (compareOp .GtE) (rOrd gGe zGe) := op_ge.or op_ge_str
/-- is None -/
def isNone : D → (Bool → Prop) → Prop
  | .none, Q => Q true
  | .raw _, _ => False
  | _, Q => Q false
def dIsN (d e : D) (Q : D → Prop) : Prop := e = .none ∧ isNone d fun b => Q (.bool b)
def dNotN (d e : D) (Q : D → Prop) : Prop := e = .none ∧ isNone d fun b => Q (.bool !b)
theorem isNone_ok {K : PySem.W.Frag} {M N : AS} {H : Hp} {x : V} {d : D} {Q : Bool → Prop} (hx : DzT K M N H x d) (w : isNone d Q) : Q (decide (x = .non)) := by
  cases d with
  | none => rw [hx.none]; exact w
  | bool b => rw [hx.bool]; exact w
  | int b => rw [hx.int]; exact w
  | str b => rw [hx.str]; exact w
  | list b => obtain ⟨a, xs, rfl, _⟩ := hx.list; exact w
  | tuple b => obtain ⟨a, xs, rfl, _⟩ := hx.tuple; exact w
  | dict b => obtain ⟨a, xs, rfl, _⟩ := hx.dict; exact w
  | tdic b => obtain ⟨a, xs, rfl, _⟩ := hx.tdic; exact w
  | raw v => exact w.elim
  | obj n b =>
    rcases hx with hx | ⟨_, _, _, _, e, _⟩ | ⟨_, _, _, _, e, _⟩
    · cases hx; exact w
    · cases e
    · cases e
  | exc n b =>
    rcases hx with hx | ⟨_, _, _, _, e, _⟩ | ⟨_, _, _, _, e, _⟩
    · cases hx; exact w
    · cases e
    · cases e
  | glo n =>
    rcases hx with hx | ⟨_, _, _, _, e, _⟩ | ⟨_, _, _, _, e, _⟩
    · cases hx; exact w
    · cases e
    · cases e
  | ty n =>
    rcases hx with hx | ⟨_, _, _, _, e, _⟩ | ⟨_, _, _, _, e, _⟩
    · cases hx; exact w
    · cases e
    · cases e
theorem s_isN {K : PySem.W.Frag} : R2S K (fun x y H Q => y = .non ∧ Q (.bl (decide (x = .non))) H) dIsN := fun M N H x y d e Q l f hx hy w R hR => by
  obtain ⟨rfl, w⟩ := w
  exact ⟨hy.none, hR _ _ (.bool (decide (x = .non))) (Same.refl _) (.bl _) (isNone_ok hx w)⟩
theorem s_notN {K : PySem.W.Frag} : R2S K (fun x y H Q => y = .non ∧ Q (.bl (!decide (x = .non))) H) dNotN := fun M N H x y d e Q l f hx hy w R hR => by
  obtain ⟨rfl, w⟩ := w
  exact ⟨hy.none, hR _ _ (.bool (!decide (x = .non))) (Same.refl _) (.bl _) (isNone_ok hx w)⟩
/-- is, is not of truths -/
def dIsB (d e : D) (Q : D → Prop) : Prop := match d, e with | .bool a, .bool b => Q (.bool (decide (a = b))) | _, _ => False
def dNotB (d e : D) (Q : D → Prop) : Prop := match d, e with | .bool a, .bool b => Q (.bool (!decide (a = b))) | _, _ => False
theorem s_isB {K : PySem.W.Frag} : R2S K rIsB dIsB := fun M N H x y d e Q l f hx hy w R hR => by
  cases d <;> cases e <;> first | exact w.elim | skip
  case bool.bool i j => exact ⟨i, j, hx.bool, hy.bool, hR _ _ _ (Same.refl _) (.bl _) w⟩
theorem s_notB {K : PySem.W.Frag} : R2S K rNotB dNotB := fun M N H x y d e Q l f hx hy w R hR => by
  cases d <;> cases e <;> first | exact w.elim | skip
  case bool.bool i j => exact ⟨i, j, hx.bool, hy.bool, hR _ _ _ (Same.refl _) (.bl _) w⟩
/-! ### in -/
def flatD : D → Bool
  | .none => true
  | .bool _ => true
  | .int _ => true
  | .str _ => true
  | _ => false
/-- x in xs; a sign in a text -/
def dHas : D → D → (Bool → Prop) → Prop
  | d, .list ds, Q => shD d = true ∧ shD (.list ds) = true ∧ Q (ds.any fun z => eqD z d)
  | d, .tuple ds, Q => flatD d = true ∧ ds.all flatD = true ∧ Q (ds.any fun z => eqD z d)
  | .str x, .str z, Q => (∃ c, x = ⟨#[c]⟩ ∧ Q (decide (c ∈ z.cps.toList))) ∨ Q (!(Builtin.Str.occurrences z x 0 z.length 1).isEmpty)
  | _, _, _ => False
def dIn (d e : D) (Q : D → Prop) : Prop := dHas d e fun b => Q (.bool b)
def dNotIn (d e : D) (Q : D → Prop) : Prop := dHas d e fun b => Q (.bool !b)
def rInX (K : PySem.W.Frag) : R2 := fun x y H Q => rInD K x y H Q ∨ rIn K false x y H Q ∨ (∃ (c : Nat) (z : Str), x = .str ⟨#[c]⟩ ∧ y = .str z ∧ Q (.bl (decide (c ∈ z.cps.toList))) H) ∨
  ∃ i j, x = .str i ∧ y = .str j ∧ Q (.bl (!(Builtin.Str.occurrences j i 0 j.length 1).isEmpty)) H
def rNotInX (K : PySem.W.Frag) : R2 := fun x y H Q => rNotInD K x y H Q ∨ rIn K true x y H Q ∨ (∃ (c : Nat) (z : Str), x = .str ⟨#[c]⟩ ∧ y = .str z ∧ Q (.bl (!decide (c ∈ z.cps.toList))) H) ∨
  ∃ i j, x = .str i ∧ y = .str j ∧ Q (.bl (!(!(Builtin.Str.occurrences j i 0 j.length 1).isEmpty))) H
theorem o_in {X : Cx} (hu : X.A.units + 65 < cLine) : OpR X (compareOp .In) (rInX X.K) := (op_inD hu).or (op_in_seq.or (op_in_sign.or op_in_str))
theorem o_notIn {X : Cx} (hu : X.A.units + 65 < cLine) : OpR X (compareOp .NotIn) (rNotInX X.K) := (op_notInD hu).or (op_notIn_seq.or (op_notIn_sign.or op_notin_str))
theorem flat_v {K : PySem.W.Frag} {M : AS} {H : Hp} {v : V} {d : D} (i : flatD d = true) (h : Dz K M H v d) : flatV v = true := by
  cases d <;> first | (cases i; done) | (cases h; rfl)
theorem flat_eqv {K : PySem.W.Frag} {M M' : AS} {H : Hp} {v w : V} {d e : D} (i : flatD d = true) (j : flatD e = true) (h : Dz K M H v d) (g : Dz K M' H w e) : eqV v w = eqD d e := by
  cases d <;> first | (cases i; done) | (cases e <;> first | (cases j; done) | (cases h; cases g; simp [eqV, eqD, pyD, PyData.eqv]))
theorem flat_all {K : PySem.W.Frag} {M : AS} {H : Hp} : ∀ {ds : List D} {vs : List V}, ds.all flatD = true → DzA K M H vs ds → vs.all flatV = true
  | [], _, _, h => by cases h; rfl
  | _ :: _, _, i, h => by
    rw [List.all_cons] at i
    obtain ⟨i1, i2⟩ := Bool.and_eq_true_iff.mp i
    cases h with
    | cons h t => rw [List.all_cons, flat_v i1 h, flat_all i2 t]; rfl
theorem flat_any {K : PySem.W.Frag} {M M' : AS} {H : Hp} {w : V} {e : D} (j : flatD e = true) (g : Dz K M' H w e) : ∀ {ds : List D} {vs : List V}, ds.all flatD = true → DzA K M H vs ds → inV w vs = ds.any fun z => eqD z e
  | [], _, _, h => by cases h; rfl
  | _ :: _, _, i, h => by
    rw [List.all_cons] at i
    obtain ⟨i1, i2⟩ := Bool.and_eq_true_iff.mp i
    cases h with
    | cons h t =>
      have ih := flat_any j g i2 t
      unfold inV at ih ⊢
      rw [List.any_cons, List.any_cons, flat_eqv i1 j h g, ih]
theorem any_py (d : D) : ∀ ds : List D, (pyA ds).any (fun z => PyData.eqv z (pyD d)) = ds.any fun z => eqD z d
  | [] => by unfold pyA; rfl
  | e :: ds => by
    unfold pyA
    rw [List.any_cons, List.any_cons, any_py d ds]
    rfl
theorem has_cases {K : PySem.W.Frag} {M N : AS} {H : Hp} {x y : V} {d e : D} {Q : Bool → Prop} (f : ∀ a, N a → M a) (hx : DzT K M N H x d) (hy : DzT K M N H y e) (w : dHas d e Q) :
    (∃ d ds, Dp K H x d ∧ Dp K H y (.list ds) ∧ SeqAt.shaped d = true ∧ SeqAt.shaped (.list ds) = true ∧ Q (ds.any fun z => PyData.eqv z d)) ∨ (∃ p xs, y = .ref p ∧ SqT K H p xs ∧ flatV x = true ∧ xs.all flatV = true ∧ Q (inV x xs)) ∨
    (∃ (c : Nat) (z : Str), x = .str ⟨#[c]⟩ ∧ y = .str z ∧ Q (decide (c ∈ z.cps.toList))) ∨ ∃ i j, x = .str i ∧ y = .str j ∧ Q (!(Builtin.Str.occurrences j i 0 j.length 1).isEmpty) := by
  cases e with
  | list ds =>
    have w : shD d = true ∧ shD (.list ds) = true ∧ Q (ds.any fun z => eqD z d) := by cases d <;> exact w
    have z := shaped_dp w.2.1 f hy
    have z2 := shD_sh w.2.1
    rw [show pyD (.list ds) = .list (pyA ds) by unfold pyD; rfl] at z z2
    refine .inl ⟨pyD d, pyA ds, shaped_dp w.1 f hx, z, shD_sh w.1, z2, ?_⟩
    rw [any_py]
    exact w.2.2
  | tuple ds =>
    have w : flatD d = true ∧ ds.all flatD = true ∧ Q (ds.any fun z => eqD z d) := by cases d <;> exact w
    obtain ⟨p, xs, rfl, e, h⟩ := hy.tuple
    exact .inr (.inl ⟨p, xs, rfl, e, flat_v w.1 (hx.dz f), flat_all w.2.1 h, by rw [flat_any w.1 (hx.dz f) w.2.1 h]; exact w.2.2⟩)
  | str z =>
    cases d with
    | str x' =>
      rcases w with ⟨c, rfl, w⟩ | w
      · exact .inr (.inr (.inl ⟨c, z, hx.str, hy.str, w⟩))
      · exact .inr (.inr (.inr ⟨x', z, hx.str, hy.str, w⟩))
    | _ => exact w.elim
  | none => cases d <;> exact w.elim
  | bool _ => cases d <;> exact w.elim
  | int _ => cases d <;> exact w.elim
  | dict _ => cases d <;> exact w.elim
  | tdic _ => cases d <;> exact w.elim
  | obj _ _ => cases d <;> exact w.elim
  | exc _ _ => cases d <;> exact w.elim
  | glo _ => cases d <;> exact w.elim
  | ty _ => cases d <;> exact w.elim
  | raw _ => cases d <;> exact w.elim
theorem s_in {K : PySem.W.Frag} : R2S K (rInX K) dIn := fun M N H x y d e Q l f hx hy w R hR => by
  rcases has_cases f hx hy w with ⟨d, ds, h1, h2, h3, h4, w⟩ | ⟨p, xs, rfl, e, h1, h2, w⟩ | ⟨c, z, h1, h2, w⟩ | ⟨i, j, h1, h2, w⟩
  · exact .inl ⟨d, ds, h1, h2, h3, h4, hR _ _ _ (Same.refl _) (.bl _) w⟩
  · exact .inr (.inl ⟨p, xs, rfl, .inr e, h1, h2, hR _ _ _ (Same.refl _) (.bl _) w⟩)
  · exact .inr (.inr (.inl ⟨c, z, h1, h2, hR _ _ _ (Same.refl _) (.bl _) w⟩))
  · exact .inr (.inr (.inr ⟨i, j, h1, h2, hR _ _ _ (Same.refl _) (.bl _) w⟩))
theorem s_notIn {K : PySem.W.Frag} : R2S K (rNotInX K) dNotIn := fun M N H x y d e Q l f hx hy w R hR => by
  rcases has_cases f hx hy w with ⟨d, ds, h1, h2, h3, h4, w⟩ | ⟨p, xs, rfl, e, h1, h2, w⟩ | ⟨c, z, h1, h2, w⟩ | ⟨i, j, h1, h2, w⟩
  · exact .inl ⟨d, ds, h1, h2, h3, h4, hR _ _ _ (Same.refl _) (.bl _) w⟩
  · exact .inr (.inl ⟨p, xs, rfl, .inr e, h1, h2, hR _ _ _ (Same.refl _) (.bl _) w⟩)
  · exact .inr (.inr (.inl ⟨c, z, h1, h2, hR _ _ _ (Same.refl _) (.bl _) w⟩))
  · exact .inr (.inr (.inr ⟨i, j, h1, h2, hR _ _ _ (Same.refl _) (.bl _) w⟩))
/-! ### one place -/
def dNeg : D → (D → Prop) → Prop
  | .int i, Q => Q (.int (-i))
  | _, _ => False
theorem s_neg {K : PySem.W.Frag} : R1S K (rU fun i => .int (-i)) dNeg := fun M N H x d Q l f hx w R hR => by
  cases d <;> first | exact w.elim | skip
  case int i => exact ⟨i, hx.int, hR _ _ _ (Same.refl _) (.int _) w⟩
/-! ### places, slices -/
def dIx : D → D → (D → Prop) → Prop
  | .list ds, .int i, Q => Opt (atI ds i) Q
  | .tuple ds, .int i, Q => Opt (atI ds i) Q
  | .str z, .int i, Q => z.length ≤ sizeLine ∧ Opt (atI z.cps.toList i) fun c => Q (.str ⟨#[c]⟩)
  | _, _, _ => False
theorem DzA.atI {K : PySem.W.Frag} {M : AS} {H : Hp} {vs : List V} {ds : List D} {i : Int} {d : D} (h : DzA K M H vs ds) (e : atI ds i = some d) : ∃ v, atI vs i = some v ∧ Dz K M H v d := by
  unfold L2.atI at e ⊢
  rw [h.len]
  cases q : ixN ds.length i with
  | none => rw [q] at e; cases e
  | some j =>
    rw [q] at e
    exact h.get e
theorem s_ix {K : PySem.W.Frag} : R2S K (rIx K) dIx := fun M N H x y d e Q l f hx hy w R hR => by
  cases d <;> cases e <;> first | exact w.elim | skip
  case list.int ds i =>
    obtain ⟨a, xs, rfl, ha, hd⟩ := hx.list
    obtain ⟨d, e, w⟩ := w.ex
    obtain ⟨v, e2, hv⟩ := hd.atI e
    exact .inl ⟨a, xs, i, v, rfl, hy.int, SqL.of ha, e2, hR _ _ _ (Same.refl _) hv w⟩
  case tuple.int ds i =>
    obtain ⟨a, xs, rfl, ha, hd⟩ := hx.tuple
    obtain ⟨d, e, w⟩ := w.ex
    obtain ⟨v, e2, hv⟩ := hd.atI e
    exact .inr (.inl ⟨a, xs, i, v, rfl, hy.int, ha, e2, hR _ _ _ (Same.refl _) hv w⟩)
  case str.int z i =>
    obtain ⟨hz, w⟩ := w
    obtain ⟨c, e, w⟩ := w.ex
    exact .inr (.inr ⟨z, i, c, hx.str, hy.int, hz, e, hR _ _ _ (Same.refl _) (.str _) w⟩)
def cutG {α : Type} (xs : List α) (lo hi : Option Int) : List α := (xs.drop (HT.sIx xs.length 0 lo)).take (HT.sIx xs.length xs.length hi - HT.sIx xs.length 0 lo)
theorem DzA.cut {K : PySem.W.Frag} {M : AS} {H : Hp} {vs : List V} {ds : List D} (lo hi : Option Int) (h : DzA K M H vs ds) : DzA K M H (cutV vs lo hi) (cutG ds lo hi) := by
  unfold cutV cutG
  rw [h.len]
  exact (h.drop _).take _
theorem cutG_all {α : Type} {xs : List α} {lo hi : Option Int} (h : HT.sIx xs.length 0 lo = 0 ∧ HT.sIx xs.length xs.length hi = xs.length) : cutG xs lo hi = xs := by
  unfold cutG
  rw [h.1, h.2]
  simp
def dSl : D → Option Int → Option Int → (D → Prop) → Prop
  | .list ds, lo, hi, Q => Q (.list (cutG ds lo hi))
  | .tuple ds, lo, hi, Q => Q (.tuple (cutG ds lo hi))
  | .str z, lo, hi, Q => z.length ≤ sizeLine ∧ Q (.str (cutS z lo hi))
  | _, _, _, _ => False
def rSlX (K : PySem.W.Frag) : V → Option Int → Option Int → Hp → VK → Prop := fun x lo hi H Q => rSlL K x lo hi H Q ∨ rSlA K x lo hi H Q ∨ rSlS x lo hi H Q
theorem sl_x {X : Cx} : SlR X (rSlX X.K) := sl_list.or (sl_tupA.or sl_str)
theorem s_sl {K : PySem.W.Frag} {M N : AS} {H : Hp} {x : V} {d : D} {lo hi : Option Int} {Q : D → Prop} (l : Live M H) (f : ∀ a, N a → M a) (hx : DzT K M N H x d) (w : dSl d lo hi Q) (R : VK) (hR : ∀ v H' z, Same H H' → Dz K M H' v z → Q z → R v H') : rSlX K x lo hi H R := by
  cases d <;> first | exact w.elim | skip
  case list ds =>
    obtain ⟨a, xs, rfl, ha, hd⟩ := hx.list
    exact .inl ⟨a, xs, rfl, SqL.of ha, fun p hp => hR _ _ _ (same_mk hp) (Dz.newL l hp (hd.cut lo hi)) w⟩
  case tuple ds =>
    obtain ⟨a, xs, rfl, ha, hd⟩ := hx.tuple
    refine .inr (.inl ⟨a, xs, rfl, ha, fun h => ?_, fun h p hp => ?_⟩)
    · have e : cutG ds lo hi = ds := cutG_all (by rw [← hd.len]; exact h)
      rw [show dSl (.tuple ds) lo hi Q = Q (.tuple (cutG ds lo hi)) from rfl, e] at w
      exact hR _ _ _ (Same.refl _) (.tup ha hd) w
    · exact hR _ _ _ (same_mk hp) (Dz.newT l hp (hd.cut lo hi)) w
  case str z => exact .inr (.inr ⟨z, hx.str, w.1, hR _ _ _ (Same.refl _) (.str _) w.2⟩)
abbrev DTO := DEnv → (Option Int → DEnv → Prop) → Prop
def dNoPart : DTO := fun ρ Q => Q none ρ
def dPart (t : DTE) : DTO := fun ρ Q => t ρ fun d ρ1 => match d with | .int i => Q (some i) ρ1 | _ => False
def dSlice (te : DTE) (tl th : DTO) : DTE := fun ρ Q => te ρ fun x ρ1 => tl ρ1 fun l ρ2 => th ρ2 fun u ρ3 => dSl x l u fun z => Q z ρ3
structure DO (X : Cx) (op : Op) (e : Option Expr) (t : TO) (q : Bool) (t' : DTO) : Prop where
  po : PO X e t
  sd : ∀ (c : Fx) (F : Nat → AS) (σ : St) (H : Hp) (ρ : DEnv) (Q : Option Int → DEnv → Prop), Sim X.K c op F σ H ρ → t' ρ Q → ∀ R : Option Int → Hp → Prop, (∀ v H', (∃ ρ' F', Stp X.K c op q F σ H ρ F' H' ρ' ∧ Q v ρ') → R v H') → t σ H R
section
variable {X : Cx} {op : Op} {e : Expr} {pos p2 : Pos} {ta : TE} {dx tx : List Nat} {q q1 q2 : Bool} {ta' : DTE} {lo hi : Option Expr} {tl th : TO} {tl' th' : DTO}
theorem do_none : DO X op none tNoPart true dNoPart := ⟨po_none, fun c F σ H ρ Q S w R hR => hR _ _ ⟨ρ, F, Stp.refl S, w⟩⟩
theorem do_some (h : DE X op e ta dx tx q ta') : DO X op (some e) (tPart ta) q (dPart ta') := ⟨po_some h.pe, fun c F σ H ρ Q S w R hR => by
  refine h.sd c F σ H ρ _ S w _ fun x H1 ⟨d, ρ1, F1, st1, hx, w1⟩ => ?_
  cases d <;> first | exact w1.elim | skip
  case int i => exact ⟨i, hx.int, hR _ _ ⟨ρ1, F1, st1, w1⟩⟩⟩
theorem de_slice (he : DE X op e ta dx tx q ta') (hl : DO X op lo tl q1 tl') (hh : DO X op hi th q2 th') (ok : okq dx tx (q1 && q2) = true := by rfl) :
    DE X op (.Subscript e (.Slice lo hi none p2) pos) (tSl (rSlX X.K) ta tl th) dx [] (q && (q1 && q2)) (dSlice ta' tl' th') := ⟨pe_slice sl_x he.pe hl.po hh.po, fun c F σ H ρ Q S w R hR => by
  refine he.sd c F σ H ρ _ S w _ fun x H1 ⟨d, ρ1, F1, st1, hx, w1⟩ => ?_
  refine hl.sd c F1 σ H1 ρ1 _ st1.sim w1 _ fun l H2 ⟨ρ2, F2, st2, w2⟩ => ?_
  refine hh.sd c F2 σ H2 ρ2 _ st2.sim w2 _ fun u H3 ⟨ρ3, F3, st3, w3⟩ => ?_
  have hx3 := dzT_move st1.sim (st2.trans st3) ok hx
  exact s_sl st3.sim.liveX (fun a m => mxl m) hx3 w3 _ fun v H4 z s hz hq => hR _ _ ⟨z, ρ3, F3, st1.trans ((st2.trans st3).then s), .inl hz, hq⟩⟩
theorem de_ix {i : Expr} {tb : TE} {dx2 tx2 : List Nat} {tb' : DTE} (ha : DE X op e ta dx tx q ta') (hb : DE X op i tb dx2 tx2 q2 tb') (hs : PlainIx i := by exact fun _ _ => rfl) (ok : okq dx tx q2 = true := by rfl) :
    DE X op (.Subscript e i pos) (tOp (rIx X.K) ta tb) (dx ++ dx2) [] (q && q2) (dOp dIx ta' tb') := ⟨pe_ix ix_seq ha.pe hb.pe hs, sd_op s_ix ha.sd hb.sd ok⟩
/-- x[::-1] of a list -/
def dRev (t : DTE) : DTE := fun ρ Q => t ρ fun d ρ1 => match d with | .list ds => Q (.list ds.reverse) ρ1 | _ => False
theorem de_rev {k : Nat} {p1 p3 : Pos} (he : DE X op e ta dx tx q ta') : DE X op (.Subscript e (.Slice none none (some (.UnaryOp .USub (.Constant (.int 1) k p1) p2)) p3) pos) (tRevL X.K ta) dx [] q (dRev ta') := ⟨pe_revL he.pe, fun c F σ H ρ Q S w R hR => by
  refine he.sd c F σ H ρ _ S w _ fun x H1 ⟨d, ρ1, F1, st1, hx, w1⟩ => ?_
  cases d <;> first | exact w1.elim | skip
  case list ds =>
    obtain ⟨a, xs, rfl, ha, hd⟩ := hx.list
    exact ⟨a, xs, rfl, SqL.of ha, fun p hp => hR _ _ ⟨_, ρ1, F1, st1.then (same_mk hp), .inl (Dz.newL st1.sim.liveX hp hd.rev), w1⟩⟩⟩
end
/-! ### built-ins of one thing -/
def RBS (K : PySem.W.Frag) (r : List V → Hp → VK → Prop) (r' : D → (D → Prop) → Prop) : Prop := R1S K (fun x => r [x]) r'
section
variable {X : Cx} {op : Op} {e : Expr} {pos p : Pos} {ta : TE} {dx tx : List Nat} {q : Bool} {ta' : DTE}
theorem sd_cb1 {r : List V → Hp → VK → Prop} {r' : D → (D → Prop) → Prop} (s : RBS X.K r r') (h : Sd X.K op ta dx tx q ta') : Sd X.K op (tCB r (tCons ta tNil)) dx [] q (dUn r' ta') := fun c F σ H ρ Q S w R hR => by
  refine h c F σ H ρ _ S w _ fun x H1 ⟨d, ρ1, F1, st1, hx, w1⟩ => ?_
  exact s (Mx c op F1 dx) (Mx c op F1 (dx ++ tx)) H1 x d _ st1.sim.liveX (fun a m => mxl m) hx w1 _ fun v H' z s1 hz hq => hR _ _ ⟨z, ρ1, F1, st1.then s1, .inl hz, hq⟩
theorem de_b1 {x id} {r : List V → Hp → VK → Prop} {r' : D → (D → Prop) → Prop} (hc : CallR X (.builtin id) r) (s : RBS X.K r r') (hm : X.mg x = none) (ha : DE X op e ta dx tx q ta') (hg : Gl X x := by rfl) (hv : bootBuiltins x = some (.builtin id) := by decide +kernel) (hn : x ≠ "__name__" := by decide)
    (hdb : (x == ("__debug__" : Str)) = false := by decide) (he : starEach [e] X.env = (false, eval e X.env) :: starEach [] X.env := by rfl) (hpl : (backTo pos (starEach [] X.env)).any (·.1) = false := by rfl) :
    DE X op (.Call (.Name x p) [e] [] pos) (tCB r (tCons ta tNil)) dx [] q (dUn r' ta') := ⟨pe_callB hc hg hm hv (pa_cons ha.pe pa_nil he) hn hdb he hpl, sd_cb1 s ha.sd⟩
theorem de_t1 {x T} {r : List V → Hp → VK → Prop} {r' : D → (D → Prop) → Prop} (hc : CallR X (.type T) r) (s : RBS X.K r r') (hm : X.mg x = none) (ha : DE X op e ta dx tx q ta') (hg : Gl X x := by rfl) (hv : bootBuiltins x = some (.type T) := by decide +kernel) (hn : x ≠ "__name__" := by decide)
    (hdb : (x == ("__debug__" : Str)) = false := by decide) (he : starEach [e] X.env = (false, eval e X.env) :: starEach [] X.env := by rfl) (hpl : (backTo pos (starEach [] X.env)).any (·.1) = false := by rfl) :
    DE X op (.Call (.Name x p) [e] [] pos) (tCB r (tCons ta tNil)) dx [] q (dUn r' ta') := ⟨pe_callTy hc hg hm hv (pa_cons ha.pe pa_nil he) hn hdb he hpl, sd_cb1 s ha.sd⟩
end
section
variable {X : Cx} {K : PySem.W.Frag}
theorem CallR.or {f : Value} {r r' : List V → Hp → VK → Prop} (h : CallR X f r) (h' : CallR X f r') : CallR X f (fun x H Q => r x H Q ∨ r' x H Q) := by
  intro pins s σ H xs us Q I rx q
  rcases q with q | q
  · exact h pins s σ H xs us Q I rx q
  · exact h' pins s σ H xs us Q I rx q
def dLen : D → (D → Prop) → Prop
  | .list ds, Q => Q (.int ds.length)
  | .tuple ds, Q => Q (.int ds.length)
  | .str z, Q => z.length ≤ sizeLine ∧ Q (.int z.length)
  | _, _ => False
def rLenX (K : PySem.W.Frag) : List V → Hp → VK → Prop := fun xs H Q => (∃ p ys, xs = [.ref p] ∧ (SqL K H p ys ∨ SqT K H p ys) ∧ Q (.int ys.length) H) ∨ ∃ z, xs = [.str z] ∧ z.length ≤ sizeLine ∧ Q (.int z.length) H
theorem c_len : CallR X (.builtin "len") (rLenX X.K) := CallR.or call_len_seq call_len_str
theorem s_len : RBS K (rLenX K) dLen := fun M N H x d Q l f hx w R hR => by
  cases d <;> first | exact w.elim | skip
  case list ds =>
    obtain ⟨a, xs, rfl, ha, hd⟩ := hx.list
    exact .inl ⟨a, xs, rfl, .inl (SqL.of ha), hR _ _ _ (Same.refl _) (.int _) (by rw [hd.len]; exact w)⟩
  case tuple ds =>
    obtain ⟨a, xs, rfl, ha, hd⟩ := hx.tuple
    exact .inl ⟨a, xs, rfl, .inr ha, hR _ _ _ (Same.refl _) (.int _) (by rw [hd.len]; exact w)⟩
  case str z =>
    rw [hx.str]
    exact .inr ⟨z, rfl, w.1, hR _ _ _ (Same.refl _) (.int _) w.2⟩
def dList : D → (D → Prop) → Prop
  | .list ds, Q => Q (.list ds)
  | .tuple ds, Q => Q (.list ds)
  | _, _ => False
def rListX (K : PySem.W.Frag) : List V → Hp → VK → Prop := fun xs H Q => ∃ p ys, xs = [.ref p] ∧ (SqL K H p ys ∨ SqT K H p ys) ∧ ∀ l, H l = none → Q (.ref l) (upd H l (.lst ys))
theorem c_list : CallR X (.type "list") (rListX X.K) := call_list_of
theorem s_list : RBS K (rListX K) dList := fun M N H x d Q l f hx w R hR => by
  cases d <;> first | exact w.elim | skip
  case list ds =>
    obtain ⟨a, xs, rfl, ha, hd⟩ := hx.list
    exact ⟨a, xs, rfl, .inl (SqL.of ha), fun p hp => hR _ _ _ (same_mk hp) (Dz.newL l hp hd) w⟩
  case tuple ds =>
    obtain ⟨a, xs, rfl, ha, hd⟩ := hx.tuple
    exact ⟨a, xs, rfl, .inr ha, fun p hp => hR _ _ _ (same_mk hp) (Dz.newL l hp hd) w⟩
def dTuple : D → (D → Prop) → Prop
  | .list ds, Q => Q (.tuple ds)
  | .tuple ds, Q => Q (.tuple ds)
  | _, _ => False
def rTupX (K : PySem.W.Frag) : List V → Hp → VK → Prop := fun xs H Q => ∃ p ys, xs = [.ref p] ∧ ((SqL K H p ys ∧ ∀ l, H l = none → Q (.ref l) (upd H l (.tup ys))) ∨ (SqT K H p ys ∧ Q (.ref p) H))
theorem c_tuple : CallR X (.type "tuple") (rTupX X.K) := call_tuple_of
theorem s_tuple : RBS K (rTupX K) dTuple := fun M N H x d Q l f hx w R hR => by
  cases d <;> first | exact w.elim | skip
  case list ds =>
    obtain ⟨a, xs, rfl, ha, hd⟩ := hx.list
    exact ⟨a, xs, rfl, .inl ⟨SqL.of ha, fun p hp => hR _ _ _ (same_mk hp) (Dz.newT l hp hd) w⟩⟩
  case tuple ds =>
    obtain ⟨a, xs, rfl, ha, hd⟩ := hx.tuple
    exact ⟨a, xs, rfl, .inr ⟨ha, hR _ _ _ (Same.refl _) (.tup ha hd) w⟩⟩
def dIntOf : D → (D → Prop) → Prop
  | .int i, Q => Q (.int i)
  | .bool k, Q => Q (.int (if k then 1 else 0))
  | .str a, Q => ∃ n, PySem.intText? a = some n ∧ a.length ≤ 640 ∧ Q (.int n)
  | _, _ => False
def rIntX : List V → Hp → VK → Prop := fun xs H Q => ((∃ i, xs = [.int i] ∧ Q (.int i) H) ∨ ∃ k, xs = [.bl k] ∧ Q (.int (if k then 1 else 0)) H) ∨ ∃ a n, xs = [.str a] ∧ PySem.intText? a = some n ∧ a.length ≤ 640 ∧ Q (.int n) H
theorem c_int : CallR X (.type "int") rIntX := CallR.or call_int1 call_int_str
theorem s_intOf : RBS K rIntX dIntOf := fun M N H x d Q l f hx w R hR => by
  cases d <;> first | exact w.elim | skip
  case int i => rw [hx.int]; exact .inl (.inl ⟨i, rfl, hR _ _ _ (Same.refl _) (.int _) w⟩)
  case bool i => rw [hx.bool]; exact .inl (.inr ⟨i, rfl, hR _ _ _ (Same.refl _) (.int _) w⟩)
  case str i =>
    obtain ⟨n, e, h, w⟩ := w
    rw [hx.str]
    exact .inr ⟨i, n, rfl, e, h, hR _ _ _ (Same.refl _) (.int _) w⟩
def dStrOf : D → (D → Prop) → Prop
  | .int i, Q => i.natAbs.log2 < 1920 ∧ Q (.str (toString i))
  | .str a, Q => Q (.str a)
  | _, _ => False
def rStrX : List V → Hp → VK → Prop := fun xs H Q => (∃ i, xs = [.int i] ∧ i.natAbs.log2 < 1920 ∧ Q (.str (toString i)) H) ∨ ∃ a, xs = [.str a] ∧ Q (.str a) H
theorem c_str : CallR X (.type "str") rStrX := CallR.or call_str_int SkE.call_str_str
theorem s_strOf : RBS K rStrX dStrOf := fun M N H x d Q l f hx w R hR => by
  cases d <;> first | exact w.elim | skip
  case int i => rw [hx.int]; exact .inl ⟨i, rfl, w.1, hR _ _ _ (Same.refl _) (.str _) w.2⟩
  case str i => rw [hx.str]; exact .inr ⟨i, rfl, hR _ _ _ (Same.refl _) (.str _) w⟩
def dAbs : D → (D → Prop) → Prop
  | .int i, Q => Q (.int (if i < 0 then -i else i))
  | _, _ => False
theorem s_abs : RBS K (fun xs H Q => ∃ i, xs = [.int i] ∧ Q (.int (if i < 0 then -i else i)) H) dAbs := fun M N H x d Q l f hx w R hR => by
  cases d <;> first | exact w.elim | skip
  case int i => rw [hx.int]; exact ⟨i, rfl, hR _ _ _ (Same.refl _) (.int _) w⟩
/-- sum, all, any of a list -/
def dSum : D → (D → Prop) → Prop
  | .list ds, Q => ∃ ns : List Int, ds = ns.map D.int ∧ Q (.int ns.sum)
  | _, _ => False
theorem s_sum : RBS K (rSum K) dSum := fun M N H x d Q l f hx w R hR => by
  cases d <;> first | exact w.elim | skip
  case list ds =>
    obtain ⟨a, xs, rfl, ha, hd⟩ := hx.list
    obtain ⟨ns, rfl, w⟩ := w
    refine ⟨a, ns, rfl, SqL.of (by rw [← hd.ints]; exact ha), hR _ _ _ (Same.refl _) (.int _) w⟩
def dAll : D → (D → Prop) → Prop
  | .list ds, Q => ∃ ns : List Bool, ds = ns.map D.bool ∧ Q (.bool (ns.all id))
  | _, _ => False
theorem s_all : RBS K (rAll K) dAll := fun M N H x d Q l f hx w R hR => by
  cases d <;> first | exact w.elim | skip
  case list ds =>
    obtain ⟨a, xs, rfl, ha, hd⟩ := hx.list
    obtain ⟨ns, rfl, w⟩ := w
    refine ⟨a, ns, rfl, SqL.of (by rw [← hd.bools]; exact ha), hR _ _ _ (Same.refl _) (.bl _) w⟩
def dAny : D → (D → Prop) → Prop
  | .list ds, Q => ∃ ns : List Bool, ds = ns.map D.bool ∧ Q (.bool (ns.any id))
  | _, _ => False
theorem s_any : RBS K (rAny K) dAny := fun M N H x d Q l f hx w R hR => by
  cases d <;> first | exact w.elim | skip
  case list ds =>
    obtain ⟨a, xs, rfl, ha, hd⟩ := hx.list
    obtain ⟨ns, rfl, w⟩ := w
    refine ⟨a, ns, rfl, SqL.of (by rw [← hd.bools]; exact ha), hR _ _ _ (Same.refl _) (.bl _) w⟩
/-! ### of two -/
def dMax2 : List D → (D → Prop) → Prop
  | [.int i, .int j], Q => Q (.int (if j > i then j else i))
  | _, _ => False
def dMin2 : List D → (D → Prop) → Prop
  | [.int i, .int j], Q => Q (.int (if j < i then j else i))
  | _, _ => False
theorem dza2 {M : AS} {H : Hp} {xs : List V} {i j : Int} (h : DzA K M H xs [.int i, .int j]) : xs = [.int i, .int j] := by
  cases h with
  | cons h t =>
    cases t with
    | cons h2 t =>
      cases t
      cases h
      cases h2
      rfl
theorem s_max2 : RAS K (fun xs H Q => ∃ i j, xs = [.int i, .int j] ∧ Q (.int (if j > i then j else i)) H) dMax2 := fun M H xs ds Q l h w R hR => by
  match ds, w, h with
  | [.int i, .int j], w, h => exact ⟨i, j, dza2 h, hR _ _ _ (Same.refl _) (.int _) w⟩
theorem s_min2 : RAS K (fun xs H Q => ∃ i j, xs = [.int i, .int j] ∧ Q (.int (if j < i then j else i)) H) dMin2 := fun M H xs ds Q l h w R hR => by
  match ds, w, h with
  | [.int i, .int j], w, h => exact ⟨i, j, dza2 h, hR _ _ _ (Same.refl _) (.int _) w⟩
end
end Vt
namespace Vt
open PySem PySem.Spec L2
variable [WorldC]
structure DEnds where
  nx : DEnv → Prop
  rt : D → List D → Prop
  bk : DEnv → Prop := fun _ => False
  ct : DEnv → Prop := fun _ => False
  ex : Str → Fds → DEnv → Prop := fun _ _ _ => False
abbrev DTS := DEnds → DEnv → Prop
/-- what the owned parameters hold at the end -/
def conts (ρ : DEnv) (po : Op) : List D := po.map fun p => match ρ[p.1]? with | some (some d) => d | _ => .none
/-- what is handed back of the owned parameters -/
structure Ret (K : PySem.W.Frag) (c : Fx) (po : Op) (F : Nat → AS) (H : Hp) (cs : List D) : Prop where
  len : cs.length = po.length
  ok : ∀ (j : Nat) (p : Nat × Kind) (w : Nat × V) (d : D), po[j]? = some p → c.pv[j]? = some w → cs[j]? = some d → p.2.ok K (Mt c po F) H w.2 d (F p.1)
  dis : ∀ p ∈ po, ∀ q ∈ po, ∀ a, F p.1 a → F q.1 a → p.1 = q.1
  n0 : Live c.N0 H
  n0d : ∀ p ∈ po, ∀ a, F p.1 a → ¬ c.N0 a
/-- the kept slots are the owned parameters' -/
def PvOk (c : Fx) (po : Op) : Prop := c.pv.map (·.1) = po.map (·.1)
/-- around a statement: what is owned where a loop is left, where an error leaves; the form of the result; what is wished of an error -/
structure Jc where
  lp : Op
  xp : Op
  rs : Sh
  W : WX
def Jc.inLoop (J : Jc) (op : Op) : Jc := { J with lp := op }
/-- an error: its class, its dict -/
def XD (K : PySem.W.Frag) (M : AS) (H : Hp) (cls : Value) (d : Option Addr) (n : Str) (fs : Fds) : Prop := cls = .ref (He.ga K n) ∧ ∃ dx vs, d = some dx ∧ ¬ M dx ∧ H dx = some (.xd vs) ∧ DzF K M H vs fs
def NQ (K : PySem.W.Frag) (c : Fx) (on : Op) (M : AS) (H : Hp) (P : DEnv → Prop) : St → Hp → Prop := fun σ' H' => ∃ ρ' F', Sim K c on F' σ' H' ρ' ∧ Trn M (Own on F') H H' ∧ P ρ'
def RQ (K : PySem.W.Frag) (c : Fx) (po : Op) (rs : Sh) (M : AS) (H : Hp) (P : D → List D → Prop) : VK := fun v H' => ∃ d cs F' L, Ret K (c.addS L) po F' H' cs ∧ Trn M (fun a => Own po F' a ∨ a ∈ L) H H' ∧ (∀ a ∈ L, ¬ c.N0 a) ∧ L.Nodup ∧ Tz K (Mt (c.addS L) po F') H' rs v d L ∧ P d cs
def XQ (K : PySem.W.Frag) (c : Fx) (xp : Op) (M : AS) (H : Hp) (P : Str → Fds → DEnv → Prop) : Value → Option Addr → St → Hp → Prop := fun cls d σ' H' => ∃ n fs ρ' F', Sim K c xp F' σ' H' ρ' ∧ Trn M (Own xp F') H H' ∧ XD K (Mt c xp F') H' cls d n fs ∧ P n fs ρ'
section
variable {K : PySem.W.Frag} {c : Fx} {on po : Op} {rs : Sh} {M M1 : AS} {H H1 : Hp}
theorem NQ.back {P : DEnv → Prop} {σ' : St} {H' : Hp} (t : Trn M M1 H H1) (h : NQ K c on M1 H1 P σ' H') : NQ K c on M H P σ' H' :=
  let ⟨ρ', F', S, t', p⟩ := h
  ⟨ρ', F', S, t.trans t', p⟩
theorem RQ.back {P : D → List D → Prop} {v : V} {H' : Hp} (t : Trn M M1 H H1) (h : RQ K c po rs M1 H1 P v H') : RQ K c po rs M H P v H' :=
  let ⟨d, cs, F', L, S, t', p⟩ := h
  ⟨d, cs, F', L, S, t.trans t', p⟩
theorem XQ.back {P : Str → Fds → DEnv → Prop} {cls : Value} {d : Option Addr} {σ' : St} {H' : Hp} (t : Trn M M1 H H1) (h : XQ K c on M1 H1 P cls d σ' H') : XQ K c on M H P cls d σ' H' :=
  let ⟨n, fs, ρ', F', S, t', p⟩ := h
  ⟨n, fs, ρ', F', S, t.trans t', p⟩
theorem own_or0 {F : Nat → AS} : (fun a => Own po F a ∨ a ∈ ([] : List Addr)) = Own po F := funext fun a => propext ⟨fun m => m.elim id fun z => absurd z List.not_mem_nil, .inl⟩
theorem Ret.addS0 {F : Nat → AS} {cs : List D} (r : Ret K c po F H cs) : Ret K (c.addS []) po F H cs where
  len := r.len
  ok := fun j p w d e1 e2 e3 => by rw [mt_addS1]; exact r.ok j p w d e1 e2 e3
  dis := r.dis
  n0 := fun a m => r.n0 a (m.elim id fun z => absurd z List.not_mem_nil)
  n0d := fun q hq a f m => r.n0d q hq a f (m.elim id fun z => absurd z List.not_mem_nil)
/-- a result that is only read -/
theorem RQ.leaf {P : D → List D → Prop} {v : V} {H' : Hp} {d : D} {cs : List D} {F' : Nat → AS} (r : Ret K c po F' H' cs) (t : Trn M (Own po F') H H') (h : Dz K (Mt c po F') H' v d) (p : P d cs) : RQ K c po .leaf M H P v H' :=
  ⟨d, cs, F', [], r.addS0, by rw [own_or0]; exact t, fun a m => absurd m List.not_mem_nil, .nil, .leaf (by rw [mt_addS1]; exact h), p⟩
end
structure Imp (K : PySem.W.Frag) (c : Fx) (lp : Jc) (po on : Op) (M : AS) (H : Hp) (E : DEnds) (R : Ends) : Prop where
  nx : ∀ σ' H', NQ K c on M H E.nx σ' H' → R.nx σ' H'
  rt : ∀ v H', RQ K c po lp.rs M H E.rt v H' → R.rt v H'
  bk : ∀ σ' H', NQ K c lp.lp M H E.bk σ' H' → R.bk σ' H'
  ct : ∀ σ' H', NQ K c lp.lp M H E.ct σ' H' → R.ct σ' H'
  ex : ∀ cls d σ' H', XQ K c lp.xp M H E.ex cls d σ' H' → lp.W cls d σ' H'
def SdS (K : PySem.W.Frag) (lp : Jc) (po op on : Op) (t : TS) (t' : DTS) : Prop :=
  ∀ (c : Fx) (F : Nat → AS) (σ : St) (H : Hp) (ρ : DEnv) (E : DEnds) (R : Ends), PvOk c po → Sim K c op F σ H ρ → t' E ρ → Imp K c lp po on (Own op F) H E R → t R σ H
structure DS (X : Cx) (lp : Jc) (po op on : Op) (st : Stmt) (t : TS) (t' : DTS) : Prop where
  ps : PS X st t
  sd : SdS X.K lp po op on t t'
structure DSs (X : Cx) (lp : Jc) (po op on : Op) (st : List Stmt) (t : TS) (t' : DTS) : Prop where
  ps : PSs X st t
  sd : SdS X.K lp po op on t t'
def dSeq (t u : DTS) : DTS := fun E ρ => t { E with nx := u E } ρ
def dNext : DTS := fun E ρ => E.nx ρ
def dDrop (t : DTE) : DTS := fun E ρ => t ρ fun _ ρ1 => E.nx ρ1
def dRet (po : Op) (t : DTE) : DTS := fun E ρ => t ρ fun d ρ1 => E.rt d (conts ρ1 po)
def dRetN (po : Op) : DTS := fun E ρ => E.rt .none (conts ρ po)
def dIfS (c : DTT) (t u : DTS) : DTS := fun E ρ => c ρ fun b ρ1 => Br b (t E ρ1) (u E ρ1)
def dSet (i : Nat) (t : DTE) : DTS := fun E ρ => t ρ fun d ρ1 => E.nx (ρ1.set i (some d))
def dBreak : DTS := fun E ρ => E.bk ρ
def dCont : DTS := fun E ρ => E.ct ρ
section
variable {K : PySem.W.Frag} {c : Fx} {lp : Jc} {op on po : Op} {F F1 : Nat → AS} {σ : St} {H H1 : Hp} {ρ ρ1 : DEnv}
theorem Imp.back {E : DEnds} {R : Ends} {M M1 : AS} (t : Trn M M1 H H1) (h : Imp K c lp po on M H E R) : Imp K c lp po on M1 H1 E R :=
  ⟨fun _ _ q => h.nx _ _ (q.back t), fun _ _ q => h.rt _ _ (q.back t), fun _ _ q => h.bk _ _ (q.back t), fun _ _ q => h.ct _ _ (q.back t), fun _ _ _ _ q => h.ex _ _ _ _ (q.back t)⟩
theorem Sim.free {i : Nat} {k : Kind} (hk : Frees k) (S : Sim K c ((i, k) :: op) F σ H ρ) : Sim K c op F σ H ρ := S.freeAt (l1 := []) hk
theorem own_free {i : Nat} {k : Kind} : Trn (Own ((i, k) :: op) F) (Own op F) H H := own_freeAt (l1 := [])
/-- what a def hands back -/
theorem Sim.ret (S : Sim K c op F σ H ρ) (pv : PvOk c po) (sub : ∀ p ∈ po, p ∈ op) : Ret K c po F H (conts ρ po) where
  len := by simp [conts]
  ok := fun j p w d e1 e2 e3 => by
    have hp : p ∈ po := List.mem_of_getElem? e1
    obtain ⟨v, d', z1, z2, ok⟩ := S.ops p (sub p hp)
    have ew : w.1 = p.1 := by
      have h1 : (c.pv.map (·.1))[j]? = some w.1 := by rw [List.getElem?_map, e2]; rfl
      have h2 : (po.map (·.1))[j]? = some p.1 := by rw [List.getElem?_map, e1]; rfl
      rw [pv, h2] at h1
      exact (Option.some.inj h1).symm
    have hw := S.pv w (List.mem_of_getElem? e2)
    rw [ew, z1] at hw
    have hv : v = w.2 := by simpa using hw
    unfold conts at e3
    rw [List.getElem?_map, e1] at e3
    simp only [Option.map_some, z2, Option.some.injEq] at e3
    subst e3 hv
    exact p.2.frame S.live ok (fun a o e h => e) fun a o e m => by
      rcases m with m | ⟨q, hq, n, m⟩
      · exact .inl m
      · exact .inr ⟨q, sub q hq, n, m⟩
  dis := fun p hp q hq => S.dis p (sub p hp) q (sub q hq)
  n0 := S.n0
  n0d := fun p hp => S.n0d p (sub p hp)
theorem own_sub (sub : ∀ p ∈ po, p ∈ op) : Trn (Own op F) (Own po F) H H := Trn.less fun a ⟨p, hp, m⟩ => ⟨p, sub p hp, m⟩
end
section
variable {X : Cx} {lp : Jc} {po op on om : Op} {e : Expr} {st : Stmt} {rest sts sts2 : List Stmt} {pos : Pos} {te : TE} {t u : TS} {dx tx : List Nat} {q : Bool} {te' : DTE} {t' u' : DTS}
theorem dss_nil : DSs X lp po op op [] tNext dNext := ⟨pss_nil, fun c F σ H ρ E R pv S w i => i.nx _ _ ⟨ρ, F, S, Trn.refl, w⟩⟩
theorem dss_one (h : DS X lp po op on st t t') : DSs X lp po op on [st] t t' := ⟨pss_one h.ps, h.sd⟩
theorem dss_cons (h : DS X lp po op om st t t') (g : DSs X lp po om on rest u u') : DSs X lp po op on (st :: rest) (tSeq t u) (dSeq t' u') := ⟨pss_cons h.ps g.ps, fun c F σ H ρ E R pv S w i => by
  refine h.sd c F σ H ρ { E with nx := u' E } _ pv S w ⟨fun σ' H' ⟨ρ', F', S', t2, w2⟩ => ?_, i.rt, i.bk, i.ct, i.ex⟩
  exact g.sd c F' σ' H' ρ' E R pv S' w2 (i.back t2)⟩
/-- ahead of the rest of a block a list is no more owned -/
theorem dss_free {i : Nat} {k : Kind} (g : DSs X lp po op on rest u u') (hk : Frees k := by first | exact frees_T | exact frees_Lk) : DSs X lp po ((i, k) :: op) on rest u u' := ⟨g.ps, fun c F σ H ρ E R pv S w j =>
  g.sd c F σ H ρ E R pv (S.free hk) w (j.back own_free)⟩
theorem ds_free {i : Nat} {k : Kind} (g : DS X lp po op ((i, k) :: on) st t t') (hk : Frees k := by first | exact frees_T | exact frees_Lk) : DS X lp po op on st t t' := ⟨g.ps, fun c F σ H ρ E R pv S w j =>
  g.sd c F σ H ρ E R pv S w ⟨fun σ' H' ⟨ρ', F', S', t2, w2⟩ => j.nx _ _ ⟨ρ', F', S'.free hk, t2.trans own_free, w2⟩, j.rt, j.bk, j.ct, j.ex⟩⟩
theorem dss_end {i : Nat} {k : Kind} (g : DSs X lp po op ((i, k) :: on) sts t t') (hk : Frees k := by first | exact frees_T | exact frees_Lk) : DSs X lp po op on sts t t' := ⟨g.ps, fun c F σ H ρ E R pv S w j =>
  g.sd c F σ H ρ E R pv S w ⟨fun σ' H' ⟨ρ', F', S', t2, w2⟩ => j.nx _ _ ⟨ρ', F', S'.free hk, t2.trans own_free, w2⟩, j.rt, j.bk, j.ct, j.ex⟩⟩
theorem ds_pass : DS X lp po op op (.Pass pos) tNext dNext := ⟨ps_pass, fun c F σ H ρ E R pv S w i => i.nx _ _ ⟨ρ, F, S, Trn.refl, w⟩⟩
theorem ds_break : DS X lp po lp.lp on (.Break pos) tBreak dBreak := ⟨ps_break, fun c F σ H ρ E R pv S w i => i.bk _ _ ⟨ρ, F, S, Trn.refl, w⟩⟩
theorem ds_continue : DS X lp po lp.lp on (.Continue pos) tCont dCont := ⟨ps_continue, fun c F σ H ρ E R pv S w i => i.ct _ _ ⟨ρ, F, S, Trn.refl, w⟩⟩
theorem ds_expr (he : DE X op e te dx tx q te') (hs : swapsWith e none pos.line X.env = pure false := by rfl) : DS X lp po op op (.Expr e pos) (tDrop te) (dDrop te') := ⟨ps_expr he.pe hs, fun c F σ H ρ E R pv S w i =>
  he.sd c F σ H ρ _ S w _ fun v H' ⟨d, ρ', F', st, hd, w2⟩ => i.nx _ _ ⟨ρ', F', st.sim, st.trn, w2⟩⟩
def outOf (po : Op) (ex : List Nat) : Bool := ex.all fun i => noOp po i
theorem sub_of {n : Nat} (h : op.drop n = po) : ∀ p ∈ po, p ∈ op := fun p hp => List.mem_of_mem_drop (h ▸ hp)
theorem ds_ret {n : Nat} (he : DE X op e te dx tx q te') (hn : op.drop n = po := by rfl) (hx : outOf po (dx ++ tx) = true := by rfl) (hr : lp.rs = .leaf := by rfl) : DS X lp po op on (.Return (some e) pos) (tRet te) (dRet po te') := ⟨ps_ret he.pe, fun c F σ H ρ E R pv S w i =>
  he.sd c F σ H ρ _ S w _ fun v H' ⟨d, ρ', F', st, hd, w2⟩ => i.rt _ _ (by
    rw [hr]
    refine RQ.leaf (st.sim.ret pv (sub_of hn)) (st.trn.trans (own_sub (sub_of hn))) ((hd.dz fun a m => mxl m).mono fun a m => ?_) w2
    rcases m with m | ⟨p, hp, _, m⟩
    · exact .inl m
    · refine .inr ⟨p, sub_of hn p hp, fun hi => ?_, m⟩
      have := noOp_ne (List.all_eq_true.mp hx p.1 hi) p hp
      exact this rfl)⟩
theorem ds_retN {n : Nat} (hn : op.drop n = po := by rfl) (hr : lp.rs = .leaf := by rfl) : DS X lp po op on (.Return none pos) tRetN (dRetN po) := ⟨ps_retN, fun c F σ H ρ E R pv S w i =>
  i.rt _ _ (by
    rw [hr]
    exact RQ.leaf (S.ret pv (sub_of hn)) (own_sub (sub_of hn)) .non w)⟩
theorem ds_if {cnd : Expr} {tc : TT} {tc' : DTT} {qc : Bool} (hc : DT X op cnd tc qc tc') (ha : DSs X lp po op on sts t t') (hb : DSs X lp po op on sts2 u u') : DS X lp po op on (.If cnd sts sts2 pos) (tIfS tc t u) (dIfS tc' t' u') := ⟨ps_if hc.pt ha.ps hb.ps, fun c F σ H ρ E R pv S w i => by
  refine hc.sd c F σ H ρ _ S w _ fun b H' ⟨ρ', F', st, w2⟩ => ?_
  cases b with
  | true => exact ha.sd c F' σ H' ρ' E R pv st.sim (w2.t rfl) (i.back st.trn)
  | false => exact hb.sd c F' σ H' ρ' E R pv st.sim (w2.f rfl) (i.back st.trn)⟩
theorem pv_ne {c : Fx} {i : Nat} (pv : PvOk c po) (h : noOp po i = true) : ∀ p ∈ c.pv, p.1 ≠ i := fun p hp e => by
  have : p.1 ∈ c.pv.map (·.1) := List.mem_map_of_mem hp
  rw [pv] at this
  obtain ⟨q, hq, e2⟩ := List.mem_map.mp this
  exact noOp_ne h q hq (e2.trans e)
theorem ds_set {i : Nat} {x : Str} {pos' : Pos} (hN : X.N.Nodup) (he : DE X op e te [] [] q te') (hi : X.N[i]? = some x := by rfl) (hx : Loc X.env.scope x := by first | exact Or.inl rfl | exact Or.inr rfl) (n1 : noOp op i = true := by rfl) (n2 : noOp po i = true := by rfl)
    (hs : swapsWith e (some (.Name x pos')) pos.line X.env = pure false := by rfl) (hf : X.fn x = true ∨ X.env.scope.names.lookup x = some .local := by first | exact .inl rfl | exact .inr rfl | assumption) :
    DS X lp po op op (.Assign [.Name x pos'] e pos) (tAsg te (gName i)) (dSet i te') := ⟨ps_set hN hi hx he.pe hs hf, fun c F σ H ρ E R pv S w j =>
  he.sd c F σ H ρ _ S w _ fun v H' ⟨d, ρ', F', st, hd, w2⟩ => j.nx _ _ ⟨_, F', st.sim.set (hd.dz fun a m => m) (noOp_ne n1) (pv_ne pv n2), st.trn, w2⟩⟩
end
/-! ### targets -/
abbrev DTG := D → DEnv → (DEnv → Prop) → Prop
abbrev DTGs := List D → DEnv → (DEnv → Prop) → Prop
/-- a target of names alone: the heap stays -/
structure DG (X : Cx) (po op : Op) (e : Expr) (gs : List Nat) (g : TG) (g' : DTG) : Prop where
  pg : PG X e g
  sd : ∀ (c : Fx) (F : Nat → AS) (σ : St) (H : Hp) (ρ : DEnv) (v : V) (d : D) (Q : DEnv → Prop), PvOk c po → Sim X.K c op F σ H ρ → Dz X.K (Mt c op F) H v d → g' d ρ Q →
    ∀ R : St → Hp → Prop, (∀ σ' ρ', Sim X.K c op F σ' H ρ' → (∀ vs : List Nat, (∀ i ∈ gs, i ∈ vs) → wipe σ' vs = wipe σ vs) → Q ρ' → R σ' H) → g v σ H R
structure DGs (X : Cx) (po op : Op) (es : List Expr) (gs : List Nat) (g : TGs) (g' : DTGs) : Prop where
  pg : PGs X es g
  sd : ∀ (c : Fx) (F : Nat → AS) (σ : St) (H : Hp) (ρ : DEnv) (vs : List V) (ds : List D) (Q : DEnv → Prop), PvOk c po → Sim X.K c op F σ H ρ → DzA X.K (Mt c op F) H vs ds → g' ds ρ Q →
    ∀ R : St → Hp → Prop, (∀ σ' ρ', Sim X.K c op F σ' H ρ' → (∀ vs : List Nat, (∀ i ∈ gs, i ∈ vs) → wipe σ' vs = wipe σ vs) → Q ρ' → R σ' H) → g vs σ H R
theorem wipe_get {σ : St} {i : Nat} : ∀ {vs : List Nat}, i ∉ vs → (wipe σ vs)[i]? = σ[i]?
  | [], _ => rfl
  | v :: vs, h => by
    unfold wipe
    rw [List.getElem?_set_ne (fun e => h (by simp [e]))]
    exact wipe_get fun m => h (List.mem_cons_of_mem _ m)
theorem wipe_in {σ : St} {i : Nat} : ∀ {vs : List Nat}, i ∈ vs → i < σ.length → (wipe σ vs)[i]? = some none
  | v :: vs, h, hl => by
    unfold wipe
    by_cases e : v = i
    · subst e
      rw [List.getElem?_set_self (by rw [wipe_length]; exact hl)]
    · rw [List.getElem?_set_ne e]
      exact wipe_in ((List.mem_cons.mp h).resolve_left fun z => e z.symm) hl
theorem wipe_eq {σ σ' : St} {vs : List Nat} (hl : σ'.length = σ.length) (h : ∀ i, i ∉ vs → σ'[i]? = σ[i]?) : wipe σ' vs = wipe σ vs := by
  apply List.ext_getElem?
  intro i
  by_cases m : i ∈ vs
  · by_cases l : i < σ.length
    · rw [wipe_in m l, wipe_in m (by rw [hl]; exact l)]
    · rw [List.getElem?_eq_none (by rw [wipe_length, hl]; omega), List.getElem?_eq_none (by rw [wipe_length]; omega)]
  · rw [wipe_get m, wipe_get m, h i m]
theorem wipe_set {σ : St} {i : Nat} {x : Option V} {vs : List Nat} (h : i ∈ vs) : wipe (σ.set i x) vs = wipe σ vs :=
  wipe_eq (by simp) fun j m => List.getElem?_set_ne fun e : i = j => m (by rw [← e]; exact h)
def dgName (i : Nat) : DTG := fun d ρ Q => Q (ρ.set i (some d))
def dgNil : DTGs := fun ds ρ Q => match ds with | [] => Q ρ | _ => False
def dgCons (t : DTG) (u : DTGs) : DTGs := fun ds ρ Q => match ds with | d :: r => t d ρ fun ρ1 => u r ρ1 Q | _ => False
def dgTup (n : Nat) (t : DTGs) : DTG := fun d ρ Q => match d with | .tuple ds => ds.length = n ∧ t ds ρ Q | _ => False
section
variable {X : Cx} {po op : Op} {e : Expr} {es : List Expr} {pos : Pos} {g : TG} {gs : TGs} {g' : DTG} {gs' : DTGs} {is js : List Nat}
theorem dg_name {i : Nat} {x : Str} (hN : X.N.Nodup) (hi : X.N[i]? = some x := by rfl) (hx : Loc X.env.scope x := by first | exact Or.inl rfl | exact Or.inr rfl) (n1 : noOp op i = true := by rfl) (n2 : noOp po i = true := by rfl)
    (hf : X.fn x = true ∨ X.env.scope.names.lookup x = some .local := by first | exact .inl rfl | exact .inr rfl | assumption) : DG X po op (.Name x pos) [i] (gName i) (dgName i) := ⟨pg_name hN hi hx hf, fun c F σ H ρ v d Q pv S h w R hR =>
  hR _ _ (S.set h (noOp_ne n1) (pv_ne pv n2)) (fun vs hv => wipe_set (hv i (by simp))) w⟩
theorem dgs_nil : DGs X po op [] [] gNil dgNil := ⟨pgs_nil, fun c F σ H ρ vs ds Q pv S h w R hR => by
  cases ds with
  | nil => cases h; exact ⟨rfl, hR _ _ S (fun _ _ => rfl) w⟩
  | cons _ _ => exact w.elim⟩
theorem dgs_cons (h1 : DG X po op e is g g') (h2 : DGs X po op es js gs gs') (hs : (assignEach (e :: es) X.env).map (·.2) = assign e X.env :: (assignEach es X.env).map (·.2) := by rfl) : DGs X po op (e :: es) (is ++ js) (gCons g gs) (dgCons g' gs') :=
  ⟨pgs_cons h1.pg h2.pg hs, fun c F σ H ρ vs ds Q pv S h w R hR => by
    cases ds with
    | nil => exact w.elim
    | cons d ds =>
      cases h with
      | cons h t => exact ⟨_, _, rfl, h1.sd c F σ H ρ _ d _ pv S h w _ fun σ' ρ' S' e1 w' => h2.sd c F σ' H ρ' _ ds _ pv S' t w' _ fun σ2 ρ2 S2 e2 w2 =>
          hR _ _ S2 (fun vs hv => (e2 vs fun i m => hv i (List.mem_append_right _ m)).trans (e1 vs fun i m => hv i (List.mem_append_left _ m))) w2⟩⟩
theorem dg_tup {k n : Nat} (hc : X.calm = true) (h : DGs X po op es is gs gs') (hn : (assignEach es X.env).length = n := by rfl) (hst : (assignEach es X.env).findIdx? (·.1) = none := by rfl) : DG X po op (.Tuple es k pos) is (gTup X.K n gs) (dgTup n gs') :=
  ⟨pg_tup hc h.pg hn hst, fun c F σ H ρ v d Q pv S hd w R hR => by
    cases d <;> first | exact w.elim | skip
    case tuple ds =>
      cases hd with
      | tup e a => exact ⟨_, _, rfl, e, by rw [a.len]; exact w.1, h.sd c F σ H ρ _ ds _ pv S a w.2 _ hR⟩⟩
/-- targets = a value -/
def dAsg (t : DTE) (g : DTG) : DTS := fun E ρ => t ρ fun d ρ1 => g d ρ1 E.nx
theorem ds_asg {lp : Jc} {tg : Expr} {te : TE} {q : Bool} {te' : DTE} (he : DE X op e te [] [] q te') (hg : DG X po op tg is g g') (hs : swapsWithSole [tg] e pos.line X.env = pure false := by rfl) (hw : swappedStores [tg] e X.env = pure none := by rfl)
    (h1 : (assignEach [tg] X.env).map (·.2) = [assign tg X.env] := by rfl) : DS X lp po op op (.Assign [tg] e pos) (tAsg te g) (dAsg te' g') := ⟨ps_asg he.pe hg.pg hs hw h1, fun c F σ H ρ E R pv S w j =>
  he.sd c F σ H ρ _ S w _ fun v H' ⟨d, ρ', F', st, hd, w2⟩ => hg.sd c F' σ H' ρ' v d _ pv st.sim (hd.dz fun a m => m) w2 _ fun σ2 ρ2 S2 _ w3 => j.nx _ _ ⟨ρ2, F', S2, st.trn, w3⟩⟩
end
/-! ### lists that are owned: made, changed -/
def Fx.add (c : Fx) (l : Addr) : Fx := ⟨fun a => c.N0 a ∨ a = l, c.pv⟩
section
variable {K : PySem.W.Frag} {c : Fx} {op : Op} {F : Nat → AS} {σ : St} {H H' : Hp} {ρ : DEnv} {l : Addr}
theorem mt_add {ex : List Nat} {a : Addr} : Mx (c.add l) op F ex a ↔ Mx c op F ex a ∨ a = l := by
  constructor
  · rintro ((m | m) | m)
    · exact .inl (.inl m)
    · exact .inr m
    · exact .inl (.inr m)
  · rintro ((m | m) | m)
    · exact .inl (.inl m)
    · exact .inr m
    · exact .inl (.inr m)
/-- a new thing that none reaches -/
theorem Sim.new {o : HO} (S : Sim K c op F σ H ρ) (s : Same H H') (hl : H l = none) (e : H' l = some o) (mo : mutO o = true) : Sim K (c.add l) op F σ H' ρ := by
  have back : ∀ a o', H a = some o' → Mt (c.add l) op F a → Mt c op F a := fun a o' e' m => by
    rcases mt_add.mp m with m | z
    · exact m
    · rw [z, hl] at e'; cases e'
  refine ⟨S.len, fun i d z n => ?_, fun p hp => ?_, S.dis, S.nd, fun a m => ?_, fun p hp a f m => ?_, S.pv⟩
  · obtain ⟨v, e1, h⟩ := S.fr i d z n
    exact ⟨v, e1, h.frame S.live (fun a o e _ => s a o e) back⟩
  · obtain ⟨v, d, e1, e2, ok⟩ := S.ops p hp
    exact ⟨v, d, e1, e2, p.2.frame S.live ok (fun a o e _ => s a o e) back⟩
  · rcases m with m | rfl
    · exact (S.n0.same s) a m
    · exact ⟨o, e, mo⟩
  · rcases m with m | rfl
    · exact S.n0d p hp a f m
    · exact S.own.not hl ⟨p, hp, f⟩
theorem Sim.drop (S : Sim K (c.add l) op F σ H ρ) : Sim K c op F σ H ρ := by
  have le : ∀ a, Mt c op F a → Mt (c.add l) op F a := fun a m => mt_add.mpr (.inl m)
  refine ⟨S.len, fun i d z n => ?_, fun p hp => ?_, S.dis, S.nd, fun a m => S.n0 a (.inl m), fun p hp a f m => S.n0d p hp a f (.inl m), S.pv⟩
  · obtain ⟨v, e1, h⟩ := S.fr i d z n
    exact ⟨v, e1, h.mono le⟩
  · obtain ⟨v, d, e1, e2, ok⟩ := S.ops p hp
    exact ⟨v, d, e1, e2, p.2.frame S.live ok (fun a o e _ => e) fun a o e m => le a m⟩
end
/-- an expression that makes a new list -/
def FQ (K : PySem.W.Frag) (c : Fx) (op : Op) (F : Nat → AS) (σ : St) (H : Hp) (Q : List D → DEnv → Prop) : VK := fun v H' =>
  ∃ ds ρ' F' l xs, v = .ref l ∧ Sim K (c.add l) op F' σ H' ρ' ∧ Trn (Own op F) (Own op F') H H' ∧ H l = none ∧ H' l = some (.lst xs) ∧ DzA K (Mt (c.add l) op F') H' xs ds ∧ Q ds ρ'
structure DF (X : Cx) (op : Op) (e : Expr) (t : TE) (t' : DTA) : Prop where
  pe : PE X e t
  sd : ∀ (c : Fx) (F : Nat → AS) (σ : St) (H : Hp) (ρ : DEnv) (Q : List D → DEnv → Prop), Sim X.K c op F σ H ρ → t' ρ Q → ∀ R : VK, (∀ v H', FQ X.K c op F σ H Q v H' → R v H') → t σ H R
theorem fq_new {K : PySem.W.Frag} {c : Fx} {op : Op} {q : Bool} {F F1 : Nat → AS} {σ : St} {H H1 : Hp} {ρ ρ1 : DEnv} {Q : List D → DEnv → Prop} {p : Addr} {xs : List V} {ds : List D} (st : Stp K c op q F σ H ρ F1 H1 ρ1) (hp : H1 p = none) (h : DzA K (Mt c op F1) H1 xs ds) (w : Q ds ρ1) :
    FQ K c op F σ H Q (.ref p) (upd H1 p (.lst xs)) := by
  have S1 := st.sim
  refine ⟨ds, ρ1, F1, p, xs, rfl, S1.new (same_mk hp) hp upd_same rfl, st.trn.trans (Trn.same (same_mk hp)), ?_, upd_same, ?_, w⟩
  · exact st.trn.none hp
  · exact h.frame S1.live (fun a o e _ => same_mk hp a o e) fun a o e m => by
      rcases mt_add.mp m with m | rfl
      · exact m
      · rw [hp] at e; cases e
end Vt
namespace Vt
open PySem PySem.Spec L2
variable [WorldC]
section
variable {X : Cx} {lp : Jc} {po op on : Op} {e : Expr} {es : List Expr} {pos p : Pos} {te : TE} {ta : TA} {dx tx : List Nat} {q : Bool} {te' : DTE} {ta' : DTA}
def dfLst (t : DTA) : DTA := fun ρ Q => t ρ fun xs ρ1 => xs.length ≤ sizeLine ∧ Q xs ρ1
theorem df_lst (h : DA X op es ta [] q ta') : DF X op (.List es pos) (tLst ta) (dfLst ta') := ⟨pe_lst h.pa, fun c F σ H ρ Q S w R hR =>
  h.sd c F σ H ρ _ S w _ fun vs H1 ⟨ds, ρ1, F1, st, hv, hl, w1⟩ => ⟨by rw [hv.len]; exact hl, fun p hp => hR _ _ (fq_new st hp hv w1)⟩⟩
def dfList (t : DTE) : DTA := fun ρ Q => t ρ fun d ρ1 => match d with | .list ds => Q ds ρ1 | .tuple ds => Q ds ρ1 | _ => False
theorem df_list {x} (hm : X.mg x = none) (ha : DE X op e te [] tx q te') (hg : Gl X x := by rfl) (hv : bootBuiltins x = some (.type "list") := by decide +kernel) (hn : x ≠ "__name__" := by decide)
    (hdb : (x == ("__debug__" : Str)) = false := by decide) (he : starEach [e] X.env = (false, eval e X.env) :: starEach [] X.env := by rfl) (hpl : (backTo pos (starEach [] X.env)).any (·.1) = false := by rfl) :
    DF X op (.Call (.Name x p) [e] [] pos) (tCB (rListX X.K) (tCons te tNil)) (dfList te') := ⟨pe_callTy c_list hg hm hv (pa_cons ha.pe pa_nil he) hn hdb he hpl, fun c F σ H ρ Q S w R hR => by
  refine ha.sd c F σ H ρ _ S w _ fun x H1 ⟨d, ρ1, F1, st, hx, w1⟩ => ?_
  have hx : DzT X.K (Mt c op F1) (Mx c op F1 tx) H1 x d := hx
  cases d <;> first | exact w1.elim | skip
  case list ds =>
    obtain ⟨a, xs, rfl, ha, hd⟩ := hx.list
    exact ⟨a, xs, rfl, .inl (SqL.of ha), fun p hp => hR _ _ (fq_new st hp hd w1)⟩
  case tuple ds =>
    obtain ⟨a, xs, rfl, ha, hd⟩ := hx.tuple
    exact ⟨a, xs, rfl, .inr ha, fun p hp => hR _ _ (fq_new st hp hd w1)⟩⟩
/-- a + b of lists -/
def dfCat (ta tb : DTE) : DTA := fun ρ Q => ta ρ fun x ρ1 => tb ρ1 fun y ρ2 => match x, y with | .list a, .list b => a.length + b.length ≤ sizeLine ∧ Q (a ++ b) ρ2 | _, _ => False
theorem add_addS {c : Fx} {l : Addr} : c.add l = c.addS [l] := by
  unfold Fx.add Fx.addS
  have : (fun a => c.N0 a ∨ a = l) = fun a => c.N0 a ∨ a ∈ [l] := funext fun a => propext (or_congr Iff.rfl (by simp))
  rw [this]
/-- a new list as a tree -/
theorem fq_fr {K : PySem.W.Frag} {c : Fx} {F : Nat → AS} {σ : St} {H : Hp} {ρ : DEnv} {Q : List D → DEnv → Prop} {v : V} {H' : Hp} (S : Sim K c op F σ H ρ) (h : FQ K c op F σ H Q v H') : FR K c op (.lst .leaf) F σ H (fun d ρ' => ∃ ds, d = .list ds ∧ Q ds ρ') v H' := by
  obtain ⟨ds, ρ1, F1, l, xs, rfl, S1, t1, hn, e, hd, w⟩ := h
  rw [add_addS] at S1 hd
  refine ⟨.list ds, ρ1, F1, [l], S1, ⟨fun a o h n => t1.1 a o h n, fun a o h m => ?_, t1.2.2⟩, fun a m z => ?_, by simp, .lst e hd.leafC, ds, rfl, w⟩
  · rcases m with m | m
    · exact t1.2.1 a o h m
    · rw [List.mem_singleton.mp m, hn] at h
      cases h
  · rw [List.mem_singleton.mp m] at z
    obtain ⟨o, e, _⟩ := S.n0 l z
    rw [hn] at e
    cases e
def dOwn (i : Nat) (t : DTA) : DTS := fun E ρ => t ρ fun ds ρ1 => i < ρ1.length ∧ E.nx (ρ1.set i (some (.list ds)))
theorem sds_own {i : Nat} (sd : ∀ (c : Fx) (F : Nat → AS) (σ : St) (H : Hp) (ρ : DEnv) (Q : List D → DEnv → Prop), Sim X.K c op F σ H ρ → ta' ρ Q → ∀ R : VK, (∀ v H', FQ X.K c op F σ H Q v H' → R v H') → te σ H R)
    (n1 : noOp op i = true) (n2 : noOp po i = true) : SdS X.K lp po op ((i, kL) :: op) (tAsg te (gName i)) (dOwn i ta') := fun c F σ H ρ E R pv S w j => by
  refine sd c F σ H ρ _ S w _ fun v H' h => ?_
  obtain ⟨d, ρ1, F1, L, S1, t1, hn, nd, tz, ds, rfl, hi, w1⟩ := fq_fr S h
  exact j.nx _ _ ⟨_, _, S1.holdT hn tz nd hi n1 (pv_ne pv n2), hold_trn t1 n1, w1⟩
theorem ds_own {i : Nat} {x : Str} {pos' : Pos} (hN : X.N.Nodup) (he : DF X op e te ta') (hi : X.N[i]? = some x := by rfl) (hx : Loc X.env.scope x := by first | exact Or.inl rfl | exact Or.inr rfl) (n1 : noOp op i = true := by rfl) (n2 : noOp po i = true := by rfl)
    (hs : swapsWith e (some (.Name x pos')) pos.line X.env = pure false := by rfl) (hf : X.fn x = true ∨ X.env.scope.names.lookup x = some .local := by first | exact .inl rfl | exact .inr rfl | assumption) :
    DS X lp po op ((i, kL) :: op) (.Assign [.Name x pos'] e pos) (tAsg te (gName i)) (dOwn i ta') := ⟨ps_set hN hi hx he.pe hs hf, sds_own he.sd n1 n2⟩
/-- x.append(e) -/
def dAppend (i : Nat) (t : DTE) : DTS := fun E ρ => t ρ fun d ρ1 => At ρ1 i fun x => match x with | .list ds => ds.length < sizeLine ∧ E.nx (ρ1.set i (some (.list (ds ++ [d])))) | _ => False
theorem sds_append {i j : Nat} (he : Sd X.K op te [] [] q te') (n : op[j]? = some (i, kL)) : SdS X.K lp po op op (tDrop (tBM X.K "list" rAppend (tVar i) (tCons te tNil))) (dAppend i te') := fun c F σ H ρ E R pv S w jj => by
  have hm : (i, kL) ∈ op := List.mem_of_getElem? n
  obtain ⟨v, d0, e1, e2, ok0⟩ := S.ops _ hm
  obtain ⟨a0, xs0, ds0, rfl, rfl, ha0, _, _⟩ := kL_ok.mp ok0
  refine ⟨_, e1, .inl ⟨rfl, xs0, SqL.of ha0⟩, ?_⟩
  refine he c F σ H ρ _ S w _ fun y H1 ⟨d, ρ1, F1, st, hd, w0⟩ => ?_
  obtain ⟨x, hds, w0⟩ := w0.ex
  cases x <;> first | exact w0.elim | skip
  rename_i ds
  obtain ⟨hl, w1⟩ := w0
  obtain ⟨v1, d1, f1, f2, ok1⟩ := st.sim.ops _ hm
  obtain ⟨a, xs, ds1, rfl, rfl, ha, hx, hf⟩ := kL_ok.mp ok1
  rw [e1] at f1
  cases f1
  rw [hds] at f2
  cases f2
  have hd : Dz X.K (Mt c op F1) H1 y d := hd.dz fun a m => m
  refine ⟨_, xs, y, rfl, rfl, ha, by rw [hx.len]; exact hl, ?_⟩
  have l := st.sim.live
  have keep : ∀ b o, H1 b = some o → ¬ F1 i b → upd H1 a0 (.lst (xs ++ [y])) b = some o := fun b o e n => by rw [upd_ne (fun z => n ((hf b).mpr z))]; exact e
  obtain ⟨S2, t2⟩ := st.sim.put (H' := upd H1 a0 (.lst (xs ++ [y]))) (d := .list (ds ++ [d])) hm e1 keep (fun b o e => by
      by_cases z : b = a0
      · subst z; exact ⟨_, upd_same⟩
      · exact ⟨o, by rw [upd_ne z]; exact e⟩)
    (kL_ok.mpr ⟨a0, xs ++ [y], ds ++ [d], rfl, rfl, upd_same, (hx.app (.one hd)).frame l (fun b o e n => keep b o e fun f => n (.inr ⟨_, hm, by simp, f⟩)) (fun _ _ _ m => m), hf⟩)
  exact jj.nx _ _ ⟨_, F1, S2, st.trn.trans t2, w1⟩
theorem ds_append {i j : Nat} {o : Expr} {apos cpos : Pos} (ho : PE X o (tVar i)) (he : DE X op e te [] [] q te') (n : op[j]? = some (i, kL) := by rfl) (hbase : attributeBase o "append" X.env (eval o X.env) = eval o X.env := by rfl)
    (hfew : ((backTo cpos (starEach [e] X.env)).all (fun x => !x.1) && (backToKw cpos (keywordEach [] X.env)).all (fun x => x.1.isSome) && decide ([e].length + ([] : List Keyword).length + (if ([] : List Keyword).isEmpty then 0 else 1) < 30)) = true := by rfl)
    (hline : (apos.endLine == cpos.line) = true := by rfl) (hs : starEach [e] X.env = (false, eval e X.env) :: starEach [] X.env := by rfl) (hplain : (backTo cpos (starEach [] X.env)).any (·.1) = false := by rfl)
    (hsw : swapsWith (.Call (.Attribute o "append" apos) [e] [] cpos) none pos.line X.env = pure false := by rfl) :
    DS X lp po op op (.Expr (.Call (.Attribute o "append" apos) [e] [] cpos) pos) (tDrop (tBM X.K "list" rAppend (tVar i) (tCons te tNil))) (dAppend i te') :=
  ⟨ps_expr (pe_bm PySem.F.plainAttrs_list PySem.F.slot_list_append PySem.F.type_list_append mt_append ho (pa_cons he.pe pa_nil hs) hbase hfew hline hs hplain) hsw, sds_append he.sd n⟩
/-- x[k] = e -/
def dPut (i : Nat) (te tk : DTE) : DTS := fun E ρ => te ρ fun d ρ1 => tk ρ1 fun k ρ2 => At ρ2 i fun x => match x, k with | .list ds, .int n => Opt (ixN ds.length n) fun j => E.nx (ρ2.set i (some (.list (ds.set j d)))) | _, _ => False
theorem sds_put {i j : Nat} {tk : TE} {tk' : DTE} {q2 : Bool} (he : Sd X.K op te [] [] q te') (hk : Sd X.K op tk [] [] q2 tk') (n : op[j]? = some (i, kL)) : SdS X.K lp po op op (tAsg te (gSub (tVar i) tk rSetL)) (dPut i te' tk') := fun c F σ H ρ E R pv S w jj => by
  have hm : (i, kL) ∈ op := List.mem_of_getElem? n
  refine he c F σ H ρ _ S w _ fun y H1 ⟨d, ρ1, F1, st, hd, w1⟩ => ?_
  obtain ⟨v, d0, e1, e2, ok0⟩ := st.sim.ops _ hm
  obtain ⟨a0, xs0, ds0, rfl, rfl, ha0, _, _⟩ := kL_ok.mp ok0
  refine ⟨_, e1, ?_⟩
  refine hk c F1 σ H1 ρ1 _ st.sim w1 _ fun z H2 ⟨k, ρ2, F2, st2, hk, w0⟩ => ?_
  obtain ⟨x, hds, w0⟩ := w0.ex
  have sh : ∃ ds m, x = .list ds ∧ k = .int m := by cases x <;> cases k <;> first | exact ⟨_, _, rfl, rfl⟩ | exact w0.elim
  obtain ⟨ds, m, rfl, rfl⟩ := sh
  obtain ⟨j', hj, w2⟩ := w0.ex
  obtain ⟨v1, d1, f1, f2, ok1⟩ := st2.sim.ops _ hm
  obtain ⟨a, xs, ds1, rfl, rfl, ha, hx, hf⟩ := kL_ok.mp ok1
  rw [e1] at f1
  cases f1
  rw [hds] at f2
  cases f2
  have hd2 : Dz X.K (Mt c op F2) H2 y d := (dzT_move st.sim st2 rfl hd).dz fun a m => m
  refine ⟨_, xs, m, j', rfl, hk.int, ha, by rw [hx.len]; exact hj, ?_⟩
  have l := st2.sim.live
  have keep : ∀ b o, H2 b = some o → ¬ F2 i b → upd H2 a0 (.lst (xs.set j' y)) b = some o := fun b o e n => by rw [upd_ne (fun z => n ((hf b).mpr z))]; exact e
  obtain ⟨S3, t3⟩ := st2.sim.put (H' := upd H2 a0 (.lst (xs.set j' y))) (d := .list (ds.set j' d)) hm e1 keep (fun b o e => by
      by_cases z : b = a0
      · subst z; exact ⟨_, upd_same⟩
      · exact ⟨o, by rw [upd_ne z]; exact e⟩)
    (kL_ok.mpr ⟨a0, xs.set j' y, ds.set j' d, rfl, rfl, upd_same, (hx.set j' hd2).frame l (fun b o e n => keep b o e fun f => n (.inr ⟨_, hm, by simp, f⟩)) (fun _ _ _ m => m), hf⟩)
  exact jj.nx _ _ ⟨_, F2, S3, (st.trn.trans st2.trn).trans t3, w2⟩
theorem ds_put {i j : Nat} {o k : Expr} {tk : TE} {tk' : DTE} {q2 : Bool} {spos : Pos} (ho : PE X o (tVar i)) (he : DE X op e te [] [] q te') (hk : DE X op k tk [] [] q2 tk') (n : op[j]? = some (i, kL) := by rfl)
    (hs : swapsWithSole [.Subscript o k spos] e pos.line X.env = pure false := by rfl) (hw : swappedStores [.Subscript o k spos] e X.env = pure none := by rfl)
    (h1 : (assignEach [.Subscript o k spos] X.env).map (·.2) = [assign (.Subscript o k spos) X.env] := by rfl) (ha : ∀ v, assign (.Subscript o k spos) X.env v = (do
      let ov ← holding [v] (eval o X.env)
      let iv ← holding [v, ov] (eval k X.env)
      standAt spos
      holding [v, ov, iv] (setItem ov iv v)
      release [v, ov, iv] []) := by intro _; rfl) :
    DS X lp po op op (.Assign [.Subscript o k spos] e pos) (tAsg te (gSub (tVar i) tk rSetL)) (dPut i te' tk') := ⟨ps_asg he.pe (pg_sub ho hk.pe set_list ha) hs hw h1, sds_put he.sd hk.sd n⟩
end
/-! ### what is walked -/
def JOk (K : PySem.W.Frag) (M1 : AS) (H1 : Hp) (J : It) (ds : List D) : Prop := ∀ (M2 : AS) (H2 : Hp), Live M2 H2 → Trn M1 M2 H1 H2 → ∀ i,
  (∀ d, ds[i]? = some d → J.go i H2 ∧ ∀ x H', J.yld i H2 x H' → Same H2 H' ∧ Dz K M2 H' x d) ∧ (ds.length ≤ i → J.stop i H2)
structure DI (X : Cx) (op : Op) (tg iter : Expr) (wi : TI) (it' : DTA) : Prop where
  pi : PI X tg iter wi
  sd : ∀ (c : Fx) (F : Nat → AS) (σ : St) (H : Hp) (ρ : DEnv) (Q : List D → DEnv → Prop), Sim X.K c op F σ H ρ → it' ρ Q → ∀ R : It → Hp → Prop,
    (∀ J H1, (∃ ds ρ1 F1, Stp X.K c op false F σ H ρ F1 H1 ρ1 ∧ JOk X.K (Mt c op F1) H1 J ds ∧ Q ds ρ1) → R J H1) → wi σ H R
def diSeq (t : DTE) : DTA := fun ρ Q => t ρ fun d ρ1 => match d with | .list ds => Q ds ρ1 | .tuple ds => Q ds ρ1 | _ => False
def diList (t : DTE) : DTA := fun ρ Q => t ρ fun d ρ1 => match d with | .list ds => Q ds ρ1 | _ => False
def diTup (t : DTE) : DTA := fun ρ Q => t ρ fun d ρ1 => match d with | .tuple ds => Q ds ρ1 | _ => False
def rangeD (lo : Int) (n : Nat) : List D := (List.range n).map fun (k : Nat) => .int (lo + (k : Int))
def diRange1 (t : DTE) : DTA := fun ρ Q => t ρ fun d ρ1 => match d with | .int j => -(2 ^ 62) ≤ j ∧ j < 2 ^ 62 ∧ Q (rangeD 0 j.toNat) ρ1 | _ => False
def diRange2 (t u : DTE) : DTA := fun ρ Q => t ρ fun d ρ1 => u ρ1 fun e ρ2 => match d, e with | .int i, .int j => (-(2 ^ 62) ≤ i ∧ i < 2 ^ 62 ∧ -(2 ^ 62) ≤ j ∧ j < 2 ^ 62) ∧ Q (rangeD i (j - i).toNat) ρ2 | _, _ => False
def signsD (z : Str) : List D := z.cps.toList.map fun c => .str ⟨#[c]⟩
def diStr (t : DTE) : DTA := fun ρ Q => t ρ fun d ρ1 => match d with | .str z => Q (signsD z) ρ1 | _ => False
def enumFrom (n : Nat) : List D → List D
  | [] => []
  | d :: ds => .tuple [.int n, d] :: enumFrom (n + 1) ds
def diEnum (t : DTE) : DTA := fun ρ Q => t ρ fun d ρ1 => match d with | .list ds => Q (enumFrom 0 ds) ρ1 | _ => False
section
variable {K : PySem.W.Frag} {M1 : AS} {H1 : Hp} {ds : List D} {a : Addr} {xs : List V}
theorem jok_list {v : V} (l : Live M1 H1) (h : Dz K M1 H1 (.ref a) (.list ds)) : JOk K M1 H1 (Itl K a) ds := fun M2 H2 l2 t i => by
  have h2 := h.trn l t
  cases h2 with
  | lst n e hd =>
    rename_i xs
    refine ⟨fun d hi => ?_, fun hl => ⟨xs, SqL.of e, by rw [hd.len]; exact hl⟩⟩
    obtain ⟨v, hv, hz⟩ := hd.get hi
    refine ⟨⟨xs, v, SqL.of e, hv⟩, fun x H' ⟨eH, hx⟩ => ?_⟩
    subst eH
    have := hx xs (SqL.of e)
    rw [hv] at this
    cases this
    exact ⟨Same.refl _, hz⟩
theorem jok_tup {v : V} (l : Live M1 H1) (h : Dz K M1 H1 (.ref a) (.tuple ds)) : JOk K M1 H1 (Itt K a) ds := fun M2 H2 l2 t i => by
  have h2 := h.trn l t
  cases h2 with
  | tup e hd =>
    rename_i xs
    refine ⟨fun d hi => ?_, fun hl => ⟨xs, e, by rw [hd.len]; exact hl⟩⟩
    obtain ⟨v, hv, hz⟩ := hd.get hi
    refine ⟨⟨xs, v, e, hv⟩, fun x H' ⟨eH, hx⟩ => ?_⟩
    subst eH
    have := hx xs e
    rw [hv] at this
    cases this
    exact ⟨Same.refl _, hz⟩
theorem range_get {lo : Int} {n i : Nat} : (rangeD lo n)[i]? = if i < n then some (.int (lo + i)) else none := by
  by_cases h : i < n
  · rw [if_pos h]
    unfold rangeD
    rw [List.getElem?_map, List.getElem?_range h]
    rfl
  · rw [if_neg h, List.getElem?_eq_none]
    simp only [rangeD, List.length_map, List.length_range]
    omega
theorem jok_range {lo : Int} {n : Nat} : JOk K M1 H1 (Itr lo n) (rangeD lo n) := fun M2 H2 l2 t i => by
  refine ⟨fun d hi => ?_, fun hl => ?_⟩
  · rw [range_get] at hi
    by_cases h : i < n
    · rw [if_pos h] at hi
      cases hi
      refine ⟨h, fun x H' ⟨eH, hx⟩ => ?_⟩
      subst eH hx
      exact ⟨Same.refl _, .int _⟩
    · rw [if_neg h] at hi; cases hi
  · have : (rangeD lo n).length = n := by simp [rangeD]
    rw [this] at hl
    exact hl
theorem jok_str {z : Str} : JOk K M1 H1 (Its z) (signsD z) := fun M2 H2 l2 t i => by
  refine ⟨fun d hi => ?_, fun hl => ?_⟩
  · unfold signsD at hi
    rw [List.getElem?_map] at hi
    cases q : z.cps.toList[i]? with
    | none => rw [q] at hi; cases hi
    | some c0 =>
      rw [q] at hi
      cases hi
      have q2 : z.cps[i]? = some c0 := by simpa using q
      refine ⟨(Array.getElem?_eq_some_iff.mp q2).1, fun x H' ⟨eH, c1, hc, hx⟩ => ?_⟩
      subst eH hx
      rw [q2] at hc
      cases hc
      exact ⟨Same.refl _, .str _⟩
  · simp [signsD] at hl
    exact hl
theorem enum_get : ∀ {ds : List D} {n i : Nat}, (enumFrom n ds)[i]? = (ds[i]?).map fun d => D.tuple [.int ((n + i : Nat) : Int), d]
  | [], _, _ => by simp [enumFrom]
  | _ :: _, _, 0 => by simp [enumFrom]
  | _ :: ds, n, i + 1 => by
    simp only [enumFrom, List.getElem?_cons_succ]
    rw [enum_get (ds := ds)]
    have : n + 1 + i = n + (i + 1) := by omega
    rw [this]
theorem enum_len : ∀ {ds : List D} {n : Nat}, (enumFrom n ds).length = ds.length
  | [], _ => rfl
  | _ :: ds, n => by simp [enumFrom, enum_len (ds := ds)]
theorem jok_enum (l : Live M1 H1) (h : Dz K M1 H1 (.ref a) (.list ds)) : JOk K M1 H1 (Ite K a) (enumFrom 0 ds) := fun M2 H2 l2 t i => by
  have h2 := h.trn l t
  cases h2 with
  | lst n e hd =>
    rename_i xs
    refine ⟨fun d hi => ?_, fun hl => ⟨xs, SqL.of e, by rw [hd.len]; rw [enum_len] at hl; exact hl⟩⟩
    rw [enum_get] at hi
    cases q : ds[i]? with
    | none => rw [q] at hi; cases hi
    | some d0 =>
      rw [q] at hi
      cases hi
      obtain ⟨v, hv, hz⟩ := hd.get q
      refine ⟨⟨xs, v, SqL.of e, hv⟩, fun x H' ⟨T, x', ex, hn, eH, hx⟩ => ?_⟩
      subst eH ex
      have := hx xs (SqL.of e)
      rw [hv] at this
      cases this
      refine ⟨same_mk hn, ?_⟩
      have : ((0 + i : Nat) : Int) = (i : Int) := by simp
      rw [this]
      exact Dz.newT l2 hn (.cons (.int _) (.one hz))
end
section
variable {X : Cx} {op : Op} {tg e e2 : Expr} {te tu : TE} {q q2 : Bool} {te' tu' : DTE} {p pos : Pos}
theorem di_list (he : DE X op e te [] [] q te') : DI X op tg e (iList X.K te) (diList te') := ⟨pi_list he.pe, fun c F σ H ρ Q S w R hR => by
  refine he.sd c F σ H ρ _ S w _ fun x H1 ⟨d, ρ1, F1, st, hx, w1⟩ => ?_
  cases d <;> first | exact w1.elim | skip
  case list ds =>
    have hz : Dz X.K (Mt c op F1) H1 x (.list ds) := hx.dz fun a m => m
    cases hz with
    | lst n e hd => exact ⟨_, rfl, ⟨_, SqL.of e⟩, hR _ _ ⟨ds, ρ1, F1, st.loud, jok_list (v := .non) st.sim.live (.lst n e hd), w1⟩⟩⟩
theorem di_tup (he : DE X op e te [] [] q te') : DI X op tg e (iTup X.K te) (diTup te') := ⟨pi_tup he.pe, fun c F σ H ρ Q S w R hR => by
  refine he.sd c F σ H ρ _ S w _ fun x H1 ⟨d, ρ1, F1, st, hx, w1⟩ => ?_
  cases d <;> first | exact w1.elim | skip
  case tuple ds =>
    have hz : Dz X.K (Mt c op F1) H1 x (.tuple ds) := hx.dz fun a m => m
    cases hz with
    | tup e hd => exact ⟨_, rfl, ⟨_, e⟩, hR _ _ ⟨ds, ρ1, F1, st.loud, jok_tup (v := .non) st.sim.live (.tup e hd), w1⟩⟩⟩
theorem di_str (he : DE X op e te [] [] q te') : DI X op tg e (iStr te) (diStr te') := ⟨pi_str he.pe, fun c F σ H ρ Q S w R hR => by
  refine he.sd c F σ H ρ _ S w _ fun x H1 ⟨d, ρ1, F1, st, hx, w1⟩ => ?_
  cases d <;> first | exact w1.elim | skip
  case str z => exact ⟨z, hx.str, hR _ _ ⟨_, ρ1, F1, st.loud, jok_str, w1⟩⟩⟩
theorem di_range1 (hm : X.mg "range" = none) (he : DE X op e te [] [] q te') (hg : Gl X "range" := by rfl) (hs : starEach [e] X.env = [(false, eval e X.env)] := by rfl) (hs0 : starEach [e] X.env = (false, eval e X.env) :: starEach [] X.env := by rfl) :
    DI X op tg (.Call (.Name "range" p) [e] [] pos) (iRng1 (tCons te tNil)) (diRange1 te') := ⟨pi_range1 hg hm (pa_cons he.pe pa_nil hs0) hs, fun c F σ H ρ Q S w R hR => by
  refine he.sd c F σ H ρ _ S w _ fun x H1 ⟨d, ρ1, F1, st, hx, w1⟩ => ?_
  cases d <;> first | exact w1.elim | skip
  case int j =>
    rw [hx.int]
    exact ⟨j, rfl, w1.1, w1.2.1, hR _ _ ⟨_, ρ1, F1, st.loud, jok_range, w1.2.2⟩⟩⟩
theorem di_range2 (hm : X.mg "range" = none) (he : DE X op e te [] [] q te') (hu : DE X op e2 tu [] [] q2 tu') (hg : Gl X "range" := by rfl) (hs : starEach [e, e2] X.env = [(false, eval e X.env), (false, eval e2 X.env)] := by rfl) (hs2 : starEach [e2] X.env = [(false, eval e2 X.env)] := by rfl) (hs0 : starEach [e, e2] X.env = (false, eval e X.env) :: starEach [e2] X.env := by rfl) (hs1 : starEach [e2] X.env = (false, eval e2 X.env) :: starEach [] X.env := by rfl) :
    DI X op tg (.Call (.Name "range" p) [e, e2] [] pos) (iRng2 (tCons te (tCons tu tNil))) (diRange2 te' tu') := ⟨pi_range2 hg hm (pa_cons he.pe (pa_cons hu.pe pa_nil hs1) hs0) hs hs2, fun c F σ H ρ Q S w R hR => by
  refine he.sd c F σ H ρ _ S w _ fun x H1 ⟨d, ρ1, F1, st, hx, w1⟩ => ?_
  refine hu.sd c F1 σ H1 ρ1 _ st.sim w1 _ fun y H2 ⟨d2, ρ2, F2, st2, hy, w2⟩ => ?_
  have sh : ∃ i j, d = .int i ∧ d2 = .int j := by cases d <;> cases d2 <;> first | exact ⟨_, _, rfl, rfl⟩ | exact w2.elim
  obtain ⟨i, j, rfl, rfl⟩ := sh
  rw [hx.int, hy.int]
  exact ⟨i, j, rfl, w2.1, hR _ _ ⟨_, ρ2, F2, (st.trans st2).loud, jok_range, w2.2⟩⟩⟩
theorem di_enum {elts : List Expr} {kk : Nat} {tpos : Pos} (hm : X.mg "enumerate" = none) (he : DE X op e te [] [] q te') (hg : Gl X "enumerate" := by rfl) (hs : starEach [e] X.env = [(false, eval e X.env)] := by rfl) (hs0 : starEach [e] X.env = (false, eval e X.env) :: starEach [] X.env := by rfl) :
    DI X op (.Tuple elts kk tpos) (.Call (.Name "enumerate" p) [e] [] pos) (iEnum X.K (tCons te tNil)) (diEnum te') := ⟨pi_enum hg hm (pa_cons he.pe pa_nil hs0) hs, fun c F σ H ρ Q S w R hR => by
  refine he.sd c F σ H ρ _ S w _ fun x H1 ⟨d, ρ1, F1, st, hx, w1⟩ => ?_
  cases d <;> first | exact w1.elim | skip
  case list ds =>
    have hz : Dz X.K (Mt c op F1) H1 x (.list ds) := hx.dz fun a m => m
    cases hz with
    | lst n e hd => exact ⟨_, _, rfl, SqL.of e, hR _ _ ⟨_, ρ1, F1, st.loud, jok_enum st.sim.live (.lst n e hd), w1⟩⟩⟩
end
/-! ### loops -/
def dForL (g : DTG) (body : DTS) (E : DEnds) : List D → DEnv → Prop
  | [], ρ => E.nx ρ
  | d :: ds, ρ => g d ρ fun ρ1 => body { E with nx := dForL g body E ds, ct := dForL g body E ds, bk := E.nx } ρ1
@[irreducible] def dLoop (g : DTG) (body : DTS) (E : DEnds) (ds : List D) (ρ : DEnv) : Prop := dForL g body E ds ρ
def dFor (it : DTA) (g : DTG) (body : DTS) : DTS := fun E ρ => it ρ fun ds ρ1 => dLoop g body E ds ρ1
def dWhN (c : DTT) (body : DTS) (E : DEnds) : Nat → DEnv → Prop
  | 0, _ => False
  | n + 1, ρ => c ρ fun b ρ1 => Br b (body { E with nx := dWhN c body E n, ct := dWhN c body E n, bk := E.nx } ρ1) (E.nx ρ1)
@[irreducible] def dWhile (c : DTT) (body : DTS) : DTS := fun E ρ => ∃ n, dWhN c body E n ρ
section
variable {X : Cx} {lp : Jc} {po op on : Op} {tg iter cnd : Expr} {body : List Stmt} {pos : Pos} {wi : TI} {it' : DTA} {g : TG} {g' : DTG} {gs : List Nat} {tb : TS} {tb' : DTS} {tc : TT} {tc' : DTT} {q : Bool}
theorem sds_for (hi : DI X op tg iter wi it') (hg : DG X po op tg gs g g') (hb : SdS X.K (lp.inLoop op) po op op tb tb') : SdS X.K lp po op op (tFor wi g tb) (dFor it' g' tb') := fun c F σ H ρ E R pv S w j => by
  refine hi.sd c F σ H ρ _ S w _ fun J H1 ⟨ds, ρ1, F1, st, hJ, w1⟩ => ?_
  unfold dLoop at w1
  refine ⟨fun i m σ2 H2 => m + i = ds.length ∧ ∃ ρ2 F2, Sim X.K c op F2 σ2 H2 ρ2 ∧ Trn (Own op F1) (Own op F2) H1 H2 ∧ dForL g' tb' E (ds.drop i) ρ2, ⟨ds.length, rfl, ρ1, F1, st.sim, Trn.refl, w1⟩, ?_⟩
  rintro i m σ2 H2 ⟨hm, ρ2, F2, S2, t2, w2⟩
  have jk := hJ _ H2 S2.live (mx_trn st.sim.n0 t2) i
  have tb0 := st.trn.trans t2
  by_cases hl : ds.length ≤ i
  · rw [List.drop_eq_nil_of_le hl] at w2
    exact .inl ⟨jk.2 hl, j.nx _ _ ⟨ρ2, F2, S2, tb0, w2⟩⟩
  · have hlt : i < ds.length := by omega
    rw [List.drop_eq_getElem_cons hlt] at w2
    obtain ⟨go, yl⟩ := jk.1 ds[i] (List.getElem?_eq_getElem hlt)
    refine .inr ⟨go, fun σ' H' => m - 1 + (i + 1) = ds.length ∧ ∃ ρ2 F2, Sim X.K c op F2 σ' H' ρ2 ∧ Trn (Own op F1) (Own op F2) H1 H' ∧ dForL g' tb' E (ds.drop (i + 1)) ρ2, fun σ' H' h => ⟨m - 1, by omega, h⟩, fun x H' hy => ?_⟩
    obtain ⟨s, hz⟩ := yl x H' hy
    have t3 := t2.trans (Trn.same (M := Own op F2) s)
    refine hg.sd c F2 σ2 H' ρ2 x _ _ pv (S2.same s) hz w2 _ fun σ3 ρ3 S3 _ w3 => ?_
    refine hb c F2 σ3 H' ρ3 _ _ pv S3 w3 ⟨fun σ' H'' ⟨ρ', F', S', t', w'⟩ => ?_, fun v H'' q => j.rt _ _ (q.back (tb0.trans (Trn.same s))), fun σ' H'' q => j.nx _ _ (q.back (tb0.trans (Trn.same s))), fun σ' H'' ⟨ρ', F', S', t', w'⟩ => ?_, fun cls d σ' H'' q => j.ex _ _ _ _ (q.back (tb0.trans (Trn.same s)))⟩
    · exact ⟨by omega, ρ', F', S', t3.trans t', w'⟩
    · exact ⟨by omega, ρ', F', S', t3.trans t', w'⟩
theorem ds_for (hp : PassesOwn (model X.prog X.w) X.A X.env X.xe) (hc : X.calm = true) (hi : DI X op tg iter wi it') (hg : DG X po op tg gs g g') (hb : DSs X (lp.inLoop op) po op op body tb tb') (hs : ∀ x, foldedSetIterable iter X.env x = pure x := by intro _; rfl) :
    DS X lp po op op (.For tg iter body [] pos) (tFor wi g tb) (dFor it' g' tb') := ⟨ps_for hp hc hi.pi hg.pg hb.ps hs, sds_for hi hg hb.sd⟩
theorem sds_while (hc : SdT X.K op tc q tc') (hb : SdS X.K (lp.inLoop op) po op op tb tb') : SdS X.K lp po op op (tWhile tc tb) (dWhile tc' tb') := fun c F σ H ρ E R pv S w0 j => by
  unfold dWhile at w0
  obtain ⟨n, w⟩ := w0
  refine ⟨fun m σ2 H2 => ∃ ρ2 F2, Sim X.K c op F2 σ2 H2 ρ2 ∧ Trn (Own op F) (Own op F2) H H2 ∧ dWhN tc' tb' E m ρ2, ⟨n, ρ, F, S, Trn.refl, w⟩, ?_⟩
  rintro m σ2 H2 ⟨ρ2, F2, S2, t2, w2⟩
  cases m with
  | zero => exact w2.elim
  | succ m =>
    refine hc c F2 σ2 H2 ρ2 _ S2 w2 _ fun b H3 ⟨ρ3, F3, st3, w3⟩ => ?_
    cases b with
    | false => exact j.nx _ _ ⟨ρ3, F3, st3.sim, t2.trans st3.trn, w3.f rfl⟩
    | true =>
      refine ⟨fun σ' H' => ∃ ρ2 F2, Sim X.K c op F2 σ' H' ρ2 ∧ Trn (Own op F) (Own op F2) H H' ∧ dWhN tc' tb' E m ρ2, fun σ' H' h => ⟨m, by omega, h⟩, ?_⟩
      have t3 := t2.trans st3.trn
      exact hb c F3 σ2 H3 ρ3 _ _ pv st3.sim (w3.t rfl) ⟨fun σ' H'' ⟨ρ', F', S', t', w'⟩ => ⟨ρ', F', S', t3.trans t', w'⟩, fun v H'' q => j.rt _ _ (q.back t3), fun σ' H'' q => j.nx _ _ (q.back t3), fun σ' H'' ⟨ρ', F', S', t', w'⟩ => ⟨ρ', F', S', t3.trans t', w'⟩, fun cls d σ' H'' q => j.ex _ _ _ _ (q.back t3)⟩
theorem ds_while (hp : PassesOwn (model X.prog X.w) X.A X.env X.xe) (hc : DT X op cnd tc q tc') (hb : DSs X (lp.inLoop op) po op op body tb tb') : DS X lp po op op (.While cnd body [] pos) (tWhile tc tb) (dWhile tc' tb') := ⟨ps_while hp hc.pt hb.ps, sds_while hc.sd hb.sd⟩
end
end Vt
namespace Vt
open PySem PySem.Spec L2
variable [WorldC]
/-! ### list comprehensions -/
def wipeD (ρ : DEnv) : List Nat → DEnv
  | [] => ρ
  | v :: vs => (wipeD ρ vs).set v none
/-- behind a turn: the block's own names are what they were -/
def backD (ρ ρ' : DEnv) : List Nat → DEnv
  | [] => ρ'
  | v :: vs => (backD ρ ρ' vs).set v (match ρ[v]? with | some o => o | none => none)
theorem wipeD_len (ρ : DEnv) : ∀ vs, (wipeD ρ vs).length = ρ.length
  | [] => rfl
  | v :: vs => by unfold wipeD; rw [List.length_set, wipeD_len ρ vs]
theorem wipeD_some {ρ : DEnv} {i : Nat} {d : D} : ∀ {vs : List Nat}, (wipeD ρ vs)[i]? = some (some d) → ρ[i]? = some (some d) ∧ i ∉ vs
  | [], h => ⟨h, by simp⟩
  | v :: vs, h => by
    unfold wipeD at h
    by_cases hi : v = i
    · subst hi
      by_cases hv : v < (wipeD ρ vs).length
      · rw [List.getElem?_set_self hv] at h; cases h
      · rw [List.getElem?_eq_none (by simpa using hv)] at h; cases h
    · rw [List.getElem?_set_ne hi] at h
      obtain ⟨h1, h2⟩ := wipeD_some h
      exact ⟨h1, by simp only [List.mem_cons, not_or]; exact ⟨fun e => hi e.symm, h2⟩⟩
theorem wipeD_get {ρ : DEnv} {i : Nat} : ∀ {vs : List Nat}, i ∉ vs → (wipeD ρ vs)[i]? = ρ[i]?
  | [], _ => rfl
  | v :: vs, h => by
    unfold wipeD
    rw [List.getElem?_set_ne (fun e => h (by simp [e]))]
    exact wipeD_get fun m => h (List.mem_cons_of_mem _ m)
theorem backD_len (ρ ρ' : DEnv) : ∀ vs, (backD ρ ρ' vs).length = ρ'.length
  | [] => rfl
  | v :: vs => by unfold backD; rw [List.length_set, backD_len ρ ρ' vs]
theorem backD_get {ρ ρ' : DEnv} {i : Nat} : ∀ {vs : List Nat}, i ∉ vs → (backD ρ ρ' vs)[i]? = ρ'[i]?
  | [], _ => rfl
  | v :: vs, h => by
    unfold backD
    rw [List.getElem?_set_ne (fun e => h (by simp [e]))]
    exact backD_get fun m => h (List.mem_cons_of_mem _ m)
theorem backD_in {ρ ρ' : DEnv} {i : Nat} {d : D} : ∀ {vs : List Nat}, i ∈ vs → (backD ρ ρ' vs)[i]? = some (some d) → ρ[i]? = some (some d)
  | v :: vs, h, e => by
    unfold backD at e
    by_cases hi : v = i
    · subst hi
      by_cases hv : v < (backD ρ ρ' vs).length
      · rw [List.getElem?_set_self hv] at e
        cases q : ρ[v]? with
        | none => rw [q] at e; cases e
        | some o => rw [q] at e; simpa using e
      · rw [List.getElem?_eq_none (by simpa using hv)] at e; cases e
    · rw [List.getElem?_set_ne hi] at e
      exact backD_in ((List.mem_cons.mp h).resolve_left fun z => hi z.symm) e
def noOps (op : Op) (vs : List Nat) : Bool := vs.all fun i => noOp op i
theorem noOps_ne {op : Op} {vs : List Nat} (h : noOps op vs = true) {p : Nat × Kind} (hp : p ∈ op) : p.1 ∉ vs := fun m => noOp_ne (List.all_eq_true.mp h p.1 m) p hp rfl
/-- without the kept slots: within a block -/
def Fx.bare (c : Fx) : Fx := ⟨c.N0, []⟩
theorem Sim.bare {K : PySem.W.Frag} {c : Fx} {op : Op} {F : Nat → AS} {σ : St} {H : Hp} {ρ : DEnv} (S : Sim K c op F σ H ρ) : Sim K c.bare op F σ H ρ :=
  ⟨S.len, S.fr, S.ops, S.dis, S.nd, S.n0, S.n0d, fun p hp => by cases hp⟩
section
variable {K : PySem.W.Frag} {c : Fx} {op po : Op} {F F0 : Nat → AS} {σ σ2 : St} {H H0 : Hp} {ρ ρ0 : DEnv} {vs : List Nat}
theorem Sim.wipe (S : Sim K c op F σ H ρ) (n1 : noOps op vs = true) : Sim K c.bare op F (wipe σ vs) H (wipeD ρ vs) where
  len := by rw [wipe_length, wipeD_len]; exact S.len
  fr := fun i d e n => by
    obtain ⟨e, m⟩ := wipeD_some e
    obtain ⟨v, e1, h⟩ := S.fr i d e n
    exact ⟨v, by rw [wipe_get m]; exact e1, h⟩
  ops := fun p hp => by
    have m := noOps_ne n1 hp
    rw [wipe_get m, wipeD_get m]
    exact S.ops p hp
  dis := S.dis
  nd := S.nd
  n0 := S.n0
  n0d := S.n0d
  pv := fun p hp => by cases hp
theorem Sim.backW (S0 : Sim K c op F0 σ H0 ρ0) (S : Sim K c.bare op F σ2 H ρ) (w : L2.wipe σ2 vs = L2.wipe σ vs) (t : Trn (Own op F0) (Own op F) H0 H) (n1 : noOps op vs = true) : Sim K c op F σ H (backD ρ0 ρ vs) := by
  have at_ : ∀ i, i ∉ vs → σ[i]? = σ2[i]? := fun i m => by
    have : (L2.wipe σ2 vs)[i]? = (L2.wipe σ vs)[i]? := by rw [w]
    rw [wipe_get m, wipe_get m] at this
    exact this.symm
  refine ⟨?_, fun i d e n => ?_, fun p hp => ?_, S.dis, S.nd, S.n0, S.n0d, S0.pv⟩
  · have := congrArg List.length w
    rw [wipe_length, wipe_length] at this
    rw [backD_len, ← S.len, this]
  · by_cases m : i ∈ vs
    · obtain ⟨v, e1, h⟩ := S0.fr i d (backD_in m e) n
      exact ⟨v, e1, h.trn S0.live (mx_trn S0.n0 t)⟩
    · rw [backD_get m] at e
      rw [at_ i m]
      exact S.fr i d e n
  · have m := noOps_ne n1 hp
    rw [at_ _ m, backD_get m]
    exact S.ops p hp
/-- what another owns is changed -/
theorem Sim.other {l : Addr} {o : HO} (S : Sim K c op F σ H ρ) (h : c.N0 l) (mo : mutO o = true) : Sim K c op F σ (upd H l o) ρ := by
  have k : ∀ a o', H a = some o' → ¬ Mt c op F a → upd H l o a = some o' := fun a o' e n => by rw [upd_ne (fun z : a = l => n (.inl (by rw [z]; exact h)))]; exact e
  refine ⟨S.len, fun i d e n => ?_, fun p hp => ?_, S.dis, S.nd, fun a m => ?_, S.n0d, S.pv⟩
  · obtain ⟨v, e1, h1⟩ := S.fr i d e n
    exact ⟨v, e1, h1.frame S.live k fun _ _ _ m => m⟩
  · obtain ⟨v, d, e1, e2, ok⟩ := S.ops p hp
    refine ⟨v, d, e1, e2, p.2.frame S.live ok (fun a o' e n => ?_) fun _ _ _ m => m⟩
    rcases n with n | n
    · exact k a o' e n
    · rw [upd_ne (fun z : a = l => S.n0d p hp a n (by rw [z]; exact h))]; exact e
  · by_cases z : a = l
    · subst z; exact ⟨o, upd_same, mo⟩
    · obtain ⟨o', e, mo'⟩ := S.n0 a m
      exact ⟨o', by rw [upd_ne z]; exact e, mo'⟩
theorem DzA.other {l : Addr} {o : HO} {xs : List V} {ds : List D} (S : Sim K c op F σ H ρ) (h : c.N0 l) (hd : DzA K (Mt c op F) H xs ds) : DzA K (Mt c op F) (upd H l o) xs ds :=
  hd.frame S.live (fun a o' e n => by rw [upd_ne (fun z : a = l => n (.inl (by rw [z]; exact h)))]; exact e) fun _ _ _ m => m
end
structure DTs (X : Cx) (op : Op) (ifs : List Expr) (t : TT) (t' : DTT) : Prop where
  pts : PTs X ifs t
  sd : SdT X.K op t false t'
def dYes : DTT := fun ρ Q => Q true ρ
theorem SdT.loud {K : PySem.W.Frag} {op : Op} {t : TT} {q : Bool} {t' : DTT} (h : SdT K op t q t') : SdT K op t false t' := fun c F σ H ρ Q S w R hR => h c F σ H ρ Q S w R fun v H' ⟨ρ', F', st, z⟩ => hR _ _ ⟨ρ', F', st.loud, z⟩
theorem dts_nil {X : Cx} {op : Op} : DTs X op [] tYes dYes := ⟨pts_nil, fun c F σ H ρ Q S w R hR => hR _ _ ⟨ρ, F, Stp.refl S, w⟩⟩
theorem dts_one {X : Cx} {op : Op} {e : Expr} {t : TT} {q : Bool} {t' : DTT} (h : DT X op e t q t') : DTs X op [e] t t' := ⟨pts_one h.pt, h.sd.loud⟩
def dLcL (g : DTG) (tt : DTT) (te : DTE) (vs : List Nat) (Q : List D → DEnv → Prop) : List D → List D → DEnv → Prop
  | [], acc, ρ => Q acc ρ
  | d :: ds, acc, ρ => g d (wipeD ρ vs) fun ρ1 => tt ρ1 fun b ρ2 => Br b (te ρ2 fun y ρ3 => acc.length < sizeLine ∧ dLcL g tt te vs Q ds (acc ++ [y]) (backD ρ ρ3 vs)) (dLcL g tt te vs Q ds acc (backD ρ ρ2 vs))
@[irreducible] def dPick (g : DTG) (tt : DTT) (te : DTE) (vs : List Nat) (Q : List D → DEnv → Prop) (ds : List D) (ρ : DEnv) : Prop := dLcL g tt te vs Q ds [] ρ
def dfLc (it : DTA) (g : DTG) (tt : DTT) (te : DTE) (vs : List Nat) : DTA := fun ρ Q => it ρ fun ds ρ1 => dPick g tt te vs Q ds ρ1
section
variable {X : Cx} {lp : Jc} {po op : Op} {elt tg iter : Expr} {ifs : List Expr} {pos : Pos} {wi : TI} {it' : DTA} {g : TG} {g' : DTG} {tt : TT} {tt' : DTT} {te : TE} {te' : DTE} {q : Bool} {vs gs : List Nat}
theorem sdf_lc (hi : DI X op tg iter wi it') (hg : ∀ (c : Fx) (F : Nat → AS) (σ : St) (H : Hp) (ρ : DEnv) (v : V) (d : D) (Q : DEnv → Prop), PvOk c [] → Sim X.K c op F σ H ρ → Dz X.K (Mt c op F) H v d → g' d ρ Q →
      ∀ R : St → Hp → Prop, (∀ σ' ρ', Sim X.K c op F σ' H ρ' → (∀ vs : List Nat, (∀ i ∈ gs, i ∈ vs) → wipe σ' vs = wipe σ vs) → Q ρ' → R σ' H) → g v σ H R)
    (ht : SdT X.K op tt false tt') (he : Sd X.K op te [] [] q te') (n1 : noOps op vs = true) (hgs : gs.all (fun i => vs.contains i) = true) (c : Fx)
    (F : Nat → AS) (σ : St) (H : Hp) (ρ : DEnv) (Q : List D → DEnv → Prop) (S : Sim X.K c op F σ H ρ) (w : dfLc it' g' tt' te' vs ρ Q) (R : VK) (hR : ∀ v H', FQ X.K c op F σ H Q v H' → R v H') : tLc wi g tt te vs σ H R := by
  refine hi.sd c F σ H ρ _ S w _ fun J H1 ⟨ds, ρ1, F1, st, hJ, w1⟩ => fun L hL => ?_
  unfold dPick at w1
  have S1 := st.sim
  have N0L : (c.add L).N0 L := .inr rfl
  have S1' : Sim X.K (c.add L) op F1 σ (upd H1 L (.lst [])) ρ1 := S1.new (same_mk hL) hL upd_same rfl
  have t1' : Trn (Own op F1) (Own op F1) H1 (upd H1 L (.lst [])) := Trn.same (same_mk hL)
  have nL : ∀ {F2 σ2 H2 ρ2}, Sim X.K (c.add L) op F2 σ2 H2 ρ2 → ¬ Own op F2 L := fun S2 ⟨p, hp, f⟩ => S2.n0d p hp L f (.inr rfl)
  refine ⟨fun i m H2 => m + i = ds.length ∧ ∃ acc xs ρ2 F2, Sim X.K (c.add L) op F2 σ H2 ρ2 ∧ Trn (Own op F1) (Own op F2) H1 H2 ∧ H2 L = some (.lst xs) ∧ DzA X.K (Mt (c.add L) op F2) H2 xs acc ∧ dLcL g' tt' te' vs Q (ds.drop i) acc ρ2,
    ⟨ds.length, rfl, [], [], ρ1, F1, S1', t1', upd_same, .nil, w1⟩, ?_⟩
  rintro i m H2 ⟨hm, acc, xs, ρ2, F2, S2, t2, hx, hd, w2⟩
  have mt2 : Trn (Mt c op F1) (Mt (c.add L) op F2) H1 H2 := by
    have := mx_trn S1.n0 t2
    refine ⟨this.1, fun a o e m => ?_, this.2.2⟩
    rcases mt_add.mp m with m | z
    · exact this.2.1 a o e m
    · rw [z, hL] at e; cases e
  have jk := hJ _ H2 S2.live mt2 i
  by_cases hl : ds.length ≤ i
  · rw [List.drop_eq_nil_of_le hl] at w2
    exact .inl ⟨jk.2 hl, hR _ _ ⟨acc, ρ2, F2, L, xs, rfl, S2, st.trn.trans t2, st.trn.none hL, hx, hd, w2⟩⟩
  · have hlt : i < ds.length := by omega
    rw [List.drop_eq_getElem_cons hlt] at w2
    obtain ⟨go, yl⟩ := jk.1 ds[i] (List.getElem?_eq_getElem hlt)
    refine .inr ⟨go, fun H' => m - 1 + (i + 1) = ds.length ∧ ∃ acc xs ρ2 F2, Sim X.K (c.add L) op F2 σ H' ρ2 ∧ Trn (Own op F1) (Own op F2) H1 H' ∧ H' L = some (.lst xs) ∧ DzA X.K (Mt (c.add L) op F2) H' xs acc ∧ dLcL g' tt' te' vs Q (ds.drop (i + 1)) acc ρ2,
      fun H' h => ⟨m - 1, by omega, h⟩, fun x H3 hy => ?_⟩
    obtain ⟨s, hz⟩ := yl x H3 hy
    have S3 := S2.same s
    have t3 : Trn (Own op F1) (Own op F2) H1 H3 := t2.trans (Trn.same s)
    refine hg (c.add L).bare F2 (wipe σ vs) H3 (wipeD ρ2 vs) x _ _ rfl (S3.wipe n1) hz w2 _ fun σ4 ρ4 S4 e4 w4 => ?_
    have ew : wipe σ4 vs = wipe σ vs := by
      rw [e4 vs fun i hi => by simpa using List.all_eq_true.mp hgs i hi]
      exact wipe_eq (wipe_length _ _) fun i m => wipe_get m
    refine ⟨ew, ?_⟩
    refine ht (c.add L).bare F2 σ4 H3 ρ4 _ S4 w4 _ fun b H5 ⟨ρ5, F5, st5, w5⟩ => ?_
    have t5 := t3.trans st5.trn
    cases b with
    | false =>
      have hx5 : H5 L = some (.lst xs) := st5.trn.1 L _ (s _ _ hx) (nL S2)
      exact ⟨by omega, acc, xs, _, F5, S3.backW st5.sim ew st5.trn n1, t5, hx5, (hd.same s S2.live).trn S3.live (mx_trn S3.n0 st5.trn), w5.f rfl⟩
    | true =>
      refine he (c.add L).bare F5 σ4 H5 ρ5 _ st5.sim (w5.t rfl) _ fun y H6 ⟨d, ρ6, F6, st6, hyd, hacc, w6⟩ => ?_
      have tt6 := st5.trn.trans st6.trn
      have hx6 : H6 L = some (.lst xs) := tt6.1 L _ (s _ _ hx) (nL S2)
      have hd6 : DzA X.K (Mt (c.add L) op F6) H6 xs acc := (hd.same s S2.live).trn S3.live (mx_trn S3.n0 tt6)
      refine ⟨xs, hx6, by rw [hd6.len]; exact hacc, ?_⟩
      have S6 := S3.backW st6.sim ew tt6 n1
      refine ⟨by omega, acc ++ [d], xs ++ [y], _, F6, S6.other N0L rfl, ?_, upd_same, (hd6.app (.one (hyd.dz fun a m => m))).other S6 N0L, w6⟩
      have t6 := t3.trans tt6
      have ne : ∀ a o, H1 a = some o → a ≠ L := fun a o e z => by rw [z, hL] at e; cases e
      exact ⟨fun a o e n => by rw [upd_ne (ne a o e)]; exact t6.1 a o e n, t6.2.1, fun a o e => by rw [upd_ne (ne a o e)]; exact t6.2.2 a o e⟩
variable {scope : Scope} {own : List (Str × Nat)}
/-- [elt for tg in iter if ..]: a new list -/
theorem df_lc (hc : X.calm = true) (hN : X.N.Nodup) (hi : DI X op tg iter wi it') (ok : BlkOk X.N X.env.scope scope own)
    (hg : ∀ (s : Shared) (H : Hp) (C : Addr) (cl : List (Str × Addr)) (fp : List Addr), DG (X.blk s H scope (compEnvC scope cl C X.env) fp) [] op tg gs g g') (ht : ∀ (s : Shared) (H : Hp) (C : Addr) (cl : List (Str × Addr)) (fp : List Addr), DTs (X.blk s H scope (compEnvC scope cl C X.env) fp) op ifs tt tt')
    (he : ∀ (s : Shared) (H : Hp) (C : Addr) (cl : List (Str × Addr)) (fp : List Addr), DE (X.blk s H scope (compEnvC scope cl C X.env) fp) op elt te [] [] q te') (n1 : noOps op (own.map (·.2)) = true := by rfl) (hgs : gs.all (fun i => (own.map (·.2)).contains i) = true := by rfl)
    (hs : ∀ x, foldedSetIterable iter X.env x = pure x := by intro _; rfl) : DF X op (.ListComp elt [⟨tg, iter, ifs, 0⟩] scope pos) (tLc wi g tt te (own.map (·.2))) (dfLc it' g' tt' te' (own.map (·.2))) :=
  ⟨pe_lc hc hN hi.pi ok (fun s H C cl fp => (hg s H C cl fp).pg) (fun s H C cl fp => (ht s H C cl fp).pts) (fun s H C cl fp => (he s H C cl fp).pe) hs, fun c F σ H ρ Q S w R hR =>
    sdf_lc hi (hg X.s_0 X.H_0 0 [] []).sd (ht X.s_0 X.H_0 0 [] []).sd (he X.s_0 X.H_0 0 [] []).sd n1 hgs c F σ H ρ Q S w R hR⟩
/-- what a comprehension that is stored in a name is made of -/
structure DLc (X : Cx) (op : Op) (i : Nat) (st : Stmt) (te : TE) (t' : DTA) : Prop where
  ps : PS X st (tAsg te (gName i))
  sd : ∀ (c : Fx) (F : Nat → AS) (σ : St) (H : Hp) (ρ : DEnv) (Q : List D → DEnv → Prop), Sim X.K c op F σ H ρ → t' ρ Q → ∀ R : VK, (∀ v H', FQ X.K c op F σ H Q v H' → R v H') → te σ H R
theorem dlc {i : Nat} {y : Str} {py spos : Pos} (hc : X.calm = true) (hN : X.N.Nodup) (hi : DI X op tg iter wi it') (ok : BlkOk X.N X.env.scope scope own)
    (hg : ∀ (s : Shared) (H : Hp) (C : Addr) (cl : List (Str × Addr)) (fp : List Addr), DG (X.blk s H scope (compEnvC scope cl C X.env) fp) [] op tg gs g g') (ht : ∀ (s : Shared) (H : Hp) (C : Addr) (cl : List (Str × Addr)) (fp : List Addr), DTs (X.blk s H scope (compEnvC scope cl C X.env) fp) op ifs tt tt')
    (he : ∀ (s : Shared) (H : Hp) (C : Addr) (cl : List (Str × Addr)) (fp : List Addr), DE (X.blk s H scope (compEnvC scope cl C X.env) fp) op elt te [] [] q te') (hy : X.N[i]? = some y := by rfl) (hyl : X.env.scope.names.lookup y = some .local := by rfl)
    (hsw : swapsWith (.ListComp elt [⟨tg, iter, ifs, 0⟩] scope pos) (some (.Name y py)) spos.line X.env = pure true := by exact sw_true rfl rfl rfl (by decide +kernel)) (n1 : noOps op (own.map (·.2)) = true := by rfl) (hgs : gs.all (fun i => (own.map (·.2)).contains i) = true := by rfl)
    (hs : ∀ x, foldedSetIterable iter X.env x = pure x := by intro _; rfl) :
    DLc X op i (.Assign [.Name y py] (.ListComp elt [⟨tg, iter, ifs, 0⟩] scope pos) spos) (tLc wi g tt te (own.map (·.2))) (dfLc it' g' tt' te' (own.map (·.2))) :=
  ⟨ps_setLc hc hN hy hyl hsw hi.pi ok (fun s H C cl fp => (hg s H C cl fp).pg) (fun s H C cl fp => (ht s H C cl fp).pts) (fun s H C cl fp => (he s H C cl fp).pe) hs, fun c F σ H ρ Q S w R hR =>
    sdf_lc hi (hg X.s_0 X.H_0 0 [] []).sd (ht X.s_0 X.H_0 0 [] []).sd (he X.s_0 X.H_0 0 [] []).sd n1 hgs c F σ H ρ Q S w R hR⟩
end
/-! ### a new list that is not owned -/
def dNew (t : DTA) : DTE := fun ρ Q => t ρ fun ds ρ1 => Q (.list ds) ρ1
section
variable {X : Cx} {lp : Jc} {po op : Op} {e : Expr} {st : Stmt} {t te : TE} {ta' : DTA} {i : Nat}
theorem sd_df {K : PySem.W.Frag} (sd : ∀ (c : Fx) (F : Nat → AS) (σ : St) (H : Hp) (ρ : DEnv) (Q : List D → DEnv → Prop), Sim K c op F σ H ρ → ta' ρ Q → ∀ R : VK, (∀ v H', FQ K c op F σ H Q v H' → R v H') → t σ H R) : Sd K op t [] [] false (dNew ta') := fun c F σ H ρ Q S w R hR =>
  sd c F σ H ρ _ S w _ fun v H' ⟨ds, ρ1, F1, l, xs, ev, S1, t1, hn, e, hd, w1⟩ => hR _ _ ⟨_, ρ1, F1, ⟨S1.drop, t1, fun h => by cases h⟩, .inl (by
    subst ev
    refine .lst (fun m => ?_) e (hd.mono fun a m => mt_add.mpr (.inl m))
    rcases m with m | ⟨p, hp, _, m⟩
    · obtain ⟨o, e, _⟩ := S.n0 l m
      rw [hn] at e; cases e
    · exact S1.n0d p hp l m (.inr rfl)), w1⟩
theorem de_df (h : DF X op e t ta') : DE X op e t [] [] false (dNew ta') := ⟨h.pe, sd_df h.sd⟩
theorem ds_lcOwn (h : DLc X op i st te ta') (n1 : noOp op i = true := by rfl) (n2 : noOp po i = true := by rfl) : DS X lp po op ((i, kL) :: op) st (tAsg te (gName i)) (dOwn i ta') := ⟨h.ps, sds_own h.sd n1 n2⟩
theorem ds_lcSet (h : DLc X op i st te ta') (n1 : noOp op i = true := by rfl) (n2 : noOp po i = true := by rfl) : DS X lp po op op st (tAsg te (gName i)) (dSet i (dNew ta')) :=
  ⟨h.ps, fun c F σ H ρ E R pv S w j => sd_df h.sd c F σ H ρ _ S w _ fun v H' ⟨d, ρ', F', st, hd, w2⟩ => j.nx _ _ ⟨_, F', st.sim.set (hd.dz fun a m => m) (noOp_ne n1) (pv_ne pv n2), st.trn, w2⟩⟩
end
end Vt
namespace Vt
open PySem PySem.Spec PyProof.Rows L2
variable [WorldC]
/-! ### defs that are called where nothing is being shown -/
structure RoomG (k : Nat) (A : Around) : Prop where
  rm : Room k A
  gd : A.guards = some []
theorem RoomG.less {j k : Nat} {A : Around} (r : RoomG k A) (h : j ≤ k) : RoomG j A := ⟨r.rm.mono h, r.gd⟩
structure FnG (P : Program) (w : World) (K : PySem.W.Frag) (mg : Str → Option Value) (base : Heap) (CX : CXT) (k : Nat) (f : Addr) (fd : FuncData) (ps : List Str) (sp : Sp) : Prop where
  len : ∀ vs H Q E, sp vs H Q E → vs.length = ps.length
  go : ∀ (A : Around) (outer : List Env) (s : Shared) (H : Hp) (as : Args) (us : List Value) (vs : List V) (Q : VK) (E : XK), RoomG k A → Env0 P w K mg base A outer s H → BindsTo s fd as (ps.zip us) → Vals vs us → sp vs H Q E →
    codeAny (model P w) A (.call (.ref f) as) (CR CX outer P w H s Q E) s
theorem FnG.of {P : Program} {w : World} {K : PySem.W.Frag} {mg : Str → Option Value} {base : Heap} {CX : CXT} {k : Nat} {f : Addr} {fd : FuncData} {ps : List Str} {sp : Sp} (F : FnOk P w K mg base CX k f fd ps sp) : FnG P w K mg base CX k f fd ps sp :=
  ⟨F.len, fun A outer s H as us vs Q E r => F.run A outer s H as us vs Q E r.rm⟩
theorem FnG.imp {P : Program} {w : World} {K : PySem.W.Frag} {mg : Str → Option Value} {base : Heap} {CX : CXT} {k : Nat} {f : Addr} {fd : FuncData} {ps : List Str} {sp sp' : Sp} (F : FnG P w K mg base CX k f fd ps sp) (h : ∀ vs H Q E, sp' vs H Q E → sp vs H Q E) : FnG P w K mg base CX k f fd ps sp' :=
  ⟨fun vs H Q E q => F.len vs H Q E (h _ _ _ _ q), fun A outer s H as us vs Q E r e b v q => F.go A outer s H as us vs Q E r e b v (h _ _ _ _ q)⟩
/-- a def by its body -/
theorem fnG_of {P : Program} {w : World} {K : PySem.W.Frag} {mg : Str → Option Value} {base : Heap} {x qual : Str} {prm : Arguments} {body : List Stmt} {scope : Scope} {dfl : List V} {kws : List (Str × V)} {f : Addr} {fd : FuncData} {CX : CXT} {N ps : List Str} {k : Nat} {sp : Sp}
    (F : FunD K x qual prm body scope dfl kws f fd) (S : FnScope N ps scope) (len : ∀ vs H Q E, sp vs H Q E → vs.length = ps.length)
    (bd : ∀ (cv : Value) (A : Around) (outer : List Env) (s : Shared) (H : Hp) (vs : List V) (Q : VK) (E : XK), RoomG k (A.deeper (envOfC qual scope s.heap.objs.size f cv)) → sp vs H Q E →
      ∃ t, PSs (cxOf CX P w K mg base N qual scope f cv A outer s H E) body t ∧ t { nx := fun _ G => Q .non G, rt := Q } (start N vs) H) : FnG P w K mg base CX (k + 1) f fd ps sp := by
  obtain ⟨oc, od, dV, kV, doc, pm, an, cv, ct, osl, rfl, lk, hcd, _, _⟩ := F.ex
  refine ⟨len, fun A outer s H as us vs Q E hr e0 hb r hs => ?_⟩
  have hl := len _ _ _ _ hs
  have inK : K.In s.heap := e0.mod.kin.keeps fun b o e => (e0.bs b o e).1
  have noLim : s.heap.NoLimit := e0.mod.nolimit.keeps fun b o e => (e0.bs b o e).1
  have kinds : ∀ y ∈ ps.zip us, scope.names.lookup y.1 = some .local ∨ (scope.names.lookup y.1 = some .cell ∧ ((cellsFrom (s.heap.objs.size + 1) scope.names []).lookup y.1).isSome = true) := by
    rintro ⟨n, v⟩ hy
    rcases S.par n (List.of_mem_zip hy).1 with q | q
    · exact Or.inl q
    · exact Or.inr ⟨q, PySem.W.cellsFrom_some _ _ _ (Or.inl q)⟩
  refine PySem.codeAny_call_function hr.rm.depth (inK _ _ lk) rfl S.co S.gen rfl (PySem.W.codeRec_of inK hcd) (hb _ _ _ _ ?_)
  refine wpAny_newFunctionEnv_cells S.kind kinds fun env he s1 x1 => ?_
  subst he
  refine ⟨noLim.keeps x1.toInCall.keep, codeAny_func ?_⟩
  obtain ⟨t, ht, hq⟩ := bd cv A outer s H vs Q E ⟨hr.rm.deeper _, hr.gd⟩ hs
  have I : Inv (cxOf CX P w K mg base N qual scope f cv A outer s H E) [] (start N vs) H s1 := inv_start S hr.rm.hd e0 hl r x1
  refine wpAny_mono (ht.run [] s1 (start N vs) H _ I hq) (fun fl s' hs' => ?_) fun e s' hs' => hs'
  have close : ∀ {σ1 : L2.St} {G : Hp} {v : V} {u : Value}, Inv (cxOf CX P w K mg base N qual scope f cv A outer s H E) [] σ1 G s' → RelV v u → Q v G → CE outer P w H s Q u s' :=
    fun {σ1 G v u} J rv q => ⟨v, G, J.os, J.bare, J.base, J.hok, rv, q⟩
  match fl, hs' with
  | .ret u, ⟨v, σ1, G, J, rv, q⟩ => exact close J rv q
  | .next, ⟨σ1, G, J, q⟩ => exact close (v := V.non) (u := Value.none) J rfl q
  | .brk, ⟨_, _, _, q⟩ => exact q.elim
  | .cont, ⟨_, _, _, q⟩ => exact q.elim
section
variable {X : Cx} {CX : CXT} {k : Nat} {f : Addr} {fd : FuncData} {ps ks : List Str} {sp : Sp} {dvs : List V} {ds : List Value} {E : XK} {x : Str} {p pos : Pos} {e : Expr} {es : List Expr} {kws : List Keyword} {t tk : TA}
theorem cr_after {pins : List (Addr × Obj)} {σ : L2.St} {H : Hp} {s : Shared} {Q : VK} (hx : Passes CX X E) (I : Inv X pins σ H s) {as : Args} (h : codeAny (model X.prog X.w) X.A (.call (.ref f) as) (CR CX X.stack X.prog X.w H s Q E) s) :
    codeAny (model X.prog X.w) X.A (.call (.ref f) as) (fun r s' => match r with | .ok (.ret u) => EP X pins σ Q u s' | .ok _ => False | .error e => X.xe e s') s := by
  refine codeAny_mono h fun r s' hq => ?_
  match r, hq with
  | .error e, hq => exact hx pins σ H s e s' I hq
  | .ok (.ret u), hq => exact I.after hq
  | .ok .next, hq => exact hq.elim
  | .ok .brk, hq => exact hq.elim
  | .ok .cont, hq => exact hq.elim
theorem run_g {pins : List (Addr × Obj)} {σ : L2.St} {H : Hp} {s : Shared} {Q : VK} {us : List Value} {vs : List V} (F : FnG X.prog X.w X.K X.mg X.base CX k f fd ps sp) (hr : RoomG k X.A) (hb : Binds X.K fd ps ds) (hd : Vals dvs ds) (hx : Passes CX X E)
    (I : Inv X pins σ H s) (r : Vals vs us) (h : sp (vs ++ dvs) H Q E) : wpAny (model X.prog X.w) X.A (call (.ref f) us) (EP X pins σ Q) X.xe s := by
  have r2 : Vals (vs ++ dvs) (us ++ ds) := Vals.append r hd
  have hl : (us ++ ds).length = ps.length := by
    rw [← r2.length]
    exact F.len _ _ _ _ h
  refine wpAny_call (codeAny_mono (cr_after hx I (F.go X.A X.stack s H ⟨us, []⟩ (us ++ ds) (vs ++ dvs) Q E hr I.env0 (hb s us I.kIn hl) r2 h)) fun r s' hq => ?_)
  match r, hq with
  | .error e, hq => exact hq
  | .ok (.ret u), hq => exact hq
theorem run_gn {g : List Value → List Value → List Value} {gV : List V → List V → List V} {n : Nat} {pins : List (Addr × Obj)} {σ : L2.St} {H : Hp} {s : Shared} {Q : VK} {us ws : List Value} {vs zs : List V} (F : FnG X.prog X.w X.K X.mg X.base CX k f fd ps sp) (hr : RoomG k X.A)
    (hb : KBn X.K fd ps n ks g gV) (hx : Passes CX X E) (I : Inv X pins σ H s) (r : Vals vs us) (rz : Vals zs ws) (hn : vs.length = n) (hz : zs.length = ks.length) (h : sp (gV vs zs) H Q E) :
    wpAny (model X.prog X.w) X.A (call (.ref f) us (ks.zip ws)) (EP X pins σ Q) X.xe s := by
  have r2 := hb.rel r rz
  refine wpAny_call (codeAny_mono (cr_after hx I (F.go X.A X.stack s H ⟨us, ks.zip ws⟩ (g us ws) (gV vs zs) Q E hr I.env0 (hb.to s us ws I.kIn (by rw [← r.length]; exact hn) (by rw [← rz.length]; exact hz)) r2 h)) fun r s' hq => ?_)
  match r, hq with
  | .error e, hq => exact hq
  | .ok (.ret u), hq => exact hq
/-- a def of the text at its global name -/
def CalG (P : Program) (w : World) (K : PySem.W.Frag) (mg : Str → Option Value) (base : Heap) (CX : CXT) (k : Nat) (x : Str) (ps : List Str) (dvs : List V) (sp : Sp) : Prop :=
  ∃ (f : Addr) (fd : FuncData) (ds : List Value), FnG P w K mg base CX k f fd ps sp ∧ mg x = some (.ref f) ∧ PySem.W.keepIn K (.ref f) = true ∧ Binds K fd ps ds ∧ Vals dvs ds
def KCalG (P : Program) (w : World) (K : PySem.W.Frag) (mg : Str → Option Value) (base : Heap) (CX : CXT) (k : Nat) (x : Str) (ps : List Str) (n : Nat) (ks : List Str) (gV : List V → List V → List V) (sp : Sp) : Prop :=
  ∃ (f : Addr) (fd : FuncData) (g : List Value → List Value → List Value), FnG P w K mg base CX k f fd ps sp ∧ mg x = some (.ref f) ∧ PySem.W.keepIn K (.ref f) = true ∧ KBn K fd ps n ks g gV
theorem pe_cg {j : Nat} (C : CalG X.prog X.w X.K X.mg X.base CX k x ps dvs sp) (hr : RoomG j X.A) (hx : Passes CX X E) (ha : PA X (e :: es) t) (hkj : k ≤ j) (hg : Gl X x) (hdb : (x == ("__debug__" : Str)) = false)
    (he : starEach (e :: es) X.env = (false, eval e X.env) :: starEach es X.env) (hpl : (backTo pos (starEach es X.env)).any (·.1) = false) : PE X (.Call (.Name x p) (e :: es) [] pos) (tCall sp dvs E t) := by
  obtain ⟨f, fd, ds, h1, h2, h3, h4, h5⟩ := C
  refine ⟨fun pins s σ H Q I h => wpAny_Call_Name_kw (ld_glob I hg h2 ?_ hdb)⟩
  exact PySem.W.callWith_K (h₀ := X.base) I.ok.mod.kin h3 (thn (ha.run pos pins s σ H _ I h) fun us s1 ⟨vs, H1, I1, r, q⟩ => ⟨I1.kIn, run_g h1 (hr.less hkj) h4 h5 hx I1 r q⟩) he hpl
theorem pe_cg0 {j : Nat} (C : CalG X.prog X.w X.K X.mg X.base CX k x ps dvs sp) (hr : RoomG j X.A) (hx : Passes CX X E) (hkj : k ≤ j) (hg : Gl X x) (hdb : (x == ("__debug__" : Str)) = false) : PE X (.Call (.Name x p) [] [] pos) (tCall sp dvs E tNil) := by
  obtain ⟨f, fd, ds, h1, h2, h3, h4, h5⟩ := C
  refine ⟨fun pins s σ H Q I h => wpAny_Call_Name_kw (ld_glob I hg h2 ?_ hdb)⟩
  exact PySem.W.callWith_K0 I.kIn h3 (run_g (us := []) h1 (hr.less hkj) h4 h5 hx I .nil h)
/-- keywords alone -/
def tCallKw (n : Nat) (sp : Sp) (gV : List V → List V → List V) (E : XK) (tk : TA) : TE := fun σ H Q => tk σ H fun zs H2 => zs.length = n ∧ sp (gV [] zs) H2 Q E
/-- .. behind places -/
def tCallPK (m n : Nat) (sp : Sp) (gV : List V → List V → List V) (E : XK) (t tk : TA) : TE := fun σ H Q => t σ H fun vs H1 => tk σ H1 fun zs H2 => vs.length = m ∧ zs.length = n ∧ sp (gV vs zs) H2 Q E
theorem pe_cgk {j : Nat} {gV : List V → List V → List V} (C : KCalG X.prog X.w X.K X.mg X.base CX k x ps 0 ks gV sp) (hr : RoomG j X.A) (hx : Passes CX X E) (hkw : PK X kws tk) (hkj : k ≤ j) (hg : Gl X x)
    (hall : (backToKw pos (keywordEach kws X.env)).all (·.1.isSome) = true) (hks : (backToKw pos (keywordEach kws X.env)).filterMap (·.1) = ks) (hdb : (x == ("__debug__" : Str)) = false)
    (hpl : ((backTo pos (starEach [] X.env)).any (·.1) || (backToKw pos (keywordEach kws X.env)).any (·.1.isNone)) = false) : PE X (.Call (.Name x p) [] kws pos) (tCallKw ks.length sp gV E tk) := by
  obtain ⟨f, fd, g, h1, h2, h3, h4⟩ := C
  refine ⟨fun pins s σ H Q I h => wpAny_Call_Name_kw (ld_glob I hg h2 ?_ hdb)⟩
  refine PySem.W.callWith_KW0 (h₀ := X.base) I.ok.mod.kin h3 hall (thn (hkw.run pos pins s σ H _ I h) fun ws s2 ⟨zs, H2, I2, rz, l2, q2⟩ => ⟨I2.kIn, ?_⟩) hpl
  rw [hks]
  exact run_gn h1 (hr.less hkj) h4 hx I2 .nil rz rfl l2 q2
theorem pe_cgpk {j m : Nat} {gV : List V → List V → List V} (C : KCalG X.prog X.w X.K X.mg X.base CX k x ps m ks gV sp) (hr : RoomG j X.A) (hx : Passes CX X E) (ha : PA X (e :: es) t) (hkw : PK X kws tk) (hkj : k ≤ j) (hg : Gl X x)
    (hall : (backToKw pos (keywordEach kws X.env)).all (·.1.isSome) = true) (hks : (backToKw pos (keywordEach kws X.env)).filterMap (·.1) = ks) (hdb : (x == ("__debug__" : Str)) = false) (he : starEach (e :: es) X.env = (false, eval e X.env) :: starEach es X.env)
    (hpl : ((backTo pos (starEach (e :: es) X.env)).any (·.1) || (backToKw pos (keywordEach kws X.env)).any (·.1.isNone)) = false) : PE X (.Call (.Name x p) (e :: es) kws pos) (tCallPK m ks.length sp gV E t tk) := by
  obtain ⟨f, fd, g, h1, h2, h3, h4⟩ := C
  refine ⟨fun pins s σ H Q I h => wpAny_Call_Name_kw (ld_glob I hg h2 ?_ hdb)⟩
  refine PySem.W.callWith_KW (h₀ := X.base) I.ok.mod.kin h3 hall (thn (ha.run pos pins s σ H _ I h) fun us s1 ⟨vs, H1, I1, r, q⟩ => ?_) hpl he
  refine thn (hkw.run pos pins s1 σ H1 _ I1 q) fun ws s2 ⟨zs, H2, I2, rz, l1, l2, q2⟩ => ⟨I2.kIn, ?_⟩
  rw [hks]
  exact run_gn h1 (hr.less hkj) h4 hx I2 r rz l1 l2 q2
end
/-! ### a law's end -/
theorem law_go {P : Program} {w : World} {K : PySem.W.Frag} {mg mb : Str → Option Value} {CX : CXT} {k : Nat} {fa a : Addr} {fd : FuncData} {x : Str} {sp : Sp} {s1 : Shared} {vs : List Value} {ns : List Int}
    (KX : K.In s1.heap) (hns : s1.heap.Ns mainGlobals mg) (hb : s1.heap.Ns builtinsNs mb) (hbb : ∀ x : Str, x ≠ "__name__" → mb x = bootBuiltins x) (noLim : s1.heap.NoLimit) (hg : s1.gens = #[])
    (ha : s1.heap.get? a = some { cls := .type "list", data := .seq vs.toArray }) (hi : PyProof.Rows.IntsAre vs ns) (hl : ns.length ≤ sizeLine) (hr : RoomG k callerA)
    (F : ∀ base : Heap, K.In base → base.Ns mainGlobals mg → FnG P w K mg base CX k fa fd [x] sp) (bnd : ∀ (s : Shared) (u : Value), BindsTo s fd ⟨[u], []⟩ [(x, u)])
    (hsp : ∀ H : Hp, Only H → SqL K H a (ns.map V.int) → sp [.ref a] H (fun v _ => v = .bl true) fun _ _ _ => False) (noX : ∀ H e s', CX [] H s1 (fun _ _ _ => False) e s' → False) :
    codeAny (model P w) callerA (.call (.ref fa) ⟨[.ref a], []⟩) (fun r s' => r = .ok (.ret (.bool true)) ∧ OldK s1.heap s'.heap ∧ s'.os = s1.os ∧ AllBare s'.gens) s1 := by
  have rv := vals_ints hi
  have lenV := hi.length
  have main : ∀ H : Hp, Only H → SqL K H a (ns.map V.int) → HOk P w H s1.heap → (∀ b, H b ≠ none → b = a) → (H a ≠ none → K.lookup a = none) →
      codeAny (model P w) callerA (.call (.ref fa) ⟨[.ref a], []⟩) (fun r s' => r = .ok (.ret (.bool true)) ∧ OldK s1.heap s'.heap ∧ s'.os = s1.os ∧ AllBare s'.gens) s1 := by
    intro H hO hS hok hA hK
    have isA : ∀ {b : Addr} {u : HO}, H b = some u → b = a := fun {b u} q => hA b (by rw [q]; simp)
    have get_h : ∀ {b : Addr} {o : Obj}, s1.heap.get? b = some o → H b = none → (hidT s1.heap H).get? b = some o := fun e n => hidT_get e n
    have dict_no : ∀ {b : Addr} {o : Obj} {es : Array DictEntry} {ep : Nat}, s1.heap.get? b = some o → o.data = .dict es ep → H b = none := fun {b o es ep} e d => by
      cases q : H b with
      | none => rfl
      | some u =>
        rw [isA q, ha] at e
        cases e
        exact absurd (show Data.seq vs.toArray _ = Data.dict es ep from d) (by intro z; cases z)
    have ns_h : ∀ {b : Addr} {m : Str → Option Value}, s1.heap.Ns b m → (hidT s1.heap H).Ns b m := fun {b m} ⟨o, es, ep, e, d, r⟩ => ⟨o, es, ep, get_h e (dict_no e d), d, r⟩
    have inH : K.In (hidT s1.heap H) := fun b o e => get_h (KX b o e) (by
      cases q : H b with
      | none => rfl
      | some u =>
        have z := isA q
        rw [z] at e q
        rw [hK (by rw [q]; simp)] at e
        cases e)
    have md : Mod K mg (hidT s1.heap H) := ⟨inH, ns_h hns, ⟨mb, ns_h hb, hbb⟩, by obtain ⟨mc, h1, h2⟩ := noLim; exact ⟨mc, ns_h h1, h2⟩⟩
    have e0 : Env0 P w K mg (hidT s1.heap H) callerA [] s1 H := ⟨rfl, md, fun b o e => of_hidT e, Nat.le_of_eq (hidT_size _ _), trivial, fun b z => by simp [frs] at z, hok, .of_eq hg⟩
    refine codeAny_mono ((F _ inH (ns_h hns)).go callerA [] s1 H ⟨[.ref a], []⟩ [.ref a] [.ref a] _ _ hr e0 (bnd s1 (.ref a)) (.cons rfl .nil) (hsp H hO hS)) fun r s' h => ?_
    match r, h with
    | .error e, h => exact (noX H e s' h).elim
    | .ok .next, h => exact h.elim
    | .ok .brk, h => exact h.elim
    | .ok .cont, h => exact h.elim
    | .ok (.ret u), ⟨v, H', os, bare, un, hok', r', q⟩ =>
      obtain rfl : v = .bl true := q
      obtain rfl : u = Value.bool true := r'
      refine ⟨rfl, OldK.of_keep fun b o e => ?_, os, bare⟩
      cases q : H b with
      | none => exact un.keep b o e q (by simp [frs]) (by simp)
      | some u =>
        rcases hO b with z | ⟨ob, xs, z⟩
        · rw [q] at z
          cases z
        · obtain ⟨e1, _⟩ := hok b _ z
          obtain ⟨e2, _⟩ := hok' b _ (un.frzs b ob _ z)
          rw [e] at e1
          cases e1
          exact e2
  cases hk : K.lookup a with
  | some o =>
    have e := KX a o hk
    rw [ha] at e
    cases e
    refine main (fun _ => none) (fun _ => Or.inl rfl) (Or.inr ⟨_, vs.toArray, _, hk, rfl, rfl, rfl, ?_, ?_⟩) (fun b u z => nomatch (show (none : Option HO) = some u from z)) (fun b z => absurd rfl z) fun z => absurd rfl z
    · rw [List.size_toArray, lenV]
      exact hl
    · simpa using rv
  | none =>
    have at_a : ∀ b, b = a → (if b = a then some (HO.frz { cls := .type "list", data := .seq vs.toArray } (.lst (ns.map V.int))) else none) = some (HO.frz { cls := .type "list", data := .seq vs.toArray } (.lst (ns.map V.int))) := fun b h => if_pos h
    have off : ∀ b, b ≠ a → (if b = a then some (HO.frz { cls := .type "list", data := .seq vs.toArray } (.lst (ns.map V.int))) else none) = none := fun b h => if_neg h
    refine main (fun b => if b = a then some (.frz { cls := .type "list", data := .seq vs.toArray } (.lst (ns.map V.int))) else none) (fun b => ?_) (Or.inl (Or.inr ⟨_, at_a a rfl⟩)) (fun b u z => ?_) (fun b z => ?_) fun _ => hk
    · by_cases hb : b = a
      · exact Or.inr ⟨_, _, at_a b hb⟩
      · exact Or.inl (off b hb)
    · by_cases hb : b = a
      · have z' := (at_a b hb).symm.trans z
        cases z'
        rw [hb]
        exact ⟨ha, by rw [List.length_map]; exact hl, vs, _, rv, ha⟩
      · have z' := (off b hb).symm.trans z
        cases z'
    · by_cases hb : b = a
      · exact hb
      · exact absurd (off b hb) z
theorem walk_g {l : PySem.W.OpenLaw} {n k : Nat} {q : Program} {loose : List Str} {XP : (Str → Option Value) → Heap → Prop} {YP : World → Heap → Prop} {d : DefRec} {CX : CXT} {x : Str}
    (hn : l.most = some n) (hn2 : n ≤ sizeLine) (dfl : d.params.defaults = []) (hr : Room k callerA)
    (F : ∀ (w : World) (mg : Str → Option Value) (fa : Addr) (h : Heap), YP w h → h.Ns mainGlobals mg → mg d.name = some (.ref fa) →
      ∃ (K : PySem.W.Frag) (fd : FuncData) (sp : Sp), K.In h ∧ (∀ (s : Shared) (u : Value), BindsTo s fd ⟨[u], []⟩ [(x, u)]) ∧
        (∀ (H : Hp) (a : Addr) (ns : List Int), ns.length ≤ n → Only H → SqL K H a (ns.map V.int) → sp [.ref a] H (fun v _ => v = .bl true) fun _ _ _ => False) ∧
        ∀ base : Heap, K.In base → base.Ns mainGlobals mg → FnG l.prog w K mg base CX k fa fd [x] sp)
    (noX : ∀ (H : Hp) (s : Shared) (e : Value) (s' : Shared), CX [] H s (fun _ _ _ => False) e s' → False) :
    PySem.W.WalkO q loose XP YP l.row.toRowW d [] (fun f vs => PySem.call f vs) := by
  refine Att.attach_call hn dfl fun w s0 s1 mg mb fa o pm cd doc a vs ns G Y ho hd hcd hmg hob hin hle hge => ?_
  obtain ⟨K, fd, sp, KX, hb, hsp, hF⟩ := F w mg fa _ Y G.T.g hmg
  exact law_go KX G.T.g G.T.b G.T.builtins G.T.nolimit hge hob hin (Nat.le_trans hle hn2) ⟨hr, rfl⟩ hF hb (fun H hO hS => hsp H a ns hle hO hS) fun H e s' => noX H s1 e s'
end Vt
namespace Vt
open PySem PySem.Spec L2
variable [WorldC]
/-- a promise told of data: the arguments; what is wanted of the result and of what the owned parameters hold then; what is wanted of an error: its class, its fields, what is held then -/
abbrev DSp := List D → (D → List D → Prop) → (Str → Fds → List D → Prop) → Prop
def pvOf (po : Op) (vs : List V) : List (Nat × V) := po.map fun p => (p.1, vs.getD p.1 .non)
/-- pi: what is handed in and owned; po: what of it is handed back; xo: at an error; rs: the form of the result -/
def spOf (K : PySem.W.Frag) (pi po xo : Op) (np : Nat) (rs : Sh) (spd : DSp) : Sp := fun vs H Q E => ∃ (N0 : AS) (F : Nat → AS) (ds : List D), vs.length = np ∧ Sim K ⟨N0, pvOf po vs⟩ pi F (vs.map some) H (ds.map some) ∧
  spd ds (fun d cs => ∀ v H' F' L, Ret K (Fx.addS ⟨N0, pvOf po vs⟩ L) po F' H' cs → Trn (Own pi F) (fun a => Own po F' a ∨ a ∈ L) H H' → (∀ a ∈ L, ¬ N0 a) → L.Nodup → Tz K (Mt (Fx.addS ⟨N0, pvOf po vs⟩ L) po F') H' rs v d L → Q v H')
    (fun n fs cs => ∀ cls d H' F', Ret K ⟨N0, pvOf xo vs⟩ xo F' H' cs → Trn (Own pi F) (Own xo F') H H' → XD K (Mt ⟨N0, pvOf xo vs⟩ xo F') H' cls d n fs → E cls d H')
def start0 (n : Nat) (ds : List D) : DEnv := ds.map some ++ List.replicate (n - ds.length) none
theorem pvOf_ok {N0 : AS} {po : Op} {vs : List V} : PvOk ⟨N0, pvOf po vs⟩ po := by
  unfold PvOk pvOf
  rw [List.map_map]
  rfl
theorem Sim.start {K : PySem.W.Frag} {c : Fx} {po : Op} {F : Nat → AS} {vs : List V} {ds : List D} {H : Hp} {N : List Str} (S : Sim K c po F (vs.map some) H (ds.map some)) : Sim K c po F (start N vs) H (start0 N.length ds) := by
  have hl : vs.length = ds.length := by simpa using S.len
  have g1 : ∀ i d, (start0 N.length ds)[i]? = some (some d) → (ds.map some)[i]? = some (some d) := fun i d e => by
    unfold start0 at e
    by_cases hi : i < (ds.map some).length
    · rw [List.getElem?_append_left hi] at e; exact e
    · rw [List.getElem?_append_right (by omega), List.getElem?_replicate] at e
      split at e <;> cases e
  have g2 : ∀ i v, (vs.map some)[i]? = some (some v) → (L2.start N vs)[i]? = some (some v) := fun i v e => by
    have hi : i < (vs.map some).length := (List.getElem?_eq_some_iff.mp e).1
    unfold L2.start
    rw [List.getElem?_append_left hi]; exact e
  have g3 : ∀ i d, (ds.map some)[i]? = some (some d) → (start0 N.length ds)[i]? = some (some d) := fun i d e => by
    have hi : i < (ds.map some).length := (List.getElem?_eq_some_iff.mp e).1
    unfold start0
    rw [List.getElem?_append_left hi]; exact e
  refine ⟨?_, fun i d e n => ?_, fun p hp => ?_, S.dis, S.nd, S.n0, S.n0d, fun p hp => g2 _ _ (S.pv p hp)⟩
  · unfold L2.start start0
    simp [hl]
  · obtain ⟨v, e1, h⟩ := S.fr i d (g1 i d e) n
    exact ⟨v, g2 _ _ e1, h⟩
  · obtain ⟨v, d, e1, e2, ok⟩ := S.ops p hp
    exact ⟨v, d, g2 _ _ e1, g3 _ _ e2, ok⟩
/-- fewer slots are kept -/
theorem Sim.lessPv {K : PySem.W.Frag} {N0 : AS} {pv pv' : List (Nat × V)} {op : Op} {F : Nat → AS} {σ : St} {H : Hp} {ρ : DEnv} (S : Sim K ⟨N0, pv⟩ op F σ H ρ) (h : ∀ q ∈ pv', q ∈ pv) : Sim K ⟨N0, pv'⟩ op F σ H ρ :=
  ⟨S.len, S.fr, S.ops, S.dis, S.nd, S.n0, S.n0d, fun p hp => S.pv p (h p hp)⟩
def subOp (xo po : Op) : Bool := xo.all fun q => po.any fun r => r.1 == q.1
theorem pv_sub {xo po : Op} {vs : List V} (h : subOp xo po = true) : ∀ q ∈ pvOf xo vs, q ∈ pvOf po vs := fun q hq => by
  obtain ⟨r, hr, rfl⟩ := List.mem_map.mp hq
  obtain ⟨z, hz, e⟩ := List.any_eq_true.mp (List.all_eq_true.mp h r hr)
  have e : z.1 = r.1 := by simpa using e
  exact List.mem_map.mpr ⟨z, hz, by rw [e]⟩
/-- around a def's body -/
def topJ (xo : Op) (rs : Sh) (E : XK) : Jc := ⟨[], xo, rs, fun cls d _ H => E cls d H⟩
/-- THE RULE: a def by its body, told of data -/
theorem fndT {P : Program} {w : World} {K : PySem.W.Frag} {mg : Str → Option Value} {base : Heap} {x qual : Str} {prm : Arguments} {body : List Stmt} {scope : Scope} {dfl : List V} {kws : List (Str × V)} {f : Addr} {fd : FuncData} {N ps : List Str} {k : Nat} {pi po xo : Op} {rs : Sh} {spd : DSp} {nx : (D → List D → Prop) → DEnv → Prop}
    (F : FunD K x qual prm body scope dfl kws f fd) (S : FnScope N ps scope) (hxo : subOp xo po = true) (hnx : (∀ Q ρ, nx Q ρ → False) ∨ (rs = .leaf ∧ ∀ Q ρ, nx Q ρ → Q .none (conts ρ po)))
    (bd : ∀ (cv : Value) (A : Around) (outer : List Env) (s : Shared) (H : Hp) (E : XK), RoomG k (A.deeper (PyProof.Rows.envOfC qual scope s.heap.objs.size f cv)) →
      Takes (cxOf (L2.CX P w) P w K mg base N qual scope f cv A outer s H E) (topJ xo rs E).W → PassesOwn (model P w) (cxOf (L2.CX P w) P w K mg base N qual scope f cv A outer s H E).A (cxOf (L2.CX P w) P w K mg base N qual scope f cv A outer s H E).env (cxOf (L2.CX P w) P w K mg base N qual scope f cv A outer s H E).xe →
      ∃ t t', DSs (cxOf (L2.CX P w) P w K mg base N qual scope f cv A outer s H E) (topJ xo rs E) po pi po body t t' ∧
        ∀ ds Q E', ds.length = ps.length → spd ds Q E' → t' { nx := nx Q, rt := Q, ex := fun n fs ρ => E' n fs (conts ρ xo) } (start0 N.length ds)) :
    FnG P w K mg base (L2.CX P w) (k + 1) f fd ps (spOf K pi po xo ps.length rs spd) := by
  refine fnG_of F S (fun vs H Q E h => by obtain ⟨N0, F, ds, h, _⟩ := h; exact h) fun cv A outer s H vs Q E hr h => ?_
  obtain ⟨N0, F, ds, hl, sim, hs⟩ := h
  obtain ⟨t, t', der, ob⟩ := bd cv A outer s H E hr (takes_of rfl rfl rfl rfl) (passes_of rfl)
  refine ⟨t, der.ps, ?_⟩
  have hld : ds.length = ps.length := by
    have : vs.length = ds.length := by simpa using sim.len
    omega
  refine der.sd ⟨N0, pvOf po vs⟩ F (start N vs) H (start0 N.length ds) _ _ pvOf_ok sim.start (ob ds _ _ hld hs) ⟨fun σ' H' ⟨ρ', F', S', t', q⟩ => ?_, fun v H' ⟨d, cs, F', L, r, t', hn, nd, hd, q⟩ => ?_, fun σ' H' ⟨ρ', F', S', t', q⟩ => q.elim, fun σ' H' ⟨ρ', F', S', t', q⟩ => q.elim, fun cls d σ' H' ⟨n, fs, ρ', F', S', t', xd, q⟩ => ?_⟩
  · rcases hnx with hnx | ⟨rfl, hnx⟩
    · exact (hnx _ _ q).elim
    · have := hnx _ _ q
      exact this .non H' F' [] (S'.ret pvOf_ok fun p hp => hp).addS0 (by rw [own_or0]; exact t') (fun a m => absurd m List.not_mem_nil) .nil (.leaf .non)
  · exact q _ _ F' L r t' hn nd hd
  · exact q _ _ H' F' ((S'.lessPv (pv_sub hxo)).ret pvOf_ok fun p hp => hp) t' xd
theorem nx_leaf {po : Op} : (∀ (Q : D → List D → Prop) ρ, (fun (Q : D → List D → Prop) (ρ : DEnv) => Q .none (conts ρ po)) Q ρ → False) ∨ (Sh.leaf = .leaf ∧ ∀ (Q : D → List D → Prop) ρ, (fun (Q : D → List D → Prop) (ρ : DEnv) => Q .none (conts ρ po)) Q ρ → Q .none (conts ρ po)) := .inr ⟨rfl, fun _ _ h => h⟩
theorem nx_no {po : Op} {rs : Sh} : (∀ (Q : D → List D → Prop) ρ, (fun (_ : D → List D → Prop) (_ : DEnv) => False) Q ρ → False) ∨ (rs = .leaf ∧ ∀ (Q : D → List D → Prop) ρ, (fun (_ : D → List D → Prop) (_ : DEnv) => False) Q ρ → Q .none (conts ρ po)) := .inl fun _ _ h => h
/-! ### calls -/
/-- nothing leaves it -/
def eF : XK := fun _ _ _ => False
theorem passF {X : Cx} : Passes (L2.CX X.prog X.w) X eF := fun pins σ H s e s' I c => by
  obtain ⟨a, B, H', cls, d, _, _, _, _, _, _, _, z⟩ := c
  exact z.elim
def noF : Nat → AS := fun _ _ => False
def dNoX : Str → Fds → List D → Prop := fun _ _ _ => False
def dCall (np : Nat) (spd : DSp) (t : DTA) : DTE := fun ρ Q => t ρ fun ds ρ1 => ds.length = np ∧ spd ds (fun d _ => Q d ρ1) dNoX
theorem own_nil {F : Nat → AS} {a : Addr} : ¬ Own [] F a := fun ⟨p, hp, _⟩ => by cases hp
theorem sim_args {K : PySem.W.Frag} {M : AS} {H : Hp} {vs : List V} {ds : List D} (l : Live M H) (h : DzA K M H vs ds) : Sim K ⟨M, []⟩ [] noF (vs.map some) H (ds.map some) where
  len := by simp [h.len]
  fr := fun i d e n => by
    rw [List.getElem?_map] at e
    cases q : ds[i]? with
    | none => rw [q] at e; cases e
    | some d0 =>
      rw [q] at e
      cases e
      obtain ⟨v, hv, hz⟩ := h.get q
      refine ⟨v, by rw [List.getElem?_map, hv]; rfl, hz.mono fun a m => ?_⟩
      rcases m with m | ⟨p, hp, _⟩
      · exact m
      · cases hp
  ops := fun p hp => by cases hp
  dis := fun p hp => by cases hp
  nd := .nil
  n0 := l
  n0d := fun p hp => by cases hp
  pv := fun p hp => by cases hp
/-- a promise takes a weaker end -/
def Mono (spd : DSp) : Prop := ∀ (ds : List D) (Q Q' : D → List D → Prop) (E E' : Str → Fds → List D → Prop), (∀ d cs, Q d cs → Q' d cs) → (∀ n fs cs, E n fs cs → E' n fs cs) → spd ds Q E → spd ds Q' E'
/-- an expression that makes a new tree -/
structure DFr (X : Cx) (op : Op) (e : Expr) (s : Sh) (t : TE) (t' : DTE) : Prop where
  pe : PE X e t
  sd : ∀ (c : Fx) (F : Nat → AS) (σ : St) (H : Hp) (ρ : DEnv) (Q : D → DEnv → Prop), Sim X.K c op F σ H ρ → t' ρ Q → ∀ R : VK, (∀ v H', FR X.K c op s F σ H Q v H' → R v H') → t σ H R
/-- an expression that may raise -/
abbrev DTX := (Str → Fds → DEnv → Prop) → DEnv → (D → DEnv → Prop) → Prop
/-- .. its value: only read (leaf), or a new tree -/
structure DX (X : Cx) (J : Jc) (op : Op) (e : Expr) (s : Sh) (t : TE) (t' : DTX) : Prop where
  pe : PE X e t
  sd : ∀ (c : Fx) (F : Nat → AS) (σ : St) (H : Hp) (ρ : DEnv) (E : Str → Fds → DEnv → Prop) (Q : D → DEnv → Prop), Sim X.K c op F σ H ρ → t' E ρ Q → ∀ R : VK, (∀ v H', FR X.K c op s F σ H Q v H' → R v H') →
    (∀ cls d H', XQ X.K c J.xp (Own op F) H E cls d σ H' → J.W cls d σ H') → t σ H R
section
variable {X : Cx} {op : Op} {e : Expr} {es : List Expr} {t tk : TA} {dx : List Nat} {q : Bool} {t' tk' : DTA} {np : Nat} {spd : DSp} {rs : Sh}
/-- behind a call with nothing handed in to own -/
theorem sp_go {M : AS} {H : Hp} {vs : List V} {ds : List D} {R : VK} {E : XK} {Ed : Str → Fds → List D → Prop} (l : Live M H) (hv : DzA X.K M H vs ds) (hl : ds.length = np) {Q : D → Prop} (m : Mono spd) (w : spd ds (fun d _ => Q d) Ed)
    (hR : ∀ v H' d L, Same H H' → (∀ a ∈ L, H a = none) → L.Nodup → Tz X.K (fun a => M a ∨ a ∈ L) H' rs v d L → Q d → R v H')
    (hE : ∀ cls d n fs cs H', Same H H' → XD X.K M H' cls d n fs → Ed n fs cs → E cls d H') : spOf X.K [] [] [] np rs spd vs H R E := by
  refine ⟨M, noF, ds, by rw [hv.len]; exact hl, sim_args l hv, m _ _ _ _ _ (fun d cs q v H' F' L r t hn nd hd => ?_) (fun n fs cs q cls d H' F' r t xd => ?_) w⟩
  · refine hR v H' d L (fun a o e => t.1 a o e own_nil) (fun a m => ?_) nd ?_ q
    · cases e : H a with
      | none => rfl
      | some o => exact absurd (t.2.1 a o e (.inr m)) own_nil
    · refine hd.frame (fun a m => ?_) (fun a o _ m => ?_) fun a o e _ => e
      · rcases m with m | ⟨p, hp, _⟩
        · exact r.n0 a m
        · cases hp
      · exact .inl m
  · refine hE cls d n fs cs H' (fun a o e => t.1 a o e own_nil) ?_ q
    obtain ⟨e, d0, vs0, h1, h2, h3, h4⟩ := xd
    exact ⟨e, d0, vs0, h1, fun m => h2 (.inl m), h3, h4.mono fun a m => .inl m⟩
theorem tz_leaf {K : PySem.W.Frag} {M : AS} {H : Hp} {v : V} {d : D} {L : List Addr} (h : Tz K (fun a => M a ∨ a ∈ L) H .leaf v d L) : L = [] ∧ Dz K M H v d := by
  cases h with
  | leaf h => exact ⟨rfl, h.mono fun a m => .inl m⟩
theorem sd_call (m : Mono spd) (h : SdA X.K op t dx q t') : Sd X.K op (tCall (spOf X.K [] [] [] np .leaf spd) [] eF t) dx [] q (dCall np spd t') := fun c F σ H ρ Q S w R hR => by
  refine h c F σ H ρ _ S w _ fun vs H1 ⟨ds, ρ1, F1, st, hv, hl, w1⟩ => ?_
  show spOf X.K [] [] [] np .leaf spd (vs ++ []) H1 R eF
  rw [List.append_nil]
  exact sp_go st.sim.liveX hv hl m w1 (fun v H' d L s hn nd hd q => hR _ _ ⟨d, ρ1, F1, st.then s, .inl (tz_leaf hd).2, q⟩) fun cls d n fs cs H' s xd z => z.elim
theorem de_call {k j : Nat} {x : Str} {ps : List Str} {p pos : Pos} (m : Mono spd) (C : CalG X.prog X.w X.K X.mg X.base (L2.CX X.prog X.w) k x ps [] (spOf X.K [] [] [] np .leaf spd)) (hr : RoomG j X.A) (ha : DA X op (e :: es) t dx q t') (hkj : k ≤ j := by decide) (hg : Gl X x := by rfl)
    (hdb : (x == ("__debug__" : Str)) = false := by decide) (he : starEach (e :: es) X.env = (false, eval e X.env) :: starEach es X.env := by rfl) (hpl : (backTo pos (starEach es X.env)).any (·.1) = false := by rfl) :
    DE X op (.Call (.Name x p) (e :: es) [] pos) (tCall (spOf X.K [] [] [] np .leaf spd) [] eF t) dx [] q (dCall np spd t') := ⟨pe_cg C hr passF ha.pa hkj hg hdb he hpl, sd_call m ha.sd⟩
theorem de_call0 {k j : Nat} {x : Str} {ps : List Str} {p pos : Pos} (m : Mono spd) (C : CalG X.prog X.w X.K X.mg X.base (L2.CX X.prog X.w) k x ps [] (spOf X.K [] [] [] np .leaf spd)) (hr : RoomG j X.A) (hkj : k ≤ j := by decide) (hg : Gl X x := by rfl) (hdb : (x == ("__debug__" : Str)) = false := by decide) :
    DE X op (.Call (.Name x p) [] [] pos) (tCall (spOf X.K [] [] [] np .leaf spd) [] eF tNil) [] [] true (dCall np spd dNil) := ⟨pe_cg0 C hr passF hkj hg hdb, sd_call m da_nil.sd⟩
/-- a call whose result is a new tree -/
theorem fr_of {K : PySem.W.Frag} {c : Fx} {F F1 : Nat → AS} {σ : St} {H H1 H' : Hp} {ρ ρ1 : DEnv} {Q : D → DEnv → Prop} {v : V} {d : D} {L : List Addr} {dx : List Nat} {q : Bool} (st : Stp K c op q F σ H ρ F1 H1 ρ1) (s : Same H1 H') (hn : ∀ a ∈ L, H1 a = none) (nd : L.Nodup)
    (hd : Tz K (fun a => Mt c op F1 a ∨ a ∈ L) H' rs v d L) (w : Q d ρ1) : FR K c op rs F σ H Q v H' := by
  have S1 := st.sim.same s
  have no : ∀ a ∈ L, ¬ Mt c op F1 a := fun a m z => by
    obtain ⟨o, e, _⟩ := st.sim.live a z
    rw [hn a m] at e; cases e
  have lv : Live (fun a => Mt c op F1 a ∨ a ∈ L) H' := fun a m => m.elim (fun m => S1.live a m) fun m => hd.live a m
  have em : Mt (c.addS L) op F1 = fun a => Mt c op F1 a ∨ a ∈ L := funext fun a => propext mt_addS
  refine ⟨d, ρ1, F1, L, ⟨S1.len, fun i d e n => ?_, fun p hp => ?_, S1.dis, S1.nd, fun a m => ?_, fun p hp a f m => ?_, S1.pv⟩, ?_, fun a m z => no a m (.inl z), nd, by rw [em]; exact hd, w⟩
  · obtain ⟨v, e1, h⟩ := st.sim.fr i d e n
    exact ⟨v, e1, h.frame st.sim.live (fun a o e _ => s a o e) fun a o e m => (mt_addS.mp m).elim id fun m => by rw [hn a m] at e; cases e⟩
  · obtain ⟨v, d, e1, e2, ok⟩ := st.sim.ops p hp
    exact ⟨v, d, e1, e2, p.2.frame st.sim.live ok (fun a o e _ => s a o e) fun a o e m => (mt_addS.mp m).elim id fun m => by rw [hn a m] at e; cases e⟩
  · rcases m with m | m
    · exact S1.n0 a m
    · exact hd.live a m
  · rcases m with m | m
    · exact S1.n0d p hp a f m
    · exact no a m (.inr ⟨p, hp, by simp, f⟩)
  · have t := st.trn.trans (Trn.same (M := Own op F1) s)
    refine ⟨t.1, fun a o e m => ?_, t.2.2⟩
    rcases m with m | m
    · exact t.2.1 a o e m
    · exfalso
      have := st.trn.none (hn a m)
      rw [e] at this; cases this
theorem dfr_call {k j : Nat} {x : Str} {ps : List Str} {p pos : Pos} (m : Mono spd) (C : CalG X.prog X.w X.K X.mg X.base (L2.CX X.prog X.w) k x ps [] (spOf X.K [] [] [] np rs spd)) (hr : RoomG j X.A) (ha : DA X op (e :: es) t [] q t') (hkj : k ≤ j := by decide) (hg : Gl X x := by rfl)
    (hdb : (x == ("__debug__" : Str)) = false := by decide) (he : starEach (e :: es) X.env = (false, eval e X.env) :: starEach es X.env := by rfl) (hpl : (backTo pos (starEach es X.env)).any (·.1) = false := by rfl) :
    DFr X op (.Call (.Name x p) (e :: es) [] pos) rs (tCall (spOf X.K [] [] [] np rs spd) [] eF t) (dCall np spd t') := ⟨pe_cg C hr passF ha.pa hkj hg hdb he hpl, fun c F σ H ρ Q S w R hR => by
  refine ha.sd c F σ H ρ _ S w _ fun vs H1 ⟨ds, ρ1, F1, st, hv, hl, w1⟩ => ?_
  show spOf X.K [] [] [] np rs spd (vs ++ []) H1 R eF
  rw [List.append_nil]
  exact sp_go st.sim.liveX hv hl m w1 (fun v H' d L s hn nd hd q => hR _ _ (fr_of (dx := []) st s hn nd hd q)) fun cls d n fs cs H' s xd z => z.elim⟩
/-! keywords -/
structure DK (X : Cx) (op : Op) (kws : List Keyword) (t : TA) (dx : List Nat) (q : Bool) (t' : DTA) : Prop where
  pk : PK X kws t
  sd : SdA X.K op t dx q t'
theorem dk_nil : DK X op [] tNil [] true dNil := ⟨pk_nil, fun c F σ H ρ Q S w R hR => hR _ _ ⟨[], ρ, F, Stp.refl S, .nil, w⟩⟩
theorem dk_cons {kws : List Keyword} {nm : Option Str} {kpos : Pos} {ta : TE} {dx1 tx1 : List Nat} {q1 : Bool} {ta' : DTE} (ha : DE X op e ta dx1 tx1 q1 ta') (hr : DK X op kws t dx q t') (ok : okq dx1 tx1 q = true := by rfl) :
    DK X op (⟨nm, e, kpos⟩ :: kws) (tCons ta t) ((dx1 ++ tx1) ++ dx) (q1 && q) (dCons ta' t') := ⟨pk_cons ha.pe hr.pk, fun c F σ H ρ Q S w R hR => by
  refine ha.sd c F σ H ρ _ S w _ fun x H1 ⟨d, ρ1, F1, st1, hx, w1⟩ => ?_
  refine hr.sd c F1 σ H1 ρ1 _ st1.sim w1 _ fun vs H2 ⟨ds, ρ2, F2, st2, hv, w2⟩ => ?_
  have hx2 := dzT_move st1.sim st2 ok hx
  exact hR _ _ ⟨_, ρ2, F2, st1.trans st2, .cons ((hx2.dz fun a m => mxl m).mono fun a m => mxl m) (hv.mono fun a m => mxr m), w2⟩⟩
/-- the order of the parameters -/
def Puts (g : {α : Type} → List α → List α → List α) : Prop := ∀ (K : PySem.W.Frag) (M : AS) (H : Hp) (vs zs : List V) (ds es : List D), DzA K M H vs ds → DzA K M H zs es → DzA K M H (g vs zs) (g ds es)
def dCallKw (n np : Nat) (g : {α : Type} → List α → List α → List α) (spd : DSp) (t : DTA) : DTE := fun ρ Q => t ρ fun es ρ1 => es.length = n ∧ (g [] es).length = np ∧ spd (g [] es) (fun d _ => Q d ρ1) dNoX
theorem sd_callKw {n : Nat} {g : {α : Type} → List α → List α → List α} (hg : Puts g) (m : Mono spd) (h : SdA X.K op tk dx q tk') : Sd X.K op (tCallKw n (spOf X.K [] [] [] np .leaf spd) (fun vs zs => g vs zs) eF tk) dx [] q (dCallKw n np g spd tk') := fun c F σ H ρ Q S w R hR => by
  refine h c F σ H ρ _ S w _ fun zs H1 ⟨es, ρ1, F1, st, hv, hn, hl, w1⟩ => ⟨by rw [hv.len]; exact hn, ?_⟩
  exact sp_go st.sim.liveX (hg _ _ _ _ _ _ _ .nil hv) hl m w1 (fun v H' d L s hn nd hd q => hR _ _ ⟨d, ρ1, F1, st.then s, .inl (tz_leaf hd).2, q⟩) fun cls d n fs cs H' s xd z => z.elim
theorem de_callKw {k j : Nat} {x : Str} {ps ks : List Str} {p pos : Pos} {kws : List Keyword} {g : {α : Type} → List α → List α → List α} (hp : Puts g) (m : Mono spd) (C : KCalG X.prog X.w X.K X.mg X.base (L2.CX X.prog X.w) k x ps 0 ks (fun vs zs => g vs zs) (spOf X.K [] [] [] np .leaf spd)) (hr : RoomG j X.A)
    (hkw : DK X op kws tk dx q tk') (hkj : k ≤ j := by decide) (hg : Gl X x := by rfl) (hall : (backToKw pos (keywordEach kws X.env)).all (·.1.isSome) = true := by rfl) (hks : (backToKw pos (keywordEach kws X.env)).filterMap (·.1) = ks := by rfl) (hdb : (x == ("__debug__" : Str)) = false := by decide)
    (hpl : ((backTo pos (starEach [] X.env)).any (·.1) || (backToKw pos (keywordEach kws X.env)).any (·.1.isNone)) = false := by rfl) :
    DE X op (.Call (.Name x p) [] kws pos) (tCallKw ks.length (spOf X.K [] [] [] np .leaf spd) (fun vs zs => g vs zs) eF tk) dx [] q (dCallKw ks.length np g spd tk') := ⟨pe_cgk C hr passF hkw.pk hkj hg hall hks hdb hpl, sd_callKw hp m hkw.sd⟩
end
end Vt
namespace Vt
open PySem PySem.Spec L2
variable [WorldC]
/-! ### names, keys by their places -/
def idxF : List Str → Str → Option Nat
  | [], _ => none
  | g :: r, f => if g = f then some 0 else (idxF r f).map (· + 1)
theorem idxF_lookup {β : Type} : ∀ {l : List (Str × β)} {f : Str} {k : Nat}, idxF (l.map (·.1)) f = some k → l.lookup f = (l.map (·.2))[k]?
  | [], _, _, h => by cases h
  | (g, v) :: r, f, k, h => by
    simp only [List.map_cons, idxF] at h
    by_cases e : g = f
    · rw [if_pos e] at h
      cases h
      have : (f == g) = true := by simp [e]
      simp [List.lookup, this]
    · rw [if_neg e] at h
      cases q : idxF (r.map (·.1)) f with
      | none => rw [q] at h; cases h
      | some j =>
        rw [q] at h
        cases h
        have : (f == g) = false := by simpa using fun z => e z.symm
        simp only [List.lookup, this]
        rw [idxF_lookup q]
        simp
theorem idxF_none {β : Type} : ∀ {l : List (Str × β)} {f : Str}, idxF (l.map (·.1)) f = none → l.lookup f = none
  | [], _, _ => rfl
  | (g, v) :: r, f, h => by
    simp only [List.map_cons, idxF] at h
    by_cases e : g = f
    · rw [if_pos e] at h; cases h
    · rw [if_neg e] at h
      cases q : idxF (r.map (·.1)) f with
      | some j => rw [q] at h; cases h
      | none =>
        have : (f == g) = false := by simpa using fun z => e z.symm
        simp only [List.lookup, this]
        exact idxF_none q
def kOf : D → Option Key
  | .int i => some (.inl i)
  | .str x => some (.inr x)
  | _ => none
theorem kOf_kD (k : Key) : kOf (kD k) = some k := by cases k <;> rfl
def getK : List (D × D) → Key → Option D
  | [], _ => none
  | p :: r, z => if kOf p.1 = some z then some p.2 else getK r z
def idxK : List (D × D) → Key → Option Nat
  | [], _ => none
  | p :: r, z => if kOf p.1 = some z then some 0 else (idxK r z).map (· + 1)
theorem idxK_val : ∀ {kvs : List (Key × V)} {ds : List (D × D)} {z : Key} {k : Nat}, ds.map (·.1) = kvs.map (fun q => kD q.1) → idxK ds z = some k → valV kvs z = (kvs.map (·.2))[k]? ∧ getK ds z = (ds.map (·.2))[k]?
  | [], [], _, _, _, h => by cases h
  | [], _ :: _, _, _, e, _ => by cases e
  | _ :: _, [], _, _, e, _ => by cases e
  | (q, v) :: kvs, (d, e) :: ds, z, k, hm, h => by
    simp only [List.map_cons, List.cons.injEq] at hm
    obtain ⟨rfl, hm⟩ := hm
    by_cases c : q = z
    · have c1 : kOf (kD q) = some z := by rw [kOf_kD, c]
      simp only [idxK, if_pos c1] at h
      cases h
      exact ⟨by rw [valV_pos c]; rfl, by simp only [getK, if_pos c1]; rfl⟩
    · have c1 : kOf (kD q) ≠ some z := fun x => c (by rw [kOf_kD] at x; exact Option.some.inj x)
      simp only [idxK, if_neg c1] at h
      cases q2 : idxK ds z with
      | none => rw [q2] at h; cases h
      | some j =>
        rw [q2] at h
        cases h
        obtain ⟨h1, h2⟩ := idxK_val hm q2
        exact ⟨by rw [valV_neg c, h1]; simp, by simp only [getK, if_neg c1, h2]; simp⟩
theorem DzK.get {K : PySem.W.Frag} {M : AS} {H : Hp} {z : Key} : ∀ {ds : List (D × D)} {vs : List (Key × V)}, DzK K M H vs ds → (∀ d, getK ds z = some d → ∃ v, valV vs z = some v ∧ Dz K M H v d) ∧ (getK ds z = none → valV vs z = none)
  | _, _, .nil => ⟨fun d e => (by cases e), fun _ => rfl⟩
  | _, _, @DzK.cons _ _ _ _ k v vs d ds h r => by
    obtain ⟨i1, i2⟩ := DzK.get r (z := z)
    by_cases e : k = z
    · have e1 : kOf (kD k) = some z := by rw [kOf_kD, e]
      refine ⟨fun d' q => ?_, fun q => ?_⟩
      · simp only [getK, if_pos e1] at q
        cases q
        exact ⟨v, valV_pos e, h⟩
      · simp only [getK, if_pos e1] at q
        cases q
    · have e1 : kOf (kD k) ≠ some z := fun q => e (by rw [kOf_kD] at q; exact Option.some.inj q)
      refine ⟨fun d' q => ?_, fun q => ?_⟩
      · simp only [getK, if_neg e1] at q
        rw [valV_neg e]
        exact i1 d' q
      · simp only [getK, if_neg e1] at q
        rw [valV_neg e]
        exact i2 q
/-! ### o.f of what is only read -/
def getF (fs : Fds) (f : Str) : Option D := fs.lookup f
theorem DzF.get {K : PySem.W.Frag} {M : AS} {H : Hp} {f : Str} : ∀ {ds : Fds} {vs : List (Str × V)} {d : D}, DzF K M H vs ds → getF ds f = some d → ∃ v, vs.lookup f = some v ∧ Dz K M H v d
  | _, _, _, .nil, e => by cases e
  | _, _, d', @DzF.cons _ _ _ _ g v vs d ds h r, e => by
    unfold getF at e
    by_cases c : f = g
    · subst c
      rw [List.lookup, beq_self_eq_true] at e
      cases e
      exact ⟨v, by rw [List.lookup, beq_self_eq_true], h⟩
    · have c2 : (f == g) = false := by simpa using c
      rw [List.lookup, c2] at e
      obtain ⟨w, h1, h2⟩ := DzF.get r (show getF ds f = some d' from e)
      exact ⟨w, by rw [List.lookup, c2]; exact h1, h2⟩
/-- a class of the text: what is known of it -/
structure ClsT (K : PySem.W.Frag) (n : Str) : Prop where
  cls : Cls K (He.ga K n)
def dFld (n f : Str) (t : DTE) : DTE := fun ρ Q => t ρ fun d ρ1 => match d with | .obj m fs => m = n ∧ Opt (getF fs f) fun e => Q e ρ1 | _ => False
section
variable {X : Cx} {op : Op} {e i : Expr} {pos p : Pos} {ta tb : TE} {dx tx dx2 tx2 : List Nat} {q q2 : Bool} {ta' tb' : DTE} {n f : Str}
theorem DzT.obj {K : PySem.W.Frag} {M N : AS} {H : Hp} {x : V} {fs : Fds} (h : DzT K M N H x (.obj n fs)) : Dz K M H x (.obj n fs) := by
  rcases h with h | ⟨_, _, _, _, e, _⟩ | ⟨_, _, _, _, e, _⟩
  · exact h
  · cases e
  · cases e
theorem de_fld (c : Cls X.K (He.ga X.K n)) (na : NoAttr X.K (He.ga X.K n) f) (ha : DE X op e ta dx tx q ta') (hb : attributeBase e f X.env (eval e X.env) = eval e X.env := by rfl) : DE X op (.Attribute e f pos) (tFld X.K ta f) dx [] q (dFld n f ta') :=
  ⟨pe_fld ha.pe hb, fun c0 F σ H ρ Q S w R hR => by
    refine ha.sd c0 F σ H ρ _ S w _ fun x H1 ⟨d, ρ1, F1, st, hx, w1⟩ => ?_
    cases d <;> first | exact w1.elim | skip
    case obj m fs =>
      obtain ⟨rfl, w1⟩ := w1
      obtain ⟨e, h1, w2⟩ := w1.ex
      have hx := hx.obj
      cases hx with
      | obj nm ea hf =>
        obtain ⟨v, h2, h3⟩ := hf.get h1
        exact ⟨_, _, _, _, v, rfl, ea, c, na, h2, hR _ _ ⟨_, ρ1, F1, st, .inl h3, w2⟩⟩⟩
/-! ### d[k] -/
def dGetK : D → D → (D → Prop) → Prop
  | .dict kvs, .str z, Q => Opt (getK kvs (.inr z)) Q
  | .dict kvs, .int i, Q => Opt (getK kvs (.inl i)) Q
  | _, _, _ => False
def rDG : R2 := fun x y H Q => ∃ a v, x = .ref a ∧ DGet H a y (some v) ∧ Q v H
theorem s_dget {K : PySem.W.Frag} : R2S K rDG dGetK := fun M N H x y d e Q l f hx hy w R hR => by
  cases d <;> first | exact w.elim | skip
  rename_i ds
  cases e <;> first | exact w.elim | skip
  case dict.str z =>
    obtain ⟨a, kvs, rfl, ha, hd⟩ := hx.dict
    obtain ⟨d, e, w⟩ := w.ex
    obtain ⟨v, e2, hv⟩ := hd.get.1 d e
    exact ⟨a, v, rfl, .inl ⟨kvs, .inr z, .inl ha, hy.str, e2.symm⟩, hR _ _ _ (Same.refl _) hv w⟩
  case dict.int z =>
    obtain ⟨a, kvs, rfl, ha, hd⟩ := hx.dict
    obtain ⟨d, e, w⟩ := w.ex
    obtain ⟨v, e2, hv⟩ := hd.get.1 d e
    exact ⟨a, v, rfl, .inl ⟨kvs, .inl z, .inl ha, hy.int, e2.symm⟩, hR _ _ _ (Same.refl _) hv w⟩
theorem de_dget (hu : X.A.units + 1 < cLine) (ha : DE X op e ta dx tx q ta') (hb : DE X op i tb dx2 tx2 q2 tb') (hs : NoSl i := by exact fun _ _ => rfl) (ok : okq dx tx q2 = true := by rfl) :
    DE X op (.Subscript e i pos) (tOp rDG ta tb) (dx ++ dx2) [] (q && q2) (dOp dGetK ta' tb') := ⟨pe_dget hu ha.pe hb.pe hs, sd_op s_dget ha.sd hb.sd ok⟩
end
/-! ### places -/
abbrev DTP := DEnv → (List Nat → DEnv → Prop) → Prop
def PQ (K : PySem.W.Frag) (c : Fx) (op : Op) (q : Bool) (F : Nat → AS) (σ : St) (H : Hp) (ρ : DEnv) (i : Nat) (s s' : Sh) (Q : List Nat → DEnv → Prop) : VK := fun v' H' =>
  ∃ p v0 ρ' F', Stp K c op q F σ H ρ F' H' ρ' ∧ σ[i]? = some (some v0) ∧ NodeAt H' v0 p v' ∧ ShAt s p s' ∧ Q p ρ'
/-- e stands for what lies at a place of what the slot i owns; its form there is s' -/
structure DPl (X : Cx) (op : Op) (e : Expr) (i : Nat) (s s' : Sh) (t : TE) (q : Bool) (t' : DTP) : Prop where
  pe : PE X e t
  me : (i, kT s) ∈ op
  sd : ∀ (c : Fx) (F : Nat → AS) (σ : St) (H : Hp) (ρ : DEnv) (Q : List Nat → DEnv → Prop), Sim X.K c op F σ H ρ → t' ρ Q → ∀ R : VK, (∀ v' H', PQ X.K c op q F σ H ρ i s s' Q v' H' → R v' H') → t σ H R
theorem NodeAt.keep {H H' : Hp} (s : Same H H') : ∀ {p : List Nat} {v w : V}, NodeAt H v p w → NodeAt H' v p w
  | _, _, _, .nil => .nil
  | _, v, _, .cons (n := n) h t => .cons (by
      cases v <;> first | (simp only [kidV] at h; cases h; done) | skip
      rename_i a
      simp only [kidV] at h ⊢
      cases e : H a with
      | none => rw [e] at h; cases h
      | some o => rw [e] at h; rw [s a o e]; exact h) (t.keep s)
theorem rcd_val {fs : List (Str × Sh)} {z : Str} {k : Nat} : ∀ {kvs : List (Key × V)}, fs.map (fun q => (.inr q.1 : Key)) = kvs.map (·.1) → idxF (fs.map (·.1)) z = some k → k < (kvs.map (·.2)).length → ∃ v, valV kvs (.inr z) = some v ∧ (kvs.map (·.2))[k]? = some v := by
  induction fs generalizing k with
  | nil => intro kvs _ h; cases h
  | cons f fs ih =>
    intro kvs e h hl
    cases kvs with
    | nil => cases e
    | cons q kvs =>
      obtain ⟨key, v⟩ := q
      simp only [List.map_cons, List.cons.injEq] at e
      obtain ⟨rfl, e⟩ := e
      simp only [List.map_cons, idxF] at h
      by_cases c : f.1 = z
      · rw [if_pos c] at h
        cases h
        exact ⟨v, valV_pos (by rw [c]), rfl⟩
      · rw [if_neg c] at h
        cases q2 : idxF (fs.map (·.1)) z with
        | none => rw [q2] at h; cases h
        | some j =>
          rw [q2] at h
          cases h
          obtain ⟨w, h1, h2⟩ := ih e q2 (by simpa using hl)
          exact ⟨w, by rw [valV_neg (fun x => c (Sum.inr.inj x))]; exact h1, by simpa using h2⟩
theorem idxK_lt : ∀ {ds : List (D × D)} {z : Key} {k : Nat}, idxK ds z = some k → k < ds.length
  | [], _, _, h => by cases h
  | p :: r, z, k, h => by
    simp only [idxK] at h
    by_cases c : kOf p.1 = some z
    · rw [if_pos c] at h
      cases h
      simp
    · rw [if_neg c] at h
      cases q : idxK r z with
      | none => rw [q] at h; cases h
      | some j =>
        rw [q] at h
        cases h
        have := idxK_lt q
        simp
        exact this
/-- the tree at a place -/
theorem Sim.node {K : PySem.W.Frag} {c : Fx} {op : Op} {F : Nat → AS} {σ : St} {H : Hp} {ρ : DEnv} {i : Nat} {s s' : Sh} {v v' : V} {p : List Nat} (S : Sim K c op F σ H ρ) (hm : (i, kT s) ∈ op) (hv : σ[i]? = some (some v)) (na : NodeAt H v p v') (sa : ShAt s p s') :
    ∃ d d' L', ρ[i]? = some (some d) ∧ atD d p = some d' ∧ Tz K (Mt c op F) H s' v' d' L' ∧ ∀ a ∈ L', F i a := by
  obtain ⟨w, d, e1, e2, L, tz, nd, hf⟩ := S.ops _ hm
  rw [hv] at e1
  cases e1
  obtain ⟨d', L1, L', Lb, a1, eL, tz', _⟩ := Tz.zoom na sa tz
  exact ⟨d, d', L', e2, a1, tz', fun a m => (hf a).mpr (by rw [eL]; simp [m])⟩
theorem mx_own {K : PySem.W.Frag} {c : Fx} {op : Op} {F : Nat → AS} {σ : St} {H : Hp} {ρ : DEnv} {i : Nat} {k : Kind} (S : Sim K c op F σ H ρ) (hm : (i, k) ∈ op) {a : Addr} (f : F i a) : ¬ Mx c op F [i] a := fun m => by
  rcases m with m | ⟨p, hp, n, m⟩
  · exact S.n0d _ hm a f m
  · have := S.dis p hp _ hm a m f
    exact n (by simp [this])
/-- what stands at a place, as data -/
def dAt (i : Nat) (t : DTP) (k : D → DEnv → Prop) : DEnv → Prop := fun ρ => t ρ fun p ρ1 => At ρ1 i fun d => Opt (atD d p) fun e => k e ρ1
def dPv (i : Nat) (t : DTP) : DTE := fun ρ Q => dAt i t Q ρ
section
variable {X : Cx} {op : Op} {e ix : Expr} {pos : Pos} {tp tb : TE} {q q2 : Bool} {tp' : DTP} {tb' : DTE} {n f : Str} {i k j : Nat} {s s' s2 : Sh} {fs : List (Str × Sh)} {dx2 tx2 : List Nat}
theorem dpl_var (h : PE X e (tVar i)) (n : op[j]? = some (i, kT s) := by rfl) : DPl X op e i s s (tVar i) true (fun ρ Q => At ρ i fun _ => Q [] ρ) := ⟨h, List.mem_of_getElem? n, fun c F σ H ρ Q S w R hR => by
  obtain ⟨d, e, q⟩ := w.ex
  obtain ⟨v, d', e1, e2, _⟩ := S.ops _ (List.mem_of_getElem? n)
  exact ⟨v, e1, hR _ _ ⟨[], v, ρ, F, Stp.refl S, e1, .nil, .nil, q⟩⟩⟩
/-- the place of an attribute -/
theorem dpl_fld (c : Cls X.K (He.ga X.K n)) (na : NoAttr X.K (He.ga X.K n) f) (hp : DPl X op e i s (.obj n fs) tp q tp') (hk : idxF (fs.map (·.1)) f = some k := by rfl) (hs : (fs.map (·.2))[k]? = some s2 := by rfl) (hb : attributeBase e f X.env (eval e X.env) = eval e X.env := by rfl) :
    DPl X op (.Attribute e f pos) i s s2 (tFld X.K tp f) q (fun ρ Q => tp' ρ fun p ρ1 => Q (p ++ [k]) ρ1) := ⟨pe_fld hp.pe hb, hp.me, fun c0 F σ H ρ Q S w R hR => by
  refine hp.sd c0 F σ H ρ _ S w _ fun v' H1 ⟨p, v0, ρ1, F1, st, hv, nd, sa, w1⟩ => ?_
  obtain ⟨d, d', L', e1, e2, tz, hf⟩ := st.sim.node hp.me hv nd sa
  cases tz with
  | @obj _ _ a dxx vs ds L e0 h1 h2 hc =>
    have hl := idxF_lookup (l := vs) (f := f) (k := k) (by rw [← h2]; exact hk)
    have hkl : k < (fs.map (·.2)).length := (List.getElem?_eq_some_iff.mp hs).1
    have hkv : k < (vs.map (·.2)).length := by
      have := congrArg List.length h2
      simp at this hkl ⊢
      omega
    rw [List.getElem?_eq_getElem hkv] at hl
    refine ⟨a, _, dxx, vs, _, rfl, e0, c, na, hl, hR _ _ ⟨p ++ [k], v0, ρ1, F1, st, hv, nd.snoc ?_, sa.snoc hs, w1⟩⟩
    simp only [kidV, e0]
    exact List.getElem?_eq_getElem hkv⟩
/-- an attribute that is only read -/
def dPf (i k : Nat) (t : DTP) : DTE := fun ρ Q => dAt i t (fun d ρ1 => match d with | .obj _ fs => Opt (fs.map (·.2))[k]? fun e => Q e ρ1 | _ => False) ρ
theorem de_plf (c : Cls X.K (He.ga X.K n)) (na : NoAttr X.K (He.ga X.K n) f) (hp : DPl X op e i s (.obj n fs) tp q tp') (hk : idxF (fs.map (·.1)) f = some k := by rfl) (hs : (fs.map (·.2))[k]? = some .leaf := by rfl) (hb : attributeBase e f X.env (eval e X.env) = eval e X.env := by rfl) :
    DE X op (.Attribute e f pos) (tFld X.K tp f) [] [] q (dPf i k tp') := ⟨pe_fld hp.pe hb, fun c0 F σ H ρ Q S w R hR => by
  refine hp.sd c0 F σ H ρ _ S w _ fun v' H1 ⟨p, v0, ρ1, F1, st, hv, nd, sa, w1⟩ => ?_
  obtain ⟨d, d', L', e1, e2, tz, hf⟩ := st.sim.node hp.me hv nd sa
  obtain ⟨dd, ed, w1⟩ := w1.ex
  rw [e1] at ed
  cases ed
  obtain ⟨d2, ed, w1⟩ := w1.ex
  rw [e2] at ed
  cases ed
  cases tz with
  | @obj _ _ a dxx vs ds L e0 h1 h2 hc =>
    have hl := idxF_lookup (l := vs) (f := f) (k := k) (by rw [← h2]; exact hk)
    obtain ⟨e, he, w2⟩ := w1.ex
    have hkv : k < (vs.map (·.2)).length := by
      have := (List.getElem?_eq_some_iff.mp he).1
      rw [hc.len.1]
      exact this
    rw [List.getElem?_eq_getElem hkv] at hl
    obtain ⟨s1, d1, L1, Lm, Lb, f1, f2, eL, h3, _⟩ := hc.kid (List.getElem?_eq_getElem hkv)
    rw [hs] at f1
    cases f1
    rw [he] at f2
    cases f2
    cases h3 with
    | leaf h3 => exact ⟨a, _, dxx, vs, _, rfl, e0, c, na, hl, hR _ _ ⟨_, ρ1, F1, st, .inl h3, w2⟩⟩⟩
/-- the place of an item of a list -/
def dPix (i : Nat) (t : DTP) (tb : DTE) : DTP := fun ρ Q => t ρ fun p ρ1 => tb ρ1 fun b ρ2 => At ρ2 i fun d => Opt (atD d p) fun e => match e, b with | .list ds, .int z => Opt (ixN ds.length z) fun k => Q (p ++ [k]) ρ2 | _, _ => False
theorem dpl_ix (hp : DPl X op e i s (.lst s2) tp q tp') (hb : DE X op ix tb dx2 tx2 true tb') (hs : PlainIx ix := by exact fun _ _ => rfl) : DPl X op (.Subscript e ix pos) i s s2 (tOp (rIx X.K) tp tb) (q && true) (dPix i tp' tb') := ⟨pe_ix ix_seq hp.pe hb.pe hs, hp.me, fun c0 F σ H ρ Q S w R hR => by
  refine hp.sd c0 F σ H ρ _ S w _ fun v' H1 ⟨p, v0, ρ1, F1, st, hv, nd, sa, w1⟩ => ?_
  refine hb.sd c0 F1 σ H1 ρ1 _ st.sim w1 _ fun y H2 ⟨b, ρ2, F2, st2, hy, w2⟩ => ?_
  obtain ⟨sm, er, ef⟩ := st2.qt rfl
  subst er ef
  obtain ⟨d, d', L', e1, e2, tz, hf⟩ := st.sim.node hp.me hv nd sa
  obtain ⟨dd, ed, w2⟩ := w2.ex
  rw [e1] at ed
  cases ed
  obtain ⟨d2, ed, w2⟩ := w2.ex
  rw [e2] at ed
  cases ed
  cases tz with
  | @lst _ a xs ds L e0 hc =>
    have sh : ∃ z, b = .int z := by cases b <;> first | exact ⟨_, rfl⟩ | exact w2.elim
    obtain ⟨z, rfl⟩ := sh
    obtain ⟨k, hk, w3⟩ := w2.ex
    have hl := hc.len.1
    have hkl : k < xs.length := by
      rw [hl]
      exact (ixN_seq hk).2.1
    refine .inl ⟨a, xs, z, xs[k], rfl, hy.int, SqL.of (sm _ _ e0), ?_, hR _ _ ⟨p ++ [k], v0, ρ2, F2, st.trans st2, hv, (nd.keep sm).snoc ?_, sa.snoc rfl, w3⟩⟩
    · unfold atI
      rw [hl, hk]
      exact List.getElem?_eq_getElem hkl
    · simp only [kidV, sm _ _ e0]
      exact List.getElem?_eq_getElem hkl⟩
/-- an item that is only read, of a list -/
def dPi (i : Nat) (t : DTP) (tb : DTE) : DTE := fun ρ Q => t ρ fun p ρ1 => tb ρ1 fun b ρ2 => At ρ2 i fun d => Opt (atD d p) fun e => match e, b with | .list ds, .int z => Opt (atI ds z) fun x => Q x ρ2 | _, _ => False
theorem de_plix (hp : DPl X op e i s (.lst .leaf) tp q tp') (hb : DE X op ix tb dx2 tx2 true tb') (hs : PlainIx ix := by exact fun _ _ => rfl) : DE X op (.Subscript e ix pos) (tOp (rIx X.K) tp tb) [] [] (q && true) (dPi i tp' tb') := ⟨pe_ix ix_seq hp.pe hb.pe hs, fun c0 F σ H ρ Q S w R hR => by
  refine hp.sd c0 F σ H ρ _ S w _ fun v' H1 ⟨p, v0, ρ1, F1, st, hv, nd, sa, w1⟩ => ?_
  refine hb.sd c0 F1 σ H1 ρ1 _ st.sim w1 _ fun y H2 ⟨b, ρ2, F2, st2, hy, w2⟩ => ?_
  obtain ⟨sm, er, ef⟩ := st2.qt rfl
  subst er ef
  obtain ⟨d, d', L', e1, e2, tz, hf⟩ := st.sim.node hp.me hv nd sa
  obtain ⟨dd, ed, w2⟩ := w2.ex
  rw [e1] at ed
  cases ed
  obtain ⟨d2, ed, w2⟩ := w2.ex
  rw [e2] at ed
  cases ed
  cases tz with
  | @lst _ a xs ds L e0 hc =>
    have sh : ∃ z, b = .int z := by cases b <;> first | exact ⟨_, rfl⟩ | exact w2.elim
    obtain ⟨z, rfl⟩ := sh
    obtain ⟨x, hk, w3⟩ := w2.ex
    obtain ⟨_, hc⟩ := hc.leaf
    obtain ⟨v, h1, h2⟩ := hc.atI hk
    exact .inl ⟨a, xs, z, v, rfl, hy.int, SqL.of (sm _ _ e0), h1, hR _ _ ⟨_, ρ2, F2, st.trans st2, .inl (h2.same sm st.sim.live), w3⟩⟩⟩
/-- the place of a written key -/
theorem dpl_key {z : Str} (hu : X.A.units + 1 < cLine) (hp : DPl X op e i s (.rcd fs) tp q tp') (hb : PE X ix (tC (.str z))) (hk : idxF (fs.map (·.1)) z = some k := by rfl) (hs : (fs.map (·.2))[k]? = some s2 := by rfl) (hn : NoSl ix := by exact fun _ _ => rfl) :
    DPl X op (.Subscript e ix pos) i s s2 (tOp rDG tp (tC (.str z))) q (fun ρ Q => tp' ρ fun p ρ1 => Q (p ++ [k]) ρ1) := ⟨pe_dget hu hp.pe hb hn, hp.me, fun c0 F σ H ρ Q S w R hR => by
  refine hp.sd c0 F σ H ρ _ S w _ fun v' H1 ⟨p, v0, ρ1, F1, st, hv, nd, sa, w1⟩ => ?_
  obtain ⟨d, d', L', e1, e2, tz, hf⟩ := st.sim.node hp.me hv nd sa
  cases tz with
  | @rcd _ a kvs ds L e0 h1 h2 hc =>
    obtain ⟨v, hval, hkid⟩ := rcd_val (fs := fs) h2 hk (by
      have := (List.getElem?_eq_some_iff.mp hs).1
      have l := congrArg List.length h2
      simp at this l ⊢
      omega)
    refine ⟨a, v, rfl, .inl ⟨kvs, .inr z, .inl e0, rfl, hval.symm⟩, hR _ _ ⟨p ++ [k], v0, ρ1, F1, st, hv, nd.snoc ?_, sa.snoc hs, w1⟩⟩
    simp only [kidV, e0]
    exact hkid⟩
/-- the place of a key -/
def dPdk (i : Nat) (t : DTP) (tb : DTE) : DTP := fun ρ Q => t ρ fun p ρ1 => tb ρ1 fun b ρ2 => At ρ2 i fun d => Opt (atD d p) fun e => match e with | .dict ds => Opt (kOf b) fun z => Opt (idxK ds z) fun k => Q (p ++ [k]) ρ2 | _ => False
theorem kOf_v {K : PySem.W.Frag} {M N : AS} {H : Hp} {y : V} {b : D} {z : Key} (hy : DzT K M N H y b) (h : kOf b = some z) : y = kV z := by
  cases b <;> first | (cases h; done) | skip
  case int j => cases h; exact hy.int
  case str j => cases h; exact hy.str
theorem dpl_dk (hu : X.A.units + 1 < cLine) (hp : DPl X op e i s (.dic s2) tp q tp') (hb : DE X op ix tb dx2 tx2 true tb') (hn : NoSl ix := by exact fun _ _ => rfl) : DPl X op (.Subscript e ix pos) i s s2 (tOp rDG tp tb) (q && true) (dPdk i tp' tb') := ⟨pe_dget hu hp.pe hb.pe hn, hp.me, fun c0 F σ H ρ Q S w R hR => by
  refine hp.sd c0 F σ H ρ _ S w _ fun v' H1 ⟨p, v0, ρ1, F1, st, hv, nd, sa, w1⟩ => ?_
  refine hb.sd c0 F1 σ H1 ρ1 _ st.sim w1 _ fun y H2 ⟨b, ρ2, F2, st2, hy, w2⟩ => ?_
  obtain ⟨sm, er, ef⟩ := st2.qt rfl
  subst er ef
  obtain ⟨d, d', L', e1, e2, tz, hf⟩ := st.sim.node hp.me hv nd sa
  obtain ⟨dd, ed, w2⟩ := w2.ex
  rw [e1] at ed
  cases ed
  obtain ⟨d2, ed, w2⟩ := w2.ex
  rw [e2] at ed
  cases ed
  cases tz with
  | @dic _ a kvs ds L e0 h1 _ hc =>
    obtain ⟨z, hz, w3⟩ := w2.ex
    obtain ⟨k, hk, w4⟩ := w3.ex
    obtain ⟨h5, h6⟩ := idxK_val h1 hk
    have hkl : k < (kvs.map (·.2)).length := by
      rw [hc.len.1, List.length_map]
      exact idxK_lt hk
    rw [List.getElem?_eq_getElem hkl] at h5
    refine ⟨a, _, rfl, .inl ⟨kvs, z, .inl (sm _ _ e0), kOf_v hy hz, h5.symm⟩, hR _ _ ⟨p ++ [k], v0, ρ2, F2, st.trans st2, hv, (nd.keep sm).snoc ?_, sa.snoc rfl, w4⟩⟩
    simp only [kidV, sm _ _ e0]
    exact List.getElem?_eq_getElem hkl⟩
/-- what stands at a place, read as a value -/
theorem de_pl (hp : DPl X op e i s s' tp q tp') : DE X op e tp [i] [] q (dPv i tp') := ⟨hp.pe, fun c0 F σ H ρ Q S w R hR => by
  refine hp.sd c0 F σ H ρ _ S w _ fun v' H1 ⟨p, v0, ρ1, F1, st, hv, nd, sa, w1⟩ => ?_
  obtain ⟨d, d', L', e1, e2, tz, hf⟩ := st.sim.node hp.me hv nd sa
  obtain ⟨dd, ed, w1⟩ := w1.ex
  rw [e1] at ed
  cases ed
  obtain ⟨d2, ed, w1⟩ := w1.ex
  rw [e2] at ed
  cases ed
  exact hR _ _ ⟨_, ρ1, F1, st, .inl (tz.dz (fun a m => m.all) fun a m => mx_own st.sim hp.me (hf a m)), w1⟩⟩
/-- .. a list, a dict whose things are only read -/
theorem de_pll (hp : DPl X op e i s (.lst .leaf) tp q tp') : DE X op e tp [] [i] q (dPv i tp') := ⟨hp.pe, fun c0 F σ H ρ Q S w R hR => by
  refine hp.sd c0 F σ H ρ _ S w _ fun v' H1 ⟨p, v0, ρ1, F1, st, hv, nd, sa, w1⟩ => ?_
  obtain ⟨d, d', L', e1, e2, tz, hf⟩ := st.sim.node hp.me hv nd sa
  obtain ⟨dd, ed, w1⟩ := w1.ex
  rw [e1] at ed
  cases ed
  obtain ⟨d2, ed, w1⟩ := w1.ex
  rw [e2] at ed
  cases ed
  cases tz with
  | @lst _ a xs ds L e0 hc =>
    obtain ⟨_, hc⟩ := hc.leaf
    exact hR _ _ ⟨_, ρ1, F1, st, .inr (.inl ⟨a, xs, ds, rfl, rfl, mx_own st.sim hp.me (hf a (by simp)), e0, hc⟩), w1⟩⟩
theorem de_pld (hp : DPl X op e i s (.dic .leaf) tp q tp') : DE X op e tp [] [i] q (dPv i tp') := ⟨hp.pe, fun c0 F σ H ρ Q S w R hR => by
  refine hp.sd c0 F σ H ρ _ S w _ fun v' H1 ⟨p, v0, ρ1, F1, st, hv, nd, sa, w1⟩ => ?_
  obtain ⟨d, d', L', e1, e2, tz, hf⟩ := st.sim.node hp.me hv nd sa
  obtain ⟨dd, ed, w1⟩ := w1.ex
  rw [e1] at ed
  cases ed
  obtain ⟨d2, ed, w1⟩ := w1.ex
  rw [e2] at ed
  cases ed
  cases tz with
  | @dic _ a kvs ds L e0 h1 _ hc =>
    obtain ⟨_, hc⟩ := hc.leaf
    exact hR _ _ ⟨_, ρ1, F1, st, .inr (.inr ⟨a, kvs, ds, rfl, rfl, mx_own st.sim hp.me (hf a (by simp)), e0, zipKD h1 hc⟩), w1⟩⟩
end
end Vt
namespace Vt
open PySem PySem.Spec L2
variable [WorldC]
/-! ### what is laid somewhere: what is only read, a new tree, a name's tree that is moved -/
def FRm (K : PySem.W.Frag) (c : Fx) (om : Op) (s : Sh) (M : AS) (σ : St) (H : Hp) (Q : D → DEnv → Prop) : VK := fun v H' =>
  ∃ d ρ' F' L, Sim K (c.addS L) om F' σ H' ρ' ∧ Trn M (fun a => Own om F' a ∨ a ∈ L) H H' ∧ (∀ a ∈ L, ¬ c.N0 a) ∧ L.Nodup ∧ Tz K (Mt (c.addS L) om F') H' s v d L ∧ Q d ρ'
structure DR (X : Cx) (op om : Op) (e : Expr) (s : Sh) (t : TE) (t' : DTE) : Prop where
  pe : PE X e t
  sd : ∀ (c : Fx) (F : Nat → AS) (σ : St) (H : Hp) (ρ : DEnv) (Q : D → DEnv → Prop), Sim X.K c op F σ H ρ → t' ρ Q → ∀ R : VK, (∀ v H', FRm X.K c om s (Own op F) σ H Q v H' → R v H') → t σ H R
/-- a name's tree, moved away -/
def dMove (i : Nat) : DTE := fun ρ Q => At ρ i fun d => Q d (ρ.set i none)
section
variable {X : Cx} {J : Jc} {po op om on l1 l2 : Op} {e o ix : Expr} {pos pos' : Pos} {te tp tb : TE} {q q2 : Bool} {te' tb' : DTE} {tp' : DTP} {n f x : Str} {i j k m : Nat} {s s' s2 : Sh} {fs : List (Str × Sh)} {dx2 tx2 : List Nat}
theorem dr_leaf (h : DE X op e te [] [] q te') : DR X op op e .leaf te te' := ⟨h.pe, fun c F σ H ρ Q S w R hR => h.sd c F σ H ρ Q S w R fun v H' ⟨d, ρ', F', st, hd, w2⟩ =>
  hR _ _ ⟨d, ρ', F', [], st.sim.addS0, by rw [own_or0]; exact st.trn, fun a m => absurd m List.not_mem_nil, .nil, .leaf (by rw [mt_addS1]; exact hd.dz fun a m => m), w2⟩⟩
theorem dr_fr (h : DFr X op e s te te') : DR X op op e s te te' := ⟨h.pe, h.sd⟩
theorem dr_df {ta' : DTA} (h : DF X op e te ta') : DR X op op e (.lst .leaf) te (fun ρ Q => ta' ρ fun ds ρ1 => Q (.list ds) ρ1) := ⟨h.pe, fun c F σ H ρ Q S w R hR => h.sd c F σ H ρ _ S w R fun v H' fq => by
  obtain ⟨d, ρ', F', L, S', t', hn, nd, tz, ds, rfl, w2⟩ := fq_fr S fq
  exact hR _ _ ⟨_, ρ', F', L, S', t', hn, nd, tz, w2⟩⟩
theorem Sim.release {K : PySem.W.Frag} {c : Fx} {F : Nat → AS} {σ : St} {H : Hp} {ρ : DEnv} (S : Sim K c (l1 ++ (i, kT s) :: l2) F σ H ρ) :
    ∃ v d L, σ[i]? = some (some v) ∧ ρ[i]? = some (some d) ∧ Tz K (Mt (c.addS L) (l1 ++ l2) F) H s v d L ∧ L.Nodup ∧ (∀ a ∈ L, ¬ c.N0 a) ∧ Sim K (c.addS L) (l1 ++ l2) F σ H (ρ.set i none) ∧
      Trn (Own (l1 ++ (i, kT s) :: l2) F) (fun a => Own (l1 ++ l2) F a ∨ a ∈ L) H H := by
  have me : (i, kT s) ∈ l1 ++ (i, kT s) :: l2 := by simp
  obtain ⟨v, d, e1, e2, L, tz, nd, hf⟩ := S.ops _ me
  have up : ∀ p, p ∈ l1 ++ l2 → p ∈ l1 ++ (i, kT s) :: l2 := fun p hp => by
    simp only [List.mem_append, List.mem_cons] at hp ⊢
    rcases hp with h | h
    · exact .inl h
    · exact .inr (.inr h)
  have dn : ∀ p, p ∈ l1 ++ (i, kT s) :: l2 → p ∈ l1 ++ l2 ∨ p = (i, kT s) := fun p hp => by
    simp only [List.mem_append, List.mem_cons] at hp ⊢
    rcases hp with h | h | h
    · exact .inl (.inl h)
    · exact .inr h
    · exact .inl (.inr h)
  have nd2 : ((l1 ++ l2).map (·.1)).Nodup ∧ ∀ p ∈ l1 ++ l2, p.1 ≠ i := by
    have nd := S.nd
    rw [List.map_append, List.map_cons, List.nodup_append] at nd
    obtain ⟨n1, n2, n3⟩ := nd
    rw [List.nodup_cons] at n2
    refine ⟨?_, fun p hp e => ?_⟩
    · rw [List.map_append, List.nodup_append]
      exact ⟨n1, n2.2, fun a ha b hb => n3 a ha b (List.mem_cons_of_mem _ hb)⟩
    · rcases List.mem_append.mp hp with h | h
      · exact n3 p.1 (List.mem_map_of_mem h) i (by simp) e
      · exact n2.1 (List.mem_map.mpr ⟨p, h, e⟩)
  have mt : Mt (c.addS L) (l1 ++ l2) F = Mt c (l1 ++ (i, kT s) :: l2) F := by
    funext a
    refine propext ⟨fun h => ?_, fun h => ?_⟩
    · rcases mt_addS.mp h with m | m
      · rcases m with m | ⟨p, hp, n, m⟩
        · exact .inl m
        · exact .inr ⟨p, up p hp, n, m⟩
      · exact .inr ⟨_, me, by simp, (hf a).mpr m⟩
    · rcases h with m | ⟨p, hp, n, m⟩
      · exact .inl (.inl m)
      · rcases dn p hp with h | rfl
        · exact .inr ⟨p, h, n, m⟩
        · exact .inl (.inr ((hf a).mp m))
  refine ⟨v, d, L, e1, e2, by rw [mt]; exact tz, nd, fun a m z => S.n0d _ me a ((hf a).mpr m) z, ⟨by simpa using S.len, fun j d e n => ?_, fun p hp => ?_, fun p hp q hq => S.dis p (up p hp) q (up q hq), nd2.1, fun a m => ?_, fun p hp a f m => ?_, S.pv⟩, Trn.less fun a m => ?_⟩
  · have hj : i ≠ j := fun z => by
      subst z
      by_cases hl : i < ρ.length
      · rw [List.getElem?_set_self hl] at e; cases e
      · rw [List.getElem?_eq_none (by simpa using hl)] at e; cases e
    rw [List.getElem?_set_ne hj] at e
    rw [mt]
    exact S.fr j d e fun p hp => by
      rcases dn p hp with h | rfl
      · exact n p h
      · exact hj
  · obtain ⟨v, d, e1, e2, ok⟩ := S.ops p (up p hp)
    rw [mt, List.getElem?_set_ne (Ne.symm (nd2.2 p hp))]
    exact ⟨v, d, e1, e2, ok⟩
  · rcases m with m | m
    · exact S.n0 a m
    · exact tz.live a m
  · rcases m with m | m
    · exact S.n0d p (up p hp) a f m
    · exact nd2.2 p hp (S.dis p (up p hp) _ me a f ((hf a).mpr m))
  · rcases m with ⟨p, hp, f⟩ | m
    · exact ⟨p, up p hp, f⟩
    · exact ⟨_, me, (hf a).mpr m⟩
theorem dr_move (l1 : Op) (h : PE X e (tVar i)) : DR X (l1 ++ (i, kT s) :: l2) (l1 ++ l2) e s (tVar i) (dMove i) := ⟨h, fun c F σ H ρ Q S w R hR => by
  obtain ⟨d, e, w1⟩ := w.ex
  obtain ⟨v, d', L, e1, e2, tz, nd, hn, S', t'⟩ := S.release
  rw [e] at e2
  cases e2
  exact ⟨v, e1, hR _ _ ⟨d, _, F, L, S', t', hn, nd, tz, w1⟩⟩⟩
/-- x = a tree: owned from then on -/
def dBind (i : Nat) (t : DTE) : DTS := fun E ρ => t ρ fun d ρ1 => i < ρ1.length ∧ E.nx (ρ1.set i (some d))
theorem ds_bind {x : Str} (hN : X.N.Nodup) (he : DR X op om e s te te') (hi : X.N[i]? = some x := by rfl) (hx : Loc X.env.scope x := by first | exact Or.inl rfl | exact Or.inr rfl) (n1 : noOp om i = true := by rfl) (n2 : noOp po i = true := by rfl)
    (hs : swapsWith e (some (.Name x pos')) pos.line X.env = pure false := by rfl) (hf : X.fn x = true ∨ X.env.scope.names.lookup x = some .local := by first | exact .inl rfl | exact .inr rfl | assumption) :
    DS X J po op ((i, kT s) :: om) (.Assign [.Name x pos'] e pos) (tAsg te (gName i)) (dBind i te') := ⟨ps_set hN hi hx he.pe hs hf, fun c F σ H ρ E R pv S w j =>
  he.sd c F σ H ρ _ S w _ fun v H' ⟨d, ρ1, F1, L, S1, t1, hn, nd, tz, hl, w1⟩ => j.nx _ _ ⟨_, _, S1.holdT hn tz nd hl n1 (pv_ne (c := c) pv n2), hold_trn t1 n1, w1⟩⟩
/-- return a tree -/
def dRetT (po : Op) (t : DTE) : DTS := fun E ρ => t ρ fun d ρ1 => E.rt d (conts ρ1 po)
theorem ds_retT (he : DR X op om e s te te') (hn : om.drop m = po := by rfl) (hr : J.rs = s := by rfl) : DS X J po op on (.Return (some e) pos) (tRet te) (dRetT po te') := ⟨ps_ret he.pe, fun c F σ H ρ E R pv S w jj =>
  he.sd c F σ H ρ _ S w _ fun v H' ⟨d, ρ1, F1, L, S1, t1, hn0, nd, tz, w1⟩ => jj.rt _ _ (by
    have mt : ∀ a, Mt (c.addS L) po F1 a → Mt (c.addS L) om F1 a := fun a m => by
      rcases m with m | ⟨p, hp, n, m⟩
      · exact .inl m
      · exact .inr ⟨p, sub_of hn p hp, n, m⟩
    refine ⟨d, _, F1, L, S1.ret (c := c.addS L) pv (sub_of hn), t1.trans (Trn.less fun a z => z.imp (fun ⟨p, hp, f⟩ => ⟨p, sub_of hn p hp, f⟩) id), hn0, nd, ?_, w1⟩
    rw [hr]
    exact tz.frame S1.live (fun a o e z => mt a z) fun a o e _ => e)⟩
/-! ### stores -/
end
theorem idxF_lt : ∀ {l : List Str} {f : Str} {k : Nat}, idxF l f = some k → k < l.length ∧ l[k]? = some f
  | [], _, _, h => by cases h
  | g :: r, f, k, h => by
    simp only [idxF] at h
    by_cases e : g = f
    · rw [if_pos e] at h
      cases h
      exact ⟨by simp, by simp [e]⟩
    · rw [if_neg e] at h
      cases q : idxF r f with
      | none => rw [q] at h; cases h
      | some j =>
        rw [q] at h
        cases h
        obtain ⟨h1, h2⟩ := idxF_lt q
        exact ⟨by simp; exact h1, by simpa using h2⟩
theorem putF_mod : ∀ {vs : List (Str × V)} {f : Str} {k : Nat} {y : V}, idxF (vs.map (·.1)) f = some k → putF f y vs = vs.modify k fun q => (q.1, y)
  | [], _, _, _, h => by cases h
  | (g, v) :: r, f, k, y, h => by
    simp only [List.map_cons, idxF] at h
    by_cases e : g = f
    · rw [if_pos e] at h
      cases h
      simp [putF, e]
    · rw [if_neg e] at h
      cases q : idxF (r.map (·.1)) f with
      | none => rw [q] at h; cases h
      | some j =>
        rw [q] at h
        cases h
        simp [putF, e, putF_mod q]
theorem putF_new : ∀ {vs : List (Str × V)} {f : Str} {y : V}, idxF (vs.map (·.1)) f = none → putF f y vs = vs ++ [(f, y)]
  | [], _, _, _ => rfl
  | (g, v) :: r, f, y, h => by
    simp only [List.map_cons, idxF] at h
    by_cases e : g = f
    · rw [if_pos e] at h; cases h
    · rw [if_neg e] at h
      cases q : idxF (r.map (·.1)) f with
      | some j => rw [q] at h; cases h
      | none => simp [putF, e, putF_new q]
/-- the n-th child of a node of ours is another one -/
def kidPut : HO → Nat → V → HO
  | .lst xs, n, y => .lst (xs.set n y)
  | .dK kvs, n, y => .dK (kvs.modify n fun q => (q.1, y))
  | .ins C dx vs, n, y => .ins C dx (vs.modify n fun q => (q.1, y))
  | o, _, _ => o
section
variable {K : PySem.W.Frag} {c : Fx} {om : Op} {F : Nat → AS} {σ : St} {H : Hp} {ρ : DEnv} {X : List Addr} {i n : Nat} {s s' s2 : Sh} {v y : V} {d2 : D} {p : List Nat} {a : Addr} {o : HO}
theorem putD_snoc : ∀ {p : List Nat} {d d' e : D} {n : Nat}, atD d p = some d' → putD d (p ++ [n]) e = match (kidsD d')[n]? with | some _ => putD d p (setKid d' n e) | none => putD d p d'
  | [], d, d', e, n, h => by
    simp only [atD] at h
    cases h
    simp only [List.nil_append, putD]
    try (cases (kidsD d)[n]? <;> rfl)
  | m :: p, d, d', e, n, h => by
    simp only [atD] at h
    cases q : (kidsD d)[m]? with
    | none => rw [q] at h; cases h
    | some c =>
      rw [q] at h
      simp only [List.cons_append, putD, q]
      rw [putD_snoc h]
      cases (kidsD d')[n]? <;> rfl
theorem Sim.setKid (S : Sim K (c.addS X) om F σ H ρ) (hX : ∀ a ∈ X, ¬ c.N0 a) (hm : (i, kT s) ∈ om) (hv : σ[i]? = some (some v)) (na : NodeAt H v p (.ref a)) (sa : ShAt s p s') (hs : kidS s' n = some s2) (ho : H a = some o) (hw : (kidV H (.ref a) n).isSome = true)
    (tz : Tz K (Mt (c.addS X) om F) H s2 y d2 X) (nd : X.Nodup) :
    ∃ d, ρ[i]? = some (some d) ∧ ∃ F', Sim K c om F' σ (upd H a (kidPut o n y)) (ρ.set i (some (putD d (p ++ [n]) d2))) ∧ Trn (fun a => Own om F a ∨ a ∈ X) (Own om F') H (upd H a (kidPut o n y)) := by
  obtain ⟨d, d', L', e1, e2, tz', ndL, inL, put⟩ := S.putAt hX hm hv na sa
  refine ⟨d, e1, ?_⟩
  obtain ⟨w, hw⟩ := Option.isSome_iff_exists.mp hw
  -- the new node
  have nX : ∀ b ∈ L', b ∉ X := fun b m z => S.n0d _ hm b (inL b m) (.inr z)
  have main : ∀ {ss : List Sh} {vs : List V} {ds : List D} {Lc : List Addr}, L' = a :: Lc → vs[n]? = some w → ss[n]? = some s2 → kidsD d' = ds → TzC K (Mt (c.addS X) om F) H ss vs ds Lc →
      (∀ (M' : AS) (H' : Hp) (Lx : List Addr), H' a = some (kidPut o n y) → TzC K M' H' ss (vs.set n y) (ds.set n d2) Lx → Tz K M' H' s' (.ref a) (Vt.setKid d' n d2) (a :: Lx)) →
      ∃ F', Sim K c om F' σ (upd H a (kidPut o n y)) (ρ.set i (some (putD d (p ++ [n]) d2))) ∧ Trn (fun a => Own om F a ∨ a ∈ X) (Own om F') H (upd H a (kidPut o n y)) := by
    intro ss vs ds Lc eL ev es ek hc back
    obtain ⟨s1, d1, L1, Lm, L2, f1, f2, eLc, h1, b1⟩ := TzC.kid hc ev
    rw [es] at f1
    cases f1
    have ndL2 := ndL
    rw [eL, eLc, List.nodup_cons, List.append_assoc, List.nodup_append, List.nodup_append] at ndL2
    obtain ⟨ndA, n1, ⟨n2, n3, n23⟩, n123⟩ := ndL2
    have sub : ∀ b, b ∈ L1 ∨ b ∈ L2 → b ∈ L' := fun b m => by rw [eL, eLc]; rcases m with m | m <;> simp [m]
    have neA : ∀ b, b ∈ L1 ∨ b ∈ L2 → b ≠ a := fun b m z => ndA (by subst z; rcases m with m | m <;> simp [m])
    have aL : a ∈ L' := by rw [eL]; simp
    have aX : a ∉ X := nX a aL
    have hp : (kidsD d')[n]?.isSome = true := by rw [ek, f2]; rfl
    have ep : putD d (p ++ [n]) d2 = putD d p (Vt.setKid d' n d2) := by
      rw [putD_snoc e2, ek, f2]
    rw [ep]
    obtain ⟨F', S', t', mt', _⟩ := put (upd H a (kidPut o n y)) (Vt.setKid d' n d2) (a :: (L1 ++ X ++ L2)) (fun b u e n1 n2 => by rw [upd_ne (fun z => n1 (by rw [z]; exact aL))]; exact e)
      (fun b u e => by
        by_cases z : b = a
        · rw [z]; exact ⟨_, upd_same⟩
        · exact ⟨u, by rw [upd_ne z]; exact e⟩)
      (fun b u e m => by
        rcases List.mem_cons.mp m with rfl | m
        · exact .inl aL
        · rcases List.mem_append.mp m with m | m
          · rcases List.mem_append.mp m with m | m
            · exact .inl (sub b (.inl m))
            · exact .inr m
          · exact .inl (sub b (.inr m)))
      (by
        rw [List.nodup_cons, List.append_assoc, List.nodup_append, List.nodup_append]
        refine ⟨fun z => ?_, n1, ⟨nd, n3, fun b h1 b' h2 e => ?_⟩, fun b h1 b' h2 e => ?_⟩
        · rcases List.mem_append.mp z with z | z
          · exact neA a (.inl z) rfl
          · rcases List.mem_append.mp z with z | z
            · exact aX z
            · exact neA a (.inr z) rfl
        · subst e
          exact nX b (sub b (.inr h2)) h1
        · subst e
          rcases List.mem_append.mp h2 with h2 | h2
          · exact nX b (sub b (.inl h1)) h2
          · exact n123 b h1 b (List.mem_append_right _ h2) rfl)
      (by
        refine back _ _ _ upd_same ?_
        have g : ∀ b u, H b = some u → (Mt c om F b ∧ b ∉ L') ∨ b ∈ a :: (L1 ++ X ++ L2) → Mt (c.addS X) om F b := fun b u e m => by
          rcases m with ⟨m, _⟩ | m
          · exact mt_addS.mpr (.inl m)
          · rcases List.mem_cons.mp m with rfl | m
            · exact .inr ⟨_, hm, by simp, inL b aL⟩
            · rcases List.mem_append.mp m with m | m
              · rcases List.mem_append.mp m with m | m
                · exact .inr ⟨_, hm, by simp, inL b (sub b (.inl m))⟩
                · exact .inl (.inr m)
              · exact .inr ⟨_, hm, by simp, inL b (sub b (.inr m))⟩
        have kp : ∀ b u, H b = some u → b ≠ a → upd H a (kidPut o n y) b = some u := fun b u e z => by rw [upd_ne z]; exact e
        have inM : Mt (c.addS X) om F a := .inr ⟨_, hm, by simp, inL a aL⟩
        refine b1 _ _ y d2 X S.live (tz.frame S.live g fun b u e m => kp b u e fun z => ?_) (fun b u e m => kp b u e fun z => ?_) g
        · rcases m with m | m
          · exact m (by rw [z]; exact inM)
          · exact aX (by rw [← z]; exact m)
        · rcases m with m | m
          · exact m (by rw [z]; exact inM)
          · exact neA b m z)
    exact ⟨F', S', t'⟩
  cases tz' with
  | leaf h => cases hs
  | tdc _ _ _ _ => cases hs
  | @lst s0 _ xs ds Lc e hc =>
    rw [e] at ho
    cases ho
    simp only [kidV, e] at hw
    cases hs
    exact main rfl hw (by rw [List.getElem?_replicate, if_pos (List.getElem?_eq_some_iff.mp hw).1]) rfl hc fun M' H' Lx ea h2 => .lst ea (by rw [List.length_set]; exact h2)
  | @dic s0 _ kvs ds Lc e e1' hnd hc =>
    rw [e] at ho
    cases ho
    simp only [kidV, e] at hw
    cases hs
    refine main rfl hw ?_ rfl hc fun M' H' Lx ea h2 => .dic ea ?_ ?_ ?_
    · have := (List.getElem?_eq_some_iff.mp hw).1
      rw [List.getElem?_replicate, if_pos (by simpa using this)]
    · rw [modify_fst, e1']
      have := modify_fst n y kvs
      have e3 : kvs.map (fun q => kD q.1) = (kvs.map (·.1)).map kD := by simp
      rw [e3, ← this]
      simp
    · rw [modify_fst]; exact hnd
    · rw [List.length_modify, modify_snd, modify_snd]; exact h2
  | @rcd fs _ kvs ds Lc e e1' e2' hc =>
    rw [e] at ho
    cases ho
    simp only [kidV, e] at hw
    refine main rfl hw hs rfl hc fun M' H' Lx ea h2 => .rcd ea ?_ ?_ ?_
    · rw [modify_fst, e1']
      have := modify_fst n y kvs
      have e3 : kvs.map (fun q => kD q.1) = (kvs.map (·.1)).map kD := by simp
      rw [e3, ← this]
      simp
    · rw [modify_fst]; exact e2'
    · rw [modify_snd, modify_snd]; exact h2
  | @obj nm fs _ dx vs ds Lc e e1' e2' hc =>
    rw [e] at ho
    cases ho
    simp only [kidV, e] at hw
    refine main rfl hw hs rfl hc fun M' H' Lx ea h2 => .obj ea ?_ ?_ ?_
    · rw [modify_fst, modify_fst]; exact e1'
    · rw [modify_fst]; exact e2'
    · rw [modify_snd, modify_snd]; exact h2
end
section
variable {X : Cx} {J : Jc} {po op om on l1 l2 : Op} {e o ix : Expr} {pos pos' : Pos} {te tp tb : TE} {q q2 : Bool} {te' tb' : DTE} {tp' : DTP} {n f x : Str} {i j k m : Nat} {s s' s2 : Sh} {fs : List (Str × Sh)} {dx2 tx2 : List Nat}
/-- o.f = e, the attribute stands already -/
def dPfld (i k : Nat) (te : DTE) (tp : DTP) : DTS := fun E ρ => te ρ fun d ρ1 => tp ρ1 fun p ρ2 => At ρ2 i fun r => E.nx (ρ2.set i (some (putD r (p ++ [k]) d)))
theorem frm_step {K : PySem.W.Frag} {c : Fx} {F1 F2 : Nat → AS} {σ : St} {H1 H2 : Hp} {ρ1 ρ2 : DEnv} {L : List Addr} {y : V} {d : D} (S1 : Sim K (c.addS L) om F1 σ H1 ρ1) (st : Stp K (c.addS L) om q F1 σ H1 ρ1 F2 H2 ρ2) (tz : Tz K (Mt (c.addS L) om F1) H1 s y d L) :
    Tz K (Mt (c.addS L) om F2) H2 s y d L ∧ Trn (fun a => Own om F1 a ∨ a ∈ L) (fun a => Own om F2 a ∨ a ∈ L) H1 H2 := by
  have nL : ∀ a ∈ L, ¬ Own om F1 a := fun a m ⟨p, hp, f⟩ => S1.n0d p hp a f (.inr m)
  have mt := mx_trn S1.n0 st.trn
  refine ⟨tz.frame S1.live mt.2.1 fun a o e m => ?_, fun a o e m => st.trn.1 a o e fun z => m (.inl z), fun a o e m => m.imp (st.trn.2.1 a o e) id, st.trn.2.2⟩
  rcases m with m | m
  · exact mt.1 a o e m
  · exact st.trn.1 a o e (nL a m)
theorem ds_pfld (cl : Cls X.K (He.ga X.K n)) (na : NoAttr X.K (He.ga X.K n) f) (he : DR X op om e s2 te te') (hp : DPl X om o i s (.obj n fs) tp q tp') (hk : idxF (fs.map (·.1)) f = some k := by rfl) (hs : (fs.map (·.2))[k]? = some s2 := by rfl) (hl : fs.length < 1000 := by decide)
    (hsw : swapsWith e (some (.Attribute o f pos')) pos.line X.env = pure false := by rfl) : DS X J po op om (.Assign [.Attribute o f pos'] e pos) (sFld X.K tp te f) (dPfld i k te' tp') := ⟨ps_fld hp.pe he.pe hsw, fun c F σ H ρ E R pv S w jj => by
  refine he.sd c F σ H ρ _ S w _ fun y H1 ⟨d, ρ1, F1, L, S1, t1, hn, nd, tz, w1⟩ => ?_
  refine hp.sd (c.addS L) F1 σ H1 ρ1 _ S1 w1 _ fun v' H2 ⟨p, v0, ρ2, F2, st, hv, na2, sa, w2⟩ => ?_
  obtain ⟨tz2, t2⟩ := frm_step S1 st tz
  obtain ⟨r, er, w3⟩ := w2.ex
  obtain ⟨r0, d', L', e1, e2, tz', hf⟩ := st.sim.node hp.me hv na2 sa
  rw [er] at e1
  cases e1
  cases tz' with
  | @obj _ _ a dxx vs ds L0 e0 h1 h2 hc =>
    have hkv : k < (vs.map (·.2)).length := by
      have l1 := (idxF_lt hk).1
      have := congrArg List.length h2
      simp at this l1 ⊢
      omega
    obtain ⟨r1, f1, F3, S3, t3⟩ := st.sim.setKid hn hp.me hv na2 sa (show kidS (.obj n fs) k = some s2 from hs) e0 (by simp only [kidV, e0]; rw [List.getElem?_eq_getElem hkv]; rfl) tz2 nd
    rw [er] at f1
    cases f1
    have hvl : vs.length < 1000 := by
      have := congrArg List.length h2
      simp at this
      omega
    refine ⟨a, _, dxx, vs, rfl, e0, cl, na, hvl, ?_⟩
    rw [putF_mod (by rw [← h2]; exact hk)]
    exact jj.nx _ _ ⟨_, F3, S3, (t1.trans t2).trans t3, w3⟩⟩
/-- .. a list's item -/
def dPput (i : Nat) (te : DTE) (tp : DTP) (tb : DTE) : DTS := fun E ρ => te ρ fun d ρ1 => tp ρ1 fun p ρ2 => tb ρ2 fun b ρ3 => At ρ3 i fun r => Opt (atD r p) fun z => match z, b with | .list ds, .int n => Opt (ixN ds.length n) fun k => E.nx (ρ3.set i (some (putD r (p ++ [k]) d))) | _, _ => False
theorem ds_pput (he : DR X op om e s2 te te') (hp : DPl X om o i s (.lst s2) tp q tp') (hb : DE X om ix tb dx2 tx2 true tb') 
    (hs : swapsWithSole [.Subscript o ix pos'] e pos.line X.env = pure false := by rfl) (hw : swappedStores [.Subscript o ix pos'] e X.env = pure none := by rfl)
    (h1 : (assignEach [.Subscript o ix pos'] X.env).map (·.2) = [assign (.Subscript o ix pos') X.env] := by rfl) (ha : ∀ v, assign (.Subscript o ix pos') X.env v = (do
      let ov ← holding [v] (eval o X.env)
      let iv ← holding [v, ov] (eval ix X.env)
      standAt pos'
      holding [v, ov, iv] (setItem ov iv v)
      release [v, ov, iv] []) := by intro _; rfl) :
    DS X J po op om (.Assign [.Subscript o ix pos'] e pos) (tAsg te (gSub tp tb rSetL)) (dPput i te' tp' tb') := ⟨ps_asg he.pe (pg_sub hp.pe hb.pe set_list ha) hs hw h1, fun c F σ H ρ E R pv S w jj => by
  refine he.sd c F σ H ρ _ S w _ fun y H1 ⟨d, ρ1, F1, L, S1, t1, hn, nd, tz, w1⟩ => ?_
  refine hp.sd (c.addS L) F1 σ H1 ρ1 _ S1 w1 _ fun v' H2 ⟨p, v0, ρ2, F2, st, hv, na2, sa, w2⟩ => ?_
  obtain ⟨tz2, t2⟩ := frm_step S1 st tz
  refine hb.sd (c.addS L) F2 σ H2 ρ2 _ st.sim w2 _ fun z H3 ⟨b, ρ3, F3, st2, hz, w3⟩ => ?_
  obtain ⟨tz3, t3⟩ := frm_step st.sim st2 tz2
  obtain ⟨sm, er, ef⟩ := st2.qt rfl
  subst er ef
  obtain ⟨r, er, w3⟩ := w3.ex
  obtain ⟨z0, ez, w3⟩ := w3.ex
  obtain ⟨r0, d', L', e1, e2, tz', hf⟩ := st.sim.node hp.me hv na2 sa
  rw [er] at e1
  cases e1
  rw [ez] at e2
  cases e2
  cases tz' with
  | @lst _ a xs ds L0 e0 hc =>
    have sh : ∃ n, b = .int n := by cases b <;> first | exact ⟨_, rfl⟩ | exact w3.elim
    obtain ⟨n, rfl⟩ := sh
    obtain ⟨k, hk, w4⟩ := w3.ex
    have hkl : k < xs.length := by
      rw [hc.len.1]
      exact (ixN_seq hk).2.1
    obtain ⟨r1, f1, F4, S4, t4⟩ := st2.sim.setKid hn hp.me hv (na2.keep sm) sa (show kidS (.lst s2) k = some s2 from rfl) (sm _ _ e0) (by simp only [kidV, sm _ _ e0]; rw [List.getElem?_eq_getElem hkl]; rfl) tz3 nd
    rw [er] at f1
    cases f1
    exact ⟨a, xs, n, k, rfl, hz.int, sm _ _ e0, by rw [hc.len.1]; exact hk, jj.nx _ _ ⟨_, F4, S4, ((t1.trans t2).trans t3).trans t4, w4⟩⟩⟩
end
end Vt
namespace Vt
open PySem PySem.Spec L2
variable [WorldC]
/-! ### leaves alone at a place: laid anew -/
section
variable {K : PySem.W.Frag} {c : Fx} {om : Op} {F : Nat → AS} {σ : St} {H : Hp} {ρ : DEnv} {i : Nat} {s : Sh} {v : V} {p : List Nat} {a : Addr}
theorem Sim.leafNode {o' : HO} {d2 : D} {s' : Sh} (S : Sim K c om F σ H ρ) (hm : (i, kT s) ∈ om) (hv : σ[i]? = some (some v)) (na : NodeAt H v p (.ref a)) (sa : ShAt s p s')
    (one : ∀ d' L', Tz K (Mt c om F) H s' (.ref a) d' L' → L' = [a]) (new : ∀ H', (∀ b o, H b = some o → b ≠ a → H' b = some o) → H' a = some o' → Tz K (Mt c om F) H' s' (.ref a) d2 [a]) :
    ∃ d, ρ[i]? = some (some d) ∧ ∃ F', Sim K c om F' σ (upd H a o') (ρ.set i (some (putD d p d2))) ∧ Trn (Own om F) (Own om F') H (upd H a o') := by
  obtain ⟨d, d', L', e1, e2, tz, nd, inL, put⟩ := S.addS0.putAt (fun a m => absurd m List.not_mem_nil) hm hv na sa
  rw [mt_addS1] at tz
  have eL := one _ _ tz
  subst eL
  have inM : Mt c om F a := .inr ⟨_, hm, by simp, inL a (by simp)⟩
  have em : (fun b => (Mt c om F b ∧ b ∉ [a]) ∨ b ∈ [a]) = Mt c om F := by
    funext b
    refine propext ⟨fun m => ?_, fun m => ?_⟩
    · rcases m with ⟨m, _⟩ | m
      · exact m
      · rw [List.mem_singleton.mp m]; exact inM
    · by_cases z : b = a
      · exact .inr (by simp [z])
      · exact .inl ⟨m, by simpa using z⟩
  obtain ⟨F', S', t', _, _⟩ := put (upd H a o') d2 [a] (fun b o e n _ => by rw [upd_ne (fun z => n (by simp [z]))]; exact e)
    (fun b o e => by
      by_cases z : b = a
      · rw [z]; exact ⟨_, upd_same⟩
      · exact ⟨o, by rw [upd_ne z]; exact e⟩) (fun b o e m => .inl m) (by simp) (by
      rw [em]
      exact new _ (fun b o e z => by rw [upd_ne z]; exact e) upd_same)
  exact ⟨d, e1, F', S', by rw [own_or0] at t'; exact t'⟩
theorem one_lst {M : AS} {d' : D} {L' : List Addr} (tz : Tz K M H (.lst .leaf) (.ref a) d' L') : L' = [a] := by
  cases tz with
  | lst e h => rw [h.leaf.1]
theorem one_dic {M : AS} {d' : D} {L' : List Addr} (tz : Tz K M H (.dic .leaf) (.ref a) d' L') : L' = [a] := by
  cases tz with
  | dic e _ _ h => rw [h.leaf.1]
theorem Sim.setL {xs : List V} {ds : List D} (S : Sim K c om F σ H ρ) (hm : (i, kT s) ∈ om) (hv : σ[i]? = some (some v)) (na : NodeAt H v p (.ref a)) (sa : ShAt s p (.lst .leaf)) (h : DzA K (Mt c om F) H xs ds) :
    ∃ d, ρ[i]? = some (some d) ∧ ∃ F', Sim K c om F' σ (upd H a (.lst xs)) (ρ.set i (some (putD d p (.list ds)))) ∧ Trn (Own om F) (Own om F') H (upd H a (.lst xs)) := by
  obtain ⟨d, d', L', e1, e2, tz, inL⟩ := S.node hm hv na sa
  have eL := one_lst tz
  subst eL
  have inM : Mt c om F a := .inr ⟨_, hm, by simp, inL a (by simp)⟩
  exact S.leafNode hm hv na sa (fun _ _ t => one_lst t) fun H' k e => .lst e (h.frame S.live (fun b o e n => k b o e fun z => n (by rw [z]; exact inM)) fun _ _ _ m => m).leafC
theorem Sim.setK {kvs : List (Key × V)} {ds : List (D × D)} (S : Sim K c om F σ H ρ) (hm : (i, kT s) ∈ om) (hv : σ[i]? = some (some v)) (na : NodeAt H v p (.ref a)) (sa : ShAt s p (.dic .leaf)) (h : DzK K (Mt c om F) H kvs ds) :
    ∃ d, ρ[i]? = some (some d) ∧ ∃ F', Sim K c om F' σ (upd H a (.dK kvs)) (ρ.set i (some (putD d p (.dict ds)))) ∧ Trn (Own om F) (Own om F') H (upd H a (.dK kvs)) := by
  obtain ⟨d, d', L', e1, e2, tz, inL⟩ := S.node hm hv na sa
  have eL := one_dic tz
  subst eL
  have inM : Mt c om F a := .inr ⟨_, hm, by simp, inL a (by simp)⟩
  refine S.leafNode hm hv na sa (fun _ _ t => one_dic t) fun H' k e => ?_
  obtain ⟨k1, k2⟩ := (h.frame S.live (fun b o e n => k b o e fun z => n (by rw [z]; exact inM)) fun _ _ _ m => m : DzK K (Mt c om F) H' kvs ds).split
  have := k2.leafC
  rw [List.length_map] at this
  exact .dic e k1 (.inl rfl) this
end
/-! ### dicts as data -/
def hasK (ds : List (D × D)) (z : Key) : Bool := (getK ds z).isSome
def putKD (ds : List (D × D)) (z : Key) (d : D) : List (D × D) := if hasK ds z = true then ds.map (fun q => if kOf q.1 = some z then (q.1, d) else q) else ds ++ [(kD z, d)]
def dropKD (ds : List (D × D)) (z : Key) : List (D × D) := ds.filter fun q => decide (kOf q.1 ≠ some z)
section
variable {K : PySem.W.Frag} {M : AS} {H : Hp} {z : Key} {y : V} {d : D}
theorem DzK.has {kvs : List (Key × V)} {ds : List (D × D)} (h : DzK K M H kvs ds) : (valV kvs z).isSome = hasK ds z := by
  unfold hasK
  cases e : getK ds z with
  | none => rw [h.get.2 e]; rfl
  | some d =>
    obtain ⟨v, e1, _⟩ := h.get.1 d e
    rw [e1]
    rfl
theorem DzK.app {l2 : List (Key × V)} {e2 : List (D × D)} (h2 : DzK K M H l2 e2) : ∀ {l : List (Key × V)} {e : List (D × D)}, DzK K M H l e → DzK K M H (l ++ l2) (e ++ e2)
  | _, _, .nil => h2
  | _, _, .cons h t => .cons h (DzK.app h2 t)
theorem DzK.map_put (hy : Dz K M H y d) : ∀ {l : List (Key × V)} {e : List (D × D)}, DzK K M H l e → DzK K M H (l.map fun kv => if kv.1 = z then (kv.1, y) else kv) (e.map fun q => if kOf q.1 = some z then (q.1, d) else q)
  | _, _, .nil => .nil
  | _, _, @DzK.cons _ _ _ _ k v vs d0 ds h t => by
    simp only [List.map_cons]
    by_cases c : k = z
    · rw [if_pos c, if_pos (by rw [kOf_kD, c])]
      exact .cons hy (DzK.map_put hy t)
    · rw [if_neg c, if_neg (fun x => c (by rw [kOf_kD] at x; exact Option.some.inj x))]
      exact .cons h (DzK.map_put hy t)
theorem DzK.putK {kvs : List (Key × V)} {ds : List (D × D)} (h : DzK K M H kvs ds) (hy : Dz K M H y d) : DzK K M H (L2.putK kvs z y) (putKD ds z d) := by
  unfold L2.putK putKD
  rw [valV_any, h.has]
  by_cases c : hasK ds z = true
  · rw [if_pos c, if_pos c]
    exact DzK.map_put hy h
  · rw [if_neg c, if_neg c]
    exact DzK.app (.cons hy .nil) h
theorem DzK.dropK : ∀ {l : List (Key × V)} {e : List (D × D)}, DzK K M H l e → DzK K M H (L2.dropK l z) (dropKD e z)
  | _, _, .nil => .nil
  | _, _, @DzK.cons _ _ _ _ k v vs d0 ds h t => by
    have ih := DzK.dropK t
    unfold L2.dropK dropKD at ih ⊢
    simp only [List.filter_cons]
    by_cases c : k = z
    · rw [if_neg (by simp [c]), if_neg (by simp [kOf_kD, c])]
      exact ih
    · rw [if_pos (by simp [c]), if_pos (by rw [kOf_kD]; simp [c])]
      exact .cons h ih
theorem DzK.len : ∀ {kvs : List (Key × V)} {ds : List (D × D)}, DzK K M H kvs ds → kvs.length = ds.length
  | _, _, .nil => rfl
  | _, _, .cons _ t => by simp [t.len]
end
/-! ### k in d, d.get -/
def dInK (d e : D) (Q : Bool → Prop) : Prop := match e with | .dict ds => Opt (kOf d) fun z => Q (hasK ds z) | _ => False
def dDin (ta tb : DTE) : DTE := fun ρ Q => ta ρ fun x ρ1 => tb ρ1 fun y ρ2 => dInK x y fun b => Q (.bool b) ρ2
def dDnotin (ta tb : DTE) : DTE := fun ρ Q => ta ρ fun x ρ1 => tb ρ1 fun y ρ2 => dInK x y fun b => Q (.bool !b) ρ2
def dGet1 (ta tb : DTE) : DTE := fun ρ Q => ta ρ fun x ρ1 => match x with | .dict ds => tb ρ1 fun y ρ2 => Opt (kOf y) fun z => Q ((getK ds z).getD .none) ρ2 | _ => False
def dGet2 (ta tb tc : DTE) : DTE := fun ρ Q => ta ρ fun x ρ1 => match x with | .dict ds => tb ρ1 fun y ρ2 => tc ρ2 fun w ρ3 => Opt (kOf y) fun z => Q ((getK ds z).getD w) ρ3 | _ => False
section
variable {X : Cx} {op : Op} {a b o e f : Expr} {pos apos cpos : Pos} {ta tb tc : TE} {dx1 tx1 dx2 tx2 dx3 tx3 : List Nat} {q1 q2 q3 : Bool} {ta' tb' tc' : DTE}
theorem in_cases {x y : D} {Q : Bool → Prop} (w : dInK x y Q) : ∃ ds z, y = .dict ds ∧ kOf x = some z ∧ Q (hasK ds z) := by
  cases y <;> first | exact w.elim | skip
  rename_i ds
  obtain ⟨z, e, w⟩ := w.ex
  exact ⟨ds, z, rfl, e, w⟩
theorem sd_din {K : PySem.W.Frag} (ha : Sd K op ta dx1 tx1 q1 ta') (hb : Sd K op tb dx2 tx2 q2 tb') (ok : okq dx1 tx1 q2 = true) : Sd K op (tDIn ta tb) [] [] (q1 && q2) (dDin ta' tb') := fun c F σ H ρ Q S w R hR => by
  refine ha c F σ H ρ _ S w _ fun x H1 ⟨d, ρ1, F1, st1, hx, w1⟩ => ?_
  refine hb c F1 σ H1 ρ1 _ st1.sim w1 _ fun y H2 ⟨e, ρ2, F2, st2, hy, w2⟩ => ?_
  have hx2 := dzT_move st1.sim st2 ok hx
  obtain ⟨ds, z, rfl, hz, w3⟩ := in_cases w2
  obtain ⟨p, kvs, rfl, hp, hd⟩ := hy.dict
  refine ⟨p, valV kvs z, rfl, .inl ⟨kvs, z, .inl hp, kOf_v hx2 hz, rfl⟩, hR _ _ ⟨_, ρ2, F2, st1.trans st2, .inl (.bl _), ?_⟩⟩
  rw [hd.has]
  exact w3
theorem sd_dnotin {K : PySem.W.Frag} (ha : Sd K op ta dx1 tx1 q1 ta') (hb : Sd K op tb dx2 tx2 q2 tb') (ok : okq dx1 tx1 q2 = true) : Sd K op (tDNotIn ta tb) [] [] (q1 && q2) (dDnotin ta' tb') := fun c F σ H ρ Q S w R hR => by
  refine ha c F σ H ρ _ S w _ fun x H1 ⟨d, ρ1, F1, st1, hx, w1⟩ => ?_
  refine hb c F1 σ H1 ρ1 _ st1.sim w1 _ fun y H2 ⟨e, ρ2, F2, st2, hy, w2⟩ => ?_
  have hx2 := dzT_move st1.sim st2 ok hx
  obtain ⟨ds, z, rfl, hz, w3⟩ := in_cases w2
  obtain ⟨p, kvs, rfl, hp, hd⟩ := hy.dict
  refine ⟨p, valV kvs z, rfl, .inl ⟨kvs, z, .inl hp, kOf_v hx2 hz, rfl⟩, hR _ _ ⟨_, ρ2, F2, st1.trans st2, .inl (.bl _), ?_⟩⟩
  rw [hd.has]
  exact w3
theorem de_din (hu : X.A.units + 1 < cLine) (ha : DE X op a ta dx1 tx1 q1 ta') (hb : DE X op b tb dx2 tx2 q2 tb') (hm : behindInMarks .In b = false := by rfl) (ok : okq dx1 tx1 q2 = true := by rfl) : DE X op (.Compare a [.In] [b] pos) (tDIn ta tb) [] [] (q1 && q2) (dDin ta' tb') :=
  ⟨pe_cmp (pc_din hu ha.pe hb.pe) hm, sd_din ha.sd hb.sd ok⟩
theorem de_dnotin (hu : X.A.units + 1 < cLine) (ha : DE X op a ta dx1 tx1 q1 ta') (hb : DE X op b tb dx2 tx2 q2 tb') (hm : behindInMarks .NotIn b = false := by rfl) (ok : okq dx1 tx1 q2 = true := by rfl) : DE X op (.Compare a [.NotIn] [b] pos) (tDNotIn ta tb) [] [] (q1 && q2) (dDnotin ta' tb') :=
  ⟨pe_cmp (pc_dnotin hu ha.pe hb.pe) hm, sd_dnotin ha.sd hb.sd ok⟩
theorem dt_of (h : DE X op e ta dx1 tx1 q1 ta') (he : ∀ whole, PySem.isTrue e X.env whole = (do let v ← whole; standAt e.pos; holding [v] (truthy v)) := by intro _; rfl) : DT X op e (tB ta) q1 (dTest ta') := dt_val h he
theorem getD_dz {K : PySem.W.Frag} {M : AS} {H : Hp} {kvs : List (Key × V)} {ds : List (D × D)} {z : Key} {w : V} {dw : D} (h : DzK K M H kvs ds) (hw : Dz K M H w dw) : Dz K M H ((valV kvs z).getD w) ((getK ds z).getD dw) := by
  cases e : getK ds z with
  | none => rw [h.get.2 e]; exact hw
  | some d =>
    obtain ⟨v, e1, h2⟩ := h.get.1 d e
    rw [e1]
    exact h2
theorem de_dget1 (hu : X.A.units + 1 < cLine) (ha : DE X op o ta dx1 tx1 q1 ta') (hb : DE X op e tb dx2 tx2 true tb') (hbs : attributeBase o "get" X.env (eval o X.env) = eval o X.env := by rfl) (hs : backTo cpos (starEach [e] X.env) = [(false, eval e X.env)] := by rfl)
    (hf : ((backTo cpos (starEach [e] X.env)).all (fun x => !x.1) && (backToKw cpos (keywordEach [] X.env)).all (fun x => x.1.isSome) && decide (([e] : List Expr).length + ([] : List Keyword).length + (if ([] : List Keyword).isEmpty then 0 else 1) < 30)) = true := by rfl) (hl : (apos.endLine == cpos.line) = true := by rfl) :
    DE X op (.Call (.Attribute o "get" apos) [e] [] cpos) (tDGet1 ta tb) dx1 [] (q1 && true) (dGet1 ta' tb') := ⟨pe_dget1 hu ha.pe hb.pe ⟨hbs, hf, hl, hs⟩, fun c F σ H ρ Q S w R hR => by
  refine ha.sd c F σ H ρ _ S w _ fun x H1 ⟨d, ρ1, F1, st1, hx, w1⟩ => ?_
  cases d <;> first | exact w1.elim | skip
  rename_i ds
  obtain ⟨p, kvs, rfl, hp, hd⟩ := hx.dict
  refine ⟨p, rfl, .inl ⟨kvs, .inl hp⟩, ?_⟩
  refine hb.sd c F1 σ H1 ρ1 _ st1.sim w1 _ fun y H2 ⟨e, ρ2, F2, st2, hy, w2⟩ => ?_
  obtain ⟨sm, er, ef⟩ := st2.qt rfl
  subst er ef
  obtain ⟨z, hz, w3⟩ := w2.ex
  have hd2 : DzK X.K (Mx c op F2 dx1) H2 kvs ds := hd.frame st1.sim.liveX (fun b o e _ => sm b o e) fun _ _ _ m => m
  exact ⟨valV kvs z, .inl ⟨kvs, z, .inl (sm _ _ hp), kOf_v hy hz, rfl⟩, hR _ _ ⟨_, ρ2, F2, st1.trans st2, .inl (getD_dz hd2 .non), w3⟩⟩⟩
theorem de_dget2 (hu : X.A.units + 1 < cLine) (ha : DE X op o ta dx1 tx1 q1 ta') (hb : DE X op e tb dx2 tx2 true tb') (hc : DE X op f tc dx3 tx3 true tc') (hbs : attributeBase o "get" X.env (eval o X.env) = eval o X.env := by rfl) (hs : backTo cpos (starEach [e, f] X.env) = [(false, eval e X.env), (false, eval f X.env)] := by rfl)
    (hf : ((backTo cpos (starEach [e, f] X.env)).all (fun x => !x.1) && (backToKw cpos (keywordEach [] X.env)).all (fun x => x.1.isSome) && decide (([e, f] : List Expr).length + ([] : List Keyword).length + (if ([] : List Keyword).isEmpty then 0 else 1) < 30)) = true := by rfl) (hl : (apos.endLine == cpos.line) = true := by rfl) :
    DE X op (.Call (.Attribute o "get" apos) [e, f] [] cpos) (tDGet2 ta tb tc) (dx1 ++ (dx3 ++ tx3)) [] (q1 && true) (dGet2 ta' tb' tc') := ⟨pe_dget2 hu ha.pe hb.pe hc.pe ⟨hbs, hf, hl, hs⟩, fun c F σ H ρ Q S w R hR => by
  refine ha.sd c F σ H ρ _ S w _ fun x H1 ⟨d, ρ1, F1, st1, hx, w1⟩ => ?_
  cases d <;> first | exact w1.elim | skip
  rename_i ds
  obtain ⟨p, kvs, rfl, hp, hd⟩ := hx.dict
  refine ⟨p, rfl, .inl ⟨kvs, .inl hp⟩, ?_⟩
  refine hb.sd c F1 σ H1 ρ1 _ st1.sim w1 _ fun y H2 ⟨e, ρ2, F2, st2, hy, w2⟩ => ?_
  obtain ⟨sm, er, ef⟩ := st2.qt rfl
  subst er ef
  refine hc.sd c F2 σ H2 ρ2 _ st2.sim w2 _ fun u H3 ⟨g, ρ3, F3, st3, hu3, w3⟩ => ?_
  obtain ⟨sm3, er, ef⟩ := st3.qt rfl
  subst er ef
  obtain ⟨z, hz, w4⟩ := w3.ex
  have hd3 : DzK X.K (Mx c op F3 dx1) H3 kvs ds := hd.frame st1.sim.liveX (fun b o e _ => sm3 b o (sm b o e)) fun _ _ _ m => m
  have hz2 := kOf_v (hy.same sm3 st2.sim.liveX) hz
  refine ⟨valV kvs z, .inl ⟨kvs, z, .inl (sm3 _ _ (sm _ _ hp)), hz2, rfl⟩, hR _ _ ⟨_, ρ3, F3, st1.trans (st2.trans st3), .inl (getD_dz (hd3.mono fun a m => mxl m) ?_), w4⟩⟩
  exact (hu3.dz fun a m => mxl m).mono fun a m => mxr m⟩
end
/-! ### dicts at a place: d[k] = e, d.pop(k) -/
def dPdput (i : Nat) (te : DTE) (tp : DTP) (tb : DTE) : DTS := fun E ρ => te ρ fun d ρ1 => tp ρ1 fun p ρ2 => tb ρ2 fun b ρ3 => At ρ3 i fun r => Opt (atD r p) fun x => match x with
  | .dict ds => Opt (kOf b) fun z => ds.length < sizeLine ∧ E.nx (ρ3.set i (some (putD r p (.dict (putKD ds z d)))))
  | _ => False
/-- d.pop(k): what stood there -/
def dPdpop (i : Nat) (tp : DTP) (tb : DTE) : DTE := fun ρ Q => tp ρ fun p ρ1 => tb ρ1 fun b ρ2 => At ρ2 i fun r => Opt (atD r p) fun x => match x with
  | .dict ds => Opt (kOf b) fun z => Opt (getK ds z) fun v => Q v (ρ2.set i (some (putD r p (.dict (dropKD ds z)))))
  | _ => False
section
variable {X : Cx} {J : Jc} {po op om on : Op} {e o ix : Expr} {pos pos' apos cpos : Pos} {te tp tb : TE} {q q2 : Bool} {te' tb' : DTE} {tp' : DTP} {i k : Nat} {s : Sh} {fs : List (Str × Sh)} {dx2 tx2 : List Nat}
theorem ds_pdput (hu : X.A.units + 1 < cLine) (he : DE X op e te [] [] q te') (hp : DPl X op o i s (.dic .leaf) tp q2 tp') (hb : DE X op ix tb dx2 tx2 true tb') (hs : swapsWith e (some (.Subscript o ix pos')) pos.line X.env = pure false := by rfl) :
    DS X J po op op (.Assign [.Subscript o ix pos'] e pos) (sDPut tp tb te) (dPdput i te' tp' tb') := ⟨ps_dput hu hp.pe hb.pe he.pe hs, fun c F σ H ρ E R pv S w jj => by
  refine he.sd c F σ H ρ _ S w _ fun y H1 ⟨d, ρ1, F1, st1, hy, w1⟩ => ?_
  refine hp.sd c F1 σ H1 ρ1 _ st1.sim w1 _ fun v' H2 ⟨p, v0, ρ2, F2, st2, hv, na, sa, w2⟩ => ?_
  have hy2 := dzT_move st1.sim st2 rfl hy
  refine hb.sd c F2 σ H2 ρ2 _ st2.sim w2 _ fun u H3 ⟨b, ρ3, F3, st3, hub, w3⟩ => ?_
  have hy3 : Dz X.K (Mt c op F3) H3 y d := (dzT_move st2.sim st3 rfl hy2).dz fun a m => m
  obtain ⟨sm, er, ef⟩ := st3.qt rfl
  subst er ef
  obtain ⟨r, er, w3⟩ := w3.ex
  obtain ⟨x, ex, w3⟩ := w3.ex
  have na3 := na.keep sm
  obtain ⟨r0, d', L', e1, e2, tz', hf⟩ := st3.sim.node hp.me hv na3 sa
  rw [er] at e1
  cases e1
  rw [ex] at e2
  cases e2
  cases tz' with
  | @dic _ a kvs ds L0 e0 h1 _ hc =>
    obtain ⟨z, hz, hlen, w4⟩ := w3.ex
    obtain ⟨_, hc⟩ := hc.leaf
    have hk := zipKD h1 hc
    obtain ⟨r1, f1, F4, S4, t4⟩ := st3.sim.setK hp.me hv na3 sa (hk.putK (z := z) hy3)
    rw [er] at f1
    cases f1
    exact ⟨a, _, rfl, .inl ⟨kvs, z, e0, kOf_v hub hz, by rw [hk.len]; exact hlen, rfl⟩, jj.nx _ _ ⟨_, F4, S4, ((st1.trn.trans st2.trn).trans st3.trn).trans t4, w4⟩⟩⟩
theorem de_pdpop (hp : DPl X op o i s (.dic .leaf) tp q tp') (hb : DE X op ix tb dx2 tx2 true tb') (hbs : attributeBase o "pop" X.env (eval o X.env) = eval o X.env := by rfl) (hs : backTo cpos (starEach [ix] X.env) = [(false, eval ix X.env)] := by rfl)
    (hf : ((backTo cpos (starEach [ix] X.env)).all (fun x => !x.1) && (backToKw cpos (keywordEach [] X.env)).all (fun x => x.1.isSome) && decide (([ix] : List Expr).length + ([] : List Keyword).length + (if ([] : List Keyword).isEmpty then 0 else 1) < 30)) = true := by rfl) (hl : (apos.endLine == cpos.line) = true := by rfl) :
    DE X op (.Call (.Attribute o "pop" apos) [ix] [] cpos) (tDPop1 tp tb) [] [] false (dPdpop i tp' tb') := ⟨pe_dpop1 hp.pe hb.pe ⟨hbs, hf, hl, hs⟩, fun c F σ H ρ Q S w R hR => by
  refine hp.sd c F σ H ρ _ S w _ fun v' H2 ⟨p, v0, ρ2, F2, st2, hv, na, sa, w2⟩ => ?_
  obtain ⟨r9, d9, L9, _, _, tz9, _⟩ := st2.sim.node hp.me hv na sa
  cases tz9 with
  | @dic _ a kvs ds9 L0 e0 h1 _ hc =>
    refine ⟨a, rfl, .inl ⟨kvs, .inl e0⟩, ?_⟩
    refine hb.sd c F2 σ H2 ρ2 _ st2.sim w2 _ fun u H3 ⟨b, ρ3, F3, st3, hub, w3⟩ => ?_
    obtain ⟨sm, er, ef⟩ := st3.qt rfl
    subst er ef
    obtain ⟨r, er, w3⟩ := w3.ex
    obtain ⟨x, ex, w3⟩ := w3.ex
    have na3 := na.keep sm
    obtain ⟨r0, d', L', e1, e2, tz', hf⟩ := st3.sim.node hp.me hv na3 sa
    rw [er] at e1
    cases e1
    rw [ex] at e2
    cases e2
    cases tz' with
    | @dic _ _ kvs' ds L0 e0' h1 _ hc =>
      obtain ⟨z, hz, w4⟩ := w3.ex
      obtain ⟨dv, hv1, w5⟩ := w4.ex
      obtain ⟨_, hc⟩ := hc.leaf
      have hk := zipKD h1 hc
      obtain ⟨vv, hvv, hdv⟩ := hk.get.1 dv hv1
      have inM : Mt c op F3 a := .inr ⟨_, hp.me, by simp, hf a (by simp)⟩
      obtain ⟨r1, f1, F4, S4, t4⟩ := st3.sim.setK hp.me hv na3 sa (hk.dropK (z := z))
      rw [er] at f1
      cases f1
      have tM := mx_trn st3.sim.n0 t4
      exact ⟨kvs', z, vv, e0', kOf_v hub hz, hvv, hR _ _ ⟨dv, _, F4, ⟨S4, (st2.trn.trans st3.trn).trans t4, fun h => by cases h⟩, .inl (hdv.trn st3.sim.live tM), w5⟩⟩⟩
end
end Vt
namespace Vt
open PySem PySem.Spec L2
variable [WorldC]
/-! ### a call that is handed what lies at a place -/
/-- fewer are owned -/
inductive FA : Op → Op → Prop
  | refl {op : Op} : FA op op
  | drop {i : Nat} {k : Kind} {op xp : Op} : Frees k → FA op xp → FA ((i, k) :: op) xp
theorem FA.sim {K : PySem.W.Frag} {c : Fx} {F : Nat → AS} {σ : St} {H : Hp} {ρ : DEnv} : ∀ {op xp : Op}, FA op xp → Sim K c op F σ H ρ → Sim K c xp F σ H ρ ∧ (∀ a, Mt c xp F a → Mt c op F a) ∧ ∀ a, Own xp F a → Own op F a
  | _, _, .refl, S => ⟨S, fun _ h => h, fun _ h => h⟩
  | _, _, @FA.drop _ i k op xp hk h, S => by
    obtain ⟨S2, f, g⟩ := h.sim (S.free hk)
    refine ⟨S2, fun a m => ?_, fun a m => ?_⟩
    · rcases f a m with z | ⟨q, hq, n, z⟩
      · exact .inl z
      · exact .inr ⟨q, List.mem_cons_of_mem _ hq, n, z⟩
    · obtain ⟨q, hq, z⟩ := g a m
      exact ⟨q, List.mem_cons_of_mem _ hq, z⟩
theorem xq_of {K : PySem.W.Frag} {c : Fx} {op xp : Op} {F : Nat → AS} {M : AS} {σ : St} {H H' : Hp} {ρ : DEnv} {cls : Value} {d : Option Addr} {n : Str} {fs : Fds} {P : Str → Fds → DEnv → Prop} (fa : FA op xp) (S : Sim K c op F σ H' ρ) (t : Trn M (Own op F) H H') (x : XD K (Mt c op F) H' cls d n fs) (p : P n fs ρ) :
    XQ K c xp M H P cls d σ H' := by
  obtain ⟨S2, f, g⟩ := fa.sim S
  obtain ⟨e, dx, vs, h1, h2, h3, h4⟩ := x
  exact ⟨n, fs, ρ, F, S2, t.trans (Trn.less g), ⟨e, dx, vs, h1, fun m => h2 (f _ m), h3, h4.mono f⟩, p⟩
abbrev DTGP := DEnv → (List Nat → List D → DEnv → Prop) → Prop
def GQ (K : PySem.W.Frag) (c : Fx) (op : Op) (j i : Nat) (s s' : Sh) (q : Bool) (F : Nat → AS) (σ : St) (H : Hp) (ρ : DEnv) (Q : List Nat → List D → DEnv → Prop) : List V → Hp → Prop := fun vs H' =>
  ∃ p v0 v' vs1 vs2 ds1 ds2 ρ' F', Stp K c op q F σ H ρ F' H' ρ' ∧ vs = vs1 ++ v' :: vs2 ∧ vs1.length = j ∧ σ[i]? = some (some v0) ∧ NodeAt H' v0 p v' ∧ ShAt s p s' ∧ DzA K (Mt c op F') H' vs1 ds1 ∧ DzA K (Mt c op F') H' vs2 ds2 ∧ Q p (ds1 ++ .none :: ds2) ρ'
/-- arguments, of which the j-th is a place of the slot i -/
structure DGP (X : Cx) (op : Op) (es : List Expr) (j i : Nat) (s s' : Sh) (t : TA) (q : Bool) (t' : DTGP) : Prop where
  pa : PA X es t
  me : (i, kT s) ∈ op
  sd : ∀ (c : Fx) (F : Nat → AS) (σ : St) (H : Hp) (ρ : DEnv) (Q : List Nat → List D → DEnv → Prop), Sim X.K c op F σ H ρ → t' ρ Q → ∀ R : List V → Hp → Prop, (∀ vs H', GQ X.K c op j i s s' q F σ H ρ Q vs H' → R vs H') → t σ H R
section
variable {X : Cx} {op : Op} {e : Expr} {es : List Expr} {t : TA} {te tp : TE} {j i n : Nat} {s s' : Sh} {q q1 : Bool} {t' : DTA} {g' : DTGP} {te' : DTE} {tp' : DTP}
/-- a place, then what is only read -/
theorem dgp_here (hp : DPl X op e i s s' tp q tp') (hr : DA X op es t [] true t') (hs : starEach (e :: es) X.env = (false, eval e X.env) :: starEach es X.env := by rfl) : DGP X op (e :: es) 0 i s s' (tCons tp t) (q && true) (fun ρ Q => tp' ρ fun p ρ1 => t' ρ1 fun ds ρ2 => Q p (.none :: ds) ρ2) :=
  ⟨pa_cons hp.pe hr.pa hs, hp.me, fun c F σ H ρ Q S w R hR => by
    refine hp.sd c F σ H ρ _ S w _ fun v' H1 ⟨p, v0, ρ1, F1, st, hv, na, sa, w1⟩ => ?_
    refine hr.sd c F1 σ H1 ρ1 _ st.sim w1 _ fun vs H2 ⟨ds, ρ2, F2, st2, hvs, w2⟩ => ?_
    obtain ⟨sm, er, ef⟩ := st2.qt rfl
    exact hR _ _ ⟨p, v0, v', [], vs, [], ds, ρ2, F2, st.trans st2, rfl, rfl, hv, na.keep sm, sa, .nil, hvs, w2⟩⟩
/-- a whole slot, then whatever -/
theorem dgp_var (h : PE X e (tVar i)) (hr : DA X op es t [] q t') (n : op[n]? = some (i, kT s) := by rfl) (hs : starEach (e :: es) X.env = (false, eval e X.env) :: starEach es X.env := by rfl) : DGP X op (e :: es) 0 i s s (tCons (tVar i) t) q (fun ρ Q => t' ρ fun ds ρ2 => Q [] (.none :: ds) ρ2) :=
  ⟨pa_cons h hr.pa hs, List.mem_of_getElem? n, fun c F σ H ρ Q S w R hR => by
    obtain ⟨v, d', e1, e2, _⟩ := S.ops _ (List.mem_of_getElem? n)
    refine ⟨v, e1, ?_⟩
    refine hr.sd c F σ H ρ _ S w _ fun vs H2 ⟨ds, ρ2, F2, st2, hvs, w2⟩ => ?_
    exact hR _ _ ⟨[], v, v, [], vs, [], ds, ρ2, F2, st2, rfl, rfl, e1, .nil, .nil, .nil, hvs, w2⟩⟩
theorem dgp_later (ha : DE X op e te [] [] q1 te') (hr : DGP X op es j i s s' t q g') (hs : starEach (e :: es) X.env = (false, eval e X.env) :: starEach es X.env := by rfl) : DGP X op (e :: es) (j + 1) i s s' (tCons te t) (q1 && q) (fun ρ Q => te' ρ fun d ρ1 => g' ρ1 fun p ds ρ2 => Q p (d :: ds) ρ2) :=
  ⟨pa_cons ha.pe hr.pa hs, hr.me, fun c F σ H ρ Q S w R hR => by
    refine ha.sd c F σ H ρ _ S w _ fun x H1 ⟨d, ρ1, F1, st, hx, w1⟩ => ?_
    refine hr.sd c F1 σ H1 ρ1 _ st.sim w1 _ fun vs H2 ⟨p, v0, v', vs1, vs2, ds1, ds2, ρ2, F2, st2, ev, hl, hv, na, sa, h1, h2, w2⟩ => ?_
    have hx2 := (dzT_move st.sim st2 rfl hx).dz fun a m => m
    exact hR _ _ ⟨p, v0, v', x :: vs1, vs2, d :: ds1, ds2, ρ2, F2, st.trans st2, by rw [ev]; rfl, by simp [hl], hv, na, sa, .cons hx2 h1, h2, w2⟩⟩
end
section
variable {K : PySem.W.Frag} {c : Fx} {op : Op} {F1 : Nat → AS} {σ : St} {H1 : Hp} {ρ1 : DEnv} {i j np : Nat} {s s' rs : Sh} {spd : DSp} {vs vs1 vs2 : List V} {ds1 ds2 : List D} {p : List Nat} {v0 v' : V}
theorem callP_go (m : Mono spd) (S1 : Sim K c op F1 σ H1 ρ1) (hm : (i, kT s) ∈ op) (hv : σ[i]? = some (some v0)) (na : NodeAt H1 v0 p v') (sa : ShAt s p s') (ev : vs = vs1 ++ v' :: vs2) (hj : vs1.length = j) (h1 : DzA K (Mt c op F1) H1 vs1 ds1) (h2 : DzA K (Mt c op F1) H1 vs2 ds2)
    (hl : (ds1 ++ D.none :: ds2).length = np) {r c0 : D} (er : ρ1[i]? = some (some r)) (ec : atD r p = some c0) {R : VK} {E : XK} {Qd : D → List D → Prop} {Ex : Str → Fds → List D → Prop} (w : spd ((ds1 ++ D.none :: ds2).set j c0) Qd Ex)
    (hR : ∀ v H' d L c' F'', Sim K (c.addS L) op F'' σ H' (ρ1.set i (some (putD r p c'))) → Trn (Own op F1) (fun a => Own op F'' a ∨ a ∈ L) H1 H' → (∀ a ∈ L, ¬ c.N0 a) → L.Nodup → Tz K (Mt (c.addS L) op F'') H' rs v d L → (∀ l, l ≠ i → F'' l = F1 l) → (∀ a o, H1 a = some o → ¬ F1 i a → H' a = some o) → Qd d [c'] → R v H')
    (hE : ∀ cls d n fs H' c' F'', Sim K c op F'' σ H' (ρ1.set i (some (putD r p c'))) → Trn (Own op F1) (Own op F'') H1 H' → XD K (Mt c op F'') H' cls d n fs → Ex n fs [c'] → E cls d H') :
    spOf K [(j, kT s')] [(j, kT s')] [(j, kT s')] np rs spd vs H1 R E := by
  obtain ⟨r0, d', L', e1, e2, tz, ndL, inL, put⟩ := S1.addS0.putAtY (fun a m => absurd m List.not_mem_nil) hm hv na sa
  rw [er] at e1
  cases e1
  rw [ec] at e2
  cases e2
  rw [mt_addS1] at tz
  have l1 := h1.len
  have l2 := h2.len
  have hlen : vs.length = np := by rw [ev, ← hl]; simp; omega
  have hvj : vs[j]? = some v' := by rw [ev, List.getElem?_append_right (by omega), hj]; simp
  have hdj : j < (ds1 ++ D.none :: ds2).length := by simp; omega
  have hpv' : pvOf [(j, kT s')] vs = [(j, v')] := by
    show [(j, vs.getD j .non)] = _
    rw [List.getD_eq_getElem?_getD, hvj]
    rfl
  have memM : ∀ a ∈ L', Mt c op F1 a := fun a z => .inr ⟨_, hm, by simp, inL a z⟩
  have sub : ∀ {N : AS} {pv : List (Nat × V)} {G : Nat → AS}, (∀ a, N a → Mt c op F1 a) → (∀ a, G j a → a ∈ L') → ∀ a, Mt ⟨N, pv⟩ [(j, kT s')] G a → Mt c op F1 a := fun {N pv G} hN hG a z => by
    rcases z with z | ⟨q, hq, _, z⟩
    · exact hN a z
    · rcases List.mem_singleton.mp hq with rfl
      exact memM a (hG a z)
  have Sc : Sim K ⟨fun a => Mt c op F1 a ∧ a ∉ L', pvOf [(j, kT s')] vs⟩ [(j, kT s')] (fun _ a => a ∈ L') (vs.map some) H1 (((ds1 ++ D.none :: ds2).set j c0).map some) := by
    have sb := sub (N := fun a => Mt c op F1 a ∧ a ∉ L') (pv := pvOf [(j, kT s')] vs) (G := fun _ a => a ∈ L') (fun a z => z.1) fun a z => z
    refine ⟨by rw [List.length_map, List.length_map, List.length_set, hlen, hl], fun l d e n => ?_, fun q hq => ?_, fun q hq q' hq' a _ _ => ?_, by simp, fun a z => S1.live a z.1, fun q hq a f z => z.2 f, fun q hq => ?_⟩
    · have hlj : j ≠ l := n (j, kT s') (by simp)
      rw [List.getElem?_map, List.getElem?_set_ne hlj] at e
      rw [List.getElem?_map, ev]
      by_cases hlt : l < ds1.length
      · rw [List.getElem?_append_left hlt] at e
        rw [List.getElem?_append_left (by omega)]
        cases q : ds1[l]? with
        | none => rw [q] at e; cases e
        | some d1 =>
          rw [q] at e
          cases e
          obtain ⟨v, a1, a2⟩ := h1.get q
          exact ⟨v, by rw [a1]; rfl, a2.mono sb⟩
      · rw [List.getElem?_append_right (by omega)] at e
        rw [List.getElem?_append_right (by omega)]
        have hk : l - ds1.length = (l - ds1.length - 1) + 1 := by omega
        have hk2 : l - vs1.length = (l - ds1.length - 1) + 1 := by omega
        rw [hk, List.getElem?_cons_succ] at e
        rw [hk2, List.getElem?_cons_succ]
        cases q : ds2[l - ds1.length - 1]? with
        | none => rw [q] at e; cases e
        | some d1 =>
          rw [q] at e
          cases e
          obtain ⟨v, a1, a2⟩ := h2.get q
          exact ⟨v, by rw [a1]; rfl, a2.mono sb⟩
    · rcases List.mem_singleton.mp hq with rfl
      refine ⟨v', c0, by rw [List.getElem?_map, hvj]; rfl, by rw [List.getElem?_map, List.getElem?_set_self hdj]; rfl, L', ?_, ndL, fun b => Iff.rfl⟩
      exact tz.frame S1.live (fun a o e z => sb a z) fun a o e _ => e
    · rcases List.mem_singleton.mp hq with rfl
      rcases List.mem_singleton.mp hq' with rfl
      rfl
    · rw [hpv'] at hq
      rcases List.mem_singleton.mp hq with rfl
      show (vs.map some)[j]? = some (some v')
      rw [List.getElem?_map, hvj]; rfl
  refine ⟨fun a => Mt c op F1 a ∧ a ∉ L', fun _ a => a ∈ L', _, hlen, Sc, m _ _ _ _ _ (fun d cs q0 v H' F' L rt tr hn nd hd => ?_) (fun n fs cs q0 cls dd H' F' rt tr xd => ?_) w⟩
  · have sh : ∃ c', cs = [c'] := by
      have := rt.len
      match cs, this with
      | [c'], _ => exact ⟨c', rfl⟩
    obtain ⟨c', rfl⟩ := sh
    rw [hpv'] at rt hd
    obtain ⟨Ln, tzn, ndn, hfn⟩ := rt.ok 0 (j, kT s') (j, v') c' rfl rfl rfl
    have own : ∀ a, Own [(j, kT s')] (fun _ a => a ∈ L') a ↔ a ∈ L' := fun a => ⟨fun ⟨q, hq, f⟩ => f, fun f => ⟨(j, kT s'), List.mem_cons_self, f⟩⟩
    have k1 : ∀ a o, H1 a = some o → a ∉ L' → H' a = some o := fun a o e n => tr.1 a o e fun z => n ((own a).mp z)
    have dis : ∀ a ∈ L, a ∉ Ln := fun a z1 z2 => rt.n0d (j, kT s') (by simp) a ((hfn a).mpr z2) (.inr z1)
    have lv : Live (Mt (Fx.addS ⟨fun a => Mt c op F1 a ∧ a ∉ L', [(j, v')]⟩ L) [(j, kT s')] F') H' := fun a z => by
      rcases z with z | ⟨q, hq, _, z⟩
      · exact rt.n0 a z
      · rcases List.mem_singleton.mp hq with rfl
        exact tzn.live a ((hfn a).mp z)
    have old : ∀ a o, H1 a = some o → a ∈ Ln ∨ a ∈ L → a ∈ L' ∨ a ∈ ([] : List Addr) := fun a o e z => by
      rcases z with z | z
      · exact .inl ((own a).mp (tr.2.1 a o e (.inl ⟨(j, kT s'), by simp, (hfn a).mpr z⟩)))
      · exact .inl ((own a).mp (tr.2.1 a o e (.inr z)))
    have tzM : Tz K (fun a => (Mt c op F1 a ∧ a ∉ L') ∨ a ∈ Ln ∨ a ∈ L) H' s' v' c' Ln := by
      refine tzn.frame lv (fun a o e z => ?_) fun a o e _ => e
      rcases z with z | z | z
      · exact .inl (.inl z)
      · exact .inr ⟨_, by simp, by simp, (hfn a).mpr z⟩
      · exact .inl (.inr z)
    obtain ⟨F'', S2, t2, mt, fj, yN⟩ := put H' c' Ln L (fun a o e n1 _ => k1 a o e n1) tr.2.2 old ndn dis (fun a z => rt.n0 a (.inr z)) tzM
    · rw [own_or0] at t2
      refine hR v H' d L c' F'' S2 t2 (fun a z => yN a z) nd ?_ fj (fun a o e n => k1 a o e fun z => n (inL a z)) q0
      refine hd.frame lv (fun a o e z => ?_) fun a o e _ => e
      rcases mt_addS.mp z with z | z
      · rcases (mt a).mp z with z | z
        · exact .inl (.inl z)
        · exact .inr ⟨_, by simp, by simp, (hfn a).mpr z⟩
      · exact .inl (.inr z)
  · have sh : ∃ c', cs = [c'] := by
      have := rt.len
      match cs, this with
      | [c'], _ => exact ⟨c', rfl⟩
    obtain ⟨c', rfl⟩ := sh
    rw [hpv'] at rt xd
    obtain ⟨Ln, tzn, ndn, hfn⟩ := rt.ok 0 (j, kT s') (j, v') c' rfl rfl rfl
    have own : ∀ a, Own [(j, kT s')] (fun _ a => a ∈ L') a ↔ a ∈ L' := fun a => ⟨fun ⟨q, hq, f⟩ => f, fun f => ⟨(j, kT s'), List.mem_cons_self, f⟩⟩
    have k1 : ∀ a o, H1 a = some o → a ∉ L' → H' a = some o := fun a o e n => tr.1 a o e fun z => n ((own a).mp z)
    have lv : Live (Mt ⟨fun a => Mt c op F1 a ∧ a ∉ L', [(j, v')]⟩ [(j, kT s')] F') H' := fun a z => by
      rcases z with z | ⟨q, hq, _, z⟩
      · exact rt.n0 a z
      · rcases List.mem_singleton.mp hq with rfl
        exact tzn.live a ((hfn a).mp z)
    have toM : ∀ a, (Mt c op F1 a ∧ a ∉ L') ∨ a ∈ Ln → Mt ⟨fun a => Mt c op F1 a ∧ a ∉ L', [(j, v')]⟩ [(j, kT s')] F' a := fun a z => by
      rcases z with z | z
      · exact .inl z
      · exact .inr ⟨_, by simp, by simp, (hfn a).mpr z⟩
    have old : ∀ a o, H1 a = some o → a ∈ Ln ∨ a ∈ ([] : List Addr) → a ∈ L' ∨ a ∈ ([] : List Addr) := fun a o e z => by
      rcases z with z | z
      · exact .inl ((own a).mp (tr.2.1 a o e ⟨(j, kT s'), by simp, (hfn a).mpr z⟩))
      · exact absurd z List.not_mem_nil
    have tzM : Tz K (fun a => (Mt c op F1 a ∧ a ∉ L') ∨ a ∈ Ln ∨ a ∈ ([] : List Addr)) H' s' v' c' Ln := by
      refine tzn.frame lv (fun a o e z => toM a ?_) fun a o e _ => e
      rcases z with z | z | z
      · exact .inl z
      · exact .inr z
      · exact absurd z List.not_mem_nil
    obtain ⟨F'', S2, t2, mt, fj, yN⟩ := put H' c' Ln [] (fun a o e n1 _ => k1 a o e n1) tr.2.2 old ndn (fun a z => absurd z List.not_mem_nil) (fun a z => absurd z List.not_mem_nil) tzM
    · rw [own_or0, own_or0] at t2
      obtain ⟨ee, dx, vvs, g1, g2, g3, g4⟩ := xd
      exact hE cls dd n fs H' c' F'' S2.dropS t2 ⟨ee, dx, vvs, g1, fun z => g2 (toM _ ((mt _).mp z)), g3, g4.mono fun a z => toM a ((mt a).mp z)⟩ q0
end
end Vt
namespace Vt
open PySem PySem.Spec L2
variable [WorldC]
/-! ### calls of defs, methods, classes, with what is wished of an error at the caller's slots -/
abbrev PassAll (CX : CXT) (X : Cx) (E : St → XK) : Prop := ∀ σ, PassesAt CX X σ (E σ)
theorem pass_none {X : Cx} : PassAll (L2.CX X.prog X.w) X (fun _ => eF) := fun σ pins H s e s' I c => passF pins σ H s e s' I c
def wE (W : WX) : St → XK := fun σ cls d H => W cls d σ H
theorem pass_take {X : Cx} {W : WX} (tk : Takes X W) : PassAll (L2.CX X.prog X.w) X (wE W) := fun σ => L2.passAt tk σ
section
variable {X : Cx} {CX : CXT} {k : Nat} {f C : Addr} {fd : FuncData} {ps : List Str} {sp : Sp} {dvs : List V} {ds : List Value} {E : St → XK} {x m : Str} {p pos apos : Pos} {e o : Expr} {es : List Expr} {ta : TE} {t : TA}
theorem run_gA {pins : List (Addr × Obj)} {σ : L2.St} {H : Hp} {s : Shared} {Q : VK} {us : List Value} {vs : List V} (F : FnG X.prog X.w X.K X.mg X.base CX k f fd ps sp) (hr : RoomG k X.A) (hb : Binds X.K fd ps ds) (hd : Vals dvs ds) (hx : PassAll CX X E)
    (I : Inv X pins σ H s) (r : Vals vs us) (h : sp (vs ++ dvs) H Q (E σ)) : wpAny (model X.prog X.w) X.A (call (.ref f) us) (EP X pins σ Q) X.xe s := by
  have r2 : Vals (vs ++ dvs) (us ++ ds) := Vals.append r hd
  have hl : (us ++ ds).length = ps.length := by
    rw [← r2.length]
    exact F.len _ _ _ _ h
  refine wpAny_call (codeAny_mono (F.go X.A X.stack s H ⟨us, []⟩ (us ++ ds) (vs ++ dvs) Q (E σ) hr I.env0 (hb s us I.kIn hl) r2 h) fun r s' hq => ?_)
  match r, hq with
  | .error e, hq => exact hx σ pins H s e s' I hq
  | .ok (.ret u), hq => exact I.after hq
  | .ok .next, hq => exact hq.elim
  | .ok .brk, hq => exact hq.elim
  | .ok .cont, hq => exact hq.elim
def tCallA (sp : Sp) (dvs : List V) (E : St → XK) (t : TA) : TE := fun σ H Q => t σ H fun vs H1 => sp (vs ++ dvs) H1 Q (E σ)
theorem pe_ca {j : Nat} (Cg : CalG X.prog X.w X.K X.mg X.base CX k x ps dvs sp) (hr : RoomG j X.A) (hx : PassAll CX X E) (ha : PA X (e :: es) t) (hkj : k ≤ j) (hg : Gl X x) (hdb : (x == ("__debug__" : Str)) = false)
    (he : starEach (e :: es) X.env = (false, eval e X.env) :: starEach es X.env) (hpl : (backTo pos (starEach es X.env)).any (·.1) = false) : PE X (.Call (.Name x p) (e :: es) [] pos) (tCallA sp dvs E t) := by
  obtain ⟨f, fd, ds, h1, h2, h3, h4, h5⟩ := Cg
  refine ⟨fun pins s σ H Q I h => wpAny_Call_Name_kw (ld_glob I hg h2 ?_ hdb)⟩
  exact PySem.W.callWith_K (h₀ := X.base) I.ok.mod.kin h3 (thn (ha.run pos pins s σ H _ I h) fun us s1 ⟨vs, H1, I1, r, q⟩ => ⟨I1.kIn, run_gA h1 (hr.less hkj) h4 h5 hx I1 r q⟩) he hpl
theorem pe_ca0 {j : Nat} (Cg : CalG X.prog X.w X.K X.mg X.base CX k x ps dvs sp) (hr : RoomG j X.A) (hx : PassAll CX X E) (hkj : k ≤ j) (hg : Gl X x) (hdb : (x == ("__debug__" : Str)) = false) : PE X (.Call (.Name x p) [] [] pos) (tCallA sp dvs E tNil) := by
  obtain ⟨f, fd, ds, h1, h2, h3, h4, h5⟩ := Cg
  refine ⟨fun pins s σ H Q I h => wpAny_Call_Name_kw (ld_glob I hg h2 ?_ hdb)⟩
  exact PySem.W.callWith_K0 I.kIn h3 (run_gA (us := []) h1 (hr.less hkj) h4 h5 hx I .nil h)
/-- a method of a class of the text -/
structure MetG (P : Program) (w : World) (K : PySem.W.Frag) (mg : Str → Option Value) (base : Heap) (CX : CXT) (k : Nat) (n m : Str) (ps : List Str) (dvs : List V) (sp : Sp) : Prop where
  cls : Cls K (He.ga K n)
  ex : ∃ (f : Addr) (fd : FuncData) (ds : List Value), FnG P w K mg base CX k f fd ps sp ∧ Meth K (He.ga K n) m f ∧ Binds K fd ps ds ∧ Vals dvs ds
/-- the receiver is asked for the method first -/
def tMethB (K : PySem.W.Frag) (n m : Str) (sp : Sp) (dvs : List V) (E : St → XK) (ta : TE) (t : TA) : TE := fun σ H Q => ta σ H fun x H1 => ∃ a dx fs, x = .ref a ∧ H1 a = some (.ins (He.ga K n) dx fs) ∧ fs.lookup m = none ∧ t σ H1 fun vs H2 => sp (x :: (vs ++ dvs)) H2 Q (E σ)
variable {n : Str}
theorem pe_mb {j : Nat} {pl : Sem Bool} (he : PE X o ta) (M : MetG X.prog X.w X.K X.mg X.base CX k n m ps dvs sp) (hr : RoomG j X.A) (hx : PassAll CX X E) (ha : PA X (e :: es) t) (hkj : k ≤ j)
    (hst : starEach (e :: es) X.env = (false, eval e X.env) :: starEach es X.env) (hpl : (backTo pos (starEach es X.env)).any (·.1) = false)
    (ht : eval (.Call (.Attribute o m apos) (e :: es) [] pos) X.env = (do
      let rv ← eval o X.env
      standAt apos.atName
      let (g, fst) ← holding [rv] (getMethod rv m pl)
      callWith pos g fst (backTo pos (starEach (e :: es) X.env)) (backToKw pos (keywordEach [] X.env)))) : PE X (.Call (.Attribute o m apos) (e :: es) [] pos) (tMethB X.K n m sp dvs E ta t) := by
  obtain ⟨f, fd, ds, h1, h2, h4, h5⟩ := M.ex
  refine ⟨fun pins s σ H Q I h => PySem.W.methodCall_KW (pl := pl) (thn (he.run pins s σ H _ I h) fun u s1 ⟨x, H1, I1, rx, a, dx, fs, ex, ea, l, q⟩ => ?_) ht⟩
  subst ex
  cases (show u = Value.ref a from rx)
  refine getmeth_ok I1 ea M.cls h2 l (PySem.W.callWith_K (first := [.ref a]) (h₀ := X.base) I.ok.mod.kin h2.kp (thn (ha.run pos pins s1 σ H1 _ I1 q) fun us s2 ⟨vs, H2, I2, r, q2⟩ => ⟨I2.kIn, ?_⟩) hst hpl)
  exact run_gA (us := .ref a :: us) (vs := .ref a :: vs) h1 (hr.less hkj) h4 h5 hx I2 (.cons rfl r) q2
theorem pe_mb0 {j : Nat} {pl : Sem Bool} (he : PE X o ta) (M : MetG X.prog X.w X.K X.mg X.base CX k n m ps dvs sp) (hr : RoomG j X.A) (hx : PassAll CX X E) (hkj : k ≤ j)
    (ht : eval (.Call (.Attribute o m apos) [] [] pos) X.env = (do
      let rv ← eval o X.env
      standAt apos.atName
      let (g, fst) ← holding [rv] (getMethod rv m pl)
      callWith pos g fst (backTo pos (starEach [] X.env)) (backToKw pos (keywordEach [] X.env)))) : PE X (.Call (.Attribute o m apos) [] [] pos) (tMethB X.K n m sp dvs E ta tNil) := by
  obtain ⟨f, fd, ds, h1, h2, h4, h5⟩ := M.ex
  refine ⟨fun pins s σ H Q I h => PySem.W.methodCall_KW (pl := pl) (thn (he.run pins s σ H _ I h) fun u s1 ⟨x, H1, I1, rx, a, dx, fs, ex, ea, l, q⟩ => ?_) ht⟩
  subst ex
  cases (show u = Value.ref a from rx)
  exact getmeth_ok I1 ea M.cls h2 l (PySem.W.callWith_K0 (first := [.ref a]) I1.kIn h2.kp (run_gA (us := [.ref a]) (vs := [.ref a]) h1 (hr.less hkj) h4 h5 hx I1 (.cons rfl .nil) q))
/-- a class of the text that is called -/
structure MakG (P : Program) (w : World) (K : PySem.W.Frag) (mg : Str → Option Value) (base : Heap) (CX : CXT) (k : Nat) (n : Str) (ps : List Str) (dvs : List V) (sp : Sp) : Prop where
  mg_ : mg n = some (.ref (He.ga K n))
  ex : ∃ (f : Addr) (fd : FuncData) (ds : List Value), FnG P w K mg base CX k f fd ps sp ∧ Mk K (He.ga K n) f ∧ Binds K fd ps ds ∧ Vals dvs ds
def tMakA (K : PySem.W.Frag) (n : Str) (sp : Sp) (dvs : List V) (E : St → XK) (t : TA) : TE := fun σ H Q => t σ H fun vs H1 => ∀ y dx, H1 y = none → H1 dx = none → dx ≠ y →
  sp (.ref y :: (vs ++ dvs)) (upd (upd H1 dx (.own y)) y (.ins (He.ga K n) dx [])) (fun v H2 => v = .non ∧ Q (.ref y) H2) (E σ)
theorem make_guards {A : Around} {C : Addr} {us : List Value} {kw : List (Str × Value)} (h : A.guards = some []) : (A.under (.builtin "type.__call__" ⟨.ref C :: us, kw⟩)).guards = some [] := by
  first | exact h | (simp [Around.under, Code.weight, Code.isCreation, Code.isGuard, Code.isCaller, Code.frames, Code.isFrame, guardIds, h]) 
theorem RoomG.make {j : Nat} {A : Around} (r : RoomG (j + 1) A) (C : Addr) (us : List Value) (kw : List (Str × Value)) : RoomG j (A.under (.builtin "type.__call__" ⟨.ref C :: us, kw⟩)) := ⟨r.rm.make C us kw, make_guards r.gd⟩
theorem run_mkA {pins : List (Addr × Obj)} {σ : L2.St} {H : Hp} {s : Shared} {Q : VK} {us : List Value} {vs : List V} {fi : Addr} (M : Mk X.K C fi) (F : FnG X.prog X.w X.K X.mg X.base CX k fi fd ps sp) (hr : RoomG (k + 1) X.A) (hb : Binds X.K fd ps ds) (hd : Vals dvs ds) (hx : PassAll CX X E)
    (I : Inv X pins σ H s) (r : Vals vs us)
    (hh : ∀ y dx, H y = none → H dx = none → dx ≠ y → sp (.ref y :: (vs ++ dvs)) (upd (upd H dx (.own y)) y (.ins C dx [])) (fun v H2 => v = .non ∧ Q (.ref y) H2) (E σ)) :
    wpAny (model X.prog X.w) X.A (call (.ref C) us) (EP X pins σ Q) X.xe s := by
  have z1 : H (s.heap.objs.size + 1) = none := I.hok.fresh (Nat.le_succ _)
  have z2 : H s.heap.objs.size = none := I.hok.fresh (Nat.le_refl _)
  have hq := hh (s.heap.objs.size + 1) s.heap.objs.size z1 z2 (Nat.ne_of_lt (Nat.lt_succ_self _))
  have J := Inv.made (C := C) I
  have rr : Vals (V.ref (s.heap.objs.size + 1) :: (vs ++ dvs)) (Value.ref (s.heap.objs.size + 1) :: (us ++ ds)) := .cons rfl (Vals.append r hd)
  have hl : (Value.ref (s.heap.objs.size + 1) :: us ++ ds).length = ps.length := by
    have len := rr.length
    rw [F.len _ _ _ _ hq] at len
    exact len.symm
  have go := F.go _ X.stack _ _ ⟨Value.ref (s.heap.objs.size + 1) :: us, []⟩ (Value.ref (s.heap.objs.size + 1) :: (us ++ ds)) _ _ (E σ) (hr.make C us []) (J.env0.make C us []) (hb _ (Value.ref (s.heap.objs.size + 1) :: us) J.kIn hl) rr hq
  refine wpAny_call (make_map (f := fi) I.kIn M.makes M.init (beq_iff_eq.mp M.fn) (codeAny_mono go fun r s' hq' => ?_))
  match r, hq' with
  | .error e, hq' => exact hx σ pins _ _ e s' J hq'
  | .ok (.ret u), hq' =>
    obtain ⟨v, H', J2, rv, ev, q3⟩ := J.after hq'
    cases ev
    exact ⟨rv, ⟨V.ref (s.heap.objs.size + 1), H', J2, rfl, q3⟩⟩
  | .ok .next, hq' => exact hq'.elim
  | .ok .brk, hq' => exact hq'.elim
  | .ok .cont, hq' => exact hq'.elim
theorem pe_mka {j : Nat} (M : MakG X.prog X.w X.K X.mg X.base CX k n ps dvs sp) (hr : RoomG j X.A) (hx : PassAll CX X E) (ha : PA X (e :: es) t) (hkj : k + 1 ≤ j) (hg : Gl X n) (hdb : (n == ("__debug__" : Str)) = false)
    (he : starEach (e :: es) X.env = (false, eval e X.env) :: starEach es X.env) (hpl : (backTo pos (starEach es X.env)).any (·.1) = false) : PE X (.Call (.Name n p) (e :: es) [] pos) (tMakA X.K n sp dvs E t) := by
  obtain ⟨fi, fd, ds, h1, h2, h4, h5⟩ := M.ex
  refine ⟨fun pins s σ H Q I h => wpAny_Call_Name_kw (ld_glob I hg M.mg_ ?_ hdb)⟩
  exact PySem.W.callWith_K (h₀ := X.base) I.ok.mod.kin h2.kp (thn (ha.run pos pins s σ H _ I h) fun us s1 ⟨vs, H1, I1, r, q⟩ => ⟨I1.kIn, run_mkA h2 h1 (hr.less hkj) h4 h5 hx I1 r q⟩) he hpl
theorem pe_mka0 {j : Nat} (M : MakG X.prog X.w X.K X.mg X.base CX k n ps dvs sp) (hr : RoomG j X.A) (hx : PassAll CX X E) (hkj : k + 1 ≤ j) (hg : Gl X n) (hdb : (n == ("__debug__" : Str)) = false) : PE X (.Call (.Name n p) [] [] pos) (tMakA X.K n sp dvs E tNil) := by
  obtain ⟨fi, fd, ds, h1, h2, h4, h5⟩ := M.ex
  refine ⟨fun pins s σ H Q I h => wpAny_Call_Name_kw (ld_glob I hg M.mg_ ?_ hdb)⟩
  exact PySem.W.callWith_K0 I.kIn h2.kp (run_mkA (us := []) h2 h1 (hr.less hkj) h4 h5 hx I .nil h)
end
end Vt
namespace Vt
open PySem PySem.Spec L2
variable [WorldC]
/-! ### expressions that may raise -/
def immF (fs : Fds) : Bool := fs.all fun q => imm q.2
theorem DzF.any {K : PySem.W.Frag} {M M' : AS} {H : Hp} : ∀ {vs : List (Str × V)} {fs : Fds}, immF fs = true → DzF K M H vs fs → DzF K M' H vs fs
  | _, _, _, .nil => .nil
  | _, _, h, .cons h1 t => by
    unfold immF at h
    rw [List.all_cons] at h
    obtain ⟨i1, i2⟩ := Bool.and_eq_true_iff.mp h
    exact .cons (h1.any i1) (DzF.any i2 t)
mutual
theorem Tz.noXd {K : PySem.W.Frag} {M : AS} {H : Hp} : ∀ {s : Sh} {v : V} {d : D} {L : List Addr}, Tz K M H s v d L → ∀ a ∈ L, ∀ fs, H a ≠ some (.xd fs)
  | _, _, _, _, .leaf h, a, m, _ => absurd m List.not_mem_nil
  | _, _, _, _, .lst e h, a, m, fs => by
    rcases List.mem_cons.mp m with rfl | m
    · rw [e]; intro z; cases z
    · exact TzC.noXd h a m fs
  | _, _, _, _, .dic e _ _ h, a, m, fs => by
    rcases List.mem_cons.mp m with rfl | m
    · rw [e]; intro z; cases z
    · exact TzC.noXd h a m fs
  | _, _, _, _, .tdc e _ _ h, a, m, fs => by
    rcases List.mem_cons.mp m with rfl | m
    · rw [e]; intro z; cases z
    · exact TzC.noXd h a m fs
  | _, _, _, _, .rcd e _ _ h, a, m, fs => by
    rcases List.mem_cons.mp m with rfl | m
    · rw [e]; intro z; cases z
    · exact TzC.noXd h a m fs
  | _, _, _, _, .obj e _ _ h, a, m, fs => by
    rcases List.mem_cons.mp m with rfl | m
    · rw [e]; intro z; cases z
    · exact TzC.noXd h a m fs
theorem TzC.noXd {K : PySem.W.Frag} {M : AS} {H : Hp} : ∀ {ss : List Sh} {vs : List V} {ds : List D} {L : List Addr}, TzC K M H ss vs ds L → ∀ a ∈ L, ∀ fs, H a ≠ some (.xd fs)
  | _, _, _, _, .nil, a, m, _ => absurd m List.not_mem_nil
  | _, _, _, _, .cons h t, a, m, fs => by
    rcases List.mem_append.mp m with m | m
    · exact Tz.noXd h a m fs
    · exact TzC.noXd t a m fs
end
section
variable {X : Cx} {J : Jc} {op : Op} {e o : Expr} {es : List Expr} {pos p apos : Pos} {te ta tp : TE} {t : TA} {q q1 : Bool} {dx dx1 tx1 : List Nat} {te' ta' : DTE} {t' : DTA} {x' : DTX} {g' : DTGP} {tp' : DTP} {s s' rs : Sh} {np i j k l m' : Nat} {spd : DSp} {x n m : Str} {ps : List Str}
theorem dx_de (h : DE X op e te [] [] q te') : DX X J op e .leaf te (fun _ ρ Q => te' ρ Q) := ⟨h.pe, fun c F σ H ρ E Q S w R hR _ => h.sd c F σ H ρ Q S w R fun v H' ⟨d, ρ', F', st, hd, w2⟩ =>
  hR _ _ ⟨d, ρ', F', [], st.sim.addS0, by rw [own_or0]; exact st.trn, fun a m => absurd m List.not_mem_nil, .nil, .leaf (by rw [mt_addS1]; exact hd.dz fun a m => m), w2⟩⟩
theorem dx_fr (h : DFr X op e s te te') : DX X J op e s te (fun _ ρ Q => te' ρ Q) := ⟨h.pe, fun c F σ H ρ E Q S w R hR _ => h.sd c F σ H ρ Q S w R hR⟩
/-- where nothing is raised -/
def dSure (t : DTX) : DTE := fun ρ Q => t (fun _ _ _ => False) ρ Q
theorem fr_leaf {K : PySem.W.Frag} {c : Fx} {F : Nat → AS} {σ : L2.St} {H : Hp} {Q : D → DEnv → Prop} {v : V} {H' : Hp} (h : FR K c op .leaf F σ H Q v H') : ∃ d ρ' F', Sim K c op F' σ H' ρ' ∧ Trn (Own op F) (Own op F') H H' ∧ Dz K (Mt c op F') H' v d ∧ Q d ρ' := by
  obtain ⟨d, ρ', F', L, S, t, hn, nd, tz, w⟩ := h
  cases tz with
  | leaf hz =>
    rw [mt_addS1] at hz
    rw [own_or0] at t
    exact ⟨d, ρ', F', S.dropS, t, hz, w⟩
theorem DX.de (h : DX X J op e .leaf te x') : DE X op e te [] [] false (dSure x') := ⟨h.pe, fun c F σ H ρ Q S w R hR => h.sd c F σ H ρ _ Q S w R (fun v H' fr => by
  obtain ⟨d, ρ', F', S', t, hz, w⟩ := fr_leaf fr
  exact hR _ _ ⟨d, ρ', F', ⟨S', t, fun h => by cases h⟩, .inl hz, w⟩) fun cls d H' ⟨n, fs, ρ', F', _, _, _, z⟩ => z.elim⟩
theorem DX.fr (h : DX X J op e s te x') : DFr X op e s te (dSure x') := ⟨h.pe, fun c F σ H ρ Q S w R hR => h.sd c F σ H ρ _ Q S w R hR fun cls d H' ⟨n, fs, ρ', F', _, _, _, z⟩ => z.elim⟩
/-- f(e, ..), nothing handed in to own -/
def dCallX (np : Nat) (spd : DSp) (t : DTA) : DTX := fun E ρ Q => t ρ fun ds ρ1 => ds.length = np ∧ spd ds (fun d _ => Q d ρ1) (fun n fs _ => E n fs ρ1)
theorem sdx_go {c : Fx} {F F1 : Nat → AS} {σ : L2.St} {H H1 : Hp} {ρ ρ1 : DEnv} {E : Str → Fds → DEnv → Prop} {Q : D → DEnv → Prop} {R : VK} {vs : List V} {ds : List D} (fa : FA op J.xp) (mo : Mono spd) (st : Stp X.K c op q F σ H ρ F1 H1 ρ1) (hv : DzA X.K (Mt c op F1) H1 vs ds) (hl : ds.length = np)
    (w : spd ds (fun d _ => Q d ρ1) (fun n fs _ => E n fs ρ1)) (hR : ∀ v H', FR X.K c op rs F σ H Q v H' → R v H') (hE : ∀ cls d H', XQ X.K c J.xp (Own op F) H E cls d σ H' → J.W cls d σ H') : spOf X.K [] [] [] np rs spd vs H1 R (wE J.W σ) :=
  sp_go st.sim.live hv hl mo w (fun v H' d L s hn nd hd q => hR _ _ (fr_of (dx := []) st s hn nd hd q)) fun cls d n fs cs H' s xd z => hE _ _ _ (xq_of fa (st.sim.same s) (st.trn.trans (Trn.same s)) xd z)
theorem dx_call (fa : FA op J.xp) (tk : Takes X J.W) (mo : Mono spd) (Cg : CalG X.prog X.w X.K X.mg X.base (L2.CX X.prog X.w) k x ps [] (spOf X.K [] [] [] np rs spd)) (hr : RoomG j X.A) (ha : DA X op (e :: es) t [] q t') (hkj : k ≤ j := by decide) (hg : Gl X x := by rfl)
    (hdb : (x == ("__debug__" : Str)) = false := by decide) (he : starEach (e :: es) X.env = (false, eval e X.env) :: starEach es X.env := by rfl) (hpl : (backTo pos (starEach es X.env)).any (·.1) = false := by rfl) :
    DX X J op (.Call (.Name x p) (e :: es) [] pos) rs (tCallA (spOf X.K [] [] [] np rs spd) [] (wE J.W) t) (dCallX np spd t') := ⟨pe_ca Cg hr (pass_take tk) ha.pa hkj hg hdb he hpl, fun c F σ H ρ E Q S w R hR hE => by
  refine ha.sd c F σ H ρ _ S w _ fun vs H1 ⟨ds, ρ1, F1, st, hv, hl, w1⟩ => ?_
  show spOf X.K [] [] [] np rs spd (vs ++ []) H1 R (wE J.W σ)
  rw [List.append_nil]
  exact sdx_go fa mo st hv hl w1 hR hE⟩
/-- f(.., a place, ..) -/
def dCallP (np j i : Nat) (spd : DSp) (t : DTGP) : DTX := fun E ρ Q => t ρ fun p ds ρ1 => At ρ1 i fun r => Opt (atD r p) fun c => ds.length = np ∧ spd (ds.set j c) (fun d cs => match cs with | [c'] => Q d (ρ1.set i (some (putD r p c'))) | _ => False) (fun n fs cs => match cs with | [c'] => E n fs (ρ1.set i (some (putD r p c'))) | _ => False)
theorem sdx_goP {c : Fx} {F F1 : Nat → AS} {σ : L2.St} {H H1 : Hp} {ρ ρ1 : DEnv} {E : Str → Fds → DEnv → Prop} {Q : D → DEnv → Prop} {R : VK} {vs vs1 vs2 : List V} {ds1 ds2 : List D} {p : List Nat} {v0 v' : V} (fa : FA op J.xp) (mo : Mono spd) (st : Stp X.K c op q F σ H ρ F1 H1 ρ1) (hm : (i, kT s) ∈ op)
    (ev : vs = vs1 ++ v' :: vs2) (hj : vs1.length = j) (hv : σ[i]? = some (some v0)) (na : NodeAt H1 v0 p v') (sa : ShAt s p s') (h1 : DzA X.K (Mt c op F1) H1 vs1 ds1) (h2 : DzA X.K (Mt c op F1) H1 vs2 ds2)
    (w : At ρ1 i fun r => Opt (atD r p) fun c => (ds1 ++ D.none :: ds2).length = np ∧ spd ((ds1 ++ D.none :: ds2).set j c) (fun d cs => match cs with | [c'] => Q d (ρ1.set i (some (putD r p c'))) | _ => False) (fun n fs cs => match cs with | [c'] => E n fs (ρ1.set i (some (putD r p c'))) | _ => False))
    (hR : ∀ v H', FR X.K c op rs F σ H Q v H' → R v H') (hE : ∀ cls d H', XQ X.K c J.xp (Own op F) H E cls d σ H' → J.W cls d σ H') : spOf X.K [(j, kT s')] [(j, kT s')] [(j, kT s')] np rs spd vs H1 R (wE J.W σ) := by
  obtain ⟨r, er, w⟩ := w.ex
  obtain ⟨c0, ec, hl, w⟩ := w.ex
  exact callP_go mo st.sim hm hv na sa ev hj h1 h2 hl er ec w (fun v H' d L c' F'' S2 t2 hn nd tz _ _ q => hR _ _ ⟨d, _, F'', L, S2, st.trn.trans t2, hn, nd, tz, q⟩) fun cls d n fs H' c' F'' S2 t2 xd z => hE _ _ _ (xq_of fa S2 (st.trn.trans t2) xd z)
theorem dx_callP (fa : FA op J.xp) (tk : Takes X J.W) (mo : Mono spd) (Cg : CalG X.prog X.w X.K X.mg X.base (L2.CX X.prog X.w) k x ps [] (spOf X.K [(j, kT s')] [(j, kT s')] [(j, kT s')] np rs spd)) (hr : RoomG l X.A) (ha : DGP X op (e :: es) j i s s' t q g') (hkj : k ≤ l := by decide) (hg : Gl X x := by rfl)
    (hdb : (x == ("__debug__" : Str)) = false := by decide) (he : starEach (e :: es) X.env = (false, eval e X.env) :: starEach es X.env := by rfl) (hpl : (backTo pos (starEach es X.env)).any (·.1) = false := by rfl) :
    DX X J op (.Call (.Name x p) (e :: es) [] pos) rs (tCallA (spOf X.K [(j, kT s')] [(j, kT s')] [(j, kT s')] np rs spd) [] (wE J.W) t) (dCallP np j i spd g') := ⟨pe_ca Cg hr (pass_take tk) ha.pa hkj hg hdb he hpl, fun c F σ H ρ E Q S w R hR hE => by
  refine ha.sd c F σ H ρ _ S w _ fun vs H1 ⟨p, v0, v', vs1, vs2, ds1, ds2, ρ1, F1, st, ev, hj, hv, na, sa, h1, h2, w1⟩ => ?_
  show spOf X.K [(j, kT s')] [(j, kT s')] [(j, kT s')] np rs spd (vs ++ []) H1 R (wE J.W σ)
  rw [List.append_nil]
  exact sdx_goP fa mo st ha.me ev hj hv na sa h1 h2 w1 hR hE⟩
/-! methods -/
theorem DzF.none {K : PySem.W.Frag} {M : AS} {H : Hp} {f : Str} : ∀ {ds : Fds} {vs : List (Str × V)}, DzF K M H vs ds → getF ds f = none → vs.lookup f = none
  | _, _, .nil, e => rfl
  | _, _, @DzF.cons _ _ _ _ g v vs d ds h r, e => by
    unfold getF at e
    by_cases c : f = g
    · subst c
      rw [List.lookup, beq_self_eq_true] at e
      cases e
    · have c2 : (f == g) = false := by simpa using c
      rw [List.lookup, c2] at e
      rw [List.lookup, c2]
      exact DzF.none r (show getF ds f = Option.none from e)
/-- o.m(e, ..), o only read -/
def dMethR (n m : Str) (np : Nat) (spd : DSp) (ta : DTE) (t : DTA) : DTX := fun E ρ Q => ta ρ fun d ρ1 => match d with
  | .obj n' fs => n' = n ∧ getF fs m = none ∧ t ρ1 fun ds ρ2 => ds.length + 1 = np ∧ spd (.obj n' fs :: ds) (fun d _ => Q d ρ2) (fun n fs _ => E n fs ρ2)
  | _ => False
theorem sdx_meth {c : Fx} {F : Nat → AS} {σ : L2.St} {H : Hp} {ρ : DEnv} {E : Str → Fds → DEnv → Prop} {Q : D → DEnv → Prop} {R : VK} (fa : FA op J.xp) (mo : Mono spd) (ho : Sd X.K op ta [] [] q1 ta') (ha : SdA X.K op t [] q t') (S : Sim X.K c op F σ H ρ) (w : dMethR n m np spd ta' t' E ρ Q)
    (hR : ∀ v H', FR X.K c op rs F σ H Q v H' → R v H') (hE : ∀ cls d H', XQ X.K c J.xp (Own op F) H E cls d σ H' → J.W cls d σ H') : tMethB X.K n m (spOf X.K [] [] [] np rs spd) [] (wE J.W) ta t σ H R := by
  refine ho c F σ H ρ _ S w _ fun y H1 ⟨d, ρ1, F1, st, hx, w1⟩ => ?_
  cases d <;> first | exact w1.elim | skip
  rename_i n' fs
  obtain ⟨rfl, hm, w2⟩ := w1
  have hx := hx.obj
  cases hx with
  | @obj a dd _ vvs _ nM ea hf =>
    refine ⟨a, dd, vvs, rfl, ea, hf.none hm, ?_⟩
    refine ha c F1 σ H1 ρ1 _ st.sim w2 _ fun vs H2 ⟨ds, ρ2, F2, st2, hvs, hl, w3⟩ => ?_
    have ho2 := (Dz.obj nM ea hf : Dz X.K (Mt c op F1) H1 (.ref a) (.obj n' fs)).trn st.sim.live (mx_trn st.sim.n0 st2.trn)
    show spOf X.K [] [] [] np rs spd (.ref a :: (vs ++ [])) H2 R (wE J.W σ)
    rw [List.append_nil]
    exact sdx_go fa mo (st.trans st2) (.cons ho2 hvs) (by simpa using hl) w3 hR hE
abbrev GetMs (X : Cx) (pl : Sem Bool) (o : Expr) (m : Str) (apos : Pos) (es : List Expr) (pos : Pos) : Prop := eval (.Call (.Attribute o m apos) es [] pos) X.env = (do
      let rv ← eval o X.env
      standAt apos.atName
      let (g, fst) ← holding [rv] (getMethod rv m pl)
      callWith pos g fst (backTo pos (starEach es X.env)) (backToKw pos (keywordEach [] X.env)))
theorem dx_meth {pl : Sem Bool} (fa : FA op J.xp) (tk : Takes X J.W) (mo : Mono spd) (M : MetG X.prog X.w X.K X.mg X.base (L2.CX X.prog X.w) k n m ps [] (spOf X.K [] [] [] np rs spd)) (hr : RoomG j X.A) (ho : DE X op o ta [] [] q1 ta') (ha : DA X op (e :: es) t [] q t') (hkj : k ≤ j := by decide)
    (hst : starEach (e :: es) X.env = (false, eval e X.env) :: starEach es X.env := by rfl) (hpl : (backTo pos (starEach es X.env)).any (·.1) = false := by rfl) (ht : GetMs X pl o m apos (e :: es) pos := by rfl) :
    DX X J op (.Call (.Attribute o m apos) (e :: es) [] pos) rs (tMethB X.K n m (spOf X.K [] [] [] np rs spd) [] (wE J.W) ta t) (dMethR n m np spd ta' t') := ⟨pe_mb ho.pe M hr (pass_take tk) ha.pa hkj hst hpl ht, fun c F σ H ρ E Q S w R hR hE => sdx_meth fa mo ho.sd ha.sd S w hR hE⟩
theorem dx_meth0 {pl : Sem Bool} (fa : FA op J.xp) (tk : Takes X J.W) (mo : Mono spd) (M : MetG X.prog X.w X.K X.mg X.base (L2.CX X.prog X.w) k n m ps [] (spOf X.K [] [] [] np rs spd)) (hr : RoomG j X.A) (ho : DE X op o ta [] [] q1 ta') (hkj : k ≤ j := by decide) (ht : GetMs X pl o m apos [] pos := by rfl) :
    DX X J op (.Call (.Attribute o m apos) [] [] pos) rs (tMethB X.K n m (spOf X.K [] [] [] np rs spd) [] (wE J.W) ta tNil) (dMethR n m np spd ta' dNil) := ⟨pe_mb0 ho.pe M hr (pass_take tk) hkj ht, fun c F σ H ρ E Q S w R hR hE => sdx_meth fa mo ho.sd da_nil.sd S w hR hE⟩
/-- .. where the receiver reaches what is owned: the result is flat, nothing is raised but flat things -/
def dMethI (n m : Str) (np : Nat) (spd : DSp) (ta : DTE) (t : DTA) : DTX := fun E ρ Q => ta ρ fun d ρ1 => match d with
  | .obj n' fs => n' = n ∧ getF fs m = none ∧ t ρ1 fun ds ρ2 => ds.length + 1 = np ∧ spd (.obj n' fs :: ds) (fun d _ => imm d = true ∧ Q d ρ2) (fun n fs _ => immF fs = true ∧ E n fs ρ2)
  | _ => False
theorem XD.up {K : PySem.W.Frag} {c : Fx} {F : Nat → AS} {σ : L2.St} {H : Hp} {ρ : DEnv} {cls : Value} {d : Option Addr} {fs : Fds} (S : Sim K c op F σ H ρ) (hop : ∀ i ∈ dx, ∃ s, (i, kT s) ∈ op) (h : XD K (Mx c op F dx) H cls d n fs) (hi : immF fs = true) : XD K (Mt c op F) H cls d n fs := by
  obtain ⟨e, d0, vs, h1, h2, h3, h4⟩ := h
  refine ⟨e, d0, vs, h1, fun z => ?_, h3, h4.any hi⟩
  rcases z with z | ⟨r, hr, _, z⟩
  · exact h2 (.inl z)
  · by_cases hd : r.1 ∈ dx
    · obtain ⟨s, hs⟩ := hop r.1 hd
      have : r = (r.1, kT s) := op_uniq S.nd hs hr rfl
      obtain ⟨v, dd, _, _, ok⟩ := S.ops r hr
      rw [this] at ok
      obtain ⟨L, tz, _, f⟩ := ok
      exact tz.noXd d0 ((f d0).mp (by rw [this] at z; exact z)) vs h3
    · exact h2 (.inr ⟨r, hr, hd, z⟩)
def trees (op : Op) (dx : List Nat) : Prop := ∀ i ∈ dx, ∃ s, (i, kT s) ∈ op
theorem trees1 {op : Op} {i j : Nat} {s : Sh} (h : op[j]? = some (i, kT s)) : trees op [i] := fun l hl => by
  rcases List.mem_singleton.mp hl with rfl
  exact ⟨s, List.mem_of_getElem? h⟩
theorem sdx_methI {c : Fx} {F : Nat → AS} {σ : L2.St} {H : Hp} {ρ : DEnv} {E : Str → Fds → DEnv → Prop} {Q : D → DEnv → Prop} {R : VK} (fa : FA op J.xp) (hop : trees op dx1) (mo : Mono spd) (ho : Sd X.K op ta dx1 [] q1 ta') (ha : SdA X.K op t [] true t') (S : Sim X.K c op F σ H ρ) (w : dMethI n m np spd ta' t' E ρ Q)
    (hR : ∀ v H', FR X.K c op .leaf F σ H Q v H' → R v H') (hE : ∀ cls d H', XQ X.K c J.xp (Own op F) H E cls d σ H' → J.W cls d σ H') : tMethB X.K n m (spOf X.K [] [] [] np .leaf spd) [] (wE J.W) ta t σ H R := by
  refine ho c F σ H ρ _ S w _ fun y H1 ⟨d, ρ1, F1, st, hx, w1⟩ => ?_
  cases d <;> first | exact w1.elim | skip
  rename_i n' fs
  obtain ⟨rfl, hm, w2⟩ := w1
  have hx := hx.obj
  cases hx with
  | @obj a dd _ vvs _ nM ea hf =>
    refine ⟨a, dd, vvs, rfl, ea, hf.none hm, ?_⟩
    refine ha c F1 σ H1 ρ1 _ st.sim w2 _ fun vs H2 ⟨ds, ρ2, F2, st2, hvs, hl, w3⟩ => ?_
    obtain ⟨sm, er, ef⟩ := st2.qt rfl
    subst er ef
    have ho2 := (Dz.obj nM ea hf : Dz X.K (Mx c op F2 dx1) H1 (.ref a) (.obj n' fs)).same sm st.sim.liveX
    show spOf X.K [] [] [] np .leaf spd (.ref a :: (vs ++ [])) H2 R (wE J.W σ)
    rw [List.append_nil]
    refine sp_go st2.sim.liveX (.cons ho2 (hvs.mono fun a z => z.less (by simp))) (by simpa using hl) mo w3 (fun v H' d L s hn nd hd ⟨hi, q⟩ => ?_) fun cls d n fs cs H' s xd ⟨hi, z⟩ => ?_
    · obtain ⟨rfl, hd2⟩ := tz_leaf hd
      have S3 := st2.sim.same s
      exact hR _ _ ⟨d, ρ2, F2, [], S3.addS0, by rw [own_or0]; exact (st.trn.trans st2.trn).trans (Trn.same s), fun a m => absurd m List.not_mem_nil, .nil, .leaf (hd2.any hi), q⟩
    · have S3 := st2.sim.same s
      exact hE _ _ _ (xq_of fa S3 ((st.trn.trans st2.trn).trans (Trn.same s)) (XD.up S3 hop xd hi) z)
theorem dx_methI {pl : Sem Bool} (fa : FA op J.xp) (hop : trees op dx1) (tk : Takes X J.W) (mo : Mono spd) (M : MetG X.prog X.w X.K X.mg X.base (L2.CX X.prog X.w) k n m ps [] (spOf X.K [] [] [] np .leaf spd)) (hr : RoomG j X.A) (ho : DE X op o ta dx1 [] q1 ta') (ha : DA X op (e :: es) t [] true t') (hkj : k ≤ j := by decide)
    (hst : starEach (e :: es) X.env = (false, eval e X.env) :: starEach es X.env := by rfl) (hpl : (backTo pos (starEach es X.env)).any (·.1) = false := by rfl) (ht : GetMs X pl o m apos (e :: es) pos := by rfl) :
    DX X J op (.Call (.Attribute o m apos) (e :: es) [] pos) .leaf (tMethB X.K n m (spOf X.K [] [] [] np .leaf spd) [] (wE J.W) ta t) (dMethI n m np spd ta' t') := ⟨pe_mb ho.pe M hr (pass_take tk) ha.pa hkj hst hpl ht, fun c F σ H ρ E Q S w R hR hE => sdx_methI fa hop mo ho.sd ha.sd S w hR hE⟩
theorem dx_methI0 {pl : Sem Bool} (fa : FA op J.xp) (hop : trees op dx1) (tk : Takes X J.W) (mo : Mono spd) (M : MetG X.prog X.w X.K X.mg X.base (L2.CX X.prog X.w) k n m ps [] (spOf X.K [] [] [] np .leaf spd)) (hr : RoomG j X.A) (ho : DE X op o ta dx1 [] q1 ta') (hkj : k ≤ j := by decide) (ht : GetMs X pl o m apos [] pos := by rfl) :
    DX X J op (.Call (.Attribute o m apos) [] [] pos) .leaf (tMethB X.K n m (spOf X.K [] [] [] np .leaf spd) [] (wE J.W) ta tNil) (dMethI n m np spd ta' dNil) := ⟨pe_mb0 ho.pe M hr (pass_take tk) hkj ht, fun c F σ H ρ E Q S w R hR hE => sdx_methI fa hop mo ho.sd da_nil.sd S w hR hE⟩
/-- .. where it is a place that is handed in -/
def dMethP (np i : Nat) (spd : DSp) (tp : DTP) (t : DTA) : DTX := dCallP np 0 i spd fun ρ Q => tp ρ fun p ρ1 => t ρ1 fun ds ρ2 => Q p (.none :: ds) ρ2
theorem sdx_methP {c : Fx} {F : Nat → AS} {σ : L2.St} {H : Hp} {ρ : DEnv} {E : Str → Fds → DEnv → Prop} {Q : D → DEnv → Prop} {R : VK} {fs : List (Str × Sh)} (hm : idxF (fs.map (·.1)) m = none) (fa : FA op J.xp) (mo : Mono spd) (hp : DPl X op o i s (.obj n fs) tp q1 tp') (ha : SdA X.K op t [] true t') (S : Sim X.K c op F σ H ρ) (w : dMethP np i spd tp' t' E ρ Q)
    (hR : ∀ v H', FR X.K c op rs F σ H Q v H' → R v H') (hE : ∀ cls d H', XQ X.K c J.xp (Own op F) H E cls d σ H' → J.W cls d σ H') : tMethB X.K n m (spOf X.K [(0, kT (.obj n fs))] [(0, kT (.obj n fs))] [(0, kT (.obj n fs))] np rs spd) [] (wE J.W) tp t σ H R := by
  refine hp.sd c F σ H ρ _ S w _ fun v' H1 ⟨p, v0, ρ1, F1, st, hv, na, sa, w1⟩ => ?_
  obtain ⟨r, d', L', e1, e2, tz, hf⟩ := st.sim.node hp.me hv na sa
  cases tz with
  | @obj _ _ a dd vvs ds0 L0 e0 h1 h2 hc =>
    refine ⟨a, dd, vvs, rfl, e0, idxF_none (by rw [← h2]; exact hm), ?_⟩
    refine ha c F1 σ H1 ρ1 _ st.sim w1 _ fun vs H2 ⟨ds, ρ2, F2, st2, hvs, w2⟩ => ?_
    obtain ⟨sm, er, ef⟩ := st2.qt rfl
    show spOf X.K _ _ _ np rs spd (.ref a :: (vs ++ [])) H2 R (wE J.W σ)
    rw [List.append_nil]
    exact sdx_goP (vs1 := []) (ds1 := []) fa mo (st.trans st2) hp.me rfl rfl hv (na.keep sm) sa .nil hvs w2 hR hE
theorem dx_methP {pl : Sem Bool} {fs : List (Str × Sh)} (fa : FA op J.xp) (tk : Takes X J.W) (mo : Mono spd) (M : MetG X.prog X.w X.K X.mg X.base (L2.CX X.prog X.w) k n m ps [] (spOf X.K [(0, kT (.obj n fs))] [(0, kT (.obj n fs))] [(0, kT (.obj n fs))] np rs spd)) (hr : RoomG j X.A) (hp : DPl X op o i s (.obj n fs) tp q1 tp') (ha : DA X op (e :: es) t [] true t') (hkj : k ≤ j := by decide)
    (hm : idxF (fs.map (·.1)) m = none := by rfl) (hst : starEach (e :: es) X.env = (false, eval e X.env) :: starEach es X.env := by rfl) (hpl : (backTo pos (starEach es X.env)).any (·.1) = false := by rfl) (ht : GetMs X pl o m apos (e :: es) pos := by rfl) :
    DX X J op (.Call (.Attribute o m apos) (e :: es) [] pos) rs (tMethB X.K n m (spOf X.K [(0, kT (.obj n fs))] [(0, kT (.obj n fs))] [(0, kT (.obj n fs))] np rs spd) [] (wE J.W) tp t) (dMethP np i spd tp' t') := ⟨pe_mb hp.pe M hr (pass_take tk) ha.pa hkj hst hpl ht, fun c F σ H ρ E Q S w R hR hE => sdx_methP hm fa mo hp ha.sd S w hR hE⟩
theorem dx_methP0 {pl : Sem Bool} {fs : List (Str × Sh)} (fa : FA op J.xp) (tk : Takes X J.W) (mo : Mono spd) (M : MetG X.prog X.w X.K X.mg X.base (L2.CX X.prog X.w) k n m ps [] (spOf X.K [(0, kT (.obj n fs))] [(0, kT (.obj n fs))] [(0, kT (.obj n fs))] np rs spd)) (hr : RoomG j X.A) (hp : DPl X op o i s (.obj n fs) tp q1 tp') (hkj : k ≤ j := by decide)
    (hm : idxF (fs.map (·.1)) m = none := by rfl) (ht : GetMs X pl o m apos [] pos := by rfl) :
    DX X J op (.Call (.Attribute o m apos) [] [] pos) rs (tMethB X.K n m (spOf X.K [(0, kT (.obj n fs))] [(0, kT (.obj n fs))] [(0, kT (.obj n fs))] np rs spd) [] (wE J.W) tp tNil) (dMethP np i spd tp' dNil) := ⟨pe_mb0 hp.pe M hr (pass_take tk) hkj ht, fun c F σ H ρ E Q S w R hR hE => sdx_methP hm fa mo hp da_nil.sd S w hR hE⟩
end
end Vt
namespace Vt
open PySem PySem.Spec L2
variable [WorldC]
/-! ### promises by what is asked and what is told -/
section
variable {X : Cx} {lp : Jc} {po on l1 l2 : Op} {sts : List Stmt} {t : TS} {t' : DTS} {i : Nat} {k : Kind}
theorem dss_freeAt (l1 : Op) (g : DSs X lp po (l1 ++ l2) on sts t t') (hk : Frees k := by first | exact frees_T | exact frees_Lk) : DSs X lp po (l1 ++ (i, k) :: l2) on sts t t' := ⟨g.ps, fun c F σ H ρ E R pv S w j =>
  g.sd c F σ H ρ E R pv (S.freeAt hk) w (j.back own_freeAt)⟩
theorem dss_endAt (l1 : Op) (g : DSs X lp po on (l1 ++ (i, k) :: l2) sts t t') (hk : Frees k := by first | exact frees_T | exact frees_Lk) : DSs X lp po on (l1 ++ l2) sts t t' := ⟨g.ps, fun c F σ H ρ E R pv S w j =>
  g.sd c F σ H ρ E R pv S w ⟨fun σ' H' ⟨ρ', F', S', t2, w2⟩ => j.nx _ _ ⟨ρ', F', S'.freeAt hk, t2.trans own_freeAt, w2⟩, j.rt, j.bk, j.ct, j.ex⟩⟩
end
/-! ### what is walked: a list, a tuple, a text -/
def iSeq (K : PySem.W.Frag) (tl : TE) : TI := fun σ H R => tl σ H fun x H1 => (∃ a, x = .ref a ∧ (∃ xs, SqL K H1 a xs) ∧ R (Itl K a) H1) ∨ (∃ a, x = .ref a ∧ (∃ xs, SqT K H1 a xs) ∧ R (Itt K a) H1) ∨ ∃ z, x = .str z ∧ R (Its z) H1
theorem PE.cont {X : Cx} {e : Expr} {t : TE} (h : PE X e t) (P : VK) : PE X e (fun σ H Q => t σ H fun x H1 => P x H1 ∧ Q x H1) := ⟨fun pins s σ H Q I w => by
  refine thn (h.run pins s σ H _ I w) fun u s1 ⟨x, H1, I1, r, _, q⟩ => ⟨x, H1, I1, r, q⟩⟩
/-- the values that a thing comes to, one by one -/
structure Walked (X : Cx) (tg : Expr) (x : V) (J : It) (P : Hp → Prop) : Prop where
  run : ∀ (pins : List (Addr × Obj)) (s : Shared) (σ : St) (H : Hp) (v : Value) (R : It → Hp → Prop), Inv X pins σ H s → RelV x v → P H → R J H → wpAny (model X.prog X.w) X.A (pyIter v) (PIE X pins σ tg R) X.xe s
theorem walked_list {X : Cx} {tg : Expr} {a : Addr} : Walked X tg (.ref a) (Itl X.K a) (fun H => ∃ xs, SqL X.K H a xs) := ⟨fun pins s σ H v R I r ⟨xs, hq⟩ q => by
  cases (show v = Value.ref a from r)
  obtain ⟨its, rv, pl, _⟩ := I.list hq
  have new : H s.heap.objs.size = none := I.hok.fresh (Nat.le_refl _)
  refine PySem.wpAny_pyIter_list pl.isList ⟨s.heap.objs.size, [s.heap.objs.size], _, Itl X.K a, H, rfl, I.kept (t' := s.toks) (fun b o e => Heap.get?_push_of_some _ e), turn_list a _, ⟨_, Heap.get?_push_size _ rfl, rfl, rfl⟩, ?_, q⟩
  intro b hb
  rw [List.mem_singleton.mp hb]
  exact I.fpOk (Nat.le_refl _) new⟩
theorem walked_tup {X : Cx} {tg : Expr} {a : Addr} : Walked X tg (.ref a) (Itt X.K a) (fun H => ∃ xs, SqT X.K H a xs) := ⟨fun pins s σ H v R I r ⟨xs, hq⟩ q => by
  cases (show v = Value.ref a from r)
  obtain ⟨its, rv, pt, _⟩ := I.tuple hq
  have new : H s.heap.objs.size = none := I.hok.fresh (Nat.le_refl _)
  refine PySem.wpAny_pyIter_tuple (show s.heap.IsTuple a its.toArray from pt) ⟨s.heap.objs.size, [s.heap.objs.size], _, Itt X.K a, H, rfl, I.kept (t' := s.toks) (fun b o e => Heap.get?_push_of_some _ e), turn_tuple a _, ⟨_, Heap.get?_push_size _ rfl, rfl, rfl⟩, ?_, q⟩
  intro b hb
  rw [List.mem_singleton.mp hb]
  exact I.fpOk (Nat.le_refl _) new⟩
theorem walked_str {X : Cx} {tg : Expr} {z : Str} : Walked X tg (.str z) (Its z) (fun _ => True) := ⟨fun pins s σ H v R I r _ q => by
  obtain ⟨t, rfl⟩ := r
  cases ha : z.cps.all (· < 128) with
  | false => exact wpAny_pyIter_wide ha (pi_one (tk := s.toks) I _ (turn_str _ z t "str_iterator" (.inr rfl)) ⟨_, Heap.get?_push_size _ rfl, rfl, rfl⟩ q)
  | true => exact wpAny_pyIter_ascii ha (pi_one (tk := s.toks) I _ (turn_str _ z t "str_ascii_iterator" (.inl rfl)) ⟨_, Heap.get?_push_size _ rfl, rfl, rfl⟩ q)⟩
theorem pi_seq {X : Cx} {tg e : Expr} {te : TE} (he : PE X e te) : PI X tg e (iSeq X.K te) := ⟨fun pins s σ H R I h => by
  refine thn (he.run pins s σ H _ I h) fun v s1 ⟨x, H1, I1, r1, q1⟩ => ?_
  rcases q1 with ⟨a, rfl, hq, q⟩ | ⟨a, rfl, hq, q⟩ | ⟨z, rfl, q⟩
  · exact walked_list.run pins s1 σ H1 v R I1 r1 hq q
  · exact walked_tup.run pins s1 σ H1 v R I1 r1 hq q
  · exact walked_str.run pins s1 σ H1 v R I1 r1 trivial q⟩
/-- the things of a list, a tuple, a text -/
def dSeqOf : D → (List D → Prop) → Prop
  | .list ds, Q => Q ds
  | .tuple ds, Q => Q ds
  | .str z, Q => Q (signsD z)
  | _, _ => False
def diAny (t : DTE) : DTA := fun ρ Q => t ρ fun d ρ1 => dSeqOf d fun ds => Q ds ρ1
theorem di_seq {X : Cx} {op : Op} {tg e : Expr} {te : TE} {q : Bool} {te' : DTE} (he : DE X op e te [] [] q te') : DI X op tg e (iSeq X.K te) (diAny te') := ⟨pi_seq he.pe, fun c F σ H ρ Q S w R hR => by
  refine he.sd c F σ H ρ _ S w _ fun x H1 ⟨d, ρ1, F1, st, hx, w1⟩ => ?_
  have hz : Dz X.K (Mt c op F1) H1 x d := hx.dz fun a m => m
  cases d <;> first | exact w1.elim | skip
  case list ds =>
    cases hz with
    | lst n e hd => exact .inl ⟨_, rfl, ⟨_, SqL.of e⟩, hR _ _ ⟨ds, ρ1, F1, st.loud, jok_list (v := .non) st.sim.live (.lst n e hd), w1⟩⟩
  case tuple ds =>
    cases hz with
    | tup e hd => exact .inr (.inl ⟨_, rfl, ⟨_, e⟩, hR _ _ ⟨ds, ρ1, F1, st.loud, jok_tup (v := .non) st.sim.live (.tup e hd), w1⟩⟩)
  case str z =>
    cases hz
    exact .inr (.inr ⟨z, rfl, hR _ _ ⟨_, ρ1, F1, st.loud, jok_str, w1⟩⟩)⟩
/-! ### the script -/
def Scr (K : PySem.W.Frag) (H : Hp) (a : Addr) (xs : List V) : Prop := (∃ o, H a = some (.frz o (.lst xs))) ∨ (∃ (o : Obj) (its : Array Value) (n : Nat), K.lookup a = some o ∧ o.cls = .type "list" ∧ o.dict = none ∧ o.data = .seq its n ∧ its.size ≤ sizeLine ∧ Vals xs its.toList)
theorem Scr.sq {K : PySem.W.Frag} {H : Hp} {a : Addr} {xs : List V} (h : Scr K H a xs) : SqL K H a xs := by
  rcases h with ⟨o, h⟩ | h
  · exact .inl (.inr ⟨o, h⟩)
  · exact .inr h
theorem scr_of {K : PySem.W.Frag} {H : Hp} {a : Addr} {xs : List V} (o : Only H) (h : SqL K H a xs) : Scr K H a xs := by
  rcases h with (h | h) | h
  · rcases o a with z | ⟨ob, ys, z⟩
    · rw [h] at z; cases z
    · rw [h] at z; cases z
  · exact .inl h
  · exact .inr h
def kS : Kind where
  ok := fun K M H v d F => ∃ a, ∃ ns : List Int, v = .ref a ∧ d = .list (ns.map .int) ∧ Scr K H a (ns.map V.int) ∧ ∀ b, ¬ F b
  live := fun ⟨_, _, _, _, _, f⟩ b hb => (f b hb).elim
  frame := fun l ⟨a, ns, e1, e2, e, f⟩ k g => ⟨a, ns, e1, e2, by
    rcases e with ⟨o, e⟩ | e
    · refine .inl ⟨o, k _ _ e (.inl fun m => ?_)⟩
      obtain ⟨o', e', mo⟩ := l _ m
      rw [e] at e'; cases e'; cases mo
    · exact .inr e, f⟩
section
variable {X : Cx} {op : Op} {e : Expr} {pos p2 : Pos} {lo hi : Option Expr} {tl th : TO} {tl' th' : DTO} {q1 q2 : Bool} {i j : Nat}
theorem de_sliceS (he : PE X e (tVar i)) (n : op[j]? = some (i, kS) := by rfl) (hl : DO X op lo tl q1 tl') (hh : DO X op hi th q2 th') :
    DE X op (.Subscript e (.Slice lo hi none p2) pos) (tSl (rSlX X.K) (tVar i) tl th) [] [] (true && (q1 && q2)) (dSlice (dVar i) tl' th') := ⟨pe_slice sl_x he hl.po hh.po, fun c F σ H ρ Q S w R hR => by
  obtain ⟨d, e0, w1⟩ := w.ex
  obtain ⟨v, d', e1, e2, a, ns, rfl, rfl, hs, hf⟩ := S.ops _ (List.mem_of_getElem? n)
  rw [e0] at e2
  cases e2
  refine ⟨_, e1, ?_⟩
  refine hl.sd c F σ H ρ _ S w1 _ fun l H2 ⟨ρ2, F2, st2, w2⟩ => ?_
  refine hh.sd c F2 σ H2 ρ2 _ st2.sim w2 _ fun u H3 ⟨ρ3, F3, st3, w3⟩ => ?_
  have st := st2.trn.trans st3.trn
  have hs2 : Scr X.K H3 a (ns.map V.int) := by
    rcases hs with ⟨o, z⟩ | z
    · refine .inl ⟨o, st.1 _ _ z fun m => ?_⟩
      obtain ⟨o', e', mo⟩ := S.own _ m
      rw [z] at e'; cases e'; cases mo
    · exact .inr z
  refine .inl ⟨a, ns.map V.int, rfl, hs2.sq, fun p hp => hR _ _ ⟨_, ρ3, F3, (st2.trans st3).then (same_mk hp), .inl (Dz.newL st3.sim.live hp ?_), w3⟩⟩
  exact (DzA.ofInts ns).cut l u⟩
end
end Vt
namespace Vt
open PySem PySem.Spec L2
variable [WorldC]
theorem RoomG.u64 {k : Nat} {A : Around} (r : RoomG k A) : A.units + 64 < cLine := r.rm.units
theorem RoomG.u65 {k : Nat} {A : Around} (r : RoomG k A) : A.units + 65 < cLine := by
  have := r.rm.un
  omega
theorem RoomG.u1 {k : Nat} {A : Around} (r : RoomG k A) : A.units + 1 < cLine := hu_of r.rm
/-- a constant of the module -/
def GlV (mg : Str → Option Value) (x : Str) (v : V) : Prop := ∃ u, mg x = some u ∧ RelV v u
theorem pe_g {X : Cx} {x : Str} {v : V} {pos : Pos} (h : GlV X.mg x v) (hg : Gl X x := by rfl) (hd : (x == ("__debug__" : Str)) = false := by decide) : PE X (.Name x pos) (tC v) := by
  obtain ⟨u, h1, h2⟩ := h
  exact pe_glob hg h1 h2 hd
/-! ### a * b -/
def rMulX : R2 := fun x y H Q => (∃ i j, x = .int i ∧ y = .int j ∧ CMul i j ∧ Q (.int (i * j)) H) ∨ rRep x y H Q
theorem o_mul {X : Cx} : OpR X (binaryOp .Mult) rMulX := op_mul.or op_rep
theorem s_mul {K : PySem.W.Frag} : R2S K rMulX dMul := fun M N H x y d e Q l f hx hy w R hR => by
  cases d <;> cases e <;> first | exact w.elim | skip
  case int.int i j => exact .inl ⟨i, j, hx.int, hy.int, w.1, hR _ _ _ (Same.refl _) (.int _) w.2⟩
  case list.int ds k =>
    obtain ⟨a, xs, rfl, ha, hd⟩ := hx.list
    obtain ⟨h1, h2, h3, w⟩ := w
    exact .inr ⟨a, k, xs, rfl, hy.int, ha, h1, h2, by rw [hd.len]; exact h3, fun p hp => hR _ _ _ (same_mk hp) (Dz.newL l hp (hd.reps k.toNat)) w⟩
theorem reps_eq {α : Type} (n : Nat) (xs : List α) : (List.replicate n xs).flatten = reps n xs := rfl
/-! ### isinstance with a built-in class -/
def tyD : D → String
  | .none => "NoneType"
  | .bool _ => "bool"
  | .int _ => "int"
  | .str _ => "str"
  | .list _ => "list"
  | .tuple _ => "tuple"
  | .dict _ => "dict"
  | .tdic _ => "dict"
  | .exc _ _ => ""
  | .obj _ _ => ""
  | .glo _ => ""
  | .ty _ => ""
  | .raw _ => ""
def isBase : D → Bool
  | .tdic _ => false
  | .exc _ _ => false
  | .obj _ _ => false
  | .glo _ => false
  | .ty _ => false
  | .raw _ => false
  | _ => true
def dIsi (T : String) (d : D) (Q : D → Prop) : Prop := isBase d = true ∧ Q (.bool (tyD d == T || (tyD d == "bool" && T == "int")))
theorem tyx_of {K : PySem.W.Frag} {M N : AS} {H : Hp} {x : V} {d : D} (hb : isBase d = true) (h : DzT K M N H x d) : TyX K H x (.type (tyD d)) := by
  cases d with
  | none => rw [h.none]; exact .base .non
  | bool b => rw [h.bool]; exact .base (.bl b)
  | int b => rw [h.int]; exact .base (.int b)
  | str b => rw [h.str]; exact .base (.str b)
  | list ds => obtain ⟨a, xs, rfl, e, _⟩ := h.list; exact .base (.lst e)
  | dict ds => obtain ⟨a, xs, rfl, e, _⟩ := h.dict; exact .base (.dK e)
  | tuple ds =>
    obtain ⟨a, xs, rfl, (e | ⟨o, e⟩) | ⟨o, its, n, e, c, _⟩, _⟩ := h.tuple
    · exact .base (.tup e)
    · exact .fTuple e
    · exact .kTuple e c
  | _ => cases hb
def kitT (T : String) : Prop := ∀ d : D, isBase d = true → kitB (tyD d) T = some (tyD d == T || (tyD d == "bool" && T == "int"))
theorem tyD_mem : ∀ d : D, isBase d = true → tyD d ∈ ["NoneType", "bool", "int", "str", "list", "tuple", "dict"] := fun d h => by cases d <;> first | (cases h; done) | simp [tyD]
theorem kit_of' {T : String} (h : ∀ t ∈ ["NoneType", "bool", "int", "str", "list", "tuple", "dict"], kitB t T = some (t == T || (t == "bool" && T == "int"))) : kitT T := fun d hb => h _ (tyD_mem d hb)
theorem kit_int : kitT "int" := kit_of' (by decide +kernel)
theorem kit_bool : kitT "bool" := kit_of' (by decide +kernel)
theorem kit_str : kitT "str" := kit_of' (by decide +kernel)
theorem kit_list : kitT "list" := kit_of' (by decide +kernel)
theorem kit_tuple : kitT "tuple" := kit_of' (by decide +kernel)
theorem kit_dict : kitT "dict" := kit_of' (by decide +kernel)
theorem de_isi {X : Cx} {op : Op} {e c : Expr} {T : String} {ta : TE} {dx tx : List Nat} {q : Bool} {ta' : DTE} {p pos : Pos} (hk : kitT T) (hm : X.mg "isinstance" = none) (ha : DE X op e ta dx tx q ta') (hc : PE X c (tC (.ty T))) (hg : Gl X "isinstance" := by rfl)
    (he : starEach [e, c] X.env = (false, eval e X.env) :: starEach [c] X.env := by rfl) (he2 : starEach [c] X.env = (false, eval c X.env) :: starEach [] X.env := by rfl) (hpl : (backTo pos (starEach [c] X.env)).any (·.1) = false := by rfl) :
    DE X op (.Call (.Name "isinstance" p) [e, c] [] pos) (tCB (rIsi X.K) (tCons ta (tCons (tC (.ty T)) tNil))) [] [] q (dUn (dIsi T) ta') :=
  ⟨pe_callB call_isi hg hm (by decide +kernel) (pa_cons ha.pe (pa_cons hc pa_nil he2) he) (by decide) (by decide) he hpl, fun c F σ H ρ Q S w R hR => by
    refine ha.sd c F σ H ρ _ S w _ fun x H1 ⟨d, ρ1, F1, st, hx, w1⟩ => ?_
    obtain ⟨hb, w1⟩ := w1
    exact ⟨x, .ty T, _, _, _, rfl, .ty T, tyx_of hb hx, kit_ty (hk d hb), hR _ _ ⟨_, ρ1, F1, st, .inl (.bl _), w1⟩⟩⟩
theorem pe_cls {X : Cx} {x : Str} {T : String} {pos : Pos} (hm : X.mg x = none) (hv : bootBuiltins x = some (.type T) := by decide +kernel) (hg : Gl X x := by rfl) (hn : x ≠ "__name__" := by decide) (hd : (x == ("__debug__" : Str)) = false := by decide) : PE X (.Name x pos) (tC (.ty T)) :=
  pe_bltn (v := .ty T) hg hm hv rfl hn hd
end Vt
namespace Vt
open PySem PySem.Spec L2
variable [WorldC]
/-! ### a, b = x, y -/
def dPar (i j : Nat) (t : DTA) : DTS := fun E ρ => t ρ fun ds ρ1 => match ds with | [x, y] => E.nx ((ρ1.set i (some x)).set j (some y)) | _ => False
def dPar3 (i j l : Nat) (t : DTA) : DTS := fun E ρ => t ρ fun ds ρ1 => match ds with | [x, y, z] => E.nx (((ρ1.set i (some x)).set j (some y)).set l (some z)) | _ => False
/-- one of them is a new list that is owned: the slot o -/
def dNewAt (o : Nat) (t : DTA) : DTA := fun ρ Q => t ρ fun ds ρ1 => o < ρ1.length ∧ Q ds ρ1
def AOQ (K : PySem.W.Frag) (c : Fx) (op : Op) (m : Nat) (F : Nat → AS) (σ : St) (H : Hp) (Q : List D → DEnv → Prop) : List V → Hp → Prop := fun vs H' =>
  ∃ vs1 vs2 ds1 ds2 ls l xs ρ' F', vs = vs1 ++ .ref l :: vs2 ∧ vs1.length = m ∧ Sim K (c.add l) op F' σ H' ρ' ∧ Trn (Own op F) (Own op F') H H' ∧ H l = none ∧ H' l = some (.lst xs) ∧ DzA K (Mt (c.add l) op F') H' xs ls ∧
    DzA K (Mt (c.add l) op F') H' vs1 ds1 ∧ DzA K (Mt (c.add l) op F') H' vs2 ds2 ∧ Q (ds1 ++ .list ls :: ds2) ρ'
structure DAO (X : Cx) (op : Op) (m : Nat) (es : List Expr) (t : TA) (t' : DTA) : Prop where
  pa : PA X es t
  sd : ∀ (c : Fx) (F : Nat → AS) (σ : St) (H : Hp) (ρ : DEnv) (Q : List D → DEnv → Prop), Sim X.K c op F σ H ρ → t' ρ Q → ∀ R : List V → Hp → Prop, (∀ v H', AOQ X.K c op m F σ H Q v H' → R v H') → t σ H R
def dFhere (tf : DTA) (t : DTA) : DTA := fun ρ Q => tf ρ fun ls ρ1 => t ρ1 fun ds ρ2 => Q (.list ls :: ds) ρ2
section
variable {X : Cx} {lp : Jc} {po op : Op} {a b c e : Expr} {es : List Expr} {ta t : TA} {te : TE} {ta' t' tf' : DTA} {te' : DTE} {q : Bool} {m : Nat} {px py pz pt pos : Pos}
theorem own_add {K : PySem.W.Frag} {c : Fx} {F : Nat → AS} {σ : St} {H : Hp} {ρ : DEnv} {l : Addr} (S : Sim K (c.add l) op F σ H ρ) : ¬ Own op F l := fun ⟨p, hp, f⟩ => S.n0d p hp l f (.inr rfl)
theorem dao_here (hf : DF X op e te tf') (hr : DA X op es ta [] q ta') (hs : starEach (e :: es) X.env = (false, eval e X.env) :: starEach es X.env := by rfl) : DAO X op 0 (e :: es) (tCons te ta) (dFhere tf' ta') := ⟨pa_cons hf.pe hr.pa hs, fun c F σ H ρ Q S w R hR => by
  refine hf.sd c F σ H ρ _ S w _ fun v H1 ⟨ls, ρ1, F1, l, xs, ev, S1, t1, hn, e, hd, w1⟩ => ?_
  subst ev
  refine hr.sd (c.add l) F1 σ H1 ρ1 _ S1 w1 _ fun vs H2 ⟨ds, ρ2, F2, st, hv, w2⟩ => ?_
  exact hR _ _ ⟨[], vs, [], ds, ls, l, xs, ρ2, F2, rfl, rfl, st.sim, t1.trans st.trn, hn, st.trn.1 l _ e (own_add S1), hd.trn S1.live (mx_trn S1.n0 st.trn), .nil, hv, w2⟩⟩
theorem dao_later (he : DE X op e te [] [] q te') (hr : DAO X op m es ta ta') (hs : starEach (e :: es) X.env = (false, eval e X.env) :: starEach es X.env := by rfl) : DAO X op (m + 1) (e :: es) (tCons te ta) (dCons te' ta') := ⟨pa_cons he.pe hr.pa hs, fun c F σ H ρ Q S w R hR => by
  refine he.sd c F σ H ρ _ S w _ fun v H1 ⟨d, ρ1, F1, st, hd, w1⟩ => ?_
  refine hr.sd c F1 σ H1 ρ1 _ st.sim w1 _ fun vs H2 ⟨vs1, vs2, ds1, ds2, ls, l, xs, ρ2, F2, ev, hm, S2, t2, hn, e, hl, h1, h2, w2⟩ => ?_
  subst ev
  have hd1 : Dz X.K (Mt c op F1) H1 v d := hd.dz fun _ z => z
  have mt := mx_trn st.sim.n0 t2
  have hd2 : Dz X.K (Mt (c.add l) op F2) H2 v d := hd1.frame st.sim.live mt.1 fun a o e m => by
    rcases mt_add.mp m with m | z
    · exact mt.2.1 a o e m
    · rw [z, hn] at e; cases e
  exact hR _ _ ⟨v :: vs1, vs2, d :: ds1, ds2, ls, l, xs, ρ2, F2, rfl, by simp [hm], S2, st.trn.trans t2, st.trn.none hn, e, hl, .cons hd2 h1, h2, w2⟩⟩
theorem sds_par {i j : Nat} (h : SdA X.K op ta [] q ta') (n1 : noOp op i = true) (n2 : noOp op j = true) (m1 : noOp po i = true) (m2 : noOp po j = true) : SdS X.K lp po op op (tPar i j ta) (dPar i j ta') := fun c F σ H ρ E R pv S w k => by
  refine h c F σ H ρ _ S w _ fun vs H1 ⟨ds, ρ1, F1, st, hv, w1⟩ => ?_
  match ds, vs, hv, w1 with
  | [x, y], [v, u], .cons hx (.cons hy .nil), w1 =>
    exact ⟨v, u, rfl, k.nx _ _ ⟨_, F1, (st.sim.set hx (noOp_ne n1) (pv_ne pv m1)).set hy (noOp_ne n2) (pv_ne pv m2), st.trn, w1⟩⟩
theorem sds_par3 {i j l : Nat} (h : SdA X.K op ta [] q ta') (n1 : noOp op i = true) (n2 : noOp op j = true) (n3 : noOp op l = true) (m1 : noOp po i = true) (m2 : noOp po j = true) (m3 : noOp po l = true) : SdS X.K lp po op op (tPar3 i j l ta) (dPar3 i j l ta') := fun c F σ H ρ E R pv S w k => by
  refine h c F σ H ρ _ S w _ fun vs H1 ⟨ds, ρ1, F1, st, hv, w1⟩ => ?_
  match ds, vs, hv, w1 with
  | [x, y, z], [v, u, r], .cons hx (.cons hy (.cons hz .nil)), w1 =>
    exact ⟨v, u, r, rfl, k.nx _ _ ⟨_, F1, ((st.sim.set hx (noOp_ne n1) (pv_ne pv m1)).set hy (noOp_ne n2) (pv_ne pv m2)).set hz (noOp_ne n3) (pv_ne pv m3), st.trn, w1⟩⟩
theorem ds_par {i j : Nat} {x y : Str} {kt k2 pt2} (hc : X.calm = true) (hN : X.N.Nodup) (ha : DA X op [a, b] ta [] q ta') (hi : X.N[i]? = some x := by rfl) (hj : X.N[j]? = some y := by rfl) (hij : i ≠ j := by decide) (hx : X.env.scope.names.lookup x = some .local := by rfl) (hy : X.env.scope.names.lookup y = some .local := by rfl)
    (hw : swappedStores [.Tuple [.Name x px, .Name y py] kt pt] (.Tuple [a, b] k2 pt2) X.env = pure (some [x, y]) := by rfl) (hs : swapsWithSole [.Tuple [.Name x px, .Name y py] kt pt] (.Tuple [a, b] k2 pt2) pos.line X.env = pure false := by rfl)
    (n1 : noOp op i = true := by rfl) (n2 : noOp op j = true := by rfl) (m1 : noOp po i = true := by rfl) (m2 : noOp po j = true := by rfl) :
    DS X lp po op op (.Assign [.Tuple [.Name x px, .Name y py] kt pt] (.Tuple [a, b] k2 pt2) pos) (tPar i j ta) (dPar i j ta') := ⟨ps_par hc hN hi hj hij hx hy ha.pa hw hs, sds_par ha.sd n1 n2 m1 m2⟩
theorem ds_par3 {i j l : Nat} {x y z : Str} {kt k2 pt2} (hc : X.calm = true) (hN : X.N.Nodup) (ha : DA X op [a, b, c] ta [] q ta') (hi : X.N[i]? = some x := by rfl) (hj : X.N[j]? = some y := by rfl) (hl : X.N[l]? = some z := by rfl) (hij : i ≠ j := by decide) (hil : i ≠ l := by decide) (hjl : j ≠ l := by decide)
    (hx : X.env.scope.names.lookup x = some .local := by rfl) (hy : X.env.scope.names.lookup y = some .local := by rfl) (hz : X.env.scope.names.lookup z = some .local := by rfl)
    (hw : swappedStores [.Tuple [.Name x px, .Name y py, .Name z pz] kt pt] (.Tuple [a, b, c] k2 pt2) X.env = pure (some [x, y, z]) := by rfl) (hs : swapsWithSole [.Tuple [.Name x px, .Name y py, .Name z pz] kt pt] (.Tuple [a, b, c] k2 pt2) pos.line X.env = pure false := by rfl)
    (n1 : noOp op i = true := by rfl) (n2 : noOp op j = true := by rfl) (n3 : noOp op l = true := by rfl) (m1 : noOp po i = true := by rfl) (m2 : noOp po j = true := by rfl) (m3 : noOp po l = true := by rfl) :
    DS X lp po op op (.Assign [.Tuple [.Name x px, .Name y py, .Name z pz] kt pt] (.Tuple [a, b, c] k2 pt2) pos) (tPar3 i j l ta) (dPar3 i j l ta') := ⟨ps_par3 hc hN hi hj hl hij hil hjl hx hy hz ha.pa hw hs, sds_par3 ha.sd n1 n2 n3 m1 m2 m3⟩
theorem trn_or {F F1 : Nat → AS} {H H1 : Hp} {l : Addr} (t1 : Trn (Own op F) (Own op F1) H H1) (hn : H l = none) : Trn (Own op F) (fun a => Own op F1 a ∨ a ∈ [l]) H H1 := by
  refine ⟨t1.1, fun a o h m => ?_, t1.2.2⟩
  rcases m with m | m
  · exact t1.2.1 a o h m
  · rw [List.mem_singleton.mp m, hn] at h
    cases h
theorem Sim.holdL {K : PySem.W.Frag} {c : Fx} {F : Nat → AS} {σ : St} {H : Hp} {ρ : DEnv} {l : Addr} {xs : List V} {ds : List D} {i : Nat} (S : Sim K (c.add l) op F σ H ρ) (e : H l = some (.lst xs)) (h : DzA K (Mt (c.add l) op F) H xs ds)
    (hi : i < ρ.length) (n1 : noOp op i = true) (n2 : ∀ p ∈ c.pv, p.1 ≠ i) (n3 : ¬ c.N0 l) : Sim K c ((i, kL) :: op) (fun j a => if j = i then a ∈ [l] else F j a) (σ.set i (some (.ref l))) H (ρ.set i (some (.list ds))) := by
  rw [add_addS] at S h
  exact S.holdT (fun a m z => n3 (by rw [List.mem_singleton.mp m] at z; exact z)) (.lst e h.leafC) (by simp) hi n1 n2
theorem not_n0 {K : PySem.W.Frag} {c : Fx} {F : Nat → AS} {σ : St} {H : Hp} {ρ : DEnv} {l : Addr} (S : Sim K c op F σ H ρ) (hn : H l = none) : ¬ c.N0 l := fun m => by
  obtain ⟨o, e, _⟩ := S.n0 l m
  rw [hn] at e; cases e
theorem sds_parO {i j o : Nat} (h : DAO X op m es ta ta') (ho : (m = 0 ∧ o = i) ∨ (m = 1 ∧ o = j)) (hij : i ≠ j) (n1 : noOp op i = true) (n2 : noOp op j = true) (m1 : noOp po i = true) (m2 : noOp po j = true) :
    SdS X.K lp po op ((o, kL) :: op) (tPar i j ta) (dPar i j (dNewAt o ta')) := fun c F σ H ρ E R pv S w k => by
  refine h.sd c F σ H ρ _ S w _ fun vs H1 ⟨vs1, vs2, ds1, ds2, ls, l, xs, ρ1, F1, ev, hm, S1, t1, hn, e, hl, h1, h2, hol, w1⟩ => ?_
  have nl := not_n0 S hn
  rcases ho with ⟨rfl, rfl⟩ | ⟨rfl, rfl⟩
  · match vs1, ds1, h1 with
    | [], [], .nil =>
      match ds2, vs2, h2, w1 with
      | [y], [u], .cons hy .nil, w1 =>
        refine ⟨_, u, ev, ?_⟩
        have S2 := S1.set hy (noOp_ne n2) (pv_ne (c := c.add l) pv m2)
        have S3 := S2.holdL e hl (by simpa using hol) n1 (pv_ne pv m1) nl
        rw [List.set_comm _ _ (Ne.symm hij), List.set_comm (l := ρ1) _ _ (Ne.symm hij)] at S3
        exact k.nx _ _ ⟨_, _, S3, hold_trn (trn_or t1 hn) n1, w1⟩
  · match vs1, ds1, h1 with
    | [v], [x], .cons hx .nil =>
      match ds2, vs2, h2, w1 with
      | [], [], .nil, w1 =>
        refine ⟨v, _, ev, ?_⟩
        have S2 := S1.set hx (noOp_ne n1) (pv_ne (c := c.add l) pv m1)
        have S3 := S2.holdL e hl (by simpa using hol) n2 (pv_ne pv m2) nl
        exact k.nx _ _ ⟨_, _, S3, hold_trn (trn_or t1 hn) n2, w1⟩
theorem ds_parO {i j o : Nat} {x y : Str} {kt k2 pt2} (hc : X.calm = true) (hN : X.N.Nodup) (ha : DAO X op m [a, b] ta ta') (ho : (m = 0 ∧ o = i) ∨ (m = 1 ∧ o = j)) (hi : X.N[i]? = some x := by rfl) (hj : X.N[j]? = some y := by rfl) (hij : i ≠ j := by decide) (hx : X.env.scope.names.lookup x = some .local := by rfl) (hy : X.env.scope.names.lookup y = some .local := by rfl)
    (hw : swappedStores [.Tuple [.Name x px, .Name y py] kt pt] (.Tuple [a, b] k2 pt2) X.env = pure (some [x, y]) := by rfl) (hs : swapsWithSole [.Tuple [.Name x px, .Name y py] kt pt] (.Tuple [a, b] k2 pt2) pos.line X.env = pure false := by rfl)
    (n1 : noOp op i = true := by rfl) (n2 : noOp op j = true := by rfl) (m1 : noOp po i = true := by rfl) (m2 : noOp po j = true := by rfl) :
    DS X lp po op ((o, kL) :: op) (.Assign [.Tuple [.Name x px, .Name y py] kt pt] (.Tuple [a, b] k2 pt2) pos) (tPar i j ta) (dPar i j (dNewAt o ta')) := ⟨ps_par hc hN hi hj hij hx hy ha.pa hw hs, sds_parO ha ho hij n1 n2 m1 m2⟩
theorem sds_par3O {i j r : Nat} (h : DAO X op 0 es ta ta') (hij : i ≠ j) (hir : i ≠ r) (n1 : noOp op i = true) (n2 : noOp op j = true) (n3 : noOp op r = true) (m1 : noOp po i = true) (m2 : noOp po j = true) (m3 : noOp po r = true) :
    SdS X.K lp po op ((i, kL) :: op) (tPar3 i j r ta) (dPar3 i j r (dNewAt i ta')) := fun c F σ H ρ E R pv S w k => by
  refine h.sd c F σ H ρ _ S w _ fun vs H1 ⟨vs1, vs2, ds1, ds2, ls, l, xs, ρ1, F1, ev, hm, S1, t1, hn, e, hl, h1, h2, hol, w1⟩ => ?_
  have nl := not_n0 S hn
  match vs1, ds1, h1 with
  | [], [], .nil =>
    match ds2, vs2, h2, w1 with
    | [y, z], [u, v], .cons hy (.cons hz .nil), w1 =>
      refine ⟨_, u, v, ev, ?_⟩
      have S2 := (S1.set hy (noOp_ne n2) (pv_ne (c := c.add l) pv m2)).set hz (noOp_ne n3) (pv_ne (c := c.add l) pv m3)
      have S3 := S2.holdL e hl (by simpa using hol) n1 (pv_ne pv m1) nl
      rw [List.set_comm _ _ (Ne.symm hir), List.set_comm (l := σ) _ _ (Ne.symm hij), List.set_comm (l := ρ1.set j _) _ _ (Ne.symm hir), List.set_comm (l := ρ1) _ _ (Ne.symm hij)] at S3
      exact k.nx _ _ ⟨_, _, S3, hold_trn (trn_or t1 hn) n1, w1⟩
theorem ds_par3O {i j l : Nat} {x y z : Str} {kt k2 pt2} (hc : X.calm = true) (hN : X.N.Nodup) (ha : DAO X op 0 [a, b, c] ta ta') (hi : X.N[i]? = some x := by rfl) (hj : X.N[j]? = some y := by rfl) (hl : X.N[l]? = some z := by rfl) (hij : i ≠ j := by decide) (hil : i ≠ l := by decide) (hjl : j ≠ l := by decide)
    (hx : X.env.scope.names.lookup x = some .local := by rfl) (hy : X.env.scope.names.lookup y = some .local := by rfl) (hz : X.env.scope.names.lookup z = some .local := by rfl)
    (hw : swappedStores [.Tuple [.Name x px, .Name y py, .Name z pz] kt pt] (.Tuple [a, b, c] k2 pt2) X.env = pure (some [x, y, z]) := by rfl) (hs : swapsWithSole [.Tuple [.Name x px, .Name y py, .Name z pz] kt pt] (.Tuple [a, b, c] k2 pt2) pos.line X.env = pure false := by rfl)
    (n1 : noOp op i = true := by rfl) (n2 : noOp op j = true := by rfl) (n3 : noOp op l = true := by rfl) (m1 : noOp po i = true := by rfl) (m2 : noOp po j = true := by rfl) (m3 : noOp po l = true := by rfl) :
    DS X lp po op ((i, kL) :: op) (.Assign [.Tuple [.Name x px, .Name y py, .Name z pz] kt pt] (.Tuple [a, b, c] k2 pt2) pos) (tPar3 i j l ta) (dPar3 i j l (dNewAt i ta')) := ⟨ps_par3 hc hN hi hj hl hij hil hjl hx hy hz ha.pa hw hs, sds_par3O ha hij hil n1 n2 n3 m1 m2 m3⟩
/-- x += e of ints -/
def dAug (i : Nat) (g : Int → Int → Int) (t : DTE) : DTS := fun E ρ => At ρ i fun x => t ρ fun y ρ1 => match x, y with | .int a, .int b => E.nx (ρ1.set i (some (.int (g a b)))) | _, _ => False
theorem sds_aug {i : Nat} {g : Int → Int → Int} (he : Sd X.K op te [] [] q te') (n1 : noOp op i = true) (n2 : noOp po i = true) : SdS X.K lp po op op (tAug i te (ipI g)) (dAug i g te') := fun c F σ H ρ E R pv S w k => by
  obtain ⟨x, e, w⟩ := w.ex
  obtain ⟨v, e1, hv⟩ := S.fr i x e (noOp_ne n1)
  refine ⟨v, e1, he c F σ H ρ _ S w _ fun u H1 ⟨y, ρ1, F1, st, hy, w1⟩ => ?_⟩
  have sh : ∃ a0 b0, x = .int a0 ∧ y = .int b0 := by cases x <;> cases y <;> first | exact ⟨_, _, rfl, rfl⟩ | exact w1.elim
  obtain ⟨a0, b0, rfl, rfl⟩ := sh
  cases hv
  exact ⟨a0, b0, rfl, hy.int, k.nx _ _ ⟨_, F1, st.sim.set (.int _) (noOp_ne n1) (pv_ne pv n2), st.trn, w1⟩⟩
theorem ds_aug {i : Nat} {x : Str} {o : Operator} {g : Int → Int → Int} {pos' : Pos} (hN : X.N.Nodup) (ho : PIp X o (ipI g)) (he : DE X op e te [] [] q te') (hi : X.N[i]? = some x := by rfl) (hx : Loc X.env.scope x := by first | exact Or.inl rfl | exact Or.inr rfl) (n1 : noOp op i = true := by rfl) (n2 : noOp po i = true := by rfl)
    (hf : X.fn x = true ∨ X.env.scope.names.lookup x = some .local := by first | exact .inl rfl | exact .inr rfl | assumption) : DS X lp po op op (.AugAssign (.Name x pos') o e pos) (tAug i te (ipI g)) (dAug i g te') := ⟨ps_aug hN hi hx he.pe ho hf, sds_aug he.sd n1 n2⟩
end
theorem cdiv {i j : Int} (h1 : 0 < j) (h2 : j < 1073741824) : CDiv i j := ⟨h1, h2⟩
theorem cpow18 : CPow 10 18 := by unfold CPow; decide
theorem two64 : (2 : Int) ^ 64 = 18446744073709551616 := by decide
theorem cmul_l {i j : Int} (h1 : -18446744073709551616 < i) (h2 : i < 18446744073709551616) : CMul i j := .inl (by rw [two64]; exact ⟨h1, h2⟩)
theorem cmul_r {i j : Int} (h1 : -18446744073709551616 < j) (h2 : j < 18446744073709551616) : CMul i j := .inr (by rw [two64]; exact ⟨h1, h2⟩)
/-! ### what may be compared; when it is alike -/
structure Cd (n : Nat) (d : D) : Prop where
  nd : noDic d = true
  lay : (pyD d).canLay0 = true
  dep : (pyD d).depth ≤ n
theorem Cd.sh {n : Nat} {d : D} (h : Cd n d) (hn : n ≤ 64 := by decide) : shD d = true := by
  unfold shD SeqAt.shaped
  rw [h.nd, h.lay, decide_eq_true (Nat.le_trans h.dep hn)]
  rfl
theorem Cd.le {n m : Nat} {d : D} (h : Cd n d) (k : n ≤ m) : Cd m d := ⟨h.nd, h.lay, Nat.le_trans h.dep k⟩
theorem cd_none {n : Nat} : Cd n .none := ⟨rfl, rfl, Nat.zero_le _⟩
theorem cd_bool {n : Nat} {b : Bool} : Cd n (.bool b) := ⟨rfl, rfl, Nat.zero_le _⟩
theorem cd_int {n : Nat} {i : Int} : Cd n (.int i) := ⟨rfl, rfl, Nat.zero_le _⟩
theorem cd_str {n : Nat} {x : Str} (h : PyData.strOk x = true) : Cd n (.str x) := ⟨rfl, h, Nat.zero_le _⟩
theorem cd_all {n : Nat} : ∀ {ds : List D}, (∀ d ∈ ds, Cd n d) → noDicA ds = true ∧ PyData.canLayAll0 (pyA ds) = true ∧ PyData.depthAll (pyA ds) ≤ n
  | [], _ => ⟨rfl, rfl, Nat.zero_le _⟩
  | d :: ds, h => by
    obtain ⟨h1, h2, h3⟩ := cd_all (fun e he => h e (List.mem_cons_of_mem _ he))
    have g := h d List.mem_cons_self
    refine ⟨by unfold noDicA; rw [g.nd, h1]; rfl, by unfold pyA PyData.canLayAll0; rw [g.lay, h2]; rfl, ?_⟩
    have := g.dep
    unfold pyA
    simp only [PyData.depthAll]
    omega
theorem cd_list {n : Nat} {ds : List D} (h : ∀ d ∈ ds, Cd n d) : Cd (n + 1) (.list ds) := by
  obtain ⟨h1, h2, h3⟩ := cd_all h
  refine ⟨by unfold noDic; exact h1, by unfold pyD PyData.canLay0; exact h2, ?_⟩
  unfold pyD PyData.depth
  omega
theorem cd_tuple {n : Nat} {ds : List D} (h : ∀ d ∈ ds, Cd n d) : Cd (n + 1) (.tuple ds) := by
  obtain ⟨h1, h2, h3⟩ := cd_all h
  refine ⟨by unfold noDic; exact h1, by unfold pyD PyData.canLay0; exact h2, ?_⟩
  unfold pyD PyData.depth
  omega
theorem cd_ints (ns : List Int) : Cd 1 (.list (ns.map D.int)) := cd_list (n := 0) fun d h => by
  obtain ⟨i, _, rfl⟩ := List.mem_map.mp h
  exact cd_int
theorem shaped_ints (ns : List Int) : shD (.list (ns.map D.int)) = true := (cd_ints ns).sh
mutual
/-- no truths in it -/
def noBl : D → Bool
  | .bool _ => false
  | .list ds => noBlA ds
  | .tuple ds => noBlA ds
  | _ => true
def noBlA : List D → Bool
  | [] => true
  | d :: ds => noBl d && noBlA ds
end
mutual
theorem eqD_iff : ∀ (d e : D), noDic d = true → noDic e = true → noBl d = true → noBl e = true → (eqD d e = true ↔ d = e)
  | .none, e, h1, h2, h3, h4 => by cases e <;> first | (cases h2; done) | (cases h4; done) | simp [eqD, pyD, PyData.eqv]
  | .bool b, e, h1, h2, h3, h4 => by cases h3
  | .int i, e, h1, h2, h3, h4 => by cases e <;> first | (cases h2; done) | (cases h4; done) | simp [eqD, pyD, PyData.eqv]
  | .str x, e, h1, h2, h3, h4 => by cases e <;> first | (cases h2; done) | (cases h4; done) | simp [eqD, pyD, PyData.eqv]
  | .list xs, e, h1, h2, h3, h4 => by
    cases e <;> first | (cases h2; done) | (cases h4; done) | (simp [eqD, pyD, PyData.eqv]; done) | skip
    rename_i ys
    have := eqD_all xs ys (by unfold noDic at h1; exact h1) (by unfold noDic at h2; exact h2) (by unfold noBl at h3; exact h3) (by unfold noBl at h4; exact h4)
    rw [show eqD (.list xs) (.list ys) = PyData.eqvAll (pyA xs) (pyA ys) by simp [eqD, pyD, PyData.eqv], this]
    simp
  | .tuple xs, e, h1, h2, h3, h4 => by
    cases e <;> first | (cases h2; done) | (cases h4; done) | (simp [eqD, pyD, PyData.eqv]; done) | skip
    rename_i ys
    have := eqD_all xs ys (by unfold noDic at h1; exact h1) (by unfold noDic at h2; exact h2) (by unfold noBl at h3; exact h3) (by unfold noBl at h4; exact h4)
    rw [show eqD (.tuple xs) (.tuple ys) = PyData.eqvAll (pyA xs) (pyA ys) by simp [eqD, pyD, PyData.eqv], this]
    simp
  | .dict _, _, h1, _, _, _ => by cases h1
  | .obj _ _, _, h1, _, _, _ => by cases h1
  | .exc _ _, _, h1, _, _, _ => by cases h1
  | .glo _, _, h1, _, _, _ => by cases h1
  | .ty _, _, h1, _, _, _ => by cases h1
  | .raw _, _, h1, _, _, _ => by cases h1
theorem eqD_all : ∀ (xs ys : List D), noDicA xs = true → noDicA ys = true → noBlA xs = true → noBlA ys = true → (PyData.eqvAll (pyA xs) (pyA ys) = true ↔ xs = ys)
  | [], [], _, _, _, _ => by simp [pyA, PyData.eqvAll]
  | [], _ :: _, _, _, _, _ => by simp [pyA, PyData.eqvAll]
  | _ :: _, [], _, _, _, _ => by simp [pyA, PyData.eqvAll]
  | x :: xs, y :: ys, h1, h2, h3, h4 => by
    unfold noDicA at h1 h2
    unfold noBlA at h3 h4
    obtain ⟨a1, b1⟩ := Bool.and_eq_true_iff.mp h1
    obtain ⟨a2, b2⟩ := Bool.and_eq_true_iff.mp h2
    obtain ⟨a3, b3⟩ := Bool.and_eq_true_iff.mp h3
    obtain ⟨a4, b4⟩ := Bool.and_eq_true_iff.mp h4
    have i1 := eqD_iff x y a1 a2 a3 a4
    have i2 := eqD_all xs ys b1 b2 b3 b4
    rw [show PyData.eqvAll (pyA (x :: xs)) (pyA (y :: ys)) = (eqD x y && PyData.eqvAll (pyA xs) (pyA ys)) by simp [pyA, PyData.eqvAll, eqD], Bool.and_eq_true, i1, i2]
    simp
end
/-- what is comparable without truths -/
structure Nb (n : Nat) (d : D) : Prop extends Cd n d where
  nb : noBl d = true
theorem nb_all {n : Nat} : ∀ {ds : List D}, (∀ d ∈ ds, Nb n d) → noBlA ds = true
  | [], _ => rfl
  | d :: ds, h => by
    unfold noBlA
    rw [(h d List.mem_cons_self).nb, nb_all fun e he => h e (List.mem_cons_of_mem _ he)]
    rfl
theorem nb_none {n : Nat} : Nb n .none := ⟨cd_none, rfl⟩
theorem nb_int {n : Nat} {i : Int} : Nb n (.int i) := ⟨cd_int, rfl⟩
theorem nb_str {n : Nat} {x : Str} (h : PyData.strOk x = true) : Nb n (.str x) := ⟨cd_str h, rfl⟩
theorem nb_list {n : Nat} {ds : List D} (h : ∀ d ∈ ds, Nb n d) : Nb (n + 1) (.list ds) := ⟨cd_list fun d hd => (h d hd).toCd, by unfold noBl; exact nb_all h⟩
theorem nb_tuple {n : Nat} {ds : List D} (h : ∀ d ∈ ds, Nb n d) : Nb (n + 1) (.tuple ds) := ⟨cd_tuple fun d hd => (h d hd).toCd, by unfold noBl; exact nb_all h⟩
theorem Nb.le {n m : Nat} {d : D} (h : Nb n d) (k : n ≤ m) : Nb m d := ⟨h.toCd.le k, h.nb⟩
theorem Nb.iff {n m : Nat} {d e : D} (h : Nb n d) (g : Nb m e) : eqD d e = true ↔ d = e := eqD_iff d e h.nd g.nd h.nb g.nb
theorem Nb.refl {n : Nat} {d : D} (h : Nb n d) : eqD d d = true := (h.iff h).mpr rfl
theorem nb_ints (ns : List Int) : Nb 1 (.list (ns.map D.int)) := nb_list (n := 0) fun d h => by
  obtain ⟨i, _, rfl⟩ := List.mem_map.mp h
  exact nb_int
theorem ints_inj {ns ms : List Int} (h : ns.map D.int = ms.map D.int) : ns = ms := by
  induction ns generalizing ms with
  | nil => cases ms with
    | nil => rfl
    | cons _ _ => cases h
  | cons n ns ih => cases ms with
    | nil => cases h
    | cons m ms =>
      simp only [List.map_cons, List.cons.injEq, D.int.injEq] at h
      rw [h.1, ih h.2]
theorem eqv_intsL (ns ms : List Int) : eqD (.list (ns.map D.int)) (.list (ms.map D.int)) = decide (ns = ms) := by
  have := (nb_ints ns).iff (nb_ints ms)
  by_cases h : ns = ms
  · subst h
    rw [this.mpr rfl, decide_eq_true rfl]
  · rw [decide_eq_false h]
    cases e : eqD (.list (ns.map D.int)) (.list (ms.map D.int)) with
    | false => rfl
    | true => exact absurd (ints_inj (by simpa using this.mp e)) h
/-- an item of a list of ints -/
theorem at_mod {cs : List Int} {t : Int} (h : 0 < ((cs.map D.int).length : Int)) : ∃ x, x ∈ cs ∧ atI (cs.map D.int) (t % ((cs.map D.int).length : Int)) = some (.int x) := by
  have h0 := Int.emod_nonneg t (b := ((cs.map D.int).length : Int)) (by omega)
  have h1 := Int.emod_lt_of_pos t h
  obtain ⟨j, hj⟩ := Int.eq_ofNat_of_zero_le h0
  have hl : j < cs.length := by
    rw [hj, List.length_map] at h1
    omega
  refine ⟨cs[j], List.getElem_mem hl, ?_⟩
  rw [hj]
  unfold atI ixN
  have e1 : (0 : Int) ≤ (j : Int) := by omega
  have e2 : (j : Int) < ((cs.map D.int).length : Int) := by rw [List.length_map]; omega
  rw [if_pos e1, if_pos e2]
  simp [hl]
end Vt
namespace Vt
open PySem PySem.Spec L2
variable [WorldC]
theorem opt_all {α : Type} {ds : List α} {t m : Int} {F : α → Prop} (P : α → Prop) (hm : m = (ds.length : Int)) (h0 : 0 < m) (h : ∀ d ∈ ds, P d) (q : ∀ d, P d → F d) : Opt (atI ds (t % m)) F := by
  have h1 := Int.emod_nonneg t (b := m) (by omega)
  have h2 := Int.emod_lt_of_pos t h0
  obtain ⟨j, hj⟩ := Int.eq_ofNat_of_zero_le h1
  have hl : j < ds.length := by omega
  refine opt (a := ds[j]) ?_ (q _ (h _ (List.getElem_mem hl)))
  rw [hj]
  unfold atI ixN
  rw [if_pos (by omega), if_pos (by omega)]
  simp [hl]
theorem opt_ix {α : Type} {ds : List α} {i : Int} {F : α → Prop} (h0 : 0 ≤ i) (h1 : i < (ds.length : Int)) (q : ∀ d, d ∈ ds → F d) : Opt (atI ds i) F := by
  obtain ⟨j, hj⟩ := Int.eq_ofNat_of_zero_le h0
  have hl : j < ds.length := by omega
  refine opt (a := ds[j]) ?_ (q _ (List.getElem_mem hl))
  rw [hj]
  unfold atI ixN
  rw [if_pos (by omega), if_pos (by omega)]
  simp [hl]
theorem opt_nat {α : Type} {ds : List α} {i : Int} {F : α → Prop} (h0 : 0 ≤ i) (h1 : i < (ds.length : Int)) (q : ∀ (h : i.toNat < ds.length), F ds[i.toNat]) : Opt (atI ds i) F := by
  have hl : i.toNat < ds.length := by omega
  refine opt (a := ds[i.toNat]) ?_ (q hl)
  unfold atI ixN
  rw [if_pos h0, if_pos h1]
  simp [hl]
end Vt
namespace Vt
open PySem PySem.Spec L2
variable [WorldC]
theorem cmul_m {a y b : Int} (h0 : 0 < y) (h1 : y < 18446744073709551616) : CMul (a % y) b := cmul_l (by have := Int.emod_nonneg a (b := y) (by omega); omega) (by have := Int.emod_lt_of_pos a h0; omega)
end Vt
namespace Vt
open PySem PySem.Spec L2
variable [WorldC]
/-! ### loops of readings, by what holds between two turns -/
theorem for_go {g : DTG} {body : DTS} {E : DEnds} {all : List D} (Pv : Nat → DEnv → Prop)
    (hs : ∀ (i : Nat) (d : D) (ρ : DEnv) (N : DEnv → Prop), all[i]? = some d → Pv i ρ → (∀ ρ', Pv (i + 1) ρ' → N ρ') → g d ρ fun ρ1 => body { E with nx := N, ct := N, bk := E.nx } ρ1)
    (hd : ∀ ρ, Pv all.length ρ → E.nx ρ) : ∀ (rest : List D) (i : Nat) (ρ : DEnv), i + rest.length = all.length → (∀ k, rest[k]? = all[i + k]?) → Pv i ρ → dForL g body E rest ρ
  | [], i, ρ, e, _, h => by
    unfold dForL
    have : i = all.length := by simpa using e
    exact hd _ (this ▸ h)
  | d :: rest, i, ρ, e, k, h => by
    unfold dForL
    refine hs i d ρ _ (by have := k 0; simpa using this.symm) h fun ρ' h' => for_go Pv hs hd rest (i + 1) ρ' (by simp at e; omega) (fun j => ?_) h'
    have := k (j + 1)
    rw [List.getElem?_cons_succ] at this
    rw [this]
    congr 1
    omega
theorem for_inv {g : DTG} {body : DTS} {E : DEnds} {ds : List D} {ρ : DEnv} (Pv : Nat → DEnv → Prop) (h0 : Pv 0 ρ)
    (hs : ∀ (i : Nat) (d : D) (ρ : DEnv) (N : DEnv → Prop), ds[i]? = some d → Pv i ρ → (∀ ρ', Pv (i + 1) ρ' → N ρ') → g d ρ fun ρ1 => body { E with nx := N, ct := N, bk := E.nx } ρ1)
    (hd : ∀ ρ, Pv ds.length ρ → E.nx ρ) : dLoop g body E ds ρ := by
  unfold dLoop
  exact for_go Pv hs hd ds 0 ρ (by simp) (by simp) h0
/-- over lo, lo + 1, .. -/
theorem for_rng {g : DTG} {body : DTS} {E : DEnds} {lo : Int} {n : Nat} {ρ : DEnv} (Pv : Nat → DEnv → Prop) (h0 : Pv 0 ρ)
    (hs : ∀ (i : Nat) (ρ : DEnv) (N : DEnv → Prop), i < n → Pv i ρ → (∀ ρ', Pv (i + 1) ρ' → N ρ') → g (.int (lo + i)) ρ fun ρ1 => body { E with nx := N, ct := N, bk := E.nx } ρ1)
    (hd : ∀ ρ, Pv n ρ → E.nx ρ) : dLoop g body E (rangeD lo n) ρ := by
  have hl : (rangeD lo n).length = n := by simp [rangeD]
  refine for_inv Pv h0 (fun i d ρ N e h k => ?_) (fun ρ h => hd ρ (hl ▸ h))
  rw [range_get] at e
  by_cases z : i < n
  · rw [if_pos z] at e
    cases e
    exact hs i ρ N z h k
  · rw [if_neg z] at e; cases e
theorem while_inv {c : DTT} {body : DTS} {E : DEnds} {ρ : DEnv} (Pv : Nat → DEnv → Prop) {m : Nat} (h0 : Pv m ρ)
    (hs : ∀ (m : Nat) (ρ : DEnv) (N : DEnv → Prop), Pv m ρ → (∀ m' ρ', m' < m → Pv m' ρ' → N ρ') → c ρ fun b ρ1 => Br b (body { E with nx := N, ct := N, bk := E.nx } ρ1) (E.nx ρ1)) : dWhile c body E ρ := by
  have main : ∀ n m ρ, m < n → Pv m ρ → dWhN c body E n ρ := by
    intro n
    induction n with
    | zero => intro m ρ h; omega
    | succ n ih =>
      intro m ρ h p
      unfold dWhN
      exact hs m ρ _ p fun m' ρ' hm' p' => ih m' ρ' (by omega) p'
  unfold dWhile
  exact ⟨m + 1, main (m + 1) m ρ (by omega) h0⟩
/-- a comprehension that changes nothing -/
theorem lc_fun {g : DTG} {tt : DTT} {te : DTE} {vs : List Nat} {Q : List D → DEnv → Prop} {ρ : DEnv} (p : D → Bool) (f : D → D) : ∀ (ds acc : List D), acc.length + ds.length ≤ sizeLine →
    (∀ d ∈ ds, ∀ (N : List D → DEnv → Prop) (acc : List D), acc.length < sizeLine → (if p d = true then N (acc ++ [f d]) ρ else N acc ρ) → g d (wipeD ρ vs) fun ρ1 => tt ρ1 fun b ρ2 => Br b (te ρ2 fun y ρ3 => acc.length < sizeLine ∧ N (acc ++ [y]) (backD ρ ρ3 vs)) (N acc (backD ρ ρ2 vs))) →
    Q (acc ++ (ds.filter p).map f) ρ → dLcL g tt te vs Q ds acc ρ
  | [], acc, _, _, q => by
    unfold dLcL
    simpa using q
  | d :: ds, acc, hl, h, q => by
    unfold dLcL
    simp only [List.length_cons] at hl
    refine h d (by simp) (fun a ρ' => dLcL g tt te vs Q ds a ρ') acc (by omega) ?_
    by_cases hp : p d = true
    · rw [if_pos hp]
      refine lc_fun p f ds (acc ++ [f d]) (by simp; omega) (fun d' m => h d' (List.mem_cons_of_mem _ m)) ?_
      simpa [hp] using q
    · rw [if_neg hp]
      refine lc_fun p f ds acc (by omega) (fun d' m => h d' (List.mem_cons_of_mem _ m)) ?_
      simpa [hp] using q
/-- by what holds between two turns -/
theorem lc_go {g : DTG} {tt : DTT} {te : DTE} {vs : List Nat} {Q : List D → DEnv → Prop} {all : List D} (Pv : Nat → List D → DEnv → Prop) (hz : all.length ≤ sizeLine)
    (hs : ∀ (i : Nat) (d : D) (acc : List D) (ρ : DEnv) (N : List D → DEnv → Prop), all[i]? = some d → acc.length ≤ i → Pv i acc ρ → (∀ acc' ρ', acc'.length ≤ i + 1 → Pv (i + 1) acc' ρ' → N acc' ρ') →
      g d (wipeD ρ vs) fun ρ1 => tt ρ1 fun b ρ2 => Br b (te ρ2 fun y ρ3 => acc.length < sizeLine ∧ N (acc ++ [y]) (backD ρ ρ3 vs)) (N acc (backD ρ ρ2 vs)))
    (hd : ∀ acc ρ, Pv all.length acc ρ → Q acc ρ) : ∀ (rest : List D) (i : Nat) (acc : List D) (ρ : DEnv), i + rest.length = all.length → (∀ k, rest[k]? = all[i + k]?) → acc.length ≤ i → Pv i acc ρ → dLcL g tt te vs Q rest acc ρ
  | [], i, acc, ρ, e, _, _, h => by
    unfold dLcL
    have : i = all.length := by simpa using e
    exact hd _ _ (this ▸ h)
  | d :: rest, i, acc, ρ, e, k, ha, h => by
    unfold dLcL
    refine hs i d acc ρ (fun a ρ' => dLcL g tt te vs Q rest a ρ') (by have := k 0; simpa using this.symm) ha h fun acc' ρ' ha' h' => lc_go Pv hz hs hd rest (i + 1) acc' ρ' (by simp at e; omega) (fun j => ?_) ha' h'
    have := k (j + 1)
    rw [List.getElem?_cons_succ] at this
    rw [this]
    congr 1
    omega
theorem lc_inv {g : DTG} {tt : DTT} {te : DTE} {vs : List Nat} {Q : List D → DEnv → Prop} {ds : List D} {ρ : DEnv} (Pv : Nat → List D → DEnv → Prop) (hz : ds.length ≤ sizeLine) (h0 : Pv 0 [] ρ)
    (hs : ∀ (i : Nat) (d : D) (acc : List D) (ρ : DEnv) (N : List D → DEnv → Prop), ds[i]? = some d → acc.length ≤ i → Pv i acc ρ → (∀ acc' ρ', acc'.length ≤ i + 1 → Pv (i + 1) acc' ρ' → N acc' ρ') →
      g d (wipeD ρ vs) fun ρ1 => tt ρ1 fun b ρ2 => Br b (te ρ2 fun y ρ3 => acc.length < sizeLine ∧ N (acc ++ [y]) (backD ρ ρ3 vs)) (N acc (backD ρ ρ2 vs)))
    (hd : ∀ acc ρ, Pv ds.length acc ρ → Q acc ρ) : dPick g tt te vs Q ds ρ := by
  unfold dPick
  exact lc_go Pv hz hs hd ds 0 [] ρ (by simp) (by simp) (by simp) h0
/-- .. over lo, lo + 1, .. -/
theorem lc_rng {g : DTG} {tt : DTT} {te : DTE} {vs : List Nat} {Q : List D → DEnv → Prop} {lo : Int} {n : Nat} {ρ : DEnv} (Pv : Nat → List D → DEnv → Prop) (hz : n ≤ sizeLine) (h0 : Pv 0 [] ρ)
    (hs : ∀ (i : Nat) (acc : List D) (ρ : DEnv) (N : List D → DEnv → Prop), i < n → acc.length ≤ i → Pv i acc ρ → (∀ acc' ρ', acc'.length ≤ i + 1 → Pv (i + 1) acc' ρ' → N acc' ρ') →
      g (.int (lo + i)) (wipeD ρ vs) fun ρ1 => tt ρ1 fun b ρ2 => Br b (te ρ2 fun y ρ3 => acc.length < sizeLine ∧ N (acc ++ [y]) (backD ρ ρ3 vs)) (N acc (backD ρ ρ2 vs)))
    (hd : ∀ acc ρ, Pv n acc ρ → Q acc ρ) : dPick g tt te vs Q (rangeD lo n) ρ := by
  have hl : (rangeD lo n).length = n := by simp [rangeD]
  refine lc_inv Pv (by rw [hl]; exact hz) h0 (fun i d acc ρ N e ha h k => ?_) (fun acc ρ h => hd acc ρ (hl ▸ h))
  rw [range_get] at e
  by_cases z : i < n
  · rw [if_pos z] at e
    cases e
    exact hs i acc ρ N z ha h k
  · rw [if_neg z] at e; cases e
/-! ### turn by turn -/
theorem loop_nil {g : DTG} {body : DTS} {E : DEnds} {ρ : DEnv} (h : E.nx ρ) : dLoop g body E [] ρ := by
  unfold dLoop dForL
  exact h
theorem loop_cons {g : DTG} {body : DTS} {E : DEnds} {d : D} {ds : List D} {ρ : DEnv} (h : g d ρ fun ρ1 => body { E with nx := fun ρ2 => dLoop g body E ds ρ2, ct := fun ρ2 => dLoop g body E ds ρ2, bk := E.nx } ρ1) : dLoop g body E (d :: ds) ρ := by
  unfold dLoop dForL
  unfold dLoop at h
  exact h
/-- a picking that changes nothing -/
theorem pick_fun {g : DTG} {tt : DTT} {te : DTE} {vs : List Nat} {Q : List D → DEnv → Prop} {ρ : DEnv} {ds : List D} (p : D → Bool) (f : D → D) (hz : ds.length ≤ sizeLine)
    (h : ∀ d ∈ ds, ∀ (N : List D → DEnv → Prop) (acc : List D), acc.length < sizeLine → (if p d = true then N (acc ++ [f d]) ρ else N acc ρ) → g d (wipeD ρ vs) fun ρ1 => tt ρ1 fun b ρ2 => Br b (te ρ2 fun y ρ3 => acc.length < sizeLine ∧ N (acc ++ [y]) (backD ρ ρ3 vs)) (N acc (backD ρ ρ2 vs)))
    (q : Q ((ds.filter p).map f) ρ) : dPick g tt te vs Q ds ρ := by
  unfold dPick
  exact lc_fun p f ds [] (by simpa using hz) h (by simpa using q)
section
variable {X : Cx} {lp : Jc} {po op : Op} {elt tg iter : Expr} {ifs : List Expr} {pos : Pos} {wi : TI} {it' : DTA} {g : TG} {g' : DTG} {tt : TT} {tt' : DTT} {te : TE} {te' : DTE} {q : Bool} {vs gs : List Nat}
variable {scope : Scope} {own : List (Str × Nat)}
/-! ### a comprehension's parts may be told at each block anew -/
theorem dg_all {G : Shared → Hp → Addr → List (Str × Addr) → List Addr → TG} {s : Shared} {H : Hp} {C : Addr} {cl : List (Str × Addr)} {fp : List Addr} (h : ∀ (s : Shared) (H : Hp) (C : Addr) (cl : List (Str × Addr)) (fp : List Addr), DG (X.blk s H scope (compEnvC scope cl C X.env) fp) [] op tg gs (G s H C cl fp) g') :
    DG (X.blk s H scope (compEnvC scope cl C X.env) fp) [] op tg gs (fun v σ H Q => ∀ (s : Shared) (H0 : Hp) (C : Addr) (cl : List (Str × Addr)) (fp : List Addr), G s H0 C cl fp v σ H Q) g' :=
  ⟨⟨fun pins s1 σ H1 v u Q I r w => (h s H C cl fp).pg.run pins s1 σ H1 v u Q I r (w s H C cl fp)⟩, fun c F σ H1 ρ v d Q pv S hd w R hR s2 H2 C2 cl2 fp2 => (h s2 H2 C2 cl2 fp2).sd c F σ H1 ρ v d Q pv S hd w R hR⟩
theorem dts_all {G : Shared → Hp → Addr → List (Str × Addr) → List Addr → TT} {s : Shared} {H : Hp} {C : Addr} {cl : List (Str × Addr)} {fp : List Addr} (h : ∀ (s : Shared) (H : Hp) (C : Addr) (cl : List (Str × Addr)) (fp : List Addr), DTs (X.blk s H scope (compEnvC scope cl C X.env) fp) op ifs (G s H C cl fp) tt') :
    DTs (X.blk s H scope (compEnvC scope cl C X.env) fp) op ifs (fun σ H Q => ∀ (s : Shared) (H0 : Hp) (C : Addr) (cl : List (Str × Addr)) (fp : List Addr), G s H0 C cl fp σ H Q) tt' :=
  ⟨⟨fun pins s1 σ H1 Q I w => (h s H C cl fp).pts.run pins s1 σ H1 Q I (w s H C cl fp)⟩, fun c F σ H1 ρ Q S w R hR s2 H2 C2 cl2 fp2 => (h s2 H2 C2 cl2 fp2).sd c F σ H1 ρ Q S w R hR⟩
theorem de_all {G : Shared → Hp → Addr → List (Str × Addr) → List Addr → TE} {s : Shared} {H : Hp} {C : Addr} {cl : List (Str × Addr)} {fp : List Addr} (h : ∀ (s : Shared) (H : Hp) (C : Addr) (cl : List (Str × Addr)) (fp : List Addr), ∃ q, DE (X.blk s H scope (compEnvC scope cl C X.env) fp) op elt (G s H C cl fp) [] [] q te') :
    DE (X.blk s H scope (compEnvC scope cl C X.env) fp) op elt (fun σ H Q => ∀ (s : Shared) (H0 : Hp) (C : Addr) (cl : List (Str × Addr)) (fp : List Addr), G s H0 C cl fp σ H Q) [] [] false te' :=
  ⟨⟨fun pins s1 σ H1 Q I w => (h s H C cl fp).choose_spec.pe.run pins s1 σ H1 Q I (w s H C cl fp)⟩, fun c F σ H1 ρ Q S w R hR s2 H2 C2 cl2 fp2 => (h s2 H2 C2 cl2 fp2).choose_spec.sd c F σ H1 ρ Q S w R fun v H' ⟨d, ρ', F', st, z⟩ => hR v H' ⟨d, ρ', F', st.loud, z⟩⟩
theorem df_lcE (hc : X.calm = true) (hN : X.N.Nodup) (hi : DI X op tg iter wi it') (ok : BlkOk X.N X.env.scope scope own)
    (hg : ∀ (s : Shared) (H : Hp) (C : Addr) (cl : List (Str × Addr)) (fp : List Addr), ∃ g, DG (X.blk s H scope (compEnvC scope cl C X.env) fp) [] op tg gs g g') (ht : ∀ (s : Shared) (H : Hp) (C : Addr) (cl : List (Str × Addr)) (fp : List Addr), ∃ tt, DTs (X.blk s H scope (compEnvC scope cl C X.env) fp) op ifs tt tt')
    (he : ∀ (s : Shared) (H : Hp) (C : Addr) (cl : List (Str × Addr)) (fp : List Addr), ∃ te q, DE (X.blk s H scope (compEnvC scope cl C X.env) fp) op elt te [] [] q te') (n1 : noOps op (own.map (·.2)) = true := by rfl) (hgs : gs.all (fun i => (own.map (·.2)).contains i) = true := by rfl)
    (hs : ∀ x, foldedSetIterable iter X.env x = pure x := by intro _; rfl) : DF X op (.ListComp elt [⟨tg, iter, ifs, 0⟩] scope pos) (tLc wi (fun v σ H Q => ∀ (s : Shared) (H0 : Hp) (C : Addr) (cl : List (Str × Addr)) (fp : List Addr), (hg s H0 C cl fp).choose v σ H Q) (fun σ H Q => ∀ (s : Shared) (H0 : Hp) (C : Addr) (cl : List (Str × Addr)) (fp : List Addr), (ht s H0 C cl fp).choose σ H Q) (fun σ H Q => ∀ (s : Shared) (H0 : Hp) (C : Addr) (cl : List (Str × Addr)) (fp : List Addr), (he s H0 C cl fp).choose σ H Q) (own.map (·.2))) (dfLc it' g' tt' te' (own.map (·.2))) :=
  df_lc hc hN hi ok (fun s H C cl fp => dg_all fun s1 H1 C1 cl1 fp1 => (hg s1 H1 C1 cl1 fp1).choose_spec) (fun s H C cl fp => dts_all fun s1 H1 C1 cl1 fp1 => (ht s1 H1 C1 cl1 fp1).choose_spec) (fun s H C cl fp => de_all fun s1 H1 C1 cl1 fp1 => (he s1 H1 C1 cl1 fp1).choose_spec) n1 hgs hs
theorem dlcE {i : Nat} {y : Str} {py spos : Pos} (hc : X.calm = true) (hN : X.N.Nodup) (hi : DI X op tg iter wi it') (ok : BlkOk X.N X.env.scope scope own)
    (hg : ∀ (s : Shared) (H : Hp) (C : Addr) (cl : List (Str × Addr)) (fp : List Addr), ∃ g, DG (X.blk s H scope (compEnvC scope cl C X.env) fp) [] op tg gs g g') (ht : ∀ (s : Shared) (H : Hp) (C : Addr) (cl : List (Str × Addr)) (fp : List Addr), ∃ tt, DTs (X.blk s H scope (compEnvC scope cl C X.env) fp) op ifs tt tt')
    (he : ∀ (s : Shared) (H : Hp) (C : Addr) (cl : List (Str × Addr)) (fp : List Addr), ∃ te q, DE (X.blk s H scope (compEnvC scope cl C X.env) fp) op elt te [] [] q te') (hy : X.N[i]? = some y := by rfl) (hyl : X.env.scope.names.lookup y = some .local := by rfl)
    (hsw : swapsWith (.ListComp elt [⟨tg, iter, ifs, 0⟩] scope pos) (some (.Name y py)) spos.line X.env = pure true := by exact sw_true rfl rfl rfl (by decide +kernel)) (n1 : noOps op (own.map (·.2)) = true := by rfl) (hgs : gs.all (fun i => (own.map (·.2)).contains i) = true := by rfl)
    (hs : ∀ x, foldedSetIterable iter X.env x = pure x := by intro _; rfl) :
    DLc X op i (.Assign [.Name y py] (.ListComp elt [⟨tg, iter, ifs, 0⟩] scope pos) spos) (tLc wi (fun v σ H Q => ∀ (s : Shared) (H0 : Hp) (C : Addr) (cl : List (Str × Addr)) (fp : List Addr), (hg s H0 C cl fp).choose v σ H Q) (fun σ H Q => ∀ (s : Shared) (H0 : Hp) (C : Addr) (cl : List (Str × Addr)) (fp : List Addr), (ht s H0 C cl fp).choose σ H Q) (fun σ H Q => ∀ (s : Shared) (H0 : Hp) (C : Addr) (cl : List (Str × Addr)) (fp : List Addr), (he s H0 C cl fp).choose σ H Q) (own.map (·.2))) (dfLc it' g' tt' te' (own.map (·.2))) :=
  dlc hc hN hi ok (fun s H C cl fp => dg_all fun s1 H1 C1 cl1 fp1 => (hg s1 H1 C1 cl1 fp1).choose_spec) (fun s H C cl fp => dts_all fun s1 H1 C1 cl1 fp1 => (ht s1 H1 C1 cl1 fp1).choose_spec) (fun s H C cl fp => de_all fun s1 H1 C1 cl1 fp1 => (he s1 H1 C1 cl1 fp1).choose_spec) hy hyl hsw n1 hgs hs
end
end Vt
namespace Vt
open PySem PySem.Spec L2
variable [WorldC]
/-! ### calls with one lent place, nothing raised -/
section
variable {X : Cx} {op : Op} {e : Expr} {es : List Expr} {t : TA} {q : Bool} {g' : DTGP} {np i j k l : Nat} {spd : DSp} {s s' rs : Sh} {x : Str} {ps : List Str} {p pos : Pos}
def J0 (op : Op) : Jc := ⟨[], op, .leaf, fun _ _ _ _ => False⟩
theorem tk0 : Takes X (J0 op).W := fun u s' h => by
  obtain ⟨a, B, sI, pins, σ, H, cls, d, e, I, nb, up, sky, na, os, ag, w⟩ := h
  exact w.elim
theorem de_callP (mo : Mono spd) (Cg : CalG X.prog X.w X.K X.mg X.base (L2.CX X.prog X.w) k x ps [] (spOf X.K [(j, kT s')] [(j, kT s')] [(j, kT s')] np .leaf spd)) (hr : RoomG l X.A) (ha : DGP X op (e :: es) j i s s' t q g') (hkj : k ≤ l := by decide) (hg : Gl X x := by rfl)
    (hdb : (x == ("__debug__" : Str)) = false := by decide) (he : starEach (e :: es) X.env = (false, eval e X.env) :: starEach es X.env := by rfl) (hpl : (backTo pos (starEach es X.env)).any (·.1) = false := by rfl) :
    DE X op (.Call (.Name x p) (e :: es) [] pos) (tCallA (spOf X.K [(j, kT s')] [(j, kT s')] [(j, kT s')] np .leaf spd) [] (wE (J0 op).W) t) [] [] false (dSure (dCallP np j i spd g')) :=
  (dx_callP (J := J0 op) .refl tk0 mo Cg hr ha hkj hg hdb he hpl).de
theorem dfr_callP (mo : Mono spd) (Cg : CalG X.prog X.w X.K X.mg X.base (L2.CX X.prog X.w) k x ps [] (spOf X.K [(j, kT s')] [(j, kT s')] [(j, kT s')] np rs spd)) (hr : RoomG l X.A) (ha : DGP X op (e :: es) j i s s' t q g') (hkj : k ≤ l := by decide) (hg : Gl X x := by rfl)
    (hdb : (x == ("__debug__" : Str)) = false := by decide) (he : starEach (e :: es) X.env = (false, eval e X.env) :: starEach es X.env := by rfl) (hpl : (backTo pos (starEach es X.env)).any (·.1) = false := by rfl) :
    DFr X op (.Call (.Name x p) (e :: es) [] pos) rs (tCallA (spOf X.K [(j, kT s')] [(j, kT s')] [(j, kT s')] np rs spd) [] (wE (J0 op).W) t) (dSure (dCallP np j i spd g')) :=
  (dx_callP (J := J0 op) .refl tk0 mo Cg hr ha hkj hg hdb he hpl).fr
end
/-! ### {} and {k: v, ..} -/
section
variable {X : Cx} {op : Op} {pos : Pos}
def dDnew : DTE := fun ρ Q => Q (.dict []) ρ
theorem de_dnew : DE X op (.Dict [] [] pos) tDNewK [] [] true dDnew := ⟨pe_dnewK, fun c F σ H ρ Q S w R hR => fun p hp =>
  hR _ _ ⟨_, ρ, F, (Stp.refl S).then (same_mk hp), .inl (.dic (S.live.not hp) upd_same .nil), w⟩⟩
/-- a new empty dict as a tree -/
theorem dfr_dnew {s : Sh} : DFr X op (.Dict [] [] pos) (.dic s) tDNewK dDnew := ⟨pe_dnewK, fun c F σ H ρ Q S w R hR => fun p hp =>
  hR _ _ (fr_of (dx := []) (L := [p]) (Stp.refl (q := true) S) (same_mk hp) (by simpa using hp) (by simp) (.dic upd_same rfl (.inr (by simp)) .nil) w)⟩
end
structure DP (X : Cx) (op : Op) (pos : Pos) (keys : List (Option Expr)) (values : List Expr) (trs : List (TE × TE)) (ks : List Str) (t' : DTA) : Prop where
  pp : PPs X pos keys values trs
  sd : ∀ (c : Fx) (F : Nat → AS) (σ : St) (H : Hp) (ρ : DEnv) (Q : List D → DEnv → Prop), Sim X.K c op F σ H ρ → t' ρ Q → ∀ R : List (V × V) → Hp → Prop,
    (∀ vs H', vs.length = ks.length → AQ X.K c op [] false F σ H ρ Q vs H' → R (List.zipWith (fun k v => (V.str k, v)) ks vs) H') → tPairs trs σ H R
section
variable {X : Cx} {op : Op} {e : Expr} {pos p : Pos} {te : TE} {q : Bool} {te' : DTE} {keys : List (Option Expr)} {values : List Expr} {trs : List (TE × TE)} {ks : List Str} {t' : DTA} {k : Str}
theorem dp_nil : DP X op pos [] [] [] [] dNil := ⟨pps_nil, fun c F σ H ρ Q S w R hR => hR [] _ rfl ⟨[], ρ, F, (Stp.refl (q := true) S).loud, .nil, w⟩⟩
theorem dp_cons {ek : Expr} (hk : PE X ek (tC (.str k))) (ha : DE X op e te [] [] q te') (hr : DP X op pos keys values trs ks t') : DP X op pos (some ek :: keys) (e :: values) ((tC (.str k), te) :: trs) (k :: ks) (dCons te' t') :=
  ⟨pps_cons hk ha.pe hr.pp, fun c F σ H ρ Q S w R hR => by
    show te σ H fun y H2 => tPairs trs σ H2 fun ps H3 => R ((V.str k, y) :: ps) H3
    refine ha.sd c F σ H ρ _ S w _ fun x H1 ⟨d, ρ1, F1, st1, hx, w1⟩ => ?_
    refine hr.sd c F1 σ H1 ρ1 _ st1.sim w1 _ fun vs H2 hl ⟨ds, ρ2, F2, st2, hv, w2⟩ => ?_
    have hx2 := dzT_move st1.sim st2 rfl hx
    exact hR (x :: vs) _ (by simp [hl]) ⟨_, ρ2, F2, (st1.loud.trans st2), .cons ((hx2.dz fun a m => mxl m).mono fun a m => mxl m) hv, w2⟩⟩
def dDisp (ks : List Str) (t : DTA) : DTE := fun ρ Q => t ρ fun ds ρ1 => Q (.dict (List.zipWith (fun k d => (D.str k, d)) ks ds)) ρ1
theorem zip_keys : ∀ (ks : List Str) (vs : List V), (List.zipWith (fun k v => (V.str k, v)) ks vs) = (List.zipWith (fun k v => ((.inr k : Key), v)) ks vs).map fun kv => (kV kv.1, kv.2)
  | [], _ => rfl
  | _ :: _, [] => rfl
  | k :: ks, v :: vs => by
    rw [List.zipWith_cons_cons, List.zipWith_cons_cons, List.map_cons, zip_keys ks vs]
    rfl
theorem put_new {kvs : List (Key × V)} {k : Key} {v : V} (h : ∀ p ∈ kvs, p.1 ≠ k) : putK kvs k v = kvs ++ [(k, v)] := by
  unfold putK
  rw [if_neg]
  intro q
  obtain ⟨p, hp, e⟩ := List.any_eq_true.mp q
  exact h p hp (of_decide_eq_true e)
theorem merge_new : ∀ (more acc : List (Key × V)), (more.map (·.1)).Nodup → (∀ p ∈ acc, ∀ r ∈ more, p.1 ≠ r.1) → mergeK acc more = acc ++ more
  | [], acc, _, _ => by simp [mergeK]
  | m :: more, acc, hn, h => by
    have e : mergeK acc (m :: more) = mergeK (putK acc m.1 m.2) more := rfl
    rw [e, put_new (fun p hp => h p hp m (by simp))]
    rw [List.map_cons, List.nodup_cons] at hn
    rw [merge_new more (acc ++ [(m.1, m.2)]) hn.2 (fun p hp r hr => ?_)]
    · simp
    · rcases List.mem_append.mp hp with hp | hp
      · exact h p hp r (List.mem_cons_of_mem _ hr)
      · rcases List.mem_singleton.mp hp with rfl
        exact fun q => hn.1 (List.mem_map.mpr ⟨r, hr, q.symm⟩)
theorem nodup_inr : ∀ (ks : List Str), ks.Nodup → (ks.map (Sum.inr : Str → Key)).Nodup
  | [], _ => List.nodup_nil
  | k :: ks, h => by
    rw [List.nodup_cons] at h
    rw [List.map_cons, List.nodup_cons]
    refine ⟨fun m => ?_, nodup_inr ks h.2⟩
    obtain ⟨z, hz, e⟩ := List.mem_map.mp m
    cases e
    exact h.1 hz
theorem zip_fst : ∀ (ks : List Str) (vs : List V), vs.length = ks.length → (List.zipWith (fun k v => ((.inr k : Key), v)) ks vs).map (·.1) = ks.map .inr
  | [], [], _ => rfl
  | k :: ks, v :: vs, h => by
    rw [List.zipWith_cons_cons, List.map_cons, List.map_cons, zip_fst ks vs (by simpa using h)]
theorem zip_dz {K : PySem.W.Frag} {M : AS} {H : Hp} : ∀ (ks : List Str) {vs : List V} {ds : List D}, DzA K M H vs ds → DzK K M H (List.zipWith (fun k v => ((.inr k : Key), v)) ks vs) (List.zipWith (fun k d => (D.str k, d)) ks ds)
  | [], _, _, _ => .nil
  | _ :: _, _, _, .nil => .nil
  | _ :: ks, _, _, .cons h r => .cons h (zip_dz ks r)
theorem de_disp (h : DP X op pos keys values trs ks t') (hall : keys.all (·.isSome) = true := by rfl) (hl : keys.length = values.length := by rfl) (h0 : keys ≠ [] := by exact List.cons_ne_nil _ _) (h15 : keys.length ≤ 15 := by decide) (k15 : ks.length ≤ 15 := by decide) (nd : ks.Nodup := by decide) :
    DE X op (.Dict keys values pos) (tDisp trs) [] [] false (dDisp ks t') := ⟨pe_disp h.pp hall hl h0 h15, fun c F σ H ρ Q S w R hR => fun p hp => by
  have S1 : Sim X.K (c.add p) op F σ (upd H p (.dK [])) ρ := S.new (same_mk hp) hp upd_same rfl
  have nL : ¬ Own op F p := fun ⟨q, hq, f⟩ => S1.n0d q hq p f (.inr rfl)
  refine h.sd (c.add p) F σ _ ρ _ S1 w _ fun vs H2 hlen ⟨ds, ρ1, F1, st, hv, w1⟩ => ?_
  have e2 : H2 p = some (.dK []) := st.trn.1 p _ upd_same nL
  have hm : mergeK [] (List.zipWith (fun k v => ((.inr k : Key), v)) ks vs) = List.zipWith (fun k v => ((.inr k : Key), v)) ks vs := by
    rw [merge_new _ [] ?_ (fun p hp => by cases hp), List.nil_append]
    rw [zip_fst ks vs hlen]
    exact nodup_inr ks nd
  refine ⟨e2, _, zip_keys ks vs, by rw [List.length_zipWith]; omega, ?_⟩
  rw [hm]
  have S3 := st.sim.other (l := p) (o := .dK (List.zipWith (fun k v => ((.inr k : Key), v)) ks vs)) (.inr rfl) rfl
  have hv3 := hv.other st.sim (l := p) (o := .dK (List.zipWith (fun k v => ((.inr k : Key), v)) ks vs)) (.inr rfl)
  have ne : ∀ a o, H a = some o → a ≠ p := fun a o e z => by rw [z, hp] at e; cases e
  have tn : Trn (Own op F) (Own op F1) H (upd H2 p (.dK (List.zipWith (fun k v => ((.inr k : Key), v)) ks vs))) := by
    have t := (Trn.same (same_mk (o := .dK []) hp)).trans st.trn
    exact ⟨fun a o e n => by rw [upd_ne (ne a o e)]; exact t.1 a o e n, t.2.1, fun a o e => by rw [upd_ne (ne a o e)]; exact t.2.2 a o e⟩
  refine hR _ _ ⟨_, ρ1, F1, ⟨S3.drop, tn, fun h => by cases h⟩, .inl (.dic (fun m => ?_) upd_same (zip_dz ks (hv3.mono fun a m => mt_add.mpr (.inl m)))), w1⟩
  rcases m with m | ⟨q, hq, _, m⟩
  · obtain ⟨o, e, _⟩ := S.n0 p m
    rw [hp] at e; cases e
  · exact S3.n0d q hq p m (.inr rfl)⟩
end
/-! ### repr of flat data -/
def dRepr : D → (D → Prop) → Prop
  | .int i, Q => i.natAbs.log2 < 1920 ∧ Q (.str (toString i))
  | .bool b, Q => Q (.str (if b then "True" else "False"))
  | .none, Q => Q (.str "None")
  | _, _ => False
def rReprX : List V → Hp → VK → Prop := fun xs H Q => (∃ i, xs = [.int i] ∧ i.natAbs.log2 < 1920 ∧ Q (.str (toString i)) H) ∨ (∃ b : Bool, xs = [.bl b] ∧ Q (.str (if b then "True" else "False")) H) ∨ (xs = [.non] ∧ Q (.str "None") H)
theorem c_repr {X : Cx} : CallR X (.builtin "repr") rReprX := by
  refine CallR.or SkE.call_repr_int (CallR.or ?_ ?_)
  · intro pins s σ H xs us Q I r h
    obtain ⟨b, rfl, q⟩ := h
    obtain ⟨u, rfl, r2⟩ := vals1 r
    obtain rfl : u = Value.bool b := r2
    exact PySem.P.repr_of_bool (Q := EP X pins σ Q) ⟨V.str _, H, I.tok _, ⟨_, rfl⟩, q⟩
  · intro pins s σ H xs us Q I r h
    obtain ⟨rfl, q⟩ := h
    obtain ⟨u, rfl, r2⟩ := vals1 r
    obtain rfl : u = Value.none := r2
    exact PySem.P.repr_of_none (Q := EP X pins σ Q) ⟨V.str _, H, I.tok _, ⟨_, rfl⟩, q⟩
theorem s_repr {K : PySem.W.Frag} : RBS K rReprX dRepr := fun M N H x d Q l f hx w R hR => by
  cases d <;> first | exact w.elim | skip
  case int i => rw [hx.int]; exact .inl ⟨i, rfl, w.1, hR _ _ _ (Same.refl _) (.str _) w.2⟩
  case bool b => rw [hx.bool]; exact .inr (.inl ⟨b, rfl, hR _ _ _ (Same.refl _) (.str _) w⟩)
  case none => rw [hx.none]; exact .inr (.inr ⟨rfl, hR _ _ _ (Same.refl _) (.str _) w⟩)
/-! ### dict(d) -/
def dDictOf : D → (D → Prop) → Prop
  | .dict kvs, Q => Q (.dict kvs)
  | _, _ => False
def rDictX : List V → Hp → VK → Prop := fun xs H Q => ∃ (a : Addr) (kvs : List (Key × V)), xs = [.ref a] ∧ Rd H a (.dK kvs) ∧ ∀ p, H p = none → Q (.ref p) (upd H p (.dK kvs))
theorem c_dict {X : Cx} : CallR X (.type "dict") rDictX := call_dictD
theorem s_dict {K : PySem.W.Frag} : RBS K rDictX dDictOf := fun M N H x d Q l f hx w R hR => by
  cases d <;> first | exact w.elim | skip
  case dict ds =>
    obtain ⟨a, kvs, rfl, ha, hd⟩ := hx.dict
    exact ⟨a, kvs, rfl, .inl ha, fun p hp => hR _ _ _ (same_mk hp) (.dic (l.not hp) upd_same (DzK.frame l (fun b o e _ => same_mk hp b o e) (fun b o _ m => m) hd)) w⟩
/-! ### dicts of flat things compared, alike -/
def flatKs (ds : List (D × D)) : Bool := ds.all fun q => match q.2 with | .int _ => true | .bool _ => true | .none => true | _ => false
/-- two dicts, alike -/
def dEqDic (d e : D) (Q : D → Prop) : Prop := match d, e with | .dict ks, .dict ls => ks = ls ∧ (ks.map (·.1)).Nodup ∧ flatKs ks = true ∧ Q (.bool true) | _, _ => False
def dNeDic (d e : D) (Q : D → Prop) : Prop := match d, e with | .dict ks, .dict ls => ks = ls ∧ (ks.map (·.1)).Nodup ∧ flatKs ks = true ∧ Q (.bool false) | _, _ => False
theorem kD_inj {k k' : Key} (e : kD k = kD k') : k = k' := by
  have := congrArg kOf e
  rw [kOf_kD, kOf_kD] at this
  exact Option.some.inj this
theorem flat_same {K : PySem.W.Frag} {M N : AS} {H : Hp} : ∀ (ds : List (D × D)) (ks ls : List (Key × V)), flatKs ds = true → DzK K M H ks ds → DzK K N H ls ds → ks = ls ∧ ∀ p ∈ ks, flatB p.2 = true
  | [], _, _, _, h, g => by
    cases h; cases g
    exact ⟨rfl, fun p h => by cases h⟩
  | (z, d) :: ds, ks, ls, f, h, g => by
    obtain ⟨k, v, vs, rfl, hk, h, t⟩ : ∃ k v vs, ks = (k, v) :: vs ∧ kD k = z ∧ Dz K M H v d ∧ DzK K M H vs ds := by
      cases h with
      | cons h t => exact ⟨_, _, _, rfl, rfl, h, t⟩
    obtain ⟨k', v', vs', rfl, hk', h', t'⟩ : ∃ k v vs, ls = (k, v) :: vs ∧ kD k = z ∧ Dz K N H v d ∧ DzK K N H vs ds := by
      cases g with
      | cons h t => exact ⟨_, _, _, rfl, rfl, h, t⟩
    have := kD_inj (hk.trans hk'.symm)
    subst this
    unfold flatKs at f
    rw [List.all_cons, Bool.and_eq_true] at f
    obtain ⟨i1, i2⟩ := flat_same ds vs vs' f.2 t t'
    have j : v = v' ∧ flatB v = true := by
      have f1 := f.1
      cases d <;> first | cases f1 | skip
      all_goals (cases h; cases h'; exact ⟨rfl, rfl⟩)
    obtain ⟨rfl, j2⟩ := j
    subst i1
    refine ⟨rfl, fun p hp => ?_⟩
    rcases List.mem_cons.mp hp with rfl | hp
    · exact j2
    · exact i2 p hp
theorem keys_nodup {K : PySem.W.Frag} {M : AS} {H : Hp} {ds : List (D × D)} {ks : List (Key × V)} (h : DzK K M H ks ds) (n : (ds.map (·.1)).Nodup) : (ks.map (·.1)).Nodup := by
  have e : ∀ {ks : List (Key × V)} {ds : List (D × D)}, DzK K M H ks ds → ds.map (·.1) = (ks.map (·.1)).map kD := by
    intro ks ds h
    induction ks generalizing ds with
    | nil => cases h; rfl
    | cons k ks ih =>
      cases h with
      | cons h t => simp [ih t]
  rw [e h] at n
  exact List.Pairwise.of_map kD (fun a b q z => q (by rw [z])) n
theorem s_eqdic {K : PySem.W.Frag} : R2S K rEqDA dEqDic := fun M N H x y d e Q l f hx hy w R hR => by
  cases d <;> cases e <;> first | exact w.elim | skip
  rename_i ds es
  obtain ⟨rfl, nd, fl, w⟩ := w
  obtain ⟨a, ks, rfl, ha, hd⟩ := hx.dict
  obtain ⟨b, ls, rfl, hb, he⟩ := hy.dict
  obtain ⟨rfl, fb⟩ := flat_same _ _ _ fl hd he
  exact ⟨a, b, ks, ks, rfl, rfl, ha, hb, rfl, fun p hp => ⟨val_nodup (keys_nodup hd nd) p hp, fb p hp⟩, hR _ _ _ (Same.refl _) (.bl _) w⟩
theorem s_nedic {K : PySem.W.Frag} : R2S K rNeDA dNeDic := fun M N H x y d e Q l f hx hy w R hR => by
  cases d <;> cases e <;> first | exact w.elim | skip
  rename_i ds es
  obtain ⟨rfl, nd, fl, w⟩ := w
  obtain ⟨a, ks, rfl, ha, hd⟩ := hx.dict
  obtain ⟨b, ls, rfl, hb, he⟩ := hy.dict
  obtain ⟨rfl, fb⟩ := flat_same _ _ _ fl hd he
  exact ⟨a, b, ks, ks, rfl, rfl, ha, hb, rfl, fun p hp => ⟨val_nodup (keys_nodup hd nd) p hp, fb p hp⟩, hR _ _ _ (Same.refl _) (.bl _) w⟩
/-! ### tables of the module: dicts with written text keys -/
structure TabG (K : PySem.W.Frag) (w : World) (a : Addr) (ks : List Str) : Prop where
  eq : He.dicW K a = some (He.keysIn w.params ks)
theorem TabG.kd {K : PySem.W.Frag} {w : World} {a : Addr} {ks : List Str} (T : TabG K w a ks) : ∃ es n, KDict K w a es n := He.dicW_ok T.eq
theorem find_keys {P : Params} {z : Str} : ∀ {l : List DictEntry} {ks : List Str}, l.map He.keyOf = He.keysIn P ks → (l.find? (·.key.isStr z)).isSome = decide (z ∈ ks) ∧ l.any (·.refKey) = false
  | [], [], _ => ⟨by simp, rfl⟩
  | [], _ :: _, h => by cases h
  | _ :: _, [], h => by cases h
  | e :: r, k :: ks, h => by
    have h1 : He.keyOf e :: r.map He.keyOf = some (k, PyData.keyHash P k) :: He.keysIn P ks := h
    injection h1 with h2 h3
    obtain ⟨i1, i2⟩ := find_keys (z := z) h3
    obtain ⟨y, t, q, rfl⟩ : ∃ y t, e.key = .str y t ∧ y = k := by
      unfold He.keyOf at h2
      split at h2
      · rename_i y t q
        exact ⟨y, t, q, (Prod.mk.inj (Option.some.inj h2)).1⟩
      · cases h2
    have b1 : e.key.isStr z = (y == z) := by rw [q]; rfl
    have b2 : e.refKey = false := by
      unfold DictEntry.refKey
      rw [q]
    refine ⟨?_, by rw [List.any_cons, b2, i2]; rfl⟩
    rw [List.find?_cons, b1]
    by_cases c : y = z
    · subst c
      simp
    · have c1 : (y == z) = false := by simpa using c
      rw [c1]
      simp only
      rw [i1]
      by_cases m : z ∈ ks
      · rw [decide_eq_true m, decide_eq_true (List.mem_cons_of_mem _ m)]
      · rw [decide_eq_false m, decide_eq_false (fun x => (List.mem_cons.mp x).elim (fun e => c e.symm) m)]
theorem TabG.has {K : PySem.W.Frag} {w : World} {a : Addr} {ks : List Str} (T : TabG K w a ks) (z : Str) : ∃ es n r, KDict K w a es n ∧ PySem.W.nsIn K a z = some r ∧ r.isSome = decide (z ∈ ks) := by
  have h := T.eq
  obtain ⟨es, n, kd⟩ := T.kd
  unfold He.dicW at h
  rw [kd.at_] at h
  have h1 : es.toList.map He.keyOf = He.keysIn w.params ks := by
    have c : (decide ("dict" = "dict") && ((#[] : Array (Option Value)).isEmpty && !(a == sysModules))) = true := by rw [kd.low]; rfl
    have h2 : (match decide ("dict" = "dict") && ((#[] : Array (Option Value)).isEmpty && !(a == sysModules)) with
      | true => some (es.toList.map He.keyOf)
      | false => none) = some (He.keysIn w.params ks) := h
    rw [c] at h2
    exact Option.some.inj h2
  obtain ⟨f1, f2⟩ := find_keys (z := z) h1
  unfold PySem.W.nsIn
  rw [kd.at_]
  simp only
  cases q : es.toList.find? (·.key.isStr z) with
  | some e =>
    rw [q] at f1
    exact ⟨es, n, some e.val, kd, rfl, f1⟩
  | none =>
    rw [q] at f1
    refine ⟨es, n, none, kd, ?_, f1⟩
    rw [f2]
    rfl
theorem tabG_of {fa : List He.Fa} {fn : List He.DefD} {ts : List He.Tab} {w : World} {K : PySem.W.Frag} (c : He.SaysT fa fn ts w K) (i : Nat) {t : He.Tab} (h : ts[i]? = some t := by rfl) : TabG K w (t.1 K) t.2 := by
  have e : ts.map (fun t => He.dicW K (t.1 K)) = ts.map fun t => some (He.keysIn w.params t.2) := congrArg (fun z : He.AlT => z.2) c
  have e2 : (ts.map fun t => He.dicW K (t.1 K))[i]? = (ts.map fun t => some (He.keysIn w.params t.2))[i]? := by rw [e]
  rw [List.getElem?_map, List.getElem?_map, h] at e2
  exact ⟨Option.some.inj e2⟩
def dTabIn (ks : List Str) (t : DTE) : DTE := fun ρ Q => t ρ fun d ρ1 => match d with | .str z => Q (.bool (decide (z ∈ ks))) ρ1 | _ => False
def rTab (K : PySem.W.Frag) (a : Addr) : R2 := fun x y H Q => ∃ (z : Str) (r : Option Value), x = .str z ∧ y = .ref a ∧ PySem.W.nsIn K a z = some r ∧ Q (.bl r.isSome) H
section
variable {X : Cx} {op : Op} {e b o ix : Expr} {pos apos cpos : Pos} {ta tp : TE} {dx tx : List Nat} {q : Bool} {ta' : DTE} {tp' : DTP} {a : Addr} {ks : List Str} {i : Nat} {s : Sh}
theorem de_tabin (T : TabG X.K X.w a ks) (hg : PE X b (tC (.ref a))) (ha : DE X op e ta dx tx q ta') (hm : behindInMarks .In b = false := by rfl) : DE X op (.Compare e [.In] [b] pos) (tOp (rTab X.K a) ta (tC (.ref a))) [] [] q (dTabIn ks ta') := by
  obtain ⟨es, n, kd⟩ := T.kd
  refine ⟨pe_cmpR (op_in_kd kd) ha.pe hg hm, fun c F σ H ρ Q S w R hR => ?_⟩
  refine ha.sd c F σ H ρ _ S w _ fun x H1 ⟨d, ρ1, F1, st, hx, w1⟩ => ?_
  cases d <;> first | exact w1.elim | skip
  case str z =>
    obtain ⟨es, n, r, _, e1, e2⟩ := T.has z
    refine ⟨z, r, hx.str, rfl, e1, ?_⟩
    rw [e2]
    exact hR _ _ ⟨_, ρ1, F1, st, .inl (.bl _), w1⟩
/-- P.pop() of a list -/
def dPlpop (i : Nat) (tp : DTP) : DTE := fun ρ Q => tp ρ fun p ρ1 => At ρ1 i fun r => Opt (atD r p) fun x => match x with
  | .list ds => Opt ds[ds.length - 1]? fun v => Q v (ρ1.set i (some (putD r p (.list ds.dropLast))))
  | _ => False
theorem DzA.dropLast {K : PySem.W.Frag} {M : AS} {H : Hp} {vs : List V} {ds : List D} (h : DzA K M H vs ds) : DzA K M H vs.dropLast ds.dropLast := by
  rw [List.dropLast_eq_take, List.dropLast_eq_take, h.len]
  exact h.take _
theorem de_plpop (hp : DPl X op o i s (.lst .leaf) tp q tp') (hb : attributeBase o "pop" X.env (eval o X.env) = eval o X.env := by rfl) (hl : (apos.endLine == cpos.line) = true := by rfl) :
    DE X op (.Call (.Attribute o "pop" apos) [] [] cpos) (tBM0 X.K "list" rPop tp) [] [] false (dPlpop i tp') := ⟨pe_bm0 PySem.F.plainAttrs_list PySem.F.slot_list_pop PySem.F.type_list_pop mt_pop hp.pe hb hl, fun c F σ H ρ Q S w R hR => by
  refine hp.sd c F σ H ρ _ S w _ fun v' H2 ⟨p, v0, ρ2, F2, st2, hv, na, sa, w2⟩ => ?_
  obtain ⟨r, er, w3⟩ := w2.ex
  obtain ⟨x, ex, w3⟩ := w3.ex
  obtain ⟨r0, d', L', e1, e2, tz', hf⟩ := st2.sim.node hp.me hv na sa
  rw [er] at e1
  cases e1
  rw [ex] at e2
  cases e2
  cases tz' with
  | @lst _ a xs ds L0 e0 hc =>
    obtain ⟨dv, hv1, w5⟩ := w3.ex
    obtain ⟨_, hc⟩ := hc.leaf
    obtain ⟨y, hy, hdv⟩ := hc.get hv1
    obtain ⟨r1, f1, F4, S4, t4⟩ := st2.sim.setL hp.me hv na sa hc.dropLast
    rw [er] at f1
    cases f1
    have tM := mx_trn st2.sim.n0 t4
    exact ⟨.inl ⟨rfl, xs, SqL.of e0⟩, a, xs, y, rfl, rfl, e0, by rw [hc.len]; exact hy, hR _ _ ⟨dv, _, F4, ⟨S4, st2.trn.trans t4, fun h => by cases h⟩, .inl (hdv.trn st2.sim.live tM), w5⟩⟩⟩
end
end Vt
namespace Vt
open PySem PySem.Spec PyProof.Rows L2
variable [WorldC]
/-! ### a law's start -/
theorem sim_scr {K : PySem.W.Frag} {N0 : AS} {F : AS} {v0 : V} {c0 : D} {H : Hp} (l : Live N0 H) (ok : kS.ok K N0 H v0 c0 F) : Sim K ⟨N0, pvOf [(0, kS)] [v0]⟩ [(0, kS)] (fun _ => F) ([v0].map some) H ([c0].map some) := by
  have none_ : ∀ a, ¬ F a := by obtain ⟨a, ns, _, _, _, f⟩ := ok; exact f
  refine ⟨rfl, fun l d e n => ?_, fun p hp => ?_, fun p hp q hq a f _ => (none_ a f).elim, by simp, l, fun p hp a f _ => none_ a f, fun p hp => ?_⟩
  · match l, e, n with
    | 0, _, n => exact absurd rfl (n (0, kS) (by simp))
    | l + 1, e, _ => simp at e
  · rcases List.mem_singleton.mp hp with rfl
    refine ⟨v0, c0, rfl, rfl, ?_⟩
    exact kS.frame l ok (fun a o e _ => e) fun a o e m => by
      rcases m with m | ⟨p, hp, _, m⟩
      · exact m
      · exact (none_ a m).elim
  · have : pvOf [(0, kS)] [v0] = [(0, v0)] := rfl
    rw [this] at hp
    rcases List.mem_singleton.mp hp with rfl
    rfl
theorem law_start {K : PySem.W.Frag} {H : Hp} {a : Addr} {ns : List Int} {spd : DSp} (hS : SqL K H a (ns.map V.int)) (o : Only H) (h : ∀ (Q : D → List D → Prop) (E : Str → Fds → List D → Prop), (∀ cs, Q (.bool true) cs) → spd [.list (ns.map .int)] Q E) :
    spOf K [(0, kS)] [(0, kS)] [(0, kS)] 1 .leaf spd [.ref a] H (fun v _ => v = .bl true) fun _ _ _ => False := by
  refine ⟨fun _ => False, fun _ _ => False, [.list (ns.map .int)], rfl, sim_scr (fun b f => f.elim) ⟨a, ns, rfl, rfl, scr_of o hS, fun _ f => f⟩, h _ _ fun cs v H' F' L r t hn nd tz => ?_⟩
  cases tz with
  | leaf h => cases h; rfl
/-- f(script): a new tree -/
def dScr (i : Nat) (spd : DSp) : DTE := fun ρ Q => At ρ i fun c => spd [c] (fun d _ => Q d ρ) dNoX
theorem dfr_scr {X : Cx} {op : Op} {e : Expr} {spd : DSp} {rs : Sh} {k l i j : Nat} {x : Str} {ps : List Str} {p pos : Pos} (m : Mono spd) (C : CalG X.prog X.w X.K X.mg X.base (L2.CX X.prog X.w) k x ps [] (spOf X.K [(0, kS)] [(0, kS)] [(0, kS)] 1 rs spd)) (hr : RoomG l X.A)
    (ha : PE X e (tVar i)) (n : op[j]? = some (i, kS) := by rfl) (hkj : k ≤ l := by decide) (hg : Gl X x := by rfl) (hdb : (x == ("__debug__" : Str)) = false := by decide) (he : starEach [e] X.env = (false, eval e X.env) :: starEach [] X.env := by rfl) (hpl : (backTo pos (starEach [] X.env)).any (·.1) = false := by rfl) :
    DFr X op (.Call (.Name x p) [e] [] pos) rs (tCall (spOf X.K [(0, kS)] [(0, kS)] [(0, kS)] 1 rs spd) [] eF (tCons (tVar i) tNil)) (dScr i spd) := ⟨pe_cg C hr passF (pa_cons ha pa_nil he) hkj hg hdb he hpl, fun c F σ H ρ Q S w R hR => by
  have hm : (i, kS) ∈ op := List.mem_of_getElem? n
  obtain ⟨c0, hc0, w⟩ := w.ex
  obtain ⟨v0, d0, e1, e2, ok⟩ := S.ops _ hm
  rw [hc0] at e2
  cases e2
  refine ⟨v0, e1, ?_⟩
  show spOf X.K [(0, kS)] [(0, kS)] [(0, kS)] 1 rs spd ([v0] ++ []) H R eF
  rw [List.append_nil]
  have none_ : ∀ a, ¬ F i a := by obtain ⟨a, ns, _, _, _, f⟩ := ok; exact f
  refine ⟨_, _, _, rfl, sim_scr S.live ok, m _ _ _ _ _ (fun d cs q v H' F' L r t hn nd tz => ?_) (fun n fs cs q => q.elim) w⟩
  have no : ∀ a, ¬ Own [(0, kS)] (fun _ => F i) a := fun a ⟨p, hp, f⟩ => none_ a f
  have hs : Same H H' := fun a o e => t.1 a o e (no a)
  refine hR _ _ (fr_of (dx := []) (Stp.refl (q := true) S) hs (fun a m => ?_) nd ?_ q)
  · cases e : H a with
    | none => rfl
    | some o => exact absurd (t.2.1 a o e (.inr m)) (no a)
  · refine tz.frame (fun a m => ?_) (fun a o _ m => ?_) fun a o e _ => e
    · rcases m with m | ⟨p, hp, _, f⟩
      · exact r.n0 a m
      · rcases List.mem_singleton.mp hp with rfl
        have hlen := r.len
        match cs, hlen with
        | [d1], _ =>
          obtain ⟨_, _, _, _, _, g⟩ := r.ok 0 (0, kS) (0, v0) d1 rfl rfl rfl
          exact (g a f).elim
    · exact .inl m⟩
omit [WorldC] in
theorem walk_gw {l : PySem.W.OpenLaw} {n k : Nat} {q : Program} {loose : List Str} {XP : (Str → Option Value) → Heap → Prop} {YP : World → Heap → Prop} {d : DefRec} {x : Str}
    (hn : l.most = some n) (hn2 : n ≤ sizeLine) (dfl : d.params.defaults = []) (hr : Room k callerA)
    (F : ∀ (w : World) (mg : Str → Option Value) (fa : Addr) (h : Heap), YP w h → h.Ns mainGlobals mg → mg d.name = some (.ref fa) →
      ∃ (K : PySem.W.Frag) (fd : FuncData) (sp : Sp), K.In h ∧ (∀ (s : Shared) (u : Value), BindsTo s fd ⟨[u], []⟩ [(x, u)]) ∧
        (∀ (H : Hp) (a : Addr) (ns : List Int), ns.length ≤ n → Only H → SqL K H a (ns.map V.int) → sp [.ref a] H (fun v _ => v = .bl true) fun _ _ _ => False) ∧
        ∀ base : Heap, K.In base → base.Ns mainGlobals mg → FnG l.prog w K mg base (L2.CX l.prog w) k fa fd [x] sp) :
    PySem.W.WalkO q loose XP YP l.row.toRowW d [] (fun f vs => PySem.call f vs) := by
  refine Att.attach_call hn dfl fun w s0 s1 mg mb fa o pm cd doc a vs ns G Y ho hd hcd hmg hob hin hle hge => ?_
  letI : WorldC := ⟨w⟩
  obtain ⟨K, fd, sp, KX, hb, hsp, hF⟩ := F w mg fa _ Y G.T.g hmg
  exact law_go KX G.T.g G.T.b G.T.builtins G.T.nolimit hge hob hin (Nat.le_trans hle hn2) ⟨hr, rfl⟩ hF hb (fun H hO hS => hsp H a ns hle hO hS) fun H e s' h => by
    obtain ⟨_, _, _, _, _, _, _, _, _, _, _, _, z⟩ := h
    exact z
/-! ### lent places in a call's arguments, named -/
def dgVar (t : DTA) : DTGP := fun ρ Q => t ρ fun ds ρ2 => Q [] (.none :: ds) ρ2
def dgHere (tp : DTP) (t : DTA) : DTGP := fun ρ Q => tp ρ fun p ρ1 => t ρ1 fun ds ρ2 => Q p (.none :: ds) ρ2
def dgLater (te : DTE) (g : DTGP) : DTGP := fun ρ Q => te ρ fun d ρ1 => g ρ1 fun p ds ρ2 => Q p (d :: ds) ρ2
def dplVar (i : Nat) : DTP := fun ρ Q => At ρ i fun _ => Q [] ρ
def dplF (k : Nat) (tp : DTP) : DTP := fun ρ Q => tp ρ fun p ρ1 => Q (p ++ [k]) ρ1
/-! ### TAB[k]: globals by text keys -/
def TabV (K : PySem.W.Frag) (w : World) (a : Addr) (kvs : List (Str × Str)) : Prop := ∀ z n, kvs.lookup z = some n → KDct K w a z (.ref (He.ga K n))
def dTabIx (kvs : List (Str × Str)) (t : DTE) : DTE := fun ρ Q => t ρ fun d ρ1 => match d with | .str z => Opt (kvs.lookup z) fun n => Q (.glo n) ρ1 | _ => False
section
variable {X : Cx} {op : Op} {e b o ix : Expr} {pos apos cpos : Pos} {ta tp : TE} {dx tx : List Nat} {q : Bool} {ta' : DTE} {a : Addr} {kvs : List (Str × Str)} {i : Nat}
theorem de_tabix (T : TabV X.K X.w a kvs) (hg : PE X b (tC (.ref a))) (ha : DE X op e ta dx tx q ta') (hs : PlainIx e := by exact fun _ _ => rfl) : DE X op (.Subscript b e pos) (tOp (rIxD X.K X.w) (tC (.ref a)) ta) [] [] q (dTabIx kvs ta') := by
  refine ⟨pe_ix ix_kdict hg ha.pe hs, fun c F σ H ρ Q S w R hR => ?_⟩
  refine ha.sd c F σ H ρ _ S w _ fun x H1 ⟨d, ρ1, F1, st, hx, w1⟩ => ?_
  cases d <;> first | exact w1.elim | skip
  case str z =>
    obtain ⟨n, e, w1⟩ := w1.ex
    exact ⟨a, z, _, rfl, hx.str, T z n e, hR _ _ ⟨_, ρ1, F1, st, .inl (.glo n), w1⟩⟩
end
/-! ### a call of what a local holds -/
structure HeldG (P : Program) (w : World) (K : PySem.W.Frag) (mg : Str → Option Value) (base : Heap) (k : Nat) (f : Addr) (sp : Sp) : Prop where
  ex : ∃ (fd : FuncData) (ps : List Str), FnG P w K mg base (L2.CX P w) k f fd ps sp ∧ PySem.W.keepIn K (.ref f) = true ∧ Binds K fd ps []
def tCallR (i : Nat) (S : Addr → Sp → Prop) (t : TA) : TE := fun σ H Q => ∃ f sp, σ[i]? = some (some (.ref f)) ∧ S f sp ∧ t σ H fun vs H1 => sp (vs ++ []) H1 Q eF
theorem pe_callR {X : Cx} {k j i : Nat} {x : Str} {p pos : Pos} {e : Expr} {es : List Expr} {t : TA} {S : Addr → Sp → Prop} (A : ∀ f sp, S f sp → HeldG X.prog X.w X.K X.mg X.base k f sp) (hr : RoomG j X.A) (ha : PA X (e :: es) t) (hkj : k ≤ j := by decide) (hN : X.N[i]? = some x := by rfl)
    (hv : Vis X.env.scope x := by first | exact Or.inl rfl | exact Or.inr (Or.inl rfl) | exact Or.inr (Or.inr rfl))
    (hdb : (x == ("__debug__" : Str)) = false := by decide) (hcd : (x == ("__classdict__" : Str)) = false := by decide)
    (he : starEach (e :: es) X.env = (false, eval e X.env) :: starEach es X.env := by rfl) (hpl : (backTo pos (starEach es X.env)).any (·.1) = false := by rfl) : PE X (.Call (.Name x p) (e :: es) [] pos) (tCallR i S t) := by
  refine ⟨fun pins s σ H Q I h => ?_⟩
  obtain ⟨f, sp, hs, hS, ht⟩ := h
  obtain ⟨fd, ps, F, hk, hb⟩ := (A f sp hS).ex
  refine wpAny_Call_Name_kw (thn ((pe_var (pos := p) hN hv hdb hcd).run pins s σ H (fun v H1 => v = .ref f ∧ H1 = H) I ⟨.ref f, hs, rfl, rfl⟩) fun u s1 ⟨v, H1, I1, r1, q1⟩ => ?_)
  obtain ⟨rfl, rfl⟩ := q1
  cases r1
  refine PySem.W.callWith_K (h₀ := X.base) I.ok.mod.kin hk (thn (ha.run pos pins s1 σ _ _ I1 ht) fun us s2 ⟨vs, H2, I2, r, q⟩ => ⟨I2.kIn, ?_⟩) he hpl
  exact run_g F (hr.less hkj) hb .nil passF I2 r q
abbrev Held := List (Str × DSp)
def HeldS (K : PySem.W.Frag) (np : Nat) (L : Held) : Addr → Sp → Prop := fun f sp => ∃ n spd, L.lookup n = some spd ∧ f = He.ga K n ∧ sp = spOf K [] [] [] np .leaf spd
def dCallH (i np : Nat) (L : Held) (t : DTA) : DTE := fun ρ Q => At ρ i fun d => match d with
  | .glo n => Opt (L.lookup n) fun spd => t ρ fun ds ρ1 => ds.length = np ∧ spd ds (fun d _ => Q d ρ1) dNoX
  | _ => False
theorem de_callH {X : Cx} {op : Op} {k j i np : Nat} {L : Held} {x : Str} {p pos : Pos} {e : Expr} {es : List Expr} {t : TA} {t' : DTA} {q : Bool} {dx : List Nat} (m : ∀ n spd, L.lookup n = some spd → Mono spd) (A : ∀ f sp, HeldS X.K np L f sp → HeldG X.prog X.w X.K X.mg X.base k f sp) (hr : RoomG j X.A) (ha : DA X op (e :: es) t dx q t')
    (n1 : noOp op i = true := by rfl) (hkj : k ≤ j := by decide) (hN : X.N[i]? = some x := by rfl)
    (hv : Vis X.env.scope x := by first | exact Or.inl rfl | exact Or.inr (Or.inl rfl) | exact Or.inr (Or.inr rfl))
    (hdb : (x == ("__debug__" : Str)) = false := by decide) (hcd : (x == ("__classdict__" : Str)) = false := by decide)
    (he : starEach (e :: es) X.env = (false, eval e X.env) :: starEach es X.env := by rfl) (hpl : (backTo pos (starEach es X.env)).any (·.1) = false := by rfl) :
    DE X op (.Call (.Name x p) (e :: es) [] pos) (tCallR i (HeldS X.K np L) t) dx [] q (dCallH i np L t') := by
  refine ⟨pe_callR A hr ha.pa hkj hN hv hdb hcd he hpl, fun c F σ H ρ Q S w R hR => ?_⟩
  obtain ⟨d, hd, w⟩ := w.ex
  cases d <;> first | exact w.elim | skip
  case glo n =>
    obtain ⟨spd, hL, w⟩ := w.ex
    obtain ⟨v, hv2, hz⟩ := S.fr i _ hd (noOp_ne n1)
    cases hz
    refine ⟨_, _, hv2, ⟨n, spd, hL, rfl, rfl⟩, ?_⟩
    exact sd_call (m n spd hL) ha.sd c F σ H ρ Q S w R hR
end Vt
namespace Vt
open PySem PySem.Spec L2
variable [WorldC]
theorem RoomG.u0 {k : Nat} {A : Around} (r : RoomG k A) : A.units < cLine := by
  have := r.u1
  omega
def dFl (t : DTA) : DTE := fun ρ Q => t ρ fun ds ρ1 => Q (.list ds) ρ1
section
variable {X : Cx} {op : Op} {a b : Expr} {pos : Pos} {ta tb : TE} {tx1 tx2 : List Nat} {q1 q2 : Bool} {ta' tb' : DTE}
/-- a + b of lists, a new one -/
theorem df_cat (ha : DE X op a ta [] tx1 q1 ta') (hb : DE X op b tb [] tx2 q2 tb') (ok : okq [] tx1 q2 = true := by rfl) : DF X op (.BinOp a .Add b pos) (tOp rCat ta tb) (dfCat ta' tb') := ⟨pe_op op_cat ha.pe hb.pe, fun c F σ H ρ Q S w R hR => by
  refine ha.sd c F σ H ρ _ S w _ fun x H1 ⟨d, ρ1, F1, st1, hx, w1⟩ => ?_
  refine hb.sd c F1 σ H1 ρ1 _ st1.sim w1 _ fun y H2 ⟨e, ρ2, F2, st2, hy, w2⟩ => ?_
  have hx2 := dzT_move st1.sim st2 ok hx
  have hx3 : DzT X.K (Mt c op F2) (Mx c op F2 tx1) H2 x d := hx2
  have hy3 : DzT X.K (Mt c op F2) (Mx c op F2 tx2) H2 y e := hy
  cases d <;> cases e <;> first | exact w2.elim | skip
  rename_i ds es
  obtain ⟨p1, xs, rfl, h1, hd⟩ := hx3.list
  obtain ⟨p2, ys, rfl, h2, he⟩ := hy3.list
  exact ⟨p1, p2, xs, ys, rfl, rfl, h1, h2, by rw [hd.len, he.len]; exact w2.1, fun p hp => hR _ _ (fq_new (st1.trans st2) hp (hd.app he) w2.2)⟩⟩
end
section
variable {X : Cx} {J : Jc} {po op : Op} {e o ix : Expr} {pos pos' : Pos} {te tb : TE} {q q2 : Bool} {te' tb' : DTE} {i j : Nat} {dx2 tx2 : List Nat}
/-- d[k] = e where d is a local -/
theorem ds_vdput (hu : X.A.units + 1 < cLine) (he : DE X op e te [] [] q te') (ho : PE X o (tVar i)) (hb : DE X op ix tb [] tx2 q2 tb') (n : op[j]? = some (i, kM) := by rfl) (hs : swapsWith e (some (.Subscript o ix pos')) pos.line X.env = pure false := by rfl) :
    DS X J po op op (.Assign [.Subscript o ix pos'] e pos) (sDPut (tVar i) tb te) (dPdput i te' (dplVar i) tb') := ⟨ps_dput hu ho hb.pe he.pe hs, fun c F σ H ρ E R pv S w jj => by
  have hm : (i, kM) ∈ op := List.mem_of_getElem? n
  refine he.sd c F σ H ρ _ S w _ fun y H1 ⟨d, ρ1, F1, st1, hy, w1⟩ => ?_
  obtain ⟨d0, e0, w2⟩ := At.ex w1
  obtain ⟨v0, d1, hv, e1, _⟩ := st1.sim.ops _ hm
  refine ⟨v0, hv, ?_⟩
  refine hb.sd c F1 σ H1 ρ1 _ st1.sim w2 _ fun u H3 ⟨b, ρ3, F3, st3, hub, w3⟩ => ?_
  have hy3 : Dz X.K (Mt c op F3) H3 y d := (dzT_move st1.sim st3 rfl hy).dz fun a m => m
  obtain ⟨r, er, w3⟩ := w3.ex
  obtain ⟨x, ex, w3⟩ := w3.ex
  obtain ⟨r0, d', L', e1, e2, tz', hf⟩ := st3.sim.node hm hv .nil .nil
  rw [er] at e1
  cases e1
  rw [ex] at e2
  cases e2
  cases tz' with
  | @dic _ a kvs ds L0 e0 h1 _ hc =>
    obtain ⟨z, hz, w4⟩ := w3.ex
    obtain ⟨hlen, w4⟩ := w4
    obtain ⟨_, hc⟩ := hc.leaf
    have hk := zipKD h1 hc
    obtain ⟨r1, f1, F4, S4, t4⟩ := st3.sim.setK hm hv .nil .nil (hk.putK (z := z) hy3)
    rw [er] at f1
    cases f1
    exact ⟨a, _, rfl, .inl ⟨kvs, z, e0, kOf_v hub hz, by rw [hk.len]; exact hlen, rfl⟩, jj.nx _ _ ⟨_, F4, S4, (st1.trn.trans st3.trn).trans t4, w4⟩⟩⟩
end
/-! ### tests on lists of ints -/
theorem br_li {xs ys : List Int} {A B : Prop} (h1 : xs = ys → A) (h2 : xs ≠ ys → B) : Br (eqD (.list (xs.map .int)) (.list (ys.map .int))) A B := by
  rw [eqv_intsL]
  exact br_d h1 h2
theorem br_nli {xs ys : List Int} {A B : Prop} (h1 : xs ≠ ys → A) (h2 : xs = ys → B) : Br (!eqD (.list (xs.map .int)) (.list (ys.map .int))) A B := by
  rw [eqv_intsL]
  exact br_n h1 h2
theorem br_l0 {xs : List Int} {A B : Prop} (h1 : xs = [] → A) (h2 : xs ≠ [] → B) : Br (eqD (.list (xs.map .int)) (.list [])) A B := br_li (ys := []) h1 h2
theorem br_nl0 {xs : List Int} {A B : Prop} (h1 : xs ≠ [] → A) (h2 : xs = [] → B) : Br (!eqD (.list (xs.map .int)) (.list [])) A B := br_nli (ys := []) h1 h2
theorem opt_P {ds : List D} {i : Int} {F : D → Prop} (P : Int → Prop) (h : ∀ d ∈ ds, ∃ x, d = .int x ∧ P x) (h0 : 0 ≤ i) (h1 : i < (ds.length : Int)) (q : ∀ x, P x → F (.int x)) : Opt (atI ds i) F :=
  opt_ix h0 h1 fun d hd => by
    obtain ⟨x, rfl, hx⟩ := h d hd
    exact q x hx
theorem shaped_l0 : shD (.list []) = true := shaped_ints []
theorem shaped_ref (xs : List Int) (ys : List D) (h : ys = xs.map .int) : shD (.list ys) = true := h ▸ shaped_ints xs
/-- an item of a list of ints at a known place -/
theorem opt_int {xs : List Int} {i : Int} {F : D → Prop} (h0 : 0 ≤ i) (h1 : i < (xs.length : Int)) (q : ∀ (h : i.toNat < xs.length), F (.int xs[i.toNat])) : Opt (atI (xs.map .int) i) F := by
  refine opt_nat h0 (by rw [List.length_map]; exact h1) fun h => ?_
  rw [List.getElem_map]
  exact q _
theorem at_last (us : List Int) (y : Int) : atI ((us ++ [y]).map D.int) (-1) = some (.int y) := by
  unfold atI ixN
  rw [if_neg (by decide)]
  simp only [List.length_map, List.length_append, List.length_cons, List.length_nil]
  rw [if_pos (by omega)]
  have : (-1 + (((us.length + (0 + 1) : Nat) : Int))).toNat = us.length := by omega
  rw [this]
  simp
theorem br_kt {k : Bool} {A B : Prop} (h : k = true) (a : A) : Br k A B := by subst h; exact br_t a
theorem br_kf {k : Bool} {A B : Prop} (h : k = false) (a : B) : Br k A B := by subst h; exact br_f a
theorem snoc_ne {α : Type} (us : List α) (y : α) : us ++ [y] ≠ [] := by simp
theorem nil_or_snoc {α : Type} (us : List α) : us = [] ∨ ∃ vs y, us = vs ++ [y] := by
  rcases List.eq_nil_or_concat us with h | ⟨vs, y, h⟩
  · exact .inl h
  · exact .inr ⟨vs, y, by rw [h, List.concat_eq_append]⟩
theorem reps_one {α : Type} (n : Nat) (a : α) : reps n [a] = List.replicate n a := by
  unfold reps
  induction n with
  | zero => rfl
  | succ n ih => rw [List.replicate_succ, List.flatten_cons, ih]; rfl
/-! ### what told_by tells -/
def Wt (a : Int) : Prop := -32768 ≤ a ∧ a ≤ 32767
def brt (n : Int) : Int := (n - -32768) % 65536 + -32768
def marks : List Str := ["+", "-", "*", "/", "#", "<", "=", "&", "^"]
def b2n (b : Bool) : Int := if b then 1 else 0
def sgn (g : Str) (a b : Int) : Int :=
  if g = "+" then a + b else if g = "-" then a - b else if g = "*" then a * b else if g = "/" then (if b = 0 then 0 else a.fdiv b) else if g = "#" then (if b = 0 then 0 else a - b * a.fdiv b)
  else if g = "<" then b2n (decide (a < b)) else if g = "=" then b2n (decide (a = b)) else if g = "&" then Builtin.bitAnd a b else Builtin.bitXor a b
@[irreducible] def told (g : Str) (a b : Int) : Int := brt (sgn g a b)
theorem sgn_add (a b : Int) : sgn "+" a b = a + b := rfl
theorem sgn_sub (a b : Int) : sgn "-" a b = a - b := rfl
theorem sgn_mul (a b : Int) : sgn "*" a b = a * b := rfl
theorem sgn_div (a b : Int) : sgn "/" a b = if b = 0 then 0 else a.fdiv b := rfl
theorem sgn_mod (a b : Int) : sgn "#" a b = if b = 0 then 0 else a - b * a.fdiv b := rfl
theorem sgn_lt (a b : Int) : sgn "<" a b = if a < b then 1 else 0 := by
  show b2n (decide (a < b)) = _
  unfold b2n
  by_cases h : a < b <;> simp [h]
theorem sgn_eq (a b : Int) : sgn "=" a b = if a = b then 1 else 0 := by
  show b2n (decide (a = b)) = _
  unfold b2n
  by_cases h : a = b <;> simp [h]
theorem sgn_and (a b : Int) : sgn "&" a b = Builtin.bitAnd a b := rfl
theorem sgn_xor (a b : Int) : sgn "^" a b = Builtin.bitXor a b := rfl
theorem cdivn {i j : Int} (h : j ≠ 0) (h1 : -1073741824 < j) (h2 : j < 1073741824) : CDivN i j := ⟨h, by omega⟩
theorem brt_wt (n : Int) : Wt (brt n) := by
  have h0 := Int.emod_nonneg (n - -32768) (b := 65536) (by decide)
  have h1 := Int.emod_lt_of_pos (n - -32768) (b := 65536) (by decide)
  unfold Wt brt
  omega
theorem told_wt (g : Str) (a b : Int) : Wt (told g a b) := by
  unfold told
  exact brt_wt _
end Vt
namespace Vt
open PySem PySem.Spec PyProof.Rows PySem.W L2
open PySem PyProof.Rows PySem.W
variable [WorldC]
/-! ### worths brought, signs told: plain laws -/
theorem brt_ex (n : Int) : ∃ k, brt n = n + 65536 * k := ⟨-((n - -32768) / 65536), by unfold brt; omega⟩
theorem brt_shift (y z : Int) : brt (y + 65536 * z) = brt y := by unfold brt; omega
theorem brt_id {n : Int} (h : Wt n) : brt n = n := by unfold Wt at h; unfold brt; omega
theorem brt_add (x y : Int) : brt (brt x + y) = brt (x + y) := by unfold brt; omega
theorem brt_add' (x y : Int) : brt (x + brt y) = brt (x + y) := by unfold brt; omega
theorem brt_sub (x y : Int) : brt (brt x - y) = brt (x - y) := by unfold brt; omega
theorem brt_mul (x c : Int) : brt (brt x * c) = brt (x * c) := by
  obtain ⟨k, hk⟩ := brt_ex x
  rw [hk, Int.add_mul, Int.mul_assoc, brt_shift]
theorem brt_mul' (x c : Int) : brt (c * brt x) = brt (c * x) := by rw [Int.mul_comm, brt_mul, Int.mul_comm]
theorem brt_mul_add (x c r : Int) : brt (brt x * c + r) = brt (x * c + r) := by rw [← brt_add, brt_mul, brt_add]
theorem t_add (a b : Int) : told "+" a b = brt (a + b) := by unfold told; rfl
theorem t_sub (a b : Int) : told "-" a b = brt (a - b) := by unfold told; rfl
theorem t_mul (a b : Int) : told "*" a b = brt (a * b) := by unfold told; rfl
theorem t_div (a b : Int) : told "/" a b = brt (if b = 0 then 0 else a.fdiv b) := by unfold told; rfl
theorem t_mod (a b : Int) : told "#" a b = brt (if b = 0 then 0 else a - b * a.fdiv b) := by unfold told; rfl
theorem t_lt (a b : Int) : told "<" a b = if a < b then 1 else 0 := by
  unfold told
  rw [sgn_lt]
  by_cases h : a < b
  · rw [if_pos h]; decide
  · rw [if_neg h]; decide
theorem t_eq (a b : Int) : told "=" a b = if a = b then 1 else 0 := by
  unfold told
  rw [sgn_eq]
  by_cases h : a = b
  · rw [if_pos h]; decide
  · rw [if_neg h]; decide
theorem t_and (a b : Int) : told "&" a b = brt (Builtin.bitAnd a b) := by unfold told; rfl
theorem t_xor (a b : Int) : told "^" a b = brt (Builtin.bitXor a b) := by unfold told; rfl
/-! ### bits -/
theorem xor_halves (x y : Int) : Builtin.bitXor x y = 2 * Builtin.bitXor (x / 2) (y / 2) + (if x % 2 = y % 2 then 0 else 1) := by
  rw [bitXor_and, bitXor_and, kbt_halves x y]
  by_cases h : x % 2 = 1 ∧ y % 2 = 1
  · rw [if_pos h, if_pos (by omega)]; omega
  · rw [if_neg h]
    by_cases h2 : x % 2 = y % 2
    · rw [if_pos h2]; omega
    · rw [if_neg h2]; omega
theorem bits_n (n : Nat) : ∀ x y : Int, -(2 ^ n : Nat) ≤ x → x < (2 ^ n : Nat) → -(2 ^ n : Nat) ≤ y → y < (2 ^ n : Nat) →
    (-(2 ^ n : Nat) ≤ Builtin.bitAnd x y ∧ Builtin.bitAnd x y < (2 ^ n : Nat)) ∧ (-(2 ^ n : Nat) ≤ Builtin.bitXor x y ∧ Builtin.bitXor x y < (2 ^ n : Nat)) ∧
      Builtin.bitXor (Builtin.bitXor x y) y = x ∧ Builtin.bitAnd (Builtin.bitAnd x y) (Builtin.bitXor x y) = 0 := by
  induction n with
  | zero =>
    intro x y h1 h2 h3 h4
    have hx : x = -1 ∨ x = 0 := by simp at h1 h2; omega
    have hy : y = -1 ∨ y = 0 := by simp at h3 h4; omega
    rcases hx with rfl | rfl <;> rcases hy with rfl | rfl <;> decide
  | succ n ih =>
    intro x y h1 h2 h3 h4
    have e : (2 ^ (n + 1) : Nat) = 2 * 2 ^ n := by rw [Nat.pow_succ, Nat.mul_comm]
    rw [e] at h1 h2 h3 h4 ⊢
    obtain ⟨⟨a1, a2⟩, ⟨b1, b2⟩, c1, c2⟩ := ih (x / 2) (y / 2) (by omega) (by omega) (by omega) (by omega)
    have ha := kbt_halves x y
    have hx := xor_halves x y
    have ha2 : Builtin.bitAnd x y / 2 = Builtin.bitAnd (x / 2) (y / 2) := by rw [ha]; split <;> omega
    have hx2 : Builtin.bitXor x y / 2 = Builtin.bitXor (x / 2) (y / 2) := by rw [hx]; split <;> omega
    have ham : Builtin.bitAnd x y % 2 = if x % 2 = 1 ∧ y % 2 = 1 then 1 else 0 := by rw [ha]; split <;> omega
    have hxm : Builtin.bitXor x y % 2 = if x % 2 = y % 2 then 0 else 1 := by rw [hx]; split <;> omega
    refine ⟨?_, ?_, ?_, ?_⟩
    · rw [ha]; split <;> omega
    · rw [hx]; split <;> omega
    · rw [xor_halves, hx2, c1, hxm]
      by_cases h : x % 2 = y % 2
      · rw [if_pos h]; split <;> omega
      · rw [if_neg h]; split <;> omega
    · rw [kbt_halves, ha2, hx2, c2, ham, hxm]
      rw [if_neg]
      · rfl
      · rintro ⟨z1, z2⟩
        by_cases h : x % 2 = 1 ∧ y % 2 = 1
        · rw [if_pos (by omega)] at z2; omega
        · rw [if_neg h] at z1; omega
theorem and_m1 (x : Int) : Builtin.bitAnd x (-1) = x := by
  have h := bitAnd_not x 0
  rw [bitAnd_zero] at h
  have e : Builtin.bitNot 0 = -1 := by decide
  rw [e] at h
  omega
theorem bits_w {x y : Int} (hx : Wt x) (hy : Wt y) : Wt (Builtin.bitAnd x y) ∧ Wt (Builtin.bitXor x y) ∧ Builtin.bitXor (Builtin.bitXor x y) y = x ∧ Builtin.bitAnd (Builtin.bitAnd x y) (Builtin.bitXor x y) = 0 := by
  unfold Wt at hx hy
  have e : ((2 ^ 15 : Nat) : Int) = 32768 := by decide
  obtain ⟨⟨a1, a2⟩, ⟨b1, b2⟩, c1, c2⟩ := bits_n 15 x y (by rw [e]; omega) (by rw [e]; omega) (by rw [e]; omega) (by rw [e]; omega)
  rw [e] at a1 a2 b1 b2
  exact ⟨⟨by omega, by omega⟩, ⟨by omega, by omega⟩, c1, c2⟩
/-! ### quotients -/
theorem rest_is (a : Int) {b : Int} (hb : b ≠ 0) : (0 < b → 0 ≤ a - b * a.fdiv b ∧ a - b * a.fdiv b < b) ∧ (b < 0 → b < a - b * a.fdiv b ∧ a - b * a.fdiv b ≤ 0) := by
  have h := Int.fmod_def a b
  have h2 := (Int.fmod_eq_emod (a := a) (b := b))
  have h0 := Int.emod_nonneg a hb
  rw [← h, h2]
  constructor
  · intro p
    have h1 := Int.emod_lt_of_pos a p
    rw [if_pos (Or.inl (by omega))]
    omega
  · intro p
    have h1 := Int.emod_lt_of_neg a p
    by_cases d : b ∣ a
    · rw [if_pos (Or.inr d), Int.emod_eq_zero_of_dvd d]
      omega
    · rw [if_neg (by intro z; rcases z with z | z; omega; exact d z)]
      have : a % b ≠ 0 := fun z => d (Int.dvd_of_emod_eq_zero z)
      omega
/-! ### k03's laws -/
theorem l_addc (a b : Int) : told "+" a b = told "+" b a := by rw [t_add, t_add, Int.add_comm]
theorem l_mulc (a b : Int) : told "*" a b = told "*" b a := by rw [t_mul, t_mul, Int.mul_comm]
theorem l_adda (a b c : Int) : told "+" (told "+" a b) c = told "+" a (told "+" b c) := by rw [t_add, t_add, t_add, t_add, brt_add, brt_add', Int.add_assoc]
theorem l_mula (a b c : Int) : told "*" (told "*" a b) c = told "*" a (told "*" b c) := by rw [t_mul, t_mul, t_mul, t_mul, brt_mul, brt_mul', Int.mul_assoc]
theorem l_subadd {a : Int} (b : Int) (ha : Wt a) : told "-" (told "+" a b) b = a := by
  rw [t_sub, t_add, brt_sub, show a + b - b = a by omega, brt_id ha]
theorem l_addsub {a : Int} (b : Int) (ha : Wt a) : told "+" (told "-" a b) b = a := by
  rw [t_sub, t_add, brt_add, show a - b + b = a by omega, brt_id ha]
theorem l_dist (a b c : Int) : told "*" a (told "+" b c) = told "+" (told "*" a b) (told "*" a c) := by
  rw [t_mul, t_add, t_mul, t_mul, t_add, brt_mul', brt_add, brt_add', Int.mul_add]
theorem l_div0 (a : Int) : told "/" a 0 = 0 := by rw [t_div, if_pos rfl]; decide
theorem l_mod0 (a : Int) : told "#" a 0 = 0 := by rw [t_mod, if_pos rfl]; decide
theorem l_rest {a b : Int} (hb : b ≠ 0) (wa : Wt b) : told "#" a b = a - b * a.fdiv b := by
  rw [t_mod, if_neg hb]
  obtain ⟨h1, h2⟩ := rest_is a hb
  unfold Wt at wa
  refine brt_id ⟨?_, ?_⟩ <;> (rcases Int.lt_or_gt_of_ne hb with h | h <;> first | (have := h1 h; omega) | (have := h2 h; omega))
theorem l_back {a b : Int} (hb : b ≠ 0) (wa : Wt a) (wb : Wt b) : brt (told "/" a b * b + told "#" a b) = a := by
  rw [l_rest hb wb, t_div, if_neg hb, brt_mul_add, Int.mul_comm, show b * a.fdiv b + (a - b * a.fdiv b) = a by omega, brt_id wa]
theorem l_near {a b : Int} (hb : b ≠ 0) (wb : Wt b) : (told "#" a b).natAbs < b.natAbs := by
  rw [l_rest hb wb]
  obtain ⟨h1, h2⟩ := rest_is a hb
  rcases Int.lt_or_gt_of_ne hb with h | h
  · have := h2 h; omega
  · have := h1 h; omega
theorem l_side {a b : Int} (hb : b ≠ 0) (wb : Wt b) (hr : told "#" a b ≠ 0) : decide (told "#" a b < 0) = decide (b < 0) := by
  rw [l_rest hb wb] at hr ⊢
  obtain ⟨h1, h2⟩ := rest_is a hb
  rcases Int.lt_or_gt_of_ne hb with h | h
  · have := h2 h
    rw [decide_eq_true h, decide_eq_true (by omega)]
  · have := h1 h
    rw [decide_eq_false (by omega), decide_eq_false (by omega)]
theorem l_bits (a b : Int) : brt (a + b) = brt (told "^" a b + 2 * told "&" a b) := by
  rw [t_xor, t_and, brt_add, bitXor_and]
  obtain ⟨k, hk⟩ := brt_ex (Builtin.bitAnd a b)
  rw [hk, show a + b - 2 * Builtin.bitAnd a b + 2 * (Builtin.bitAnd a b + 65536 * k) = a + b + 65536 * (2 * k) by omega, brt_shift]
theorem l_xorx {a b : Int} (wa : Wt a) (wb : Wt b) : told "^" (told "^" a b) b = a := by
  obtain ⟨_, h2, h3, _⟩ := bits_w wa wb
  rw [t_xor, t_xor, brt_id h2, h3, brt_id wa]
theorem l_andx {a b : Int} (wa : Wt a) (wb : Wt b) : told "&" (told "&" a b) (told "^" a b) = 0 := by
  obtain ⟨h1, h2, _, h4⟩ := bits_w wa wb
  rw [t_and, t_and, t_xor, brt_id h1, brt_id h2, h4]
  decide
theorem l_ands {a : Int} (wa : Wt a) : told "&" a a = a := by rw [t_and, bitAnd_self, brt_id wa]
theorem l_xors (a : Int) : told "^" a a = 0 := by rw [t_xor, bitXor_self]; decide
theorem l_andm {a : Int} (wa : Wt a) : told "&" a (-1) = a := by rw [t_and, and_m1, brt_id wa]
theorem l_xor0 {a : Int} (wa : Wt a) : told "^" a 0 = a := by rw [t_xor, bitXor_zero, brt_id wa]
theorem l_three (a b : Int) : told "<" a b + told "<" b a + told "=" a b = 1 := by
  rw [t_lt, t_lt, t_eq]
  by_cases h : a < b
  · rw [if_pos h, if_neg (by omega), if_neg (by omega)] <;> rfl
  · by_cases h2 : a = b
    · rw [if_neg h, if_neg (by omega), if_pos h2] <;> rfl
    · rw [if_neg h, if_pos (by omega), if_neg h2] <;> rfl
theorem l_same (a : Int) : told "=" a a = 1 := by rw [t_eq, if_pos rfl]
theorem l_trans {a b c : Int} (h1 : told "<" a b = 1) (h2 : told "<" b c = 1) : told "<" a c = 1 := by
  rw [t_lt] at *
  by_cases x : a < b
  · by_cases y : b < c
    · rw [if_pos (by omega)]
    · rw [if_neg y] at h2; cases h2
  · rw [if_neg x] at h1; cases h1
end Vt
namespace Vt
open PySem PySem.Spec PyProof.Rows PySem.W L2
variable [WorldC]
/-! ### k02: bits step by step -/
theorem fd {a p : Int} (hp : 0 < p) : a.fdiv p = a / p := Int.fdiv_eq_ediv_of_nonneg a (by omega)
theorem fm2 (a : Int) : a.fmod 2 = a % 2 := Int.fmod_eq_emod_of_nonneg a (by decide)
theorem dd2 {a p : Int} (hp : 0 < p) : a / (p * 2) = a / p / 2 := by rw [Int.ediv_ediv_of_nonneg (by omega)]
theorem and_step {a b p f r : Int} (hp : 0 < p) (h : f + p * Builtin.bitAnd (a / p) (b / p) = r) :
    f + p * ((a.fdiv p).fmod 2 * (b.fdiv p).fmod 2) + p * 2 * Builtin.bitAnd (a / (p * 2)) (b / (p * 2)) = r := by
  rw [fd hp, fd hp, fm2, fm2, dd2 hp, dd2 hp, ← h]
  have e := kbt_halves (a / p) (b / p)
  have e2 : a / p % 2 * (b / p % 2) = if a / p % 2 = 1 ∧ b / p % 2 = 1 then 1 else 0 := by
    have h1 : a / p % 2 = 0 ∨ a / p % 2 = 1 := by omega
    have h2 : b / p % 2 = 0 ∨ b / p % 2 = 1 := by omega
    rcases h1 with h1 | h1 <;> rcases h2 with h2 | h2 <;> rw [h1, h2] <;> decide
  rw [e, ← e2, Int.mul_add, Int.mul_assoc p 2]
  omega
theorem xor_step {a b p f r : Int} (hp : 0 < p) (h : f + p * Builtin.bitXor (a / p) (b / p) = r) :
    f + p * ((a.fdiv p).fmod 2 + (b.fdiv p).fmod 2).fmod 2 + p * 2 * Builtin.bitXor (a / (p * 2)) (b / (p * 2)) = r := by
  rw [fd hp, fd hp, fm2, fm2, fm2, dd2 hp, dd2 hp, ← h]
  have e := xor_halves (a / p) (b / p)
  have e2 : (a / p % 2 + b / p % 2) % 2 = if a / p % 2 = b / p % 2 then 0 else 1 := by
    by_cases h : a / p % 2 = b / p % 2
    · rw [if_pos h]; omega
    · rw [if_neg h]; omega
  rw [e, ← e2, Int.mul_add, Int.mul_assoc p 2]
  omega
theorem end_brt {f z r : Int} (h : f + 65536 * z = r) : brt f = brt r := by rw [← h, brt_shift]
theorem cm2 (x y : Int) : CMul (x.fmod 2) y := by
  rw [fm2]
  exact cmul_l (by omega) (by omega)
theorem quo {a b : Int} (hb : b ≠ 0) : (a - a.fmod b).fdiv b = a.fdiv b := by
  rw [Int.fmod_def, show a - (a - b * a.fdiv b) = b * a.fdiv b by omega]
  exact Int.mul_fdiv_cancel_left _ hb
theorem pow_le {i : Nat} (h : i < 16) : (((2 ^ i : Nat) : Int)) ≤ 32768 := by
  have : 2 ^ i ≤ 2 ^ 15 := Nat.pow_le_pow_right (by decide) (by omega)
  have e : (2 ^ 15 : Nat) = 32768 := by decide
  rw [e] at this
  omega
theorem pow_pos' (i : Nat) : (0 : Int) < ((2 ^ i : Nat) : Int) := by
  have : 0 < 2 ^ i := Nat.pow_pos (by decide)
  omega
theorem pow_succ' (i : Nat) : ((2 ^ (i + 1) : Nat) : Int) = ((2 ^ i : Nat) : Int) * 2 := by
  rw [Nat.pow_succ]
  omega
/-! ### keyword calls -/
theorem FunDkall {K : PySem.W.Frag} {x qual : Str} {params : Arguments} {body : List Stmt} {scope : Scope} {kws : List (Str × V)} {f : Addr} {fd : FuncData} {ps : List Str} (F : FunD K x qual params body scope [] kws f fd) (n : Nat) (ks : List Str)
    (g : {α : Type} → List α → List α → List α)
    (hrel : ∀ {vs zs : List V} {us ws : List Value}, Vals vs us → Vals zs ws → Vals (g vs zs) (g us ws))
    (h : ∀ (kV doc pm : Value) (an : Option Addr) (cdv ct : Value) (us ws : List Value), us.length = n → ws.length = ks.length → bindArgs (PySem.W.fnOf x qual params body scope .none kV doc pm an cdv ct) ⟨us, ks.zip ws⟩ = pure (ps.zip (g us ws))) :
    KBn K fd ps n ks (fun us ws => g us ws) (fun vs zs => g vs zs) := by
  obtain ⟨oc, od, dV, kV, doc, pm, an, cdv, ct, osl, rfl, lk, hcd, hD, hK⟩ := F.ex
  rcases hD with ⟨_, rfl⟩ | ⟨e, _⟩
  · exact ⟨fun s us ws X l1 l2 => .of_eq (h kV doc pm an cdv ct us ws l1 l2), fun r1 r2 => hrel r1 r2⟩
  · exact absurd rfl e
end Vt
namespace Vt
open PySem PySem.Spec L2
variable [WorldC]
/-! ### calls with a lent local, told shortly -/
def dOwnArg (t : DTA) : DTA := fun ρ Q => t ρ fun ds ρ1 => Q (.none :: ds) ρ1
def dgOf (t : DTA) : DTGP := fun ρ Q => t ρ fun ds ρ1 => Q [] ds ρ1
def dCall1 (np j i : Nat) (spd : DSp) (t : DTA) : DTE := fun ρ Q => t ρ fun ds ρ1 => At ρ1 i fun c => ds.length = np ∧ spd (ds.set j c) (fun d cs => match cs with | [c'] => Q d (ρ1.set i (some c')) | _ => False) dNoX
theorem opt_some {α : Type} {a : α} {F : α → Prop} : Opt (some a) F = F a := propext ⟨fun ⟨_, e, h⟩ => by cases e; exact h, fun h => ⟨a, rfl, h⟩⟩
theorem call1_eq (np j i : Nat) (spd : DSp) (t : DTA) (mo : Mono spd) : dSure (dCallP np j i spd (dgOf t)) = dCall1 np j i spd t := by
  funext ρ Q
  show t ρ _ = t ρ _
  congr 1
  funext ds ρ1
  show At ρ1 i _ = At ρ1 i _
  congr 1
  funext c
  rw [show atD c [] = some c from rfl, opt_some]
  refine propext ⟨fun ⟨h1, h2⟩ => ⟨h1, mo _ _ _ _ _ (fun d cs q => ?_) (fun n fs cs q => ?_) h2⟩, fun ⟨h1, h2⟩ => ⟨h1, mo _ _ _ _ _ (fun d cs q => ?_) (fun n fs cs q => q.elim) h2⟩⟩
  · match cs, q with
    | [c'], q => exact q
  · match cs, q with
    | [c'], q => exact q
  · match cs, q with
    | [c'], q => exact q
section
variable {X : Cx} {op : Op} {e : Expr} {es : List Expr} {t : TA} {te : TE} {q q1 : Bool} {t' : DTA} {te' : DTE} {np i j k l n : Nat} {spd : DSp} {s s' rs : Sh} {x : Str} {ps : List Str} {p pos : Pos}
theorem dgp_v (h : PE X e (tVar i)) (hr : DA X op es t [] q t') (n : op[n]? = some (i, kT s) := by rfl) (hs : starEach (e :: es) X.env = (false, eval e X.env) :: starEach es X.env := by rfl) : DGP X op (e :: es) 0 i s s (tCons (tVar i) t) q (dgOf (dOwnArg t')) := dgp_var h hr n hs
theorem dgp_l (ha : DE X op e te [] [] q1 te') (hr : DGP X op es j i s s' t q (dgOf t')) (hs : starEach (e :: es) X.env = (false, eval e X.env) :: starEach es X.env := by rfl) : DGP X op (e :: es) (j + 1) i s s' (tCons te t) (q1 && q) (dgOf (dCons te' t')) := dgp_later ha hr hs
theorem de_call1 (mo : Mono spd) (Cg : CalG X.prog X.w X.K X.mg X.base (L2.CX X.prog X.w) k x ps [] (spOf X.K [(j, kT s')] [(j, kT s')] [(j, kT s')] np .leaf spd)) (hr : RoomG l X.A) (ha : DGP X op (e :: es) j i s s' t q (dgOf t')) (hkj : k ≤ l := by decide) (hg : Gl X x := by rfl)
    (hdb : (x == ("__debug__" : Str)) = false := by decide) (he : starEach (e :: es) X.env = (false, eval e X.env) :: starEach es X.env := by rfl) (hpl : (backTo pos (starEach es X.env)).any (·.1) = false := by rfl) :
    DE X op (.Call (.Name x p) (e :: es) [] pos) (tCallA (spOf X.K [(j, kT s')] [(j, kT s')] [(j, kT s')] np .leaf spd) [] (wE (J0 op).W) t) [] [] false (dCall1 np j i spd t') := by
  rw [← call1_eq np j i spd t' mo]
  exact de_callP mo Cg hr ha hkj hg hdb he hpl
theorem dfr_call1 (mo : Mono spd) (Cg : CalG X.prog X.w X.K X.mg X.base (L2.CX X.prog X.w) k x ps [] (spOf X.K [(j, kT s')] [(j, kT s')] [(j, kT s')] np rs spd)) (hr : RoomG l X.A) (ha : DGP X op (e :: es) j i s s' t q (dgOf t')) (hkj : k ≤ l := by decide) (hg : Gl X x := by rfl)
    (hdb : (x == ("__debug__" : Str)) = false := by decide) (he : starEach (e :: es) X.env = (false, eval e X.env) :: starEach es X.env := by rfl) (hpl : (backTo pos (starEach es X.env)).any (·.1) = false := by rfl) :
    DFr X op (.Call (.Name x p) (e :: es) [] pos) rs (tCallA (spOf X.K [(j, kT s')] [(j, kT s')] [(j, kT s')] np rs spd) [] (wE (J0 op).W) t) (dCall1 np j i spd t') := by
  rw [← call1_eq np j i spd t' mo]
  exact dfr_callP mo Cg hr ha hkj hg hdb he hpl
end
end Vt
namespace Pn
open PySem L2 Vt
variable [WorldC]
local macro_rules | `(tactic| k_caught0) => `(tactic| fail)
local macro_rules | `(tactic| top_raise0) => `(tactic| first | (refine Nat.le_trans ?_ (show 16777216 ≤ PySem.sizeLine from Nat.le_refl _); (try simp only [reps_one, List.length_map, List.length_append, List.length_replicate, List.length_cons, List.length_nil, List.length_reverse, List.length_take, List.length_drop] at *); omega) | (refine Nat.lt_of_lt_of_le ?_ (show 16777216 ≤ PySem.sizeLine from Nat.le_refl _); (try simp only [reps_one, List.length_map, List.length_append, List.length_replicate, List.length_cons, List.length_nil, List.length_reverse, List.length_take, List.length_drop] at *); omega))
local macro_rules | `(tactic| k_caughtB) => `(tactic| first | assumption | rfl | decide | exact Nat.le_of_ble_eq_true rfl | omega | exact shaped_ints _ | exact shaped_l0 | exact cdiv (by omega) (by omega) | exact cpow18 | exact cdivn (by assumption) (by omega) (by omega) | exact cmul_m (by omega) (by omega) | exact cmul_l (by omega) (by omega) | exact cmul_r (by omega) (by omega) | (simp only [List.length_map, List.length_append, List.length_replicate, List.length_cons, List.length_nil, List.length_reverse, List.length_take, List.length_drop] at *; omega) | top_raise0 | fail)
local macro_rules | `(tactic| k_caughtNB) => `(tactic| first
  | ((with_reducible refine br_d (fun hb => ?_) (fun hb => ?_)) <;> first | with_reducible exact absurd rfl hb | skip)
  | ((with_reducible refine br_l0 (fun hb => ?_) (fun hb => ?_)) <;> first | exact absurd rfl hb | exact absurd hb (snoc_ne _ _) | skip)
  | ((with_reducible refine br_nl0 (fun hb => ?_) (fun hb => ?_)) <;> first | exact absurd rfl hb | exact absurd hb (snoc_ne _ _) | skip)
  | ((with_reducible refine br_li (fun hb => ?_) (fun hb => ?_)) <;> first | exact absurd rfl hb | exact absurd hb (snoc_ne _ _) | skip)
  | ((with_reducible refine br_nli (fun hb => ?_) (fun hb => ?_)) <;> first | exact absurd rfl hb | exact absurd hb (snoc_ne _ _) | skip)
  | ((with_reducible refine br_n (fun hb => ?_) (fun hb => ?_)) <;> first | with_reducible exact absurd rfl hb | skip)
  | with_reducible refine br_z (fun hb => ?_) (fun hb => ?_)
  | with_reducible refine br_e (fun hb => ?_) (fun hb => ?_)
  | with_reducible refine br_t ?_
  | with_reducible refine br_f ?_
  | ((with_reducible refine br_kt ?hside ?_); (case hside => rfl))
  | ((with_reducible refine br_kf ?hside ?_); (case hside => rfl))
  | with_reducible refine br (fun hb => ?_) (fun hb => ?_)
  | k_caught0
  | with_reducible refine opt rfl ?_
  | with_reducible refine opt (at_last _ _) ?_
  | ((with_reducible refine opt_int ?hside ?hside2 (fun hb => ?_)); (case hside => k_caughtB); (case hside2 => k_caughtB))
  | ((with_reducible refine And.intro ?hside ?_); (case hside => k_caughtB))
  | fail)
local macro_rules | `(tactic| k_caughtN0) => `(tactic| ((repeat' (first | k_caughtNB | ((conv => whnf); k_caughtNB) | fail)) <;> (try (conv => whnf))))
theorem len_s {α : Type} (a : α) (r : List α) : ((a :: r).length : Int) = (r.length : Int) + 1 := by simp
theorem pa0 {α : Type} {a : α} {r : List α} : atI (a :: r) 0 = some a := by
  unfold atI ixN
  rw [if_pos (by decide), if_pos (by rw [len_s]; omega)]
  rfl
theorem pa1 {α : Type} {a b : α} {r : List α} : atI (a :: b :: r) 1 = some b := by
  unfold atI ixN
  rw [if_pos (by decide), if_pos (by rw [len_s, len_s]; omega)]
  rfl
theorem pa2 {α : Type} {a b c : α} {r : List α} : atI (a :: b :: c :: r) 2 = some c := by
  unfold atI ixN
  rw [if_pos (by decide), if_pos (by rw [len_s, len_s, len_s]; omega)]
  rfl
theorem px1 {α : Type} {a b : α} {r : List α} : ixN (a :: b :: r).length 1 = some 1 := by
  unfold ixN
  rw [if_pos (by decide), if_pos (by rw [len_s, len_s]; omega)]
  rfl
theorem px2 {α : Type} {a b c : α} {r : List α} : ixN (a :: b :: c :: r).length 2 = some 2 := by
  unfold ixN
  rw [if_pos (by decide), if_pos (by rw [len_s, len_s, len_s]; omega)]
  rfl
theorem ps0 {α : Type} {a b c x : α} {r : List α} : atI ((a :: b :: c :: r).set 1 x) 0 = some a := pa0 (r := x :: c :: r)
theorem ps2 {α : Type} {a b c x : α} {r : List α} : atI ((a :: b :: c :: r).set 1 x) 2 = some c := pa2 (a := a) (b := x) (r := r)
theorem psx {α : Type} {a b c x : α} {r : List α} : ixN ((a :: b :: c :: r).set 1 x).length 2 = some 2 := px2 (a := a) (b := x) (c := c) (r := r)
local macro_rules | `(tactic| k_caught0) => `(tactic| first | with_reducible refine opt pa2 ?_ | with_reducible refine opt px2 ?_ | with_reducible refine opt px1 ?_ | with_reducible refine opt pa1 ?_ | with_reducible refine opt pa0 ?_ | with_reducible refine opt ps0 ?_ | with_reducible refine opt ps2 ?_ | with_reducible refine opt psx ?_ | fail)
def b_pdraw : DTS := (dSeq (dIfS (dTest (dOp (dOrd gGt zGt) (dOp dIx (dVar 0) (dC (.int 2))) (dC (.int 0)))) (dSeq (dSet 2 (dOp dMod (dOp dIx (dVar 0) (dC (.int 2))) (dVar 1)))
  (dSeq (dPut 0 (dOp dDiv (dOp dIx (dVar 0) (dC (.int 2))) (dVar 1)) (dC (.int 2)))
  (dRet [(0, kL)] (dVar 2)))) dNext)
  (dSeq (dSet 3 (dOp dIx (dVar 0) (dC (.int 1))))
  (dSeq (dPut 0 (dOp dAdd (dVar 3) (dC (.int 1))) (dC (.int 1)))
  (dSeq (dSet 4 (dC (.int 0)))
  (dSeq (dIfS (dTest (dOp dNe (dOp dIx (dVar 0) (dC (.int 0))) (dLst dNil))) (dSet 4 (dOp dIx (dOp dIx (dVar 0) (dC (.int 0))) (dOp dMod (dVar 3) (dUn dLen (dOp dIx (dVar 0) (dC (.int 0))))))) dNext)
  (dSeq (dIfS (dAnd (dTest (dOp (dOrd gLt zLt) (dVar 3) (dUn dLen (dOp dIx (dVar 0) (dC (.int 0)))))) (dTest (dOp (dOrd gGe zGe) (dUn dAbs (dVar 4)) (dOp dPow (dC (.int 10)) (dC (.int 18)))))) (dSeq (dPut 0 (dOp dDiv (dOp dSub (dUn dAbs (dVar 4)) (dOp dPow (dC (.int 10)) (dC (.int 18)))) (dVar 1)) (dC (.int 2)))
  (dRet [(0, kL)] (dOp dMod (dOp dSub (dUn dAbs (dVar 4)) (dOp dPow (dC (.int 10)) (dC (.int 18)))) (dVar 1)))) dNext)
  (dSeq (dSet 5 (dLst (dCons (dC (.int 2147483647)) (dCons (dC (.int 2147483629)) (dCons (dC (.int 2147483587)) (dCons (dC (.int 2147483579)) (dCons (dC (.int 2147483563)) dNil)))))))
  (dSeq (dSet 6 (dOp dIx (dVar 5) (dOp dMod (dVar 3) (dC (.int 5)))))
  (dSeq (dSet 7 (dOp dMod (dOp dAdd (dOp dAdd (dOp dAdd (dOp dMul (dOp dMod (dVar 4) (dVar 6)) (dC (.int 48271))) (dOp dMul (dOp dMul (dC (.int 7919)) (dVar 3)) (dVar 3))) (dOp dMul (dC (.int 69621)) (dVar 3))) (dC (.int 1))) (dVar 6)))
  (dSeq (dSet 7 (dOp dMod (dOp dMul (dVar 7) (dOp dAdd (dVar 7) (dC (.int 16807)))) (dOp dIx (dVar 5) (dOp dMod (dOp dAdd (dVar 3) (dC (.int 2))) (dC (.int 5))))))
  (dRet [(0, kL)] (dOp dMod (dOp dDiv (dOp dMod (dOp dMul (dVar 7) (dVar 7)) (dC (.int 2147483549))) (dC (.int 64))) (dVar 1)))))))))))))
def b_fdraw : DTS := (dSeq (dIfS (dTest (dOp (dOrd gGt zGt) (dOp dIx (dVar 0) (dC (.int 2))) (dC (.int 0)))) (dSeq (dSet 2 (dOp dMod (dOp dIx (dVar 0) (dC (.int 2))) (dVar 1)))
  (dSeq (dPut 0 (dOp dDiv (dOp dIx (dVar 0) (dC (.int 2))) (dVar 1)) (dC (.int 2)))
  (dRet [(0, kL)] (dVar 2)))) dNext)
  (dSeq (dSet 3 (dOp dIx (dVar 0) (dC (.int 1))))
  (dSeq (dPut 0 (dOp dAdd (dVar 3) (dC (.int 1))) (dC (.int 1)))
  (dSeq (dSet 4 (dVar 3))
  (dSeq (dIfS (dTest (dOp (dOrd gGt zGt) (dUn dLen (dOp dIx (dVar 0) (dC (.int 0)))) (dC (.int 0)))) (dSet 4 (dOp dIx (dOp dIx (dVar 0) (dC (.int 0))) (dOp dMod (dVar 3) (dUn dLen (dOp dIx (dVar 0) (dC (.int 0))))))) dNext)
  (dSeq (dIfS (dAnd (dTest (dOp (dOrd gGe zGe) (dVar 4) (dOp dPow (dC (.int 10)) (dC (.int 18))))) (dTest (dOp (dOrd gLt zLt) (dVar 3) (dUn dLen (dOp dIx (dVar 0) (dC (.int 0))))))) (dSeq (dPut 0 (dOp dDiv (dVar 4) (dVar 1)) (dC (.int 2)))
  (dRet [(0, kL)] (dOp dMod (dVar 4) (dVar 1)))) dNext)
  (dSeq (dSet 5 (dOp dMod (dOp dMul (dOp dAdd (dOp dAdd (dOp dMod (dVar 4) (dC (.int 2147483647))) (dOp dMul (dOp dMul (dC (.int 7919)) (dVar 3)) (dVar 3))) (dC (.int 104729))) (dC (.int 48271))) (dC (.int 2147483647))))
  (dSeq (dSet 5 (dOp dMod (dOp dAdd (dOp dMul (dVar 5) (dVar 5)) (dOp dMul (dC (.int 69621)) (dVar 3))) (dC (.int 2147483629))))
  (dRet [(0, kL)] (dOp dMod (dOp dDiv (dOp dMod (dOp dMul (dVar 5) (dOp dAdd (dOp dMod (dVar 5) (dC (.int 65521))) (dC (.int 1)))) (dC (.int 2147483587))) (dC (.int 64))) (dVar 1)))))))))))
def b_pen : DTS := (dRetT [(0, kS)] (dFl (dfLst (dCons (dUn dList (dSlice (dVar 0) dNoPart (dPart (dC (.int 63))))) (dCons (dC (.int 0)) (dCons (dC (.int 0)) dNil))))))
def b_feed : DTS := (dRetT [(0, kS)] (dFl (dfLst (dCons (dUn dList (dSlice (dVar 0) dNoPart (dPart (dC (.int 63))))) (dCons (dC (.int 0)) (dCons (dC (.int 0)) dNil))))))

/-- the pen: the cells, the turn (at most n), what is left, and whatever else -/
def Pen (p : D) (n : Int) : Prop := ∃ (cs : List Int) (t l : Int) (more : List D), p = .list (.list (cs.map .int) :: .int t :: .int l :: more) ∧ 0 ≤ t ∧ t ≤ n
theorem Pen.le {p : D} {n m : Int} (h : Pen p n) (k : n ≤ m) : Pen p m := by
  obtain ⟨cs, t, l, more, e, h0, h1⟩ := h
  exact ⟨cs, t, l, more, e, h0, by omega⟩
@[irreducible] def spDraw : DSp := fun ds Q _ => ∃ p n m, ds = [p, .int m] ∧ Pen p n ∧ n ≤ 1000000000 ∧ 0 < m ∧ m < 1073741824 ∧ ∀ r p', 0 ≤ r → r < m → Pen p' (n + 1) → Q (.int r) [p']
theorem moDraw : Mono spDraw := by
  unfold spDraw
  rintro ds Q Q' E E' h _ ⟨p, n, m, e, hp, hn, h0, h1, q⟩
  exact ⟨p, n, m, e, hp, hn, h0, h1, fun r p' a b c => h _ _ (q r p' a b c)⟩
theorem r_draw {p : D} {m : Int} {n : Int} {Q : D → List D → Prop} {E : PySem.Str → Fds → List D → Prop} (hp : Pen p n) (hn : n ≤ 1000000000) (h0 : 0 < m) (h1 : m < 1073741824) (q : ∀ r p', 0 ≤ r → r < m → Pen p' (n + 1) → Q (.int r) [p']) : spDraw [p, .int m] Q E := by
  unfold spDraw
  exact ⟨p, n, m, rfl, hp, hn, h0, h1, q⟩
@[irreducible] def spPen : DSp := fun ds Q _ => ∃ ns : List Int, ds = [.list (ns.map .int)] ∧ ∀ p : D, Pen p 0 → Q p [.list (ns.map .int)]
theorem moPen : Mono spPen := by
  unfold spPen
  rintro ds Q Q' E E' h _ ⟨ns, e, q⟩
  exact ⟨ns, e, fun p k => h _ _ (q p k)⟩
theorem r_pen {ns : List Int} {Q : D → List D → Prop} {E : PySem.Str → Fds → List D → Prop} (q : ∀ p : D, Pen p 0 → Q p [.list (ns.map .int)]) : spPen [.list (ns.map .int)] Q E := by
  unfold spPen
  exact ⟨ns, rfl, q⟩
theorem cut_map {α β : Type} (f : α → β) (xs : List α) (lo hi : Option Int) : cutG (xs.map f) lo hi = (cutG xs lo hi).map f := by
  unfold cutG
  simp only [List.length_map, List.map_drop, List.map_take]
theorem pu_pen : ∀ (ds : List D) (Q : D → List D → Prop) (E : PySem.Str → Fds → List D → Prop), ds.length = 1 → spPen ds Q E → b_pen { nx := fun _ => False, rt := Q, ex := fun n fs ρ => E n fs (conts ρ [(0, kS)]) } (start0 1 ds) := by
  intro ds Q E hl h
  unfold spPen at h
  obtain ⟨ns, rfl, q⟩ := h
  k_caughtN0
  exact q _ ⟨cutG ns none (some 63), 0, 0, [], by rw [cut_map], by decide, by decide⟩
theorem pu_feed : ∀ (ds : List D) (Q : D → List D → Prop) (E : PySem.Str → Fds → List D → Prop), ds.length = 1 → spPen ds Q E → b_feed { nx := fun _ => False, rt := Q, ex := fun n fs ρ => E n fs (conts ρ [(0, kS)]) } (start0 1 ds) := by
  intro ds Q E hl h
  unfold spPen at h
  obtain ⟨ns, rfl, q⟩ := h
  k_caughtN0
  exact q _ ⟨cutG ns none (some 63), 0, 0, [], by rw [cut_map], by decide, by decide⟩
def Prm (d : D) : Prop := ∃ x, d = .int x ∧ 2147483563 ≤ x ∧ x ≤ 2147483647
theorem prm : ∀ d ∈ ([.int 2147483647, .int 2147483629, .int 2147483587, .int 2147483579, .int 2147483563] : List D), Prm d := by
  intro d h
  simp only [List.mem_cons, List.not_mem_nil, or_false] at h
  rcases h with rfl | rfl | rfl | rfl | rfl <;> exact ⟨_, rfl, by decide, by decide⟩
theorem pu_pdraw : ∀ (ds : List D) (Q : D → List D → Prop) (E : PySem.Str → Fds → List D → Prop), ds.length = 2 → spDraw ds Q E → b_pdraw { nx := fun ρ => Q .none (conts ρ [(0, kL)]), rt := Q, ex := fun n fs ρ => E n fs (conts ρ [(0, kL)]) } (start0 8 ds) := by
  intro ds Q E hl h
  unfold spDraw at h
  obtain ⟨p, n, m, rfl, ⟨cs, t, l, more, rfl, ht0, htn⟩, hn, hm0, hm1, q⟩ := h
  k_caughtN0
  · (refine q _ _ ?_ ?_ ⟨cs, _, _, more, rfl, ?_, ?_⟩ <;> first | omega | exact Int.emod_nonneg _ (by omega) | exact Int.emod_lt_of_pos _ (by omega))
  · rename_i hb2
    have hc : cs ≠ [] := hb2
    have hc2 : 0 < ((cs.map D.int).length : Int) := by
      have := List.length_pos_iff.mpr hc
      rw [List.length_map]
      omega
    obtain ⟨x, hx, e⟩ := at_mod (t := t) hc2
    refine ⟨hc2, ?_⟩
    conv => whnf
    refine opt e ?_
    clear e
    k_caughtN0
    · (refine q _ _ ?_ ?_ ⟨cs, _, _, more, rfl, ?_, ?_⟩ <;> first | omega | exact Int.emod_nonneg _ (by omega) | exact Int.emod_lt_of_pos _ (by omega))
    all_goals (((refine opt_all Prm rfl (by decide) prm ?_); (rintro _ ⟨y, rfl, hy1, hy2⟩); k_caughtN0; (refine opt_all Prm rfl (by decide) prm ?_); (rintro _ ⟨y2, rfl, hy3, hy4⟩); k_caughtN0; (refine q _ _ ?_ ?_ ⟨cs, _, _, more, rfl, ?_, ?_⟩ <;> first | omega | exact Int.emod_nonneg _ (by omega) | exact Int.emod_lt_of_pos _ (by omega))))
  · (refine q _ _ ?_ ?_ ⟨cs, _, _, more, rfl, ?_, ?_⟩ <;> first | omega | exact Int.emod_nonneg _ (by omega) | exact Int.emod_lt_of_pos _ (by omega))
  all_goals ((refine opt_all Prm rfl (by decide) prm ?_); (rintro _ ⟨y, rfl, hy1, hy2⟩); k_caughtN0; (refine opt_all Prm rfl (by decide) prm ?_); (rintro _ ⟨y2, rfl, hy3, hy4⟩); k_caughtN0; (refine q _ _ ?_ ?_ ⟨cs, _, _, more, rfl, ?_, ?_⟩ <;> first | omega | exact Int.emod_nonneg _ (by omega) | exact Int.emod_lt_of_pos _ (by omega)))
theorem pu_fdraw : ∀ (ds : List D) (Q : D → List D → Prop) (E : PySem.Str → Fds → List D → Prop), ds.length = 2 → spDraw ds Q E → b_fdraw { nx := fun ρ => Q .none (conts ρ [(0, kL)]), rt := Q, ex := fun n fs ρ => E n fs (conts ρ [(0, kL)]) } (start0 6 ds) := by
  intro ds Q E hl h
  unfold spDraw at h
  obtain ⟨p, n, m, rfl, ⟨cs, t, l, more, rfl, ht0, htn⟩, hn, hm0, hm1, q⟩ := h
  k_caughtN0
  · (refine q _ _ ?_ ?_ ⟨cs, _, _, more, rfl, ?_, ?_⟩ <;> first | omega | exact Int.emod_nonneg _ (by omega) | exact Int.emod_lt_of_pos _ (by omega))
  · obtain ⟨x, hx, e⟩ := at_mod (t := t) (by assumption)
    refine opt e ?_
    clear e
    k_caughtN0
    all_goals (refine q _ _ ?_ ?_ ⟨cs, _, _, more, rfl, ?_, ?_⟩ <;> first | omega | exact Int.emod_nonneg _ (by omega) | exact Int.emod_lt_of_pos _ (by omega))
  all_goals (refine q _ _ ?_ ?_ ⟨cs, _, _, more, rfl, ?_, ?_⟩ <;> first | omega | exact Int.emod_nonneg _ (by omega) | exact Int.emod_lt_of_pos _ (by omega))
end Pn
namespace Vt
open PySem PySem.Spec PyProof.Rows L2
variable [WorldC]
/-! ### told_by's promises -/
def spLeaf (f : Int → Int → Int) : DSp := fun ds Q _ => ∃ a b, ds = [.int a, .int b] ∧ Wt a ∧ Wt b ∧ Q (.int (f a b)) []
theorem moLeaf {f : Int → Int → Int} : Mono (spLeaf f) := fun ds Q Q' E E' h _ ⟨a, b, e, x, y, q⟩ => ⟨a, b, e, x, y, h _ _ q⟩
@[irreducible] def spBrt : DSp := fun ds Q _ => ∃ n, ds = [.int n] ∧ Q (.int (brt n)) []
theorem moBrt : Mono spBrt := by
  unfold spBrt
  exact fun ds Q Q' E E' h _ ⟨n, e, q⟩ => ⟨n, e, h _ _ q⟩
@[irreducible] def spTold : DSp := fun ds Q _ => ∃ g a b, ds = [.str g, .int a, .int b] ∧ g ∈ marks ∧ Wt a ∧ Wt b ∧ Q (.int (told g a b)) []
theorem moTold : Mono spTold := by
  unfold spTold
  exact fun ds Q Q' E E' h _ ⟨g, a, b, e, x, y, z, q⟩ => ⟨g, a, b, e, x, y, z, h _ _ q⟩
theorem r_told {g : Str} {a b : Int} {Q : D → List D → Prop} {E : Str → Fds → List D → Prop} (hg : g ∈ marks) (ha : Wt a) (hb : Wt b) (q : Q (.int (told g a b)) []) : spTold [.str g, .int a, .int b] Q E := by
  unfold spTold
  exact ⟨g, a, b, rfl, hg, ha, hb, q⟩
theorem r_brt {n : Int} {Q : D → List D → Prop} {E : Str → Fds → List D → Prop} (q : Q (.int (brt n)) []) : spBrt [.int n] Q E := by
  unfold spBrt
  exact ⟨n, rfl, q⟩
def heldTold : Held := [("added", spLeaf (sgn "+")), ("lessened", spLeaf (sgn "-")), ("multiplied", spLeaf (sgn "*")), ("divided", spLeaf (sgn "/")), ("rested", spLeaf (sgn "#")), ("is_less", spLeaf (sgn "<")), ("is_same", spLeaf (sgn "=")), ("both_bits", spLeaf (sgn "&")), ("unlike_bits", spLeaf (sgn "^"))]
/-- what is so of each of a list is so of what is found in it -/
inductive EachH (R : Str → DSp → Prop) : Held → Prop
  | nil : EachH R []
  | cons {n : Str} {spd : DSp} {L : Held} : R n spd → EachH R L → EachH R ((n, spd) :: L)
theorem EachH.look {R : Str → DSp → Prop} : ∀ {L : Held} {n : Str} {spd : DSp}, EachH R L → L.lookup n = some spd → R n spd
  | _, _, _, .nil, h => by cases h
  | _, n, spd, @EachH.cons _ m spd' L h t, e => by
    by_cases c : n = m
    · subst c
      rw [List.lookup, beq_self_eq_true] at e
      cases e
      exact h
    · have c2 : (n == m) = false := by simpa using c
      rw [List.lookup, c2] at e
      exact t.look e
theorem moHeld : ∀ n spd, heldTold.lookup n = some spd → Mono spd := fun n spd h =>
  (EachH.look (R := fun _ spd => Mono spd) (.cons moLeaf (.cons moLeaf (.cons moLeaf (.cons moLeaf (.cons moLeaf (.cons moLeaf (.cons moLeaf (.cons moLeaf (.cons moLeaf .nil))))))))) h)
theorem heldS_cases {P : Program} {w : World} {K : PySem.W.Frag} {mg : Str → Option Value} {base : Heap} {k np : Nat} {L : Held} (h : EachH (fun n spd => HeldG P w K mg base k (He.ga K n) (spOf K [] [] [] np .leaf spd)) L) : ∀ f sp, HeldS K np L f sp → HeldG P w K mg base k f sp := by
  rintro f sp ⟨n, spd, hL, rfl, rfl⟩
  exact h.look hL
theorem tabV_of {K : PySem.W.Frag} {w : World} {a : Addr} {kvs : List (Str × Str)} (t : ∃ es n, KDict K w a es n) (h : He.valsB K a (kvs.map fun z => (z.1, .glo z.2)) = true) : TabV K w a kvs := by
  intro z n e
  obtain ⟨es, m, k⟩ := t
  have hm : (z, n) ∈ kvs := by
    induction kvs with
    | nil => cases e
    | cons q r ih =>
      obtain ⟨y, v⟩ := q
      by_cases c : z = y
      · subst c
        rw [List.lookup, beq_self_eq_true] at e
        cases e
        simp
      · have c2 : (z == y) = false := by simpa using c
        rw [List.lookup, c2] at e
        have h' : He.valsB K a (r.map fun z => (z.1, .glo z.2)) = true := by
          unfold He.valsB at h ⊢
          rw [List.map_cons, List.all_cons, Bool.and_eq_true] at h
          exact h.2
        exact List.mem_cons_of_mem _ (ih h' e)
  obtain ⟨u, e1, r⟩ := He.valsB_ok (q := (z, .glo n)) h (List.mem_map.mpr ⟨(z, n), hm, rfl⟩)
  exact ⟨es, m, u, k.at_, k.lit, e1, r⟩
end Vt
namespace Vt
open PySem PySem.Spec L2
variable [WorldC]
/-! ### a loop by what is left of its list -/
theorem for_list {g : DTG} {body : DTS} {E : DEnds} (Pv : List D → DEnv → Prop) {ds : List D} {ρ : DEnv} (h0 : Pv ds ρ)
    (hs : ∀ (d : D) (r : List D) (ρ : DEnv) (N : DEnv → Prop), Pv (d :: r) ρ → (∀ ρ', Pv r ρ' → N ρ') → g d ρ fun ρ1 => body { E with nx := N, ct := N, bk := E.nx } ρ1)
    (hd : ∀ ρ, Pv [] ρ → E.nx ρ) : dLoop g body E ds ρ := by
  unfold dLoop
  induction ds generalizing ρ with
  | nil => unfold dForL; exact hd ρ h0
  | cons d r ih =>
    unfold dForL
    exact hs d r ρ _ h0 fun ρ' h' => ih h'
/-! ### expressions -/
def regs : List Str := ["a", "b", "c", "d", "e", "f", "g", "h", "i", "j", "k", "l", "m", "n", "o", "p"]
def wtB (i : Int) : Bool := decide (-32768 ≤ i ∧ i ≤ 32767)
def sgB : D → Bool
  | .str x => decide (x ∈ marks)
  | _ => false
def rgB : D → Bool
  | .str x => decide (x ∈ regs)
  | _ => false
def woB : D → Bool
  | .int i => wtB i
  | _ => false
def opB (d : D) : Bool := woB d || rgB d
/-- how high the pile is behind items, where each may stand -/
def goE : List D → Nat → Option Nat
  | [], h => some h
  | d :: r, h => if sgB d = true then (if h < 2 then none else goE r (h - 1)) else if opB d = true then goE r (h + 1) else none
def ExpD (ds : List D) : Prop := goE ds 0 = some 1
theorem goE_sg {d : D} {r : List D} {h k : Nat} (e : goE (d :: r) h = some k) (s : sgB d = true) : 2 ≤ h ∧ goE r (h - 1) = some k := by
  unfold goE at e
  rw [if_pos s] at e
  by_cases c : h < 2
  · rw [if_pos c] at e; cases e
  · rw [if_neg c] at e
    exact ⟨by omega, e⟩
theorem goE_op {d : D} {r : List D} {h k : Nat} (e : goE (d :: r) h = some k) (s : sgB d = false) : opB d = true ∧ goE r (h + 1) = some k := by
  unfold goE at e
  rw [if_neg (by rw [s]; decide)] at e
  by_cases c : opB d = true
  · rw [if_pos c] at e
    exact ⟨c, e⟩
  · rw [if_neg c] at e; cases e
theorem goE_app : ∀ {xs ys : List D} {h k : Nat}, goE xs h = some k → goE (xs ++ ys) h = goE ys k
  | [], _, _, _, e => by cases e; rfl
  | d :: r, ys, h, k, e => by
    cases s : sgB d with
    | true =>
      obtain ⟨c, e⟩ := goE_sg e s
      have := goE_app (ys := ys) e
      rw [← this]
      show goE (d :: (r ++ ys)) h = _
      rw [goE, if_pos s, if_neg (by omega)]
    | false =>
      obtain ⟨c, e⟩ := goE_op e s
      have := goE_app (ys := ys) e
      rw [← this]
      show goE (d :: (r ++ ys)) h = _
      rw [goE, if_neg (by rw [s]; decide), if_pos c]
/-- an item: a worth, a register, a sign -/
theorem op_cases {d : D} (h : opB d = true) : (∃ i, d = .int i ∧ Wt i) ∨ ∃ x, d = .str x ∧ x ∈ regs := by
  unfold opB at h
  rw [Bool.or_eq_true] at h
  rcases h with h | h
  · cases d <;> first | cases h | skip
    rename_i i
    have h2 : decide (-32768 ≤ i ∧ i ≤ 32767) = true := h
    have h3 := of_decide_eq_true h2
    exact .inl ⟨i, rfl, h3⟩
  · cases d <;> first | cases h | skip
    rename_i x
    exact .inr ⟨x, rfl, of_decide_eq_true h⟩
theorem sg_cases {d : D} (h : sgB d = true) : ∃ x, d = .str x ∧ x ∈ marks := by
  cases d <;> first | cases h | skip
  rename_i x
  exact ⟨x, rfl, of_decide_eq_true h⟩
theorem marks_regs : ∀ x ∈ marks, x ∉ regs := by decide
theorem regs_marks : ∀ x ∈ regs, x ∉ marks := by decide
/-! ### the signs of a text -/
def lets : Str := "abcdefghijklmnop"
def regC (c : Nat) : Bool := decide (c ∈ lets.cps.toList)
theorem reg_one (c : Nat) : decide (c ∈ ("abcdefghijklmnop" : Str).cps.toList) = decide ((⟨#[c]⟩ : Str) ∈ regs) := by
  have e : ("abcdefghijklmnop" : Str).cps.toList = [97, 98, 99, 100, 101, 102, 103, 104, 105, 106, 107, 108, 109, 110, 111, 112] := by decide
  have f : regs = ([97, 98, 99, 100, 101, 102, 103, 104, 105, 106, 107, 108, 109, 110, 111, 112] : List Nat).map fun c => (⟨#[c]⟩ : Str) := by decide
  rw [e, f]
  have : ∀ l : List Nat, decide (c ∈ l) = decide ((⟨#[c]⟩ : Str) ∈ l.map fun c => (⟨#[c]⟩ : Str)) := fun l => by
    congr 1
    refine propext ⟨fun h => List.mem_map.mpr ⟨c, h, rfl⟩, fun h => ?_⟩
    obtain ⟨x, hx, ex⟩ := List.mem_map.mp h
    have : x = c := by
      have := congrArg (fun s : Str => s.cps.toList) ex
      simpa using this
    rw [← this]
    exact hx
  exact this _
theorem one_of {x : Str} (h : x.length = 1) : ∃ c, x = ⟨#[c]⟩ := by
  obtain ⟨a⟩ := x
  have : a.size = 1 := h
  refine ⟨a[0], ?_⟩
  congr 1
  apply Array.ext
  · simp [this]
  · intro i h1 h2
    have : i = 0 := by simp at h2; exact h2
    subst this
    rfl
theorem reg_len : ∀ x ∈ regs, x.length = 1 := by decide
theorem mark_len : ∀ x ∈ marks, x.length = 1 := by decide
/-! ### expressions reckoned -/
def hold (kvs : List (D × D)) (x : Str) : Int := match getK kvs (.inr x) with | some (.int i) => i | _ => 0
/-- the pile, its top first -/
def rkS (kvs : List (D × D)) (p : List Int) (d : D) : List Int := match d with
  | .int i => i :: p
  | .str x => if x ∈ marks then (match p with | b :: a :: r => told x a b :: r | p => p) else hold kvs x :: p
  | _ => p
def rkv (kvs : List (D × D)) (es : List D) : Int := (es.foldl (rkS kvs) []).headD 0
/-- registers' worths -/
def Regs (kvs : List (D × D)) : Prop := ∀ q ∈ kvs, ∃ x i, q = (.str x, .int i) ∧ x ∈ regs ∧ Wt i
theorem Regs.get {kvs : List (D × D)} (h : Regs kvs) (x : Str) : (getK kvs (.inr x)).getD (.int 0) = .int (hold kvs x) ∧ Wt (hold kvs x) := by
  unfold hold
  induction kvs with
  | nil => exact ⟨rfl, show (-32768 : Int) ≤ 0 by decide, show (0 : Int) ≤ 32767 by decide⟩
  | cons q r ih =>
    obtain ⟨y, i, rfl, hy, hi⟩ := h q (by simp)
    by_cases c : kOf (.str y) = some (.inr x)
    · have : getK ((.str y, .int i) :: r) (.inr x) = some (.int i) := by
        unfold getK
        rw [if_pos c]
      rw [this]
      exact ⟨rfl, hi⟩
    · have : getK ((.str y, .int i) :: r) (.inr x) = getK r (.inr x) := by
        conv => lhs; unfold getK
        rw [if_neg c]
      rw [this]
      exact ih fun q hq => h q (List.mem_cons_of_mem _ hq)
theorem rkS_mark {kvs : List (D × D)} {x : Str} {a b : Int} {r : List Int} (h : x ∈ marks) : rkS kvs (b :: a :: r) (.str x) = told x a b :: r := by
  unfold rkS
  simp only
  rw [if_pos h]
theorem rkS_reg {kvs : List (D × D)} {x : Str} {p : List Int} (h : x ∉ marks) : rkS kvs p (.str x) = hold kvs x :: p := by
  unfold rkS
  simp only
  rw [if_neg h]
theorem two_of {p : List Int} (h : 2 ≤ p.length) : ∃ b a r, p = b :: a :: r := by
  match p, h with
  | b :: a :: r, _ => exact ⟨b, a, r, rfl⟩
theorem glv_int {mg : Str → Option Value} {x : Str} {i : Int} (h : ∃ t, mg x = some (.int i t)) : GlV mg x (.int i) := by
  obtain ⟨t, h⟩ := h
  exact ⟨_, h, t, rfl⟩
theorem glv_str {mg : Str → Option Value} {x z : Str} (h : ∃ t, mg x = some (.str z t)) : GlV mg x (.str z) := by
  obtain ⟨t, h⟩ := h
  exact ⟨_, h, t, rfl⟩
end Vt
namespace Vt
open PySem PySem.Spec L2 PyProof.Rows
variable [WorldC]
/-! ### a tuple beside the empty one, whatever it holds -/
def rEqT0 (K : PySem.W.Frag) : R2 := fun x y H Q => ∃ a b xs, x = .ref a ∧ y = .ref b ∧ SqT K H a xs ∧ SqT K H b [] ∧ Q (.bl xs.isEmpty) H
theorem op_eqT0 {X : Cx} (hu : X.A.units < cLine) : OpR X (compareOp .Eq) (rEqT0 X.K) := by
  intro pins s σ H x y v u Q I rx ry h
  obtain ⟨a, b, xs, rfl, rfl, ha, hb, q⟩ := h
  cases rx
  cases ry
  obtain ⟨its, r1, p1, _⟩ := I.tuple ha
  obtain ⟨its2, r2, p2, _⟩ := I.tuple hb
  cases r2
  refine PySem.SeqAt.eq_tupleAt (e := fun _ => true) p1 p2 hu (fun j h1 h2 => absurd h2 (by simp)) ⟨.bl xs.isEmpty, H, I, ?_, q⟩
  cases r1 with
  | nil => rfl
  | cons _ _ => rfl
def dEqT0 : D → D → (D → Prop) → Prop
  | .tuple ds, .tuple [], Q => Q (.bool ds.isEmpty)
  | _, _, _ => False
theorem s_eqT0 {K : PySem.W.Frag} : R2S K (rEqT0 K) dEqT0 := fun M N H x y d e Q l f hx hy w R hR => by
  cases d <;> cases e <;> first | exact w.elim | skip
  case tuple.tuple ds es =>
    cases es with
    | cons _ _ => exact w.elim
    | nil =>
      obtain ⟨a, xs, rfl, ha, hd⟩ := hx.tuple
      obtain ⟨b, ys, rfl, hb, he⟩ := hy.tuple
      cases he
      refine ⟨a, b, xs, rfl, rfl, ha, hb, ?_⟩
      have e : xs.isEmpty = ds.isEmpty := by
        have := hd.len
        cases xs <;> cases ds <;> first | rfl | (simp at this)
      rw [e]
      exact hR _ _ _ (Same.refl _) (.bl _) w
/-! ### a def that calls itself: so deep at most -/
theorem fng_none {P : Program} {w : World} {K : PySem.W.Frag} {mg : Str → Option Value} {base : Heap} {CX : CXT} {k n : Nat} {f : Addr} {fd : FuncData} {ps : List Str} {pi po xo : Op} {rs : Sh} {spd : DSp} (no : ∀ ds Q E, ¬ spd ds Q E) :
    FnG P w K mg base CX k f fd ps (spOf K pi po xo n rs spd) :=
  ⟨fun vs H Q E h => by obtain ⟨N0, F, ds, _, _, hs⟩ := h; exact (no _ _ _ hs).elim,
   fun A outer s H as us vs Q E _ _ _ _ h => by obtain ⟨N0, F, ds, _, _, hs⟩ := h; exact (no _ _ _ hs).elim⟩
end Vt
namespace HT
open PySem PySem.Spec PyProof.Rows L2
section
variable {prog : Program} {w : World} {A : Around} {E : Value → Shared → Prop} {s : Shared}
theorem places_rev (n : Nat) : Builtin.Slice.slicePlaces ((n : Int) - 1) (-1) (-1) = n := by
  unfold Builtin.Slice.slicePlaces
  have h1 : ¬ ((-1 : Int) > 0) := by omega
  simp only [h1, if_false]
  by_cases h : (n : Int) - 1 > -1
  · rw [if_pos h, show (- -1 : Int) = 1 by decide, Int.ediv_one]
    omega
  · rw [if_neg h]
    omega
theorem adjust_rev (n : Nat) : Builtin.Slice.sliceAdjust none none (-1) (n : Int) = ((n : Int) - 1, -1) := rfl
theorem applied_rev {sl : Addr} {vl vu vs : Value} {n : Nat} {Q : Int × Int × Nat → Shared → Prop} (hs : s.heap.IsSliceOf sl vl vu vs) (pl : IsPart vl none) (pu : IsPart vu none) (ps : IsPart vs (some (-1)))
    (h : Q ((n : Int) - 1, -1, n) s) : wpAny (model prog w) A (Builtin.Slice.sliceApplied (.ref sl) (pure (n : Int))) Q E s := by
  obtain ⟨os, hos, hcs, hds⟩ := id hs
  unfold Builtin.Slice.sliceApplied Builtin.Slice.sliceFields
  refine wpAny_bind (wpAny_bind (wpAny_field hos hds (x := vl) rfl (wpAny_bind (wpAny_field hos hds (x := vu) rfl (wpAny_bind (wpAny_field hos hds (x := vs) rfl (wpAny_pure ?_)))))))
  refine wpAny_bind (slicePart_ ps ?_)
  show wpAny _ _ (if ((-1 : Int) == 0) = true then _ else _) _ _ s
  rw [if_neg (by decide)]
  refine wpAny_bind (slicePart_ pl (wpAny_bind (slicePart_ pu (wpAny_bind (wpAny_pure ?_)))))
  show wpAny _ _ (match Builtin.Slice.sliceAdjust none none (-1) (n : Int) with | (lo, hi) => pure (lo, (-1 : Int), Builtin.Slice.slicePlaces lo hi (-1))) _ _ s
  rw [adjust_rev n]
  show wpAny _ _ (pure ((n : Int) - 1, (-1 : Int), Builtin.Slice.slicePlaces ((n : Int) - 1) (-1) (-1))) _ _ s
  rw [places_rev]
  exact wpAny_pure h
theorem fm_same {α β : Type} {f g : α → Option β} : ∀ {l : List α}, (∀ x ∈ l, f x = g x) → l.filterMap f = l.filterMap g
  | [], _ => rfl
  | x :: l, h => by
    rw [List.filterMap_cons, List.filterMap_cons, h x List.mem_cons_self, fm_same fun y hy => h y (List.mem_cons_of_mem _ hy)]
theorem pick_rev (xs : Array Value) : ((List.range xs.size).filterMap fun (m : Nat) => xs[(((xs.size : Int) - 1) + (m : Int) * (-1)).toNat]?).toArray = xs.toList.reverse.toArray := by
  have a : ∀ l : List Value, (List.range l.length).filterMap (fun m => l[m]?) = l := fun l => by
    induction l with
    | nil => rfl
    | cons x l ih =>
      rw [List.length_cons, List.range_succ_eq_map, List.filterMap_cons, List.filterMap_map]
      simp only [List.getElem?_cons_zero]
      congr 1
  have b := a xs.toList.reverse
  rw [List.length_reverse, Array.length_toList] at b
  rw [← b]
  congr 1
  refine fm_same fun m hm => ?_
  have hm := List.mem_range.mp hm
  rw [List.getElem?_reverse (by simpa using hm), Array.length_toList]
  have e : (((xs.size : Int) - 1) + (m : Int) * (-1)).toNat = xs.size - 1 - m := by omega
  rw [e]
  simp
theorem getItem_tuple_rev {t sl : Addr} {items : Array Value} {vl vu vs : Value} {Q : Value → Shared → Prop} (ht : IsTup s.heap t items) (hs : s.heap.IsSliceOf sl vl vu vs) (pl : IsPart vl none) (pu : IsPart vu none) (ps : IsPart vs (some (-1)))
    (h : Q (.ref s.heap.objs.size) { s with heap := s.heap.push { cls := .type "tuple", data := .seq items.toList.reverse.toArray } })
    (hsz : items.size ≤ sizeLine) : wpAny (model prog w) A (getItem (.ref t) (.ref sl)) Q E s := by
  have htake : sizeOk (.seq items.toList.reverse.toArray) := by
    show items.toList.reverse.toArray.size ≤ sizeLine
    rw [List.size_toArray, List.length_reverse, Array.length_toList]
    exact hsz
  obtain ⟨os, hos, hcs, hds⟩ := id hs
  have hTs : s.TypeIs (.ref sl) "slice" := ⟨os, hos, hcs⟩
  unfold getItem
  try with_reducible refine wpAny_holding ?_
  first | refine wpAny_bind (wpAny_pure ?_) | skip
  refine wpAny_bind (wpAny_sequenceKey ht.typeIs (by decide) ?_)
  refine wpAny_bind (wpAny_callSpecial?_slot (name := Str.ofString "__getitem__") ht.typeIs PyProof.Rows.slot_tuple_getitem
    (wpAny_call_entry PyProof.Rows.slot_tuple_getitem ht.typeIs entry_tuple_getitem ?_ (args_tuple_getitem _ _)))
  show wpAny _ _ (Builtin.Tuple.tupleItemsOf (.ref t) >>= _) _ _ s
  refine wpAny_bind (tupleItemsOf_ ht ?_)
  refine wpAny_bind (wpAny_typeOf hTs ?_)
  rw [if_pos (by decide)]
  refine wpAny_bind (applied_rev hs pl pu ps ?_)
  have hno : ¬ ((((items.size : Int) - 1) == 0 && (-1 : Int) == 1 && items.size == items.size) = true) := by
    intro q
    rw [Bool.and_eq_true, Bool.and_eq_true] at q
    exact absurd q.1.2 (by decide)
  show wpAny _ _ (if (((items.size : Int) - 1) == 0 && (-1 : Int) == 1 && items.size == items.size) = true then _ else _) _ _ s
  rw [if_neg hno, pick_rev]
  first
    | exact wpAny_bind (m := Builtin.Tuple.tupleExact _) (wpAny_newObj_type (wpAny_pure ⟨_, rfl, wpAny_pure h⟩) htake)
    | exact wpAny_bind (m := Builtin.Tuple.tupleExact _) (wpAny_newObj_type (wpAny_bind (wpAny_pure (wpAny_pure ⟨_, rfl, wpAny_pure h⟩))) htake)
    | exact wpAny_bind (wpAny_bind (m := Builtin.Tuple.tupleExact _) (wpAny_newObj_type (wpAny_pure (wpAny_pure ⟨_, rfl, wpAny_pure h⟩)) htake))
    | exact wpAny_bind (wpAny_bind (m := Builtin.Tuple.tupleExact _) (wpAny_newObj_type (wpAny_pure ⟨_, rfl, wpAny_pure h⟩) htake))
end
end HT
namespace Vt
open PySem PySem.Spec L2 PyProof.Rows
variable [WorldC]
/-! ### x[::-1] of a list or a tuple -/
def tRevX (K : PySem.W.Frag) (te : TE) : TE := fun σ H Q => te σ H fun x H1 =>
  (∃ a xs, x = .ref a ∧ SqL K H1 a xs ∧ ∀ p, H1 p = none → Q (.ref p) (upd H1 p (.lst xs.reverse))) ∨ ∃ a xs, x = .ref a ∧ SqT K H1 a xs ∧ ∀ p, H1 p = none → Q (.ref p) (upd H1 p (.tup xs.reverse))
theorem pe_revX {X : Cx} {e : Expr} {te : TE} {k : Nat} {p1 p2 p3 pos : Pos} (he : PE X e te) : PE X (.Subscript e (.Slice none none (some (.UnaryOp .USub (.Constant (.int 1) k p1) p2)) p3) pos) (tRevX X.K te) := by
  refine ⟨fun pins s σ H Q I h => ?_⟩
  refine Subscript_ (thn (he.run pins s σ H _ I h) fun v s1 ⟨x, H1, I1, r1, q1⟩ => ?_)
  have hst : PO X (some (.UnaryOp .USub (.Constant (.int 1) k p1) p2)) (tPart (tUn (rU fun i => .int (-i)) (tC (.int 1)))) := po_some (pe_un un_neg pe_int)
  refine wpAny_Slice (thn (po_none.run pins s1 σ H1 (fun o H2 => o = none ∧ H2 = H1) I1 ⟨rfl, rfl⟩) fun vl s2 ⟨l, H2, I2, pl, el, e2⟩ => ?_)
  subst el e2
  refine thn (po_none.run pins s2 σ H2 (fun o H3 => o = none ∧ H3 = H2) I2 ⟨rfl, rfl⟩) fun vu s3 ⟨u, H3, I3, pu, eu, e3⟩ => ?_
  subst eu e3
  refine thn (hst.run pins s3 σ H3 (fun o H4 => o = some (-1) ∧ H4 = H3) I3 ⟨1, rfl, -1, rfl, rfl, rfl⟩) fun vs s4 ⟨o, H4, I4, ps, eo, e4⟩ => ?_
  subst eo e4
  have I5 : Inv X pins σ H4 { s4 with heap := s4.heap.push { cls := .type "slice", data := .fields #[vl, vu, vs] } } := I4.kept (t' := s4.toks) fun b ob q => Heap.get?_push_of_some _ q
  rcases q1 with ⟨a, xs, ex, hx, q⟩ | ⟨a, xs, ex, hx, q⟩
  · subst ex
    cases r1
    obtain ⟨its, r, ht, hz⟩ := I5.list hx
    have hlen := r.length
    show wpAny (model X.prog X.w) X.A (subscriptTail e (.Slice none none (some (.UnaryOp .USub (.Constant (.int 1) k p1) p2)) p3) (.ref a) (.ref s4.heap.objs.size)) (EP X pins σ Q) X.xe { s4 with heap := s4.heap.push { cls := .type "slice", data := .fields #[vl, vu, vs] } }
    refine tail_any (ops := [.ref a, .ref s4.heap.objs.size]) ht.isList.typeIs (PySem.slot_list_getitem.lookup) ?_ (by with_unfolding_all rfl)
    refine wpAny_getItem_list_slice ht.isList (Heap.IsSliceOf.new _ vl vu vs) pl pu ps (by decide) ?_ (by rw [List.size_toArray]; omega)
    rw [PySem.W.krv_pick]
    refine ⟨.ref _, _, I5.laid (t' := s4.toks) (o := .lst xs.reverse) (fun b ob q => Heap.get?_push_of_some _ q) (Nat.le_refl _) ?_, rfl, q _ (I5.hok.fresh (Nat.le_refl _))⟩
    exact ⟨by rw [List.length_reverse]; exact hz, _, 0, r.reverse, Heap.get?_push_size _ rfl⟩
  · subst ex
    cases r1
    obtain ⟨its, r, ht, hz⟩ := I5.tuple hx
    have hlen := r.length
    show wpAny (model X.prog X.w) X.A (subscriptTail e (.Slice none none (some (.UnaryOp .USub (.Constant (.int 1) k p1) p2)) p3) (.ref a) (.ref s4.heap.objs.size)) (EP X pins σ Q) X.xe { s4 with heap := s4.heap.push { cls := .type "slice", data := .fields #[vl, vu, vs] } }
    refine tail_any (ops := [.ref a, .ref s4.heap.objs.size]) ht.typeIs (PyProof.Rows.slot_tuple_getitem.lookup) ?_ (by with_unfolding_all rfl)
    refine HT.getItem_tuple_rev ht (Heap.IsSliceOf.new _ vl vu vs) pl pu ps ?_ (by rw [List.size_toArray]; omega)
    refine ⟨.ref _, _, I5.laid (t' := s4.toks) (o := .tup xs.reverse) (fun b ob q => Heap.get?_push_of_some _ q) (Nat.le_refl _) ?_, rfl, q _ (I5.hok.fresh (Nat.le_refl _))⟩
    exact ⟨by rw [List.length_reverse]; exact hz, its.reverse, r.reverse, IsTup.new _ _⟩
def dRevX (t : DTE) : DTE := fun ρ Q => t ρ fun d ρ1 => match d with | .list ds => Q (.list ds.reverse) ρ1 | .tuple ds => Q (.tuple ds.reverse) ρ1 | _ => False
section
variable {X : Cx} {op : Op} {e : Expr} {ta : TE} {dx tx : List Nat} {q : Bool} {ta' : DTE}
theorem de_revX {k : Nat} {p1 p2 p3 pos : Pos} (he : DE X op e ta dx tx q ta') : DE X op (.Subscript e (.Slice none none (some (.UnaryOp .USub (.Constant (.int 1) k p1) p2)) p3) pos) (tRevX X.K ta) dx [] q (dRevX ta') := ⟨pe_revX he.pe, fun c F σ H ρ Q S w R hR => by
  refine he.sd c F σ H ρ _ S w _ fun x H1 ⟨d, ρ1, F1, st1, hx, w1⟩ => ?_
  cases d <;> first | exact w1.elim | skip
  case list ds =>
    obtain ⟨a, xs, rfl, ha, hd⟩ := hx.list
    exact .inl ⟨a, xs, rfl, SqL.of ha, fun p hp => hR _ _ ⟨_, ρ1, F1, st1.then (same_mk hp), .inl (Dz.newL st1.sim.liveX hp hd.rev), w1⟩⟩
  case tuple ds =>
    obtain ⟨a, xs, rfl, ha, hd⟩ := hx.tuple
    exact .inr ⟨a, xs, rfl, ha, fun p hp => hR _ _ ⟨_, ρ1, F1, st1.then (same_mk hp), .inl (Dz.newT st1.sim.liveX hp hd.rev), w1⟩⟩⟩
end
end Vt
namespace Vt
open PySem PySem.Spec L2 PyProof.Rows
variable [WorldC]
/-! ### what is never come to -/
def dNever : DTE := fun _ _ => False
def dNeverS : DTS := fun _ _ => False
def tNever : TE := fun _ _ _ => False
def tNeverS : TS := fun _ _ _ => False
theorem de_never {X : Cx} {op : Op} {e : Expr} : DE X op e tNever [] [] true dNever := ⟨⟨fun _ _ _ _ _ _ h => h.elim⟩, fun _ _ _ _ _ _ _ w => w.elim⟩
theorem ds_never {X : Cx} {lp : Jc} {po op on : Op} {st : Stmt} : DS X lp po op on st tNeverS dNeverS := ⟨⟨fun _ _ _ _ _ _ h => h.elim⟩, fun _ _ _ _ _ _ _ _ _ w => w.elim⟩
/-! ### methods of texts with one thing -/
def M1S (K : PySem.W.Frag) (r : V → List V → Hp → VK → Prop) (g : Str → D → (D → Prop) → Prop) : Prop :=
  ∀ (M N : AS) (H : Hp) (a : Str) (y : V) (e : D) (Q : D → Prop), Live M H → (∀ b, N b → M b) → DzT K M N H y e → g a e Q → ∀ R : VK, (∀ v H' z, Same H H' → Dz K M H' v z → Q z → R v H') → r (.str a) [y] H R
def dM1 (g : Str → D → (D → Prop) → Prop) (t u : DTE) : DTE := fun ρ Q => t ρ fun d ρ1 => match d with
  | .str a => u ρ1 fun e ρ2 => g a e fun z => Q z ρ2
  | _ => False
section
variable {X : Cx} {op : Op} {o e : Expr} {to te : TE} {dx tx dx2 tx2 : List Nat} {q q2 : Bool} {to' te' : DTE}
theorem de_m1 {id : String} {name : Str} {apos pos : Pos} {r : V → List V → Hp → VK → Prop} {g : Str → D → (D → Prop) → Prop} (slot : Slot "str" name id) (ty : typeOf (.builtin id) = pure (.type "method_descriptor")) (rule : MtR X id r) (s : M1S X.K r g)
    (ho : DE X op o to dx tx q to') (he : DE X op e te dx2 tx2 q2 te') (hs : starEach [e] X.env = [(false, eval e X.env)] := by rfl) (hbase : attributeBase o name X.env (eval o X.env) = eval o X.env := by rfl) (hline : (apos.endLine == pos.line) = true := by rfl) :
    DE X op (.Call (.Attribute o name apos) [e] [] pos) (tM1 r to te) dx2 [] (q && q2) (dM1 g to' te') := ⟨pe_m1 slot ty rule ho.pe he.pe hs hbase hline, fun c F σ H ρ Q S w R hR => by
  refine ho.sd c F σ H ρ _ S w _ fun x H1 ⟨d, ρ1, F1, st1, hx, w1⟩ => ?_
  cases d <;> first | exact w1.elim | skip
  case str a =>
    rw [hx.str]
    refine ⟨⟨a, rfl⟩, ?_⟩
    refine he.sd c F1 σ H1 ρ1 _ st1.sim w1 _ fun y H2 ⟨e', ρ2, F2, st2, hy, w2⟩ => ?_
    refine s (Mx c op F2 dx2) (Mx c op F2 (dx2 ++ tx2)) H2 a y e' _ st2.sim.liveX (fun b m => mxl m) hy w2 _ fun v H' z s1 hz hq => ?_
    exact hR _ _ ⟨z, ρ2, F2, (st1.trans st2).then s1, .inl hz, hq⟩⟩
end
theorem dzA_strs {K : PySem.W.Frag} {M : AS} {H : Hp} : ∀ {xs : List V} {ys : List Str}, DzA K M H xs (ys.map D.str) → xs = ys.map V.str
  | [], [], _ => rfl
  | _ :: _, [], h => by cases h
  | [], _ :: _, h => by cases h
  | x :: xs, y :: ys, h => by
    cases h with
    | cons h1 h2 =>
      cases h1
      rw [dzA_strs h2]
      rfl
theorem dzA_ofStrs {K : PySem.W.Frag} {M : AS} {H : Hp} : ∀ (ys : List Str), DzA K M H (ys.map V.str) (ys.map D.str)
  | [] => .nil
  | y :: ys => .cons (.str y) (dzA_ofStrs ys)
def gSplit (a : Str) (e : D) (Q : D → Prop) : Prop := match e with
  | .str b => (b.length == 0) = false ∧ a.length + 2 ≤ sizeLine ∧ Q (.list ((Txt.split a b).map .str))
  | _ => False
theorem s_split {K : PySem.W.Frag} : M1S K (fun x xs H Q => ∃ a b, x = .str a ∧ xs = [.str b] ∧ (b.length == 0) = false ∧ a.length + 2 ≤ sizeLine ∧ rNewStrs (Txt.split a b) H Q) gSplit := fun M N H a y e Q l f hy w R hR => by
  cases e <;> first | exact w.elim | skip
  case str b =>
    rw [hy.str]
    refine ⟨a, b, rfl, rfl, w.1, w.2.1, fun p hp => ?_⟩
    exact hR _ _ _ (same_mk hp) (Dz.newL l hp (dzA_ofStrs _)) w.2.2
def gStarts (a : Str) (e : D) (Q : D → Prop) : Prop := match e with
  | .str b => Q (.bool (Txt.startswith a b))
  | _ => False
theorem s_starts {K : PySem.W.Frag} : M1S K (fun x xs H Q => ∃ a b, x = .str a ∧ xs = [.str b] ∧ Q (.bl (Txt.startswith a b)) H) gStarts := fun M N H a y e Q l f hy w R hR => by
  cases e <;> first | exact w.elim | skip
  case str b =>
    rw [hy.str]
    exact ⟨a, b, rfl, rfl, hR _ _ _ (Same.refl _) (.bl _) w⟩
def gJoin (a : Str) (e : D) (Q : D → Prop) : Prop := ∃ ys : List Str, (e = .list (ys.map .str) ∨ e = .tuple (ys.map .str)) ∧ (ys.map (·.length)).sum + ys.length * a.length ≤ 16777216 ∧ Q (.str (Txt.join a ys))
theorem s_join {K : PySem.W.Frag} : M1S K (fun x xs H Q => ∃ a p, ∃ ys : List Str, x = .str a ∧ xs = [.ref p] ∧ (SqL K H p (ys.map V.str) ∨ SqT K H p (ys.map V.str)) ∧ (ys.map (·.length)).sum + ys.length * a.length ≤ 16777216 ∧ Q (.str (Txt.join a ys)) H) gJoin := fun M N H a y e Q l f hy w R hR => by
  obtain ⟨ys, rfl | rfl, hz, w⟩ := w
  · obtain ⟨b, xs, rfl, hb, hd⟩ := hy.list
    rw [dzA_strs hd] at hb
    exact ⟨a, b, ys, rfl, rfl, .inl (SqL.of hb), hz, hR _ _ _ (Same.refl _) (.str _) w⟩
  · obtain ⟨b, xs, rfl, hb, hd⟩ := hy.tuple
    rw [dzA_strs hd] at hb
    exact ⟨a, b, ys, rfl, rfl, .inr hb, hz, hR _ _ _ (Same.refl _) (.str _) w⟩
/-! ### dict(d) as an owned dict -/
theorem dzK_tzC {K : PySem.W.Frag} {M : AS} {H : Hp} : ∀ {kvs : List (Key × V)} {ds : List (D × D)}, DzK K M H kvs ds → ds.map (·.1) = kvs.map (fun q => kD q.1) ∧ TzC K M H (List.replicate kvs.length .leaf) (kvs.map (·.2)) (ds.map (·.2)) []
  | [], [], .nil => ⟨rfl, .nil⟩
  | (k, v) :: kvs, d :: ds, h => by
    cases h with
    | cons h1 h2 =>
      obtain ⟨a, b⟩ := dzK_tzC h2
      refine ⟨by simp only [List.map_cons]; rw [a], ?_⟩
      rw [List.length_cons, List.replicate_succ, List.map_cons, List.map_cons]
      exact .cons (L := []) (.leaf h1) b
section
variable {X : Cx} {op : Op} {e : Expr} {ta : TE} {dx tx : List Nat} {q : Bool} {ta' : DTE} {p pos : Pos}
theorem dfr_dict (hm : X.mg "dict" = none) (ha : DE X op e ta [] tx q ta') (hg : Gl X "dict" := by rfl) (he : starEach [e] X.env = (false, eval e X.env) :: starEach [] X.env := by rfl) (hpl : (backTo pos (starEach [] X.env)).any (·.1) = false := by rfl) :
    DFr X op (.Call (.Name "dict" p) [e] [] pos) (.dic .leaf) (tCB rDictX (tCons ta tNil)) (dUn dDictOf ta') :=
  ⟨pe_callTy c_dict hg hm (by decide +kernel) (pa_cons ha.pe pa_nil he) (by decide) (by decide) he hpl, fun c F σ H ρ Q S w R hR => by
    refine ha.sd c F σ H ρ _ S w _ fun x H1 ⟨d, ρ1, F1, st1, hx, w1⟩ => ?_
    cases d <;> first | exact w1.elim | skip
    case dict ds =>
      obtain ⟨a, kvs, rfl, e1, hd⟩ := hx.dict
      refine ⟨a, kvs, rfl, .inl e1, fun p hp => hR _ _ (fr_of (dx := []) (L := [p]) st1 (same_mk hp) (by simpa using hp) (by simp) ?_ w1)⟩
      have hd2 : DzK X.K (fun a => Mt c op F1 a ∨ a ∈ [p]) (upd H1 p (.dK kvs)) kvs ds := DzK.frame st1.sim.liveX (fun b o e _ => same_mk hp b o e) (fun b o h m => m.elim id fun m => by
        rcases List.mem_singleton.mp m with rfl
        rw [hp] at h; cases h) hd
      obtain ⟨z1, z2⟩ := dzK_tzC hd2
      exact .dic upd_same z1 (.inl rfl) z2⟩
end
/-! ### repr of lists and tuples -/
def rReprD (K : PySem.W.Frag) : List V → Hp → VK → Prop := fun xs H Q => ∃ a d, xs = [.ref a] ∧ Dp K H (.ref a) d ∧ d.showable = true ∧ d.hasDict = false ∧ d.depth ≤ 64 ∧ d.shown.length ≤ sizeLine ∧ Q (.str d.shown) H
theorem call_reprD {X : Cx} (hg : X.A.guards = some []) (hu : X.A.units + 66 < cLine) : CallR X (.builtin "repr") (rReprD X.K) := by
  intro pins s σ H xs us Q I r h
  obtain ⟨a, d, rfl, hd, h1, h2, h3, h4, q⟩ := h
  obtain ⟨u, rfl, r1⟩ := vals1 r
  obtain ⟨as, rr⟩ := Dp.reads I d _ u hd r1
  cases r1
  refine repr_of_reads' rr h1 (fun e => by rw [h2] at e; cases e) hg (by omega) (fun _ _ e => e) (fun h' u tk k => ?_) h4
  exact ⟨.str d.shown, H, I.kept k, ⟨u, rfl⟩, q⟩
def showD (d : D) : Str := (pyD d).shown
def dReprX (d : D) (Q : D → Prop) : Prop := match d with
  | .list ds => noDic (.list ds) = true ∧ (pyD (.list ds)).showable = true ∧ (pyD (.list ds)).depth ≤ 64 ∧ (showD (.list ds)).length ≤ sizeLine ∧ Q (.str (showD (.list ds)))
  | .tuple ds => noDic (.tuple ds) = true ∧ (pyD (.tuple ds)).showable = true ∧ (pyD (.tuple ds)).depth ≤ 64 ∧ (showD (.tuple ds)).length ≤ sizeLine ∧ Q (.str (showD (.tuple ds)))
  | d => dRepr d Q
mutual
theorem pyD_noDict : ∀ d : D, (pyD d).hasDict = false
  | .list ds => by unfold pyD PyData.hasDict; exact pyA_noDict ds
  | .tuple ds => by unfold pyD PyData.hasDict; exact pyA_noDict ds
  | .none => by unfold pyD; rfl
  | .bool _ => by unfold pyD; rfl
  | .int _ => by unfold pyD; rfl
  | .str _ => by unfold pyD; rfl
  | .dict _ => by unfold pyD; rfl
  | .tdic _ => by unfold pyD; rfl
  | .obj _ _ => by unfold pyD; rfl
  | .exc _ _ => by unfold pyD; rfl
  | .glo _ => by unfold pyD; rfl
  | .ty _ => by unfold pyD; rfl
  | .raw _ => by unfold pyD; rfl
theorem pyA_noDict : ∀ ds : List D, PyData.hasDictAll (pyA ds) = false
  | [] => by unfold pyA; rfl
  | d :: ds => by
    unfold pyA PyData.hasDictAll
    rw [pyD_noDict d, pyA_noDict ds]
    rfl
end
def rReprY (K : PySem.W.Frag) : List V → Hp → VK → Prop := fun xs H Q => rReprX xs H Q ∨ rReprD K xs H Q
theorem c_reprX {X : Cx} {k : Nat} (hr : RoomG k X.A) : CallR X (.builtin "repr") (rReprY X.K) := CallR.or c_repr (call_reprD hr.gd (by have := hr.rm.un; omega))
theorem s_reprX {K : PySem.W.Frag} : RBS K (rReprY K) dReprX := fun M N H x d Q l f hx w R hR => by
  cases d
  case list ds =>
    obtain ⟨w1, w2, w3, w4, w5⟩ := w
    have hp := hx.dp w1 f
    obtain ⟨a, xs, rfl, _, _⟩ := hx.list
    exact .inr ⟨a, _, rfl, hp, w2, pyD_noDict _, w3, w4, hR _ _ _ (Same.refl _) (.str _) w5⟩
  case tuple ds =>
    obtain ⟨w1, w2, w3, w4, w5⟩ := w
    have hp := hx.dp w1 f
    obtain ⟨a, xs, rfl, _, _⟩ := hx.tuple
    exact .inr ⟨a, _, rfl, hp, w2, pyD_noDict _, w3, w4, hR _ _ _ (Same.refl _) (.str _) w5⟩
  all_goals exact .inl (s_repr M N H x _ Q l f hx w R hR)
/-! ### how long a text of data is, at most -/
theorem len_app (a b : Str) : (a ++ b).length = a.length + b.length := by
  show (a.cps ++ b.cps).size = _
  rw [Array.size_append]
  rfl
structure Shw (h w : Nat) (d : D) : Prop where
  nd : noDic d = true
  sh : (pyD d).showable = true
  dp : (pyD d).depth ≤ h
  ls : (pyD d).leavesShort 21 = true
  wt : (pyD d).weight ≤ w
structure ShwA (h w : Nat) (ds : List D) : Prop where
  nd : noDicA ds = true
  sh : PyData.showableAll (pyA ds) = true
  dp : PyData.depthAll (pyA ds) ≤ h
  ls : PyData.leavesShortAll 21 (pyA ds) = true
  wt : PyData.weightAll (pyA ds) ≤ ds.length * (w + 1)
theorem Shw.up {h h' w w' : Nat} {d : D} (s : Shw h w d) (h1 : h ≤ h') (h2 : w ≤ w') : Shw h' w' d := ⟨s.nd, s.sh, Nat.le_trans s.dp h1, s.ls, Nat.le_trans s.wt h2⟩
theorem shwA {h w : Nat} : ∀ {ds : List D}, (∀ d ∈ ds, Shw h w d) → ShwA h w ds
  | [], _ => ⟨rfl, rfl, by unfold pyA PyData.depthAll; omega, rfl, by unfold pyA PyData.weightAll; omega⟩
  | d :: ds, a => by
    have h1 := a d List.mem_cons_self
    have h2 := shwA fun e he => a e (List.mem_cons_of_mem _ he)
    refine ⟨?_, ?_, ?_, ?_, ?_⟩
    · unfold noDicA; rw [h1.nd, h2.nd]; rfl
    · unfold pyA PyData.showableAll; rw [h1.sh, h2.sh]; rfl
    · unfold pyA PyData.depthAll; exact Nat.max_le.mpr ⟨h1.dp, h2.dp⟩
    · unfold pyA PyData.leavesShortAll; rw [h1.ls, h2.ls]; rfl
    · unfold pyA PyData.weightAll
      have := h1.wt
      have := h2.wt
      rw [List.length_cons, Nat.succ_mul]
      omega
theorem Shw.list {h w : Nat} {ds : List D} (a : ∀ d ∈ ds, Shw h w d) : Shw (h + 1) (ds.length * (w + 1)) (.list ds) := by
  have b := shwA a
  exact ⟨by unfold noDic; exact b.nd, by unfold pyD PyData.showable; exact b.sh, by unfold pyD PyData.depth; exact Nat.succ_le_succ b.dp, by unfold pyD PyData.leavesShort; exact b.ls, by unfold pyD PyData.weight; exact b.wt⟩
theorem Shw.tuple {h w : Nat} {ds : List D} (a : ∀ d ∈ ds, Shw h w d) : Shw (h + 1) (ds.length * (w + 1)) (.tuple ds) := by
  have b := shwA a
  exact ⟨by unfold noDic; exact b.nd, by unfold pyD PyData.showable; exact b.sh, by unfold pyD PyData.depth; exact Nat.succ_le_succ b.dp, by unfold pyD PyData.leavesShort; exact b.ls, by unfold pyD PyData.weight; exact b.wt⟩
theorem Shw.int {i : Int} (h : i.natAbs < 10 ^ 18) : Shw 0 60 (.int i) := by
  have l : i.natAbs.log2 < 60 := by
    by_cases z : i.natAbs = 0
    · rw [z]; decide
    · rw [Nat.log2_lt z]
      exact Nat.lt_trans h (by decide)
  refine ⟨rfl, ?_, Nat.le_refl _, ?_, ?_⟩
  · show decide _ = true
    exact decide_eq_true (by omega)
  · show decide ((PyData.shown (.int i)).length ≤ 21) = true
    refine decide_eq_true ?_
    show (Str.ofString (toString i)).length ≤ 21
    rw [PySem.ofString_length]
    exact Nat.le_trans (int_text_length_le10 (k := 18) (by decide) h) (by decide)
  · show (if i == 0 then 0 else i.natAbs.log2 + 1) ≤ 60
    split <;> omega
theorem Shw.str {x : Str} (h : ∀ c ∈ x.cps.toList, c < 16 ^ 8) : Shw 0 x.length (.str x) :=
  ⟨rfl, rfl, Nat.le_refl _, by show (x.cps.toList.all fun c => decide (c < 16 ^ 8)) = true; exact List.all_eq_true.mpr fun c hc => decide_eq_true (h c hc), Nat.le_refl _⟩
theorem Shw.bool {b : Bool} : Shw 0 0 (.bool b) := ⟨rfl, rfl, Nat.le_refl _, rfl, Nat.le_refl _⟩
theorem Shw.none : Shw 0 0 .none := ⟨rfl, rfl, Nat.le_refl _, rfl, Nat.le_refl _⟩
theorem Shw.len {h w : Nat} {d : D} (s : Shw h w d) (hw : w ≤ 700000) : (showD d).length ≤ sizeLine := by
  have a := PyData.shown_le 21 (by decide) _ s.ls
  have b := s.wt
  show _ ≤ 16777216
  unfold showD
  omega
end Vt
namespace Vt
open PySem PySem.Spec L2 PyProof.Rows
variable [WorldC]
/-! ### tests: k in d, k not in d, z in TAB -/
section
variable {X : Cx} {op : Op} {a b e : Expr} {pos : Pos} {ta tb : TE} {dx1 tx1 dx2 tx2 : List Nat} {q1 q2 q : Bool} {ta' tb' : DTE} {dx tx : List Nat} {ad : Addr} {ks : List Str}
theorem dt_din (hu : X.A.units + 1 < cLine) (ha : DE X op a ta dx1 tx1 q1 ta') (hb : DE X op b tb dx2 tx2 q2 tb') (hm : behindInMarks .In b = false := by rfl) (ok : okq dx1 tx1 q2 = true := by rfl) : DT X op (.Compare a [.In] [b] pos) (tB (tDIn ta tb)) (q1 && q2) (dTest (dDin ta' tb')) :=
  ⟨pt_cmp (pc_din hu ha.pe hb.pe) hm, sdt_test (sd_din ha.sd hb.sd ok)⟩
theorem dt_dnotin (hu : X.A.units + 1 < cLine) (ha : DE X op a ta dx1 tx1 q1 ta') (hb : DE X op b tb dx2 tx2 q2 tb') (hm : behindInMarks .NotIn b = false := by rfl) (ok : okq dx1 tx1 q2 = true := by rfl) : DT X op (.Compare a [.NotIn] [b] pos) (tB (tDNotIn ta tb)) (q1 && q2) (dTest (dDnotin ta' tb')) :=
  ⟨pt_cmp (pc_dnotin hu ha.pe hb.pe) hm, sdt_test (sd_dnotin ha.sd hb.sd ok)⟩
theorem dt_tabin (T : TabG X.K X.w ad ks) (hg : PE X b (tC (.ref ad))) (ha : DE X op e ta dx tx q ta') (hm : behindInMarks .In b = false := by rfl) : DT X op (.Compare e [.In] [b] pos) (tTest (tOp (rTab X.K ad) ta (tC (.ref ad)))) q (dTest (dTabIn ks ta')) := by
  obtain ⟨es, n, kd⟩ := T.kd
  exact ⟨pt_cmpR (op_in_kd kd) ha.pe hg hm, sdt_test (de_tabin (pos := pos) T hg ha hm).sd⟩
end
end Vt
namespace Vt
open PySem PySem.Spec L2 PyProof.Rows
variable [WorldC]
/-! ### dicts whose keys are tuples: the heap -/
def atN (xs : NKV) (k : NestedKey) : Option (Addr × V) := (xs.find? fun x => decide (x.1 = k)).map (·.2)
def valN (xs : NKV) (k : NestedKey) : Option V := (atN xs k).map (·.2)
def putN (xs : NKV) (k : NestedKey) (b : Addr) (v : V) : NKV := if (atN xs k).isSome then xs.map fun x => if x.1 = k then (x.1, x.2.1, v) else x else xs ++ [(k, b, v)]
abbrev RelN (p : NestedKey × Addr × V) (q : NestedKey × Addr × Value) : Prop := p.1 = q.1 ∧ p.2.1 = q.2.1 ∧ RelV p.2.2 q.2.2
abbrev RelNs (xs : NKV) (ys : List (NestedKey × Addr × Value)) : Prop := Paired RelN xs ys
theorem RelNs.keys : ∀ {xs : NKV} {ys : List (NestedKey × Addr × Value)}, RelNs xs ys → xs.map (·.1) = ys.map (·.1)
  | _, _, .nil => rfl
  | _, _, .cons h t => by rw [List.map_cons, List.map_cons, h.1, RelNs.keys t]
theorem RelNs.val : ∀ {xs : NKV} {ys : List (NestedKey × Addr × Value)} (k : NestedKey), RelNs xs ys → RelO (valN xs k) ((atKey ys k).map (·.2))
  | _, _, _, .nil => by show RelO none none; exact True.intro
  | _, _, k, @Paired.cons _ _ _ p q ps qs h t => by
    have ih := RelNs.val k t
    unfold valN atN atKey at ih ⊢
    rw [List.find?_cons, List.find?_cons, h.1]
    by_cases e : q.1 = k
    · rw [decide_eq_true e]
      exact h.2.2
    · rw [decide_eq_false e]
      exact ih
theorem RelNs.map_put {k : NestedKey} {v : V} {u : Value} (r : RelV v u) : ∀ {xs : NKV} {ys : List (NestedKey × Addr × Value)}, RelNs xs ys → RelNs (xs.map fun x => if x.1 = k then (x.1, x.2.1, v) else x) (ys.map (putAt k u))
  | _, _, .nil => .nil
  | _, _, @Paired.cons _ _ _ p q ps qs h t => by
    refine .cons ?_ (RelNs.map_put r t)
    unfold putAt
    show RelN (if p.1 = k then (p.1, p.2.1, v) else p) (if q.1 = k then (q.1, q.2.1, u) else q)
    rw [h.1]
    by_cases e : q.1 = k
    · rw [if_pos e, if_pos e]
      exact ⟨rfl, h.2.1, r⟩
    · rw [if_neg e, if_neg e]
      exact h
theorem RelNs.app : ∀ {xs xs2 : NKV} {ys ys2 : List (NestedKey × Addr × Value)}, RelNs xs ys → RelNs xs2 ys2 → RelNs (xs ++ xs2) (ys ++ ys2)
  | _, _, _, _, .nil, g => g
  | _, _, _, _, .cons h t, g => .cons h (RelNs.app t g)
theorem RelNs.len : ∀ {xs : NKV} {ys : List (NestedKey × Addr × Value)}, RelNs xs ys → xs.length = ys.length
  | _, _, .nil => rfl
  | _, _, .cons _ t => by rw [List.length_cons, List.length_cons, RelNs.len t]
theorem RelNs.isSome {xs : NKV} {ys : List (NestedKey × Addr × Value)} (k : NestedKey) (h : RelNs xs ys) : (valN xs k).isSome = (atKey ys k).isSome := by
  have := (h.val k).isSome_eq
  rw [Option.isSome_map] at this
  exact this
theorem atN_isSome (xs : NKV) (k : NestedKey) : (atN xs k).isSome = (valN xs k).isSome := by unfold valN; rw [Option.isSome_map]
theorem RelNs.put {k : NestedKey} {b : Addr} {v : V} {u : Value} (r : RelV v u) {xs : NKV} {ys : List (NestedKey × Addr × Value)} (h : RelNs xs ys) : RelNs (putN xs k b v) (storedH ys k b u) := by
  unfold putN storedH
  rw [atN_isSome, h.isSome k]
  split
  · exact h.map_put r
  · exact h.app (.cons ⟨rfl, rfl, r⟩ .nil)
theorem putN_len (xs : NKV) (k : NestedKey) (b : Addr) (v : V) : (putN xs k b v).length ≤ xs.length + 1 := by
  unfold putN
  split <;> simp
theorem putN_keys {xs : NKV} {k : NestedKey} {b : Addr} {v : V} {P : NestedKey → Addr → Prop} (h : ∀ x ∈ xs, P x.1 x.2.1) (hk : P k b) : ∀ x ∈ putN xs k b v, P x.1 x.2.1 := by
  unfold putN
  intro x hx
  split at hx
  · obtain ⟨y, hy, rfl⟩ := List.mem_map.mp hx
    have := h y hy
    split
    · exact this
    · exact this
  · rcases List.mem_append.mp hx with hx | hx
    · exact h x hx
    · rcases List.mem_singleton.mp hx with rfl
      exact hk
mutual
theorem NkIs.val {X : Cx} {pins : List (Addr × Obj)} {σ : L2.St} {H : Hp} {s : Shared} (I : Inv X pins σ H s) : ∀ {k : NestedKey} {v : V} {u : Value}, NkIs X.K H k v → RelV v u → NestedIs s.heap k u
  | .none, _, _, h, r => by cases h; cases (show _ = Value.none from r); exact .none
  | .num i, _, _, h, r => by cases h; obtain ⟨t, rfl⟩ := r; exact .int _ _
  | .text x, _, _, h, r => by cases h; obtain ⟨t, rfl⟩ := r; exact .text _ _
  | .tup ks, _, _, h, r => by
    cases h with
    | tup e a =>
      cases (show _ = Value.ref _ from r)
      obtain ⟨its, rv, ⟨o, h1, h2, n, h3⟩, _⟩ := I.tuple e
      exact .tup h1 h2 h3 (by simpa using NkAll.val I a rv)
theorem NkAll.val {X : Cx} {pins : List (Addr × Obj)} {σ : L2.St} {H : Hp} {s : Shared} (I : Inv X pins σ H s) : ∀ {ks : List NestedKey} {vs : List V} {us : List Value}, NkAll X.K H ks vs → Vals vs us → NestedAll s.heap ks us
  | [], _, _, h, r => by cases h; cases r; exact .nil
  | k :: ks, _, _, h, r => by
    cases h with
    | cons h t =>
      cases r with
      | cons r rt => exact .cons (NkIs.val I h r) (NkAll.val I t rt)
end
section
variable {X : Cx} {pins : List (Addr × Obj)} {σ : L2.St} {H : Hp} {s : Shared} {a b : Addr} {xs : NKV} {k : NestedKey} {v : V} {u r : Value} {A : Around} {E : Value → Shared → Prop}
theorem NkOk.is (I : Inv X pins σ H s) (h : NkOk X.K H k b) : (nestedKind X.prog X.w).is s.heap k b := ⟨h.1.val I rfl, h.2⟩
/-- the dict at a has these entries, its keys are keys -/
structure IsN (K : PySem.W.Frag) (H : Hp) (a : Addr) (xs : NKV) : Prop where
  at_ : H a = some (dN a xs)
  keys : ∀ x ∈ xs, NkOk K H x.1 x.2.1
theorem n_rd (hw : X.w = WorldC.w) (I : Inv X pins σ H s) (h : IsN X.K H a xs) : xs.length ≤ sizeLine ∧ (a == sysModules) = false ∧ ∃ ys, RelNs xs ys ∧ s.heap.DictOfH (nestedKind X.prog X.w) a ys := by
  obtain ⟨⟨z, y, nd, ys, rel, o, es, ep, h1, h2, h3, h4⟩, _, _⟩ := (show ObjOk X.prog X.w H s.heap a (.ext (rawN WorldC.w a xs)) from I.hok a _ h.at_)
  refine ⟨z, y, ys, rel, o, es, ep, h1, h2, h3, ?_, ?_, ?_⟩
  · rw [h4, ← hw]
    rfl
  · have all : ∀ {l : NKV} {m : List (NestedKey × Addr × Value)}, (∀ x ∈ l, NkOk X.K H x.1 x.2.1) → RelNs l m → ∀ y ∈ m, (nestedKind X.prog X.w).is s.heap y.1 y.2.1 := by
      intro l m hl q
      induction q with
      | nil => intro y hy; exact nomatch hy
      | @cons p q ps qs hq t ih =>
        intro y hy
        rcases List.mem_cons.mp hy with e | hy
        · subst e
          rw [← hq.1, ← hq.2.1]
          exact (hl p List.mem_cons_self).is I
        · exact ih (fun x hx => hl x (List.mem_cons_of_mem _ hx)) y hy
    exact all h.keys rel
  · have e := RelNs.keys rel
    rw [← e]; exact nd
theorem isN_at (hw : X.w = WorldC.w) (I : Inv X pins σ H s) (d : IsN X.K H a xs) : s.TypeIs (.ref a) "dict" ∧ (∀ b, Value.ref a = .ref b → ∃ ob, s.heap.get? b = some ob ∧ ob.dict = none) ∧ (a == sysModules) = false := by
  obtain ⟨_, hd, ys, _, dd⟩ := n_rd hw I d
  refine ⟨dd.typeIs, fun b q => ?_, hd⟩
  cases q
  obtain ⟨ob, _, _, h1, h2, _⟩ := dd
  exact ⟨ob, h1, h2.2.1⟩
variable {Q : Value → Shared → Prop}
theorem n_getItem (hw : X.w = WorldC.w) (hu : A.in1.units + 8 < cLine) (I : Inv X pins σ H s) (g : IsN X.K H a xs) (gk : NkOk X.K H k b) (l : valN xs k = some v) (h : ∀ w' s', Inv X pins σ H s' → RelV v w' → Q w' s') :
    wpAny (model X.prog X.w) A (getItem (.ref a) (.ref b)) Q E s := by
  obtain ⟨z, hd, ys, rel, dd⟩ := n_rd hw I g
  obtain ⟨w', hw', rw'⟩ := RelO.some_of (v := v) (o := (atKey ys k).map (·.2)) (by rw [← l]; exact rel.val k)
  obtain ⟨p, hp, hp2⟩ := Option.map_eq_some_iff.mp hw'
  refine wpAny_getItem_heap hu (gk.is I) dd hp ?_
  rw [hp2]
  exact h w' _ (I.tok _) rw'
theorem n_in (hw : X.w = WorldC.w) (hu : A.in1.units + 8 < cLine) (I : Inv X pins σ H s) (g : IsN X.K H a xs) (gk : NkOk X.K H k b) (h : ∀ s', Inv X pins σ H s' → Q (.bool (valN xs k).isSome) s') :
    wpAny (model X.prog X.w) A (compareOp .In (.ref b) (.ref a)) Q E s := by
  obtain ⟨z, hd, ys, rel, dd⟩ := n_rd hw I g
  refine wpAny_in_heap hu (gk.is I) hd dd ?_
  rw [← rel.isSome k]
  exact h _ (I.tok _)
theorem n_notIn (hw : X.w = WorldC.w) (hu : A.in1.units + 8 < cLine) (I : Inv X pins σ H s) (g : IsN X.K H a xs) (gk : NkOk X.K H k b) (h : ∀ s', Inv X pins σ H s' → Q (.bool (!(valN xs k).isSome)) s') :
    wpAny (model X.prog X.w) A (compareOp .NotIn (.ref b) (.ref a)) Q E s := by
  obtain ⟨z, hd, ys, rel, dd⟩ := n_rd hw I g
  refine wpAny_notIn_heap hu (gk.is I) hd dd ?_
  rw [← rel.isSome k]
  exact h _ (I.tok _)
theorem n_get1 (hw : X.w = WorldC.w) (hu : A.in1.units + 8 < cLine) (I : Inv X pins σ H s) (g : IsN X.K H a xs) (gk : NkOk X.K H k b) (h : ∀ w' s', Inv X pins σ H s' → RelV ((valN xs k).getD .non) w' → Q w' s') :
    wpAny (model X.prog X.w) A (call (.builtin "dict.get") [.ref a, .ref b]) Q E s := by
  obtain ⟨z, hd, ys, rel, dd⟩ := n_rd hw I g
  exact call_meetsIn PySem.F.slot_dict_get dd.typeIs PySem.F.entry_dict_get (PySem.F.args_dict_get_2 _ _) (meetsH_dict_get (nestedKind X.prog X.w) a b hd) ⟨hu, k, ys, gk.is I, dd, h _ _ (I.tok _) ((rel.val k).getD rfl)⟩
theorem n_get2 {d : V} (hw : X.w = WorldC.w) (hu : A.in1.units + 8 < cLine) (I : Inv X pins σ H s) (g : IsN X.K H a xs) (gk : NkOk X.K H k b) (rd : RelV d r) (h : ∀ w' s', Inv X pins σ H s' → RelV ((valN xs k).getD d) w' → Q w' s') :
    wpAny (model X.prog X.w) A (call (.builtin "dict.get") [.ref a, .ref b, r]) Q E s := by
  obtain ⟨z, hd, ys, rel, dd⟩ := n_rd hw I g
  exact call_meetsIn PySem.F.slot_dict_get dd.typeIs PySem.F.entry_dict_get (PySem.F.args_dict_get_3 _ _ _) (meetsH_dict_get_default (nestedKind X.prog X.w) a b hd r) ⟨hu, k, ys, gk.is I, dd, h _ _ (I.tok _) ((rel.val k).getD rd)⟩
theorem rawN_of {h' : Heap} {ys : List (NestedKey × Addr × Value)} (hw : X.w = WorldC.w) (z : xs.length ≤ sizeLine) (y : (a == sysModules) = false) (rel : RelNs xs ys) (dd : h'.DictOfH (nestedKind X.prog X.w) a ys) : rawN WorldC.w a xs h' := by
  obtain ⟨o, es, ep, h1, h2, h3, h4, _, h5⟩ := dd
  refine ⟨z, y, by rw [rel.keys]; exact h5, ys, rel, o, es, ep, h1, h2, h3, ?_⟩
  rw [h4, ← hw]
  rfl
theorem dN_ok {h' : Heap} {H' : Hp} (h : rawN WorldC.w a xs h') : ObjOk X.prog X.w H' h' a (dN a xs) := by
  refine ⟨h, ?_, ?_⟩
  · obtain ⟨_, _, _, _, _, o, _, _, h1, _⟩ := h
    exact ⟨o, h1⟩
  · rintro h1 h2 ⟨z, y, nd, ys, rel, o, es, ep, e1, c⟩ k
    exact ⟨z, y, nd, ys, rel, o, es, ep, k _ e1, c⟩
theorem n_setItem {Q : Unit → Shared → Prop} (hw : X.w = WorldC.w) (hu : A.in1.units + 8 < cLine) (I : Inv X pins σ H s) (g : IsN X.K H a xs) (gk : NkOk X.K H k b) (rv : RelV v r) (l : xs.length < sizeLine) (h : ∀ s', Inv X pins σ (upd H a (dN a (putN xs k b v))) s' → Q () s') :
    wpAny (model X.prog X.w) A (setItem (.ref a) (.ref b) r) Q E s := by
  obtain ⟨z, hd, ys, rel, dd⟩ := n_rd hw I g
  have hz : ys.length ≤ sizeLine := by rw [← rel.len]; exact z
  have hl : (putN xs k b v).length ≤ sizeLine := by have := putN_len xs k b v; omega
  refine wpAny_setItem_heap (hsz := hz) hu (gk.is I) dd fun h' dd' hs => h _ ?_
  have he : ∃ q, h'.get? a = some q := let ⟨q, _, _, hq, _⟩ := dd'; ⟨q, hq⟩
  exact d_write I (by rw [g.at_]; exact True.intro) hs he (dN_ok (rawN_of hw hl hd (rel.put rv) dd'))
theorem n_empty (h : Heap) (hb : sysModules < h.objs.size) : rawN WorldC.w h.objs.size [] (h.push { cls := .type "dict", data := .dict #[] }) :=
  ⟨Nat.zero_le _, beq_eq_false_iff_ne.mpr (Ne.symm (Nat.ne_of_lt hb)), List.nodup_nil, [], .nil, _, #[], 0, Heap.get?_push_size _ rfl, ⟨rfl, rfl, rfl⟩, rfl, rfl⟩
end
/-! ### readings of the machine's expressions -/
def tNNew : TE := fun _ H Q => ∀ p, H p = none → Q (.ref p) (upd H p (dN p []))
def NAt (K : PySem.W.Frag) (H : Hp) (x y : V) (r : Option V → Prop) : Prop := ∃ a xs k b, x = .ref a ∧ y = .ref b ∧ IsN K H a xs ∧ NkOk K H k b ∧ r (valN xs k)
def rNGet (K : PySem.W.Frag) : R2 := fun x y H Q => NAt K H x y fun o => ∃ v, o = some v ∧ Q v H
def tNIn (K : PySem.W.Frag) (ty td : TE) : TE := fun σ H Q => ty σ H fun y H1 => td σ H1 fun x H2 => NAt K H2 x y fun o => Q (.bl o.isSome) H2
def tNNotIn (K : PySem.W.Frag) (ty td : TE) : TE := fun σ H Q => ty σ H fun y H1 => td σ H1 fun x H2 => NAt K H2 x y fun o => Q (.bl (!o.isSome)) H2
def tNGet1 (K : PySem.W.Frag) (td ty : TE) : TE := fun σ H Q => td σ H fun x H1 => ∃ a xs, x = .ref a ∧ IsN K H1 a xs ∧ ty σ H1 fun y H2 => NAt K H2 x y fun o => Q (o.getD .non) H2
def tNGet2 (K : PySem.W.Frag) (td ty tx : TE) : TE := fun σ H Q => td σ H fun x H1 => ∃ a xs, x = .ref a ∧ IsN K H1 a xs ∧ ty σ H1 fun y H2 => tx σ H2 fun z H3 => NAt K H3 x y fun o => Q (o.getD z) H3
def sNPut (K : PySem.W.Frag) (td ty tv : TE) : TS := fun D σ H => tv σ H fun v H1 => td σ H1 fun x H2 => ty σ H2 fun y H3 => ∃ a xs k b, x = .ref a ∧ y = .ref b ∧ IsN K H3 a xs ∧ NkOk K H3 k b ∧ xs.length < sizeLine ∧ D.nx σ (upd H3 a (dN a (putN xs k b v)))
section
variable {X : Cx} {o i e f value : Expr} {pos pos' apos cpos : Pos} {td ty tv tx : TE}
theorem pe_nnew : PE X (.Dict [] [] pos) tNNew := ⟨fun pins s σ H Q I h =>
  wpAny_Dict_empty ⟨.ref s.heap.objs.size, _, I.laid (a := s.heap.objs.size) (o := dN s.heap.objs.size []) (t' := s.toks) (fun _ _ q => Heap.get?_push_of_some _ q) (Nat.le_refl _) (dN_ok (n_empty s.heap I.big)), rfl, h _ (I.hok.fresh (Nat.le_refl _))⟩⟩
theorem pe_nget (hw : X.w = WorldC.w) (hu : X.A.units + 9 < cLine) (ho : PE X o td) (hi : PE X i ty) (hs : NoSl i) : PE X (.Subscript o i pos) (tOp (rNGet X.K) td ty) := by
  refine ⟨fun pins s σ H Q I h => ?_⟩
  refine subD_of PySem.F.slot_dict_getitem.lookup hs (thn (ho.run pins s σ H _ I h) fun u s1 ⟨x, H1, I1, rx, q1⟩ => thn (hi.run pins s1 σ H1 _ I1 q1) fun iv s2 ⟨y, H2, I2, ry, a, xs, k, b, ex, ey, g, gk, v, l, q2⟩ => ?_)
  subst ex ey
  obtain rfl : u = Value.ref a := rx
  obtain rfl : iv = Value.ref b := ry
  exact ⟨(isN_at hw I2 g).1, n_getItem hw (by rw [Around.in1_units]; omega) I2 g gk l fun w' s3 I3 rw' => ⟨v, H2, I3, rw', q2⟩⟩
theorem pc_nin (hw : X.w = WorldC.w) (hu : X.A.units + 9 < cLine) (hi : PE X i ty) (ho : PE X o td) : PC X .In i o (tNIn X.K ty td) := by
  refine ⟨fun pins s σ H Q I h => ?_⟩
  refine thn (hi.run pins s σ H _ I h) fun iv s1 ⟨y, H1, I1, ry, q1⟩ => thn (ho.run pins s1 σ H1 _ I1 q1) fun u s2 ⟨x, H2, I2, rx, a, xs, k, b, ex, ey, g, gk, q2⟩ => ?_
  subst ex ey
  obtain rfl : u = Value.ref a := rx
  obtain rfl : iv = Value.ref b := ry
  exact n_in hw (by rw [Around.in1_units]; omega) I2 g gk fun s3 I3 => ⟨.bl _, H2, I3, rfl, q2⟩
theorem pc_nnotin (hw : X.w = WorldC.w) (hu : X.A.units + 9 < cLine) (hi : PE X i ty) (ho : PE X o td) : PC X .NotIn i o (tNNotIn X.K ty td) := by
  refine ⟨fun pins s σ H Q I h => ?_⟩
  refine thn (hi.run pins s σ H _ I h) fun iv s1 ⟨y, H1, I1, ry, q1⟩ => thn (ho.run pins s1 σ H1 _ I1 q1) fun u s2 ⟨x, H2, I2, rx, a, xs, k, b, ex, ey, g, gk, q2⟩ => ?_
  subst ex ey
  obtain rfl : u = Value.ref a := rx
  obtain rfl : iv = Value.ref b := ry
  exact n_notIn hw (by rw [Around.in1_units]; omega) I2 g gk fun s3 I3 => ⟨.bl _, H2, I3, rfl, q2⟩
theorem pe_nget1 (hw : X.w = WorldC.w) (hu : X.A.units + 9 < cLine) (ho : PE X o td) (he : PE X e ty) (m : M1 X o "get" apos e cpos) : PE X (.Call (.Attribute o "get" apos) [e] [] cpos) (tNGet1 X.K td ty) := by
  refine ⟨fun pins s σ H Q I h => ?_⟩
  refine wpAny_Call_method m.base m.few m.line PySem.F.plainAttrs_dict PySem.F.slot_dict_get PySem.F.type_dict_get (thn (ho.run pins s σ H _ I h) fun u s1 ⟨x, H1, I1, rx, a, xs, ex, d, q1⟩ => ?_)
  subst ex
  obtain rfl : u = Value.ref a := rx
  obtain ⟨t1, t2, _⟩ := isN_at hw I1 d
  refine ⟨t1, t2, ?_⟩
  rw [m.trees]
  refine Calls.callWith_builtin rfl (Calls.evalArgs_plain (Calls.spliced_cons (thn (he.run pins s1 σ H1 _ I1 q1) fun iv s2 ⟨y, H2, I2, ry, a2, xs2, k, b, ex2, ey, g, gk, q2⟩ => Calls.spliced_nil ?_)))
  cases ex2
  subst ey
  obtain rfl : iv = Value.ref b := ry
  exact n_get1 hw (by rw [Around.in1_units]; omega) I2 g gk fun w' s3 I3 rw' => ⟨_, H2, I3, rw', q2⟩
theorem pe_nget2 (hw : X.w = WorldC.w) (hu : X.A.units + 9 < cLine) (ho : PE X o td) (he : PE X e ty) (hf : PE X f tx) (m : M2 X o "get" apos e f cpos) : PE X (.Call (.Attribute o "get" apos) [e, f] [] cpos) (tNGet2 X.K td ty tx) := by
  refine ⟨fun pins s σ H Q I h => ?_⟩
  refine wpAny_Call_method m.base m.few m.line PySem.F.plainAttrs_dict PySem.F.slot_dict_get PySem.F.type_dict_get (thn (ho.run pins s σ H _ I h) fun u s1 ⟨x, H1, I1, rx, a, xs, ex, d, q1⟩ => ?_)
  subst ex
  obtain rfl : u = Value.ref a := rx
  obtain ⟨t1, t2, _⟩ := isN_at hw I1 d
  refine ⟨t1, t2, ?_⟩
  rw [m.trees]
  refine Calls.callWith_builtin rfl (Calls.evalArgs_plain (Calls.spliced_cons (thn (he.run pins s1 σ H1 _ I1 q1) fun iv s2 ⟨y, H2, I2, ry, q2⟩ =>
    Calls.spliced_cons (thn (hf.run pins s2 σ H2 _ I2 q2) fun fv s3 ⟨z, H3, I3, rz, a2, xs2, k, b, ex2, ey, g, gk, q3⟩ => Calls.spliced_nil ?_))))
  cases ex2
  subst ey
  obtain rfl : iv = Value.ref b := ry
  exact n_get2 hw (by rw [Around.in1_units]; omega) I3 g gk rz fun w' s4 I4 rw' => ⟨_, H3, I4, rw', q3⟩
theorem ps_nput (hw : X.w = WorldC.w) (hu : X.A.units + 9 < cLine) (ho : PE X o td) (hi : PE X i ty) (hv : PE X value tv) (hs : swapsWith value (some (.Subscript o i pos')) pos.line X.env = pure false) :
    PS X (.Assign [.Subscript o i pos'] value pos) (sNPut X.K td ty tv) := by
  refine ⟨fun pins s σ H D I h => ?_⟩
  refine wpAny_Assign_Subscript (thn (hv.run pins s σ H _ I h) fun r s1 ⟨v, H1, I1, rv, q1⟩ => thn (ho.run pins s1 σ H1 _ I1 q1) fun u s2 ⟨x, H2, I2, rx, q2⟩ => thn (hi.run pins s2 σ H2 _ I2 q2) fun iv s3 ⟨y, H3, I3, ry, a, xs, k, b, ex, ey, g, gk, l, q3⟩ => ?_) hs
  subst ex ey
  obtain rfl : u = Value.ref a := rx
  obtain rfl : iv = Value.ref b := ry
  exact n_setItem hw (by rw [Around.in1_units]; omega) I3 g gk rv l fun s4 I4 => ⟨σ, _, I4, q3⟩
end
end Vt
namespace Vt
open PySem PySem.Spec L2 PyProof.Rows
variable [WorldC]
/-! ### dicts whose keys are tuples: told of data -/
mutual
def nkOf : D → Option NestedKey
  | .none => some .none
  | .int i => some (.num i)
  | .str x => some (.text x)
  | .tuple ds => (nksOf ds).map .tup
  | _ => none
def nksOf : List D → Option (List NestedKey)
  | [] => some []
  | d :: ds => match nkOf d with
    | some k => (nksOf ds).map (k :: ·)
    | none => none
end
mutual
theorem nkOf_nkD : ∀ k : NestedKey, nkOf (nkD k) = some k
  | .none => rfl
  | .num _ => rfl
  | .text _ => rfl
  | .tup ks => by
    show (nksOf (nkDs ks)).map NestedKey.tup = _
    rw [nksOf_nkDs ks]
    rfl
theorem nksOf_nkDs : ∀ ks : List NestedKey, nksOf (nkDs ks) = some ks
  | [] => rfl
  | k :: ks => by
    show (match nkOf (nkD k) with | some k => (nksOf (nkDs ks)).map (k :: ·) | none => none) = _
    rw [nkOf_nkD k, nksOf_nkDs ks]
    rfl
end
mutual
theorem nkD_nkOf : ∀ (d : D) {k : NestedKey}, nkOf d = some k → nkD k = d
  | .none, _, h => by cases h; rfl
  | .int _, _, h => by cases h; rfl
  | .str _, _, h => by cases h; rfl
  | .tuple ds, k, h => by
    obtain ⟨ks, e, rfl⟩ := Option.map_eq_some_iff.mp (show (nksOf ds).map NestedKey.tup = some k from h)
    show D.tuple (nkDs ks) = _
    rw [nkDs_nksOf ds e]
  | .bool _, _, h => by cases h
  | .list _, _, h => by cases h
  | .dict _, _, h => by cases h
  | .tdic _, _, h => by cases h
  | .obj _ _, _, h => by cases h
  | .exc _ _, _, h => by cases h
  | .glo _, _, h => by cases h
  | .ty _, _, h => by cases h
  | .raw _, _, h => by cases h
theorem nkDs_nksOf : ∀ (ds : List D) {ks : List NestedKey}, nksOf ds = some ks → nkDs ks = ds
  | [], _, h => by cases h; rfl
  | d :: ds, ks, h => by
    have h : (match nkOf d with | some k => (nksOf ds).map (k :: ·) | none => none) = some ks := h
    cases e : nkOf d with
    | none => rw [e] at h; cases h
    | some k =>
      rw [e] at h
      obtain ⟨ks2, e2, rfl⟩ := Option.map_eq_some_iff.mp h
      show nkD k :: nkDs ks2 = _
      rw [nkD_nkOf d e, nkDs_nksOf ds e2]
end
/-- a tuple that may be a key -/
def tkOf (d : D) : Option NestedKey := match d with
  | .tuple ds => match nkOf (.tuple ds) with
    | some k => if k.depth ≤ 8 then some k else none
    | none => none
  | _ => none
theorem tkOf_nk {d : D} {k : NestedKey} (h : tkOf d = some k) : ∃ ds, d = .tuple ds ∧ nkOf (.tuple ds) = some k ∧ k.depth ≤ 8 := by
  cases d <;> first | (cases h; done) | skip
  case tuple ds =>
    unfold tkOf at h
    simp only at h
    cases e : nkOf (.tuple ds) with
    | none => rw [e] at h; cases h
    | some k2 =>
      rw [e] at h
      simp only at h
      split at h
      · rename_i z
        cases h
        exact ⟨ds, rfl, e, z⟩
      · cases h
def getT : List (D × D) → NestedKey → Option D
  | [], _ => none
  | p :: r, z => if nkOf p.1 = some z then some p.2 else getT r z
def hasT (ds : List (D × D)) (z : NestedKey) : Bool := (getT ds z).isSome
def putT (ds : List (D × D)) (z : NestedKey) (d : D) : List (D × D) := if hasT ds z = true then ds.map (fun q => if nkOf q.1 = some z then (q.1, d) else q) else ds ++ [(nkD z, d)]
section
variable {K : PySem.W.Frag} {M M' N : AS} {H : Hp}
mutual
theorem Dz.nk : ∀ {d : D} {v : V} {k : NestedKey}, Dz K M H v d → nkOf d = some k → NkIs K H k v
  | .none, _, _, h, e => by cases e; cases h; exact .none
  | .int _, _, _, h, e => by cases e; cases h; exact .num _
  | .str _, _, _, h, e => by cases e; cases h; exact .text _
  | .tuple ds, _, k, h, e => by
    obtain ⟨ks, e3, rfl⟩ := Option.map_eq_some_iff.mp (show (nksOf ds).map NestedKey.tup = some k from e)
    cases h with
    | tup e2 a => exact .tup e2 (DzA.nk a e3)
  | .bool _, _, _, _, e => by cases e
  | .list _, _, _, _, e => by cases e
  | .dict _, _, _, _, e => by cases e
  | .tdic _, _, _, _, e => by cases e
  | .obj _ _, _, _, _, e => by cases e
  | .exc _ _, _, _, _, e => by cases e
  | .glo _, _, _, _, e => by cases e
  | .ty _, _, _, _, e => by cases e
  | .raw _, _, _, _, e => by cases e
theorem DzA.nk : ∀ {ds : List D} {vs : List V} {ks : List NestedKey}, DzA K M H vs ds → nksOf ds = some ks → NkAll K H ks vs
  | [], _, _, h, e => by cases e; cases h; exact .nil
  | d :: ds, _, ks, h, e => by
    have e : (match nkOf d with | some k => (nksOf ds).map (k :: ·) | none => none) = some ks := e
    cases e1 : nkOf d with
    | none => rw [e1] at e; cases e
    | some k =>
      rw [e1] at e
      obtain ⟨ks2, e2, rfl⟩ := Option.map_eq_some_iff.mp e
      cases h with
      | cons h t => exact .cons (Dz.nk h e1) (DzA.nk t e2)
end
theorem DzT.tk {y : V} {d : D} {k : NestedKey} (h : DzT K M N H y d) (e : tkOf d = some k) : ∃ b, y = .ref b ∧ NkOk K H k b := by
  obtain ⟨ds, rfl, e1, e2⟩ := tkOf_nk e
  obtain ⟨a, xs, rfl, e3, e4⟩ := h.tuple
  exact ⟨a, rfl, Dz.nk (.tup e3 e4) e1, e2⟩
theorem DzN.get {z : NestedKey} : ∀ {ds : List (D × D)} {xs : NKV}, DzN K M H xs ds → (∀ d, getT ds z = some d → ∃ v, valN xs z = some v ∧ Dz K M H v d) ∧ (getT ds z = none → valN xs z = none)
  | _, _, .nil => ⟨(fun d e => by cases e), fun _ => rfl⟩
  | _, _, @DzN.cons _ _ _ _ k b v vs d0 ds _ h t => by
    obtain ⟨h1, h2⟩ := DzN.get (z := z) t
    unfold valN atN at h1 h2 ⊢
    rw [List.find?_cons]
    unfold getT
    show (∀ d, (if nkOf (nkD k) = some z then some d0 else getT ds z) = some d → _) ∧ ((if nkOf (nkD k) = some z then some d0 else getT ds z) = none → _)
    rw [nkOf_nkD]
    by_cases c : k = z
    · subst c
      rw [if_pos rfl, decide_eq_true rfl]
      exact ⟨(fun d e => by cases e; exact ⟨v, rfl, h⟩), fun e => by cases e⟩
    · rw [if_neg (fun e => c (Option.some.inj e)), decide_eq_false c]
      exact ⟨h1, h2⟩
theorem DzN.has {z : NestedKey} {ds : List (D × D)} {xs : NKV} (h : DzN K M H xs ds) : (valN xs z).isSome = hasT ds z := by
  unfold hasT
  cases e : getT ds z with
  | none => rw [h.get.2 e]; rfl
  | some d =>
    obtain ⟨v, e1, _⟩ := h.get.1 d e
    rw [e1]; rfl
theorem DzN.app {l2 : NKV} {e2 : List (D × D)} (h2 : DzN K M H l2 e2) : ∀ {l : NKV} {e : List (D × D)}, DzN K M H l e → DzN K M H (l ++ l2) (e ++ e2)
  | _, _, .nil => h2
  | _, _, .cons z h t => .cons z h (DzN.app h2 t)
theorem DzN.map_put {z : NestedKey} {y : V} {d : D} (hy : Dz K M H y d) : ∀ {l : NKV} {e : List (D × D)}, DzN K M H l e → DzN K M H (l.map fun x => if x.1 = z then (x.1, x.2.1, y) else x) (e.map fun q => if nkOf q.1 = some z then (q.1, d) else q)
  | _, _, .nil => .nil
  | _, _, @DzN.cons _ _ _ _ k b v vs d0 ds kk h t => by
    have ih := DzN.map_put hy (z := z) t
    rw [List.map_cons, List.map_cons]
    show DzN K M H ((if k = z then (k, b, y) else (k, b, v)) :: _) ((if nkOf (nkD k) = some z then (nkD k, d) else (nkD k, d0)) :: _)
    rw [nkOf_nkD]
    by_cases c : k = z
    · rw [if_pos c, if_pos (by rw [c])]
      exact .cons kk hy ih
    · rw [if_neg c, if_neg fun e => c (Option.some.inj e)]
      exact .cons kk h ih
theorem DzN.put {z : NestedKey} {b : Addr} {y : V} {d : D} {xs : NKV} {ds : List (D × D)} (h : DzN K M H xs ds) (hk : NkOk K H z b) (hy : Dz K M H y d) : DzN K M H (putN xs z b y) (putT ds z d) := by
  unfold putN putT
  rw [atN_isSome, h.has]
  split
  · rename_i e
    exact h.map_put hy
  · rename_i e
    exact DzN.app (.cons hk hy .nil) h
theorem DzN.len : ∀ {xs : NKV} {ds : List (D × D)}, DzN K M H xs ds → xs.length = ds.length
  | _, _, .nil => rfl
  | _, _, .cons _ _ t => by simp [t.len]
theorem DzN.isN {a : Addr} {xs : NKV} {ds : List (D × D)} (e : H a = some (dN a xs)) (h : DzN K M H xs ds) : IsN K H a xs := ⟨e, h.split.2.1⟩
end
theorem RoomG.u9 {k : Nat} {A : Around} (r : RoomG k A) : A.units + 9 < cLine := by
  have := r.u64
  omega
def dTnew : DTE := fun ρ Q => Q (.tdic []) ρ
def dInT (d e : D) (Q : Bool → Prop) : Prop := match e with | .tdic ds => Opt (tkOf d) fun z => Q (hasT ds z) | _ => False
def dTin (ta tb : DTE) : DTE := fun ρ Q => ta ρ fun x ρ1 => tb ρ1 fun y ρ2 => dInT x y fun b => Q (.bool b) ρ2
def dTnotin (ta tb : DTE) : DTE := fun ρ Q => ta ρ fun x ρ1 => tb ρ1 fun y ρ2 => dInT x y fun b => Q (.bool !b) ρ2
def dTget1 (ta tb : DTE) : DTE := fun ρ Q => ta ρ fun x ρ1 => match x with | .tdic ds => tb ρ1 fun y ρ2 => Opt (tkOf y) fun z => Q ((getT ds z).getD .none) ρ2 | _ => False
def dTget2 (ta tb tc : DTE) : DTE := fun ρ Q => ta ρ fun x ρ1 => match x with | .tdic ds => tb ρ1 fun y ρ2 => tc ρ2 fun w ρ3 => Opt (tkOf y) fun z => Q ((getT ds z).getD w) ρ3 | _ => False
def dGetT : D → D → (D → Prop) → Prop
  | .tdic kvs, y, Q => Opt (tkOf y) fun z => Opt (getT kvs z) Q
  | _, _, _ => False
def dPtput (i : Nat) (te : DTE) (tp : DTP) (tb : DTE) : DTS := fun E ρ => te ρ fun d ρ1 => tp ρ1 fun p ρ2 => tb ρ2 fun b ρ3 => At ρ3 i fun r => Opt (atD r p) fun x => match x with
  | .tdic ds => Opt (tkOf b) fun z => ds.length < sizeLine ∧ E.nx (ρ3.set i (some (putD r p (.tdic (putT ds z d)))))
  | _ => False
theorem inT_cases {x y : D} {Q : Bool → Prop} (w : dInT x y Q) : ∃ ds z, y = .tdic ds ∧ tkOf x = some z ∧ Q (hasT ds z) := by
  cases y <;> first | exact w.elim | skip
  rename_i ds
  obtain ⟨z, e, w⟩ := w.ex
  exact ⟨ds, z, rfl, e, w⟩
theorem NkOk.same {K : PySem.W.Frag} {H H' : Hp} {k : NestedKey} {b : Addr} {M : AS} (l : Live M H) (h : NkOk K H k b) (s : Same H H') : NkOk K H' k b := h.frame l fun a o e _ => s a o e
section
variable {X : Cx} {J : Jc} {po op : Op} {a b o e f ix : Expr} {pos pos' apos cpos : Pos} {ta tb tc te tp : TE} {dx1 tx1 dx2 tx2 dx3 tx3 : List Nat} {q q1 q2 q3 : Bool} {ta' tb' tc' te' : DTE} {tp' : DTP} {i j : Nat} {s : Sh}
theorem de_tnew : DE X op (.Dict [] [] pos) tNNew [] [] true dTnew := ⟨pe_nnew, fun c F σ H ρ Q S w R hR => fun p hp =>
  hR _ _ ⟨_, ρ, F, (Stp.refl S).then (same_mk hp), .inl (.tdc (S.live.not hp) upd_same .nil), w⟩⟩
theorem dfr_tnew {s : Sh} : DFr X op (.Dict [] [] pos) (.tdc s) tNNew dTnew := ⟨pe_nnew, fun c F σ H ρ Q S w R hR => fun p hp =>
  hR _ _ (fr_of (dx := []) (L := [p]) (Stp.refl (q := true) S) (same_mk hp) (by simpa using hp) (by simp) (.tdc upd_same rfl (fun _ h => by cases h) .nil) w)⟩
theorem sd_tin {K : PySem.W.Frag} (ha : Sd K op ta dx1 tx1 q1 ta') (hb : Sd K op tb dx2 tx2 q2 tb') (ok : okq dx1 tx1 q2 = true) : Sd K op (tNIn K ta tb) [] [] (q1 && q2) (dTin ta' tb') := fun c F σ H ρ Q S w R hR => by
  refine ha c F σ H ρ _ S w _ fun x H1 ⟨d, ρ1, F1, st1, hx, w1⟩ => ?_
  refine hb c F1 σ H1 ρ1 _ st1.sim w1 _ fun y H2 ⟨e, ρ2, F2, st2, hy, w2⟩ => ?_
  have hx2 := dzT_move st1.sim st2 ok hx
  obtain ⟨ds, z, rfl, hz, w3⟩ := inT_cases w2
  obtain ⟨p, xs, rfl, hp, hd⟩ := hy.tdic
  obtain ⟨bb, rfl, hk⟩ := hx2.tk hz
  refine ⟨p, xs, z, bb, rfl, rfl, hd.isN hp, hk, hR _ _ ⟨_, ρ2, F2, st1.trans st2, .inl (.bl _), ?_⟩⟩
  rw [hd.has]
  exact w3
theorem sd_tnotin {K : PySem.W.Frag} (ha : Sd K op ta dx1 tx1 q1 ta') (hb : Sd K op tb dx2 tx2 q2 tb') (ok : okq dx1 tx1 q2 = true) : Sd K op (tNNotIn K ta tb) [] [] (q1 && q2) (dTnotin ta' tb') := fun c F σ H ρ Q S w R hR => by
  refine ha c F σ H ρ _ S w _ fun x H1 ⟨d, ρ1, F1, st1, hx, w1⟩ => ?_
  refine hb c F1 σ H1 ρ1 _ st1.sim w1 _ fun y H2 ⟨e, ρ2, F2, st2, hy, w2⟩ => ?_
  have hx2 := dzT_move st1.sim st2 ok hx
  obtain ⟨ds, z, rfl, hz, w3⟩ := inT_cases w2
  obtain ⟨p, xs, rfl, hp, hd⟩ := hy.tdic
  obtain ⟨bb, rfl, hk⟩ := hx2.tk hz
  refine ⟨p, xs, z, bb, rfl, rfl, hd.isN hp, hk, hR _ _ ⟨_, ρ2, F2, st1.trans st2, .inl (.bl _), ?_⟩⟩
  rw [hd.has]
  exact w3
theorem de_tin (hu : X.A.units + 9 < cLine) (ha : DE X op a ta dx1 tx1 q1 ta') (hb : DE X op b tb dx2 tx2 q2 tb') (hw : X.w = WorldC.w := by rfl) (hm : behindInMarks .In b = false := by rfl) (ok : okq dx1 tx1 q2 = true := by rfl) : DE X op (.Compare a [.In] [b] pos) (tNIn X.K ta tb) [] [] (q1 && q2) (dTin ta' tb') :=
  ⟨pe_cmp (pc_nin hw hu ha.pe hb.pe) hm, sd_tin ha.sd hb.sd ok⟩
theorem de_tnotin (hu : X.A.units + 9 < cLine) (ha : DE X op a ta dx1 tx1 q1 ta') (hb : DE X op b tb dx2 tx2 q2 tb') (hw : X.w = WorldC.w := by rfl) (hm : behindInMarks .NotIn b = false := by rfl) (ok : okq dx1 tx1 q2 = true := by rfl) : DE X op (.Compare a [.NotIn] [b] pos) (tNNotIn X.K ta tb) [] [] (q1 && q2) (dTnotin ta' tb') :=
  ⟨pe_cmp (pc_nnotin hw hu ha.pe hb.pe) hm, sd_tnotin ha.sd hb.sd ok⟩
theorem dt_tin (hu : X.A.units + 9 < cLine) (ha : DE X op a ta dx1 tx1 q1 ta') (hb : DE X op b tb dx2 tx2 q2 tb') (hw : X.w = WorldC.w := by rfl) (hm : behindInMarks .In b = false := by rfl) (ok : okq dx1 tx1 q2 = true := by rfl) : DT X op (.Compare a [.In] [b] pos) (tB (tNIn X.K ta tb)) (q1 && q2) (dTest (dTin ta' tb')) :=
  ⟨pt_cmp (pc_nin hw hu ha.pe hb.pe) hm, sdt_test (sd_tin ha.sd hb.sd ok)⟩
theorem dt_tnotin (hu : X.A.units + 9 < cLine) (ha : DE X op a ta dx1 tx1 q1 ta') (hb : DE X op b tb dx2 tx2 q2 tb') (hw : X.w = WorldC.w := by rfl) (hm : behindInMarks .NotIn b = false := by rfl) (ok : okq dx1 tx1 q2 = true := by rfl) : DT X op (.Compare a [.NotIn] [b] pos) (tB (tNNotIn X.K ta tb)) (q1 && q2) (dTest (dTnotin ta' tb')) :=
  ⟨pt_cmp (pc_nnotin hw hu ha.pe hb.pe) hm, sdt_test (sd_tnotin ha.sd hb.sd ok)⟩
theorem getT_dz {K : PySem.W.Frag} {M : AS} {H : Hp} {xs : NKV} {ds : List (D × D)} {z : NestedKey} {w : V} {dw : D} (h : DzN K M H xs ds) (hw : Dz K M H w dw) : Dz K M H ((valN xs z).getD w) ((getT ds z).getD dw) := by
  cases e : getT ds z with
  | none => rw [h.get.2 e]; exact hw
  | some d =>
    obtain ⟨v, e1, h2⟩ := h.get.1 d e
    rw [e1]
    exact h2
theorem s_tget {K : PySem.W.Frag} : R2S K (rNGet K) dGetT := fun M N H x y d e Q l f hx hy w R hR => by
  cases d <;> first | exact w.elim | skip
  rename_i ds
  obtain ⟨a, xs, rfl, ha, hd⟩ := hx.tdic
  obtain ⟨z, hz, w⟩ := w.ex
  obtain ⟨d, e, w⟩ := w.ex
  obtain ⟨v, e2, hv⟩ := hd.get.1 d e
  obtain ⟨bb, rfl, hk⟩ := hy.tk hz
  exact ⟨a, xs, z, bb, rfl, rfl, hd.isN ha, hk, v, e2, hR _ _ _ (Same.refl _) hv w⟩
theorem de_tget (hu : X.A.units + 9 < cLine) (ha : DE X op e ta dx1 tx1 q1 ta') (hb : DE X op ix tb dx2 tx2 q2 tb') (hw : X.w = WorldC.w := by rfl) (hs : NoSl ix := by exact fun _ _ => rfl) (ok : okq dx1 tx1 q2 = true := by rfl) :
    DE X op (.Subscript e ix pos) (tOp (rNGet X.K) ta tb) (dx1 ++ dx2) [] (q1 && q2) (dOp dGetT ta' tb') := ⟨pe_nget hw hu ha.pe hb.pe hs, sd_op s_tget ha.sd hb.sd ok⟩
theorem de_tget1 (hu : X.A.units + 9 < cLine) (ha : DE X op o ta dx1 tx1 q1 ta') (hb : DE X op e tb dx2 tx2 true tb') (hw : X.w = WorldC.w := by rfl) (hbs : attributeBase o "get" X.env (eval o X.env) = eval o X.env := by rfl) (hs : backTo cpos (starEach [e] X.env) = [(false, eval e X.env)] := by rfl)
    (hf : ((backTo cpos (starEach [e] X.env)).all (fun x => !x.1) && (backToKw cpos (keywordEach [] X.env)).all (fun x => x.1.isSome) && decide (([e] : List Expr).length + ([] : List Keyword).length + (if ([] : List Keyword).isEmpty then 0 else 1) < 30)) = true := by rfl) (hl : (apos.endLine == cpos.line) = true := by rfl) :
    DE X op (.Call (.Attribute o "get" apos) [e] [] cpos) (tNGet1 X.K ta tb) dx1 [] (q1 && true) (dTget1 ta' tb') := ⟨pe_nget1 hw hu ha.pe hb.pe ⟨hbs, hf, hl, hs⟩, fun c F σ H ρ Q S w R hR => by
  refine ha.sd c F σ H ρ _ S w _ fun x H1 ⟨d, ρ1, F1, st1, hx, w1⟩ => ?_
  cases d <;> first | exact w1.elim | skip
  rename_i ds
  have hx0 := hx
  obtain ⟨p, xs, rfl, hp, hd⟩ := hx.tdic
  refine ⟨p, xs, rfl, hd.isN hp, ?_⟩
  refine hb.sd c F1 σ H1 ρ1 _ st1.sim w1 _ fun y H2 ⟨e, ρ2, F2, st2, hy, w2⟩ => ?_
  obtain ⟨sm, er, ef⟩ := st2.qt rfl
  subst er ef
  obtain ⟨z, hz, w3⟩ := w2.ex
  have hd2 : DzN X.K (Mx c op F2 dx1) H2 xs ds := hd.frame st1.sim.liveX (fun b o e _ => sm b o e) fun _ _ _ m => m
  obtain ⟨bb, rfl, hk⟩ := hy.tk hz
  exact ⟨p, xs, z, bb, rfl, rfl, hd2.isN (sm _ _ hp), hk, hR _ _ ⟨_, ρ2, F2, st1.trans st2, .inl (getT_dz hd2 .non), w3⟩⟩⟩
theorem de_tget2 (hu : X.A.units + 9 < cLine) (ha : DE X op o ta dx1 tx1 q1 ta') (hb : DE X op e tb dx2 tx2 true tb') (hc : DE X op f tc dx3 tx3 true tc') (hw : X.w = WorldC.w := by rfl) (hbs : attributeBase o "get" X.env (eval o X.env) = eval o X.env := by rfl) (hs : backTo cpos (starEach [e, f] X.env) = [(false, eval e X.env), (false, eval f X.env)] := by rfl)
    (hf : ((backTo cpos (starEach [e, f] X.env)).all (fun x => !x.1) && (backToKw cpos (keywordEach [] X.env)).all (fun x => x.1.isSome) && decide (([e, f] : List Expr).length + ([] : List Keyword).length + (if ([] : List Keyword).isEmpty then 0 else 1) < 30)) = true := by rfl) (hl : (apos.endLine == cpos.line) = true := by rfl) :
    DE X op (.Call (.Attribute o "get" apos) [e, f] [] cpos) (tNGet2 X.K ta tb tc) (dx1 ++ (dx3 ++ tx3)) [] (q1 && true) (dTget2 ta' tb' tc') := ⟨pe_nget2 hw hu ha.pe hb.pe hc.pe ⟨hbs, hf, hl, hs⟩, fun c F σ H ρ Q S w R hR => by
  refine ha.sd c F σ H ρ _ S w _ fun x H1 ⟨d, ρ1, F1, st1, hx, w1⟩ => ?_
  cases d <;> first | exact w1.elim | skip
  rename_i ds
  obtain ⟨p, xs, rfl, hp, hd⟩ := hx.tdic
  refine ⟨p, xs, rfl, hd.isN hp, ?_⟩
  refine hb.sd c F1 σ H1 ρ1 _ st1.sim w1 _ fun y H2 ⟨e, ρ2, F2, st2, hy, w2⟩ => ?_
  obtain ⟨sm, er, ef⟩ := st2.qt rfl
  subst er ef
  refine hc.sd c F2 σ H2 ρ2 _ st2.sim w2 _ fun u H3 ⟨g, ρ3, F3, st3, hu3, w3⟩ => ?_
  obtain ⟨sm3, er, ef⟩ := st3.qt rfl
  subst er ef
  obtain ⟨z, hz, w4⟩ := w3.ex
  have hd3 : DzN X.K (Mx c op F3 dx1) H3 xs ds := hd.frame st1.sim.liveX (fun b o e _ => sm3 b o (sm b o e)) fun _ _ _ m => m
  obtain ⟨bb, rfl, hk⟩ := (hy.same sm3 st2.sim.liveX).tk hz
  refine ⟨p, xs, z, bb, rfl, rfl, hd3.isN (sm3 _ _ (sm _ _ hp)), hk, hR _ _ ⟨_, ρ3, F3, st1.trans (st2.trans st3), .inl (getT_dz (hd3.mono fun a m => mxl m) ?_), w4⟩⟩
  exact (hu3.dz fun a m => mxl m).mono fun a m => mxr m⟩
/-- a place's dict of leaves, put -/
theorem Sim.setN {K : PySem.W.Frag} {c : Fx} {om : Op} {F : Nat → AS} {σ : L2.St} {H : Hp} {ρ : DEnv} {i : Nat} {s : Sh} {v : V} {p : List Nat} {a : Addr} {xs : NKV} {ds : List (D × D)} (S : Sim K c om F σ H ρ) (hm : (i, kT s) ∈ om) (hv : σ[i]? = some (some v)) (na : NodeAt H v p (.ref a)) (sa : ShAt s p (.tdc .leaf)) (h : DzN K (Mt c om F) H xs ds) :
    ∃ d, ρ[i]? = some (some d) ∧ ∃ F', Sim K c om F' σ (upd H a (dN a xs)) (ρ.set i (some (putD d p (.tdic ds)))) ∧ Trn (Own om F) (Own om F') H (upd H a (dN a xs)) := by
  obtain ⟨r0, d', L', e1, e2, tz', hf⟩ := S.node hm hv na sa
  have aM : Mt c om F a := by
    cases tz' with
    | tdc e0 h1 hk hc => exact .inr ⟨_, hm, by simp, hf a (by simp)⟩
  refine S.leafNode hm hv na sa (fun d' L' tz => ?_) fun H' k e => ?_
  · cases tz with
    | tdc e0 h1 hk hc => rw [(hc.leaf).1]
  · have fr : ∀ b o, H b = some o → ¬ Mt c om F b → H' b = some o := fun b o eb n => k b o eb fun z => n (by rw [z]; exact aM)
    have h2 : DzN K (Mt c om F) H' xs ds := h.frame S.live fr fun _ _ _ m => m
    obtain ⟨s1, s2, s3⟩ := h2.split
    have hl := s3.leafC
    rw [List.length_map] at hl
    exact .tdc e s1 s2 hl
theorem ds_ptput (hu : X.A.units + 9 < cLine) (he : DE X op e te [] [] q te') (hp : DPl X op o i s (.tdc .leaf) tp q2 tp') (hb : DE X op ix tb dx2 tx2 true tb') (hw : X.w = WorldC.w := by rfl) (hs : swapsWith e (some (.Subscript o ix pos')) pos.line X.env = pure false := by rfl) :
    DS X J po op op (.Assign [.Subscript o ix pos'] e pos) (sNPut X.K tp tb te) (dPtput i te' tp' tb') := ⟨ps_nput hw hu hp.pe hb.pe he.pe hs, fun c F σ H ρ E R pv S w jj => by
  refine he.sd c F σ H ρ _ S w _ fun y H1 ⟨d, ρ1, F1, st1, hy, w1⟩ => ?_
  refine hp.sd c F1 σ H1 ρ1 _ st1.sim w1 _ fun v' H2 ⟨p, v0, ρ2, F2, st2, hv, na, sa, w2⟩ => ?_
  have hy2 := dzT_move st1.sim st2 rfl hy
  refine hb.sd c F2 σ H2 ρ2 _ st2.sim w2 _ fun u H3 ⟨b, ρ3, F3, st3, hub, w3⟩ => ?_
  have hy3 : Dz X.K (Mt c op F3) H3 y d := (dzT_move st2.sim st3 rfl hy2).dz fun a m => m
  obtain ⟨sm, er, ef⟩ := st3.qt rfl
  subst er ef
  obtain ⟨r, er, w3⟩ := w3.ex
  obtain ⟨x, ex, w3⟩ := w3.ex
  have na3 := na.keep sm
  obtain ⟨r0, d', L', e1, e2, tz', hf⟩ := st3.sim.node hp.me hv na3 sa
  rw [er] at e1
  cases e1
  rw [ex] at e2
  cases e2
  cases tz' with
  | @tdc _ a xs ds L0 e0 h1 hkk hc =>
    obtain ⟨z, hz, hlen, w4⟩ := w3.ex
    obtain ⟨bb, rfl, hk⟩ := hub.tk hz
    have hd : DzN X.K (Mt c op F3) H3 xs ds := zipND h1 hkk (hc.leaf).2
    obtain ⟨r1, f1, F4, S4, t4⟩ := st3.sim.setN hp.me hv na3 sa (hd.put hk hy3)
    rw [er] at f1
    cases f1
    exact ⟨a, xs, z, bb, rfl, rfl, ⟨e0, hkk⟩, hk, by rw [hd.len]; exact hlen, jj.nx _ _ ⟨_, F4, S4, ((st1.trn.trans st2.trn).trans st3.trn).trans t4, w4⟩⟩⟩
end
end Vt
namespace Vt
open PySem PySem.Spec L2 PyProof.Rows
variable [WorldC]
/-! ### methods of a list that is read: count, index -/
def dLm (g : D → D → (D → Prop) → Prop) (to te : DTE) : DTE := fun ρ Q => to ρ fun d ρ1 => match d with
  | .list ds => te ρ1 fun e ρ2 => g (.list ds) e fun z => Q z ρ2
  | _ => False
section
variable {X : Cx} {op : Op} {o e : Expr} {to te : TE} {dx tx dx2 tx2 : List Nat} {q q2 : Bool} {to' te' : DTE}
theorem de_lm {id : String} {name : Str} {apos cpos : Pos} {r : V → List V → Hp → VK → Prop} {g : D → D → (D → Prop) → Prop} (slot : Slot "list" name id) (ty : typeOf (.builtin id) = pure (.type "method_descriptor")) (rule : MtR X id r) (s : R2S X.K (fun x y H R => r x [y] H R) g)
    (ho : DE X op o to dx tx q to') (he : DE X op e te dx2 tx2 true te') (hbase : attributeBase o name X.env (eval o X.env) = eval o X.env := by rfl)
    (hfew : ((backTo cpos (starEach [e] X.env)).all (fun x => !x.1) && (backToKw cpos (keywordEach [] X.env)).all (fun x => x.1.isSome) && decide ([e].length + ([] : List Keyword).length + (if ([] : List Keyword).isEmpty then 0 else 1) < 30)) = true := by rfl)
    (hline : (apos.endLine == cpos.line) = true := by rfl) (hs : starEach [e] X.env = (false, eval e X.env) :: starEach [] X.env := by rfl) (hplain : (backTo cpos (starEach [] X.env)).any (·.1) = false := by rfl) :
    DE X op (.Call (.Attribute o name apos) [e] [] cpos) (tBM X.K "list" r to (tCons te tNil)) (dx ++ dx2) [] (q && true) (dLm g to' te') := ⟨pe_bm PySem.F.plainAttrs_list slot ty rule ho.pe (pa_cons he.pe pa_nil hs) hbase hfew hline hs hplain, fun c F σ H ρ Q S w R hR => by
  refine ho.sd c F σ H ρ _ S w _ fun x H1 ⟨d, ρ1, F1, st1, hx, w1⟩ => ?_
  cases d <;> first | exact w1.elim | skip
  case list ds =>
    have hx0 := hx
    obtain ⟨a, xs, rfl, ha, hd⟩ := hx.list
    refine ⟨.inl ⟨rfl, xs, SqL.of ha⟩, ?_⟩
    refine he.sd c F1 σ H1 ρ1 _ st1.sim w1 _ fun y H2 ⟨e', ρ2, F2, st2, hy, w2⟩ => ?_
    obtain ⟨sm, er, ef⟩ := st2.qt rfl
    subst er ef
    have hx2 := dzT_move st1.sim st2 (by simp [okq]) hx0
    refine s (Mx c op F2 (dx ++ dx2)) (Mx c op F2 ((dx ++ dx2) ++ (tx ++ tx2))) H2 _ y _ e' _ st2.sim.liveX (fun b m => mxl m) (mx_app (fun i m => by simp [m]) (fun i m => by simp at m ⊢; rcases m with m | m <;> simp [m]) hx2)
      (mx_app (fun i m => by simp [m]) (fun i m => by simp at m ⊢; rcases m with m | m <;> simp [m]) hy) w2 _ fun v H' z s1 hz hq => ?_
    exact hR _ _ ⟨z, ρ2, F2, (st1.trans st2).then s1, .inl (by simpa using hz), hq⟩⟩
end
def gCount : D → D → (D → Prop) → Prop
  | .list ds, .int k, Q => ∃ ns : List Int, ds = ns.map .int ∧ Q (.int (ns.count k : Nat))
  | _, _, _ => False
theorem s_count {K : PySem.W.Frag} : R2S K (fun x y H R => rCntI K x [y] H R) gCount := fun M N H x y d e Q l f hx hy w R hR => by
  cases d <;> first | exact w.elim | skip
  rename_i ds
  cases e <;> first | exact w.elim | skip
  rename_i k
  obtain ⟨ns, rfl, w⟩ := w
  obtain ⟨a, xs, rfl, ha, hd⟩ := hx.list
  have := hd.ints
  subst this
  rw [hy.int]
  exact ⟨a, ns, k, rfl, rfl, SqL.of ha, hR _ _ _ (Same.refl _) (.int _) w⟩
@[irreducible] def gIndex (x d : D) (Q : D → Prop) : Prop := match x with
  | .list ds => shD (.list ds) = true ∧ shD d = true ∧ ∃ (j : Nat) (z : D), ds[j]? = some z ∧ eqD z d = true ∧ (∀ (m : Nat) (z' : D), m < j → ds[m]? = some z' → eqD z' d = false) ∧ Q (.int (j : Nat))
  | _ => False
theorem pyA_get : ∀ (ds : List D) (j : Nat), (pyA ds)[j]? = (ds[j]?).map pyD
  | [], j => by simp [pyA]
  | d :: ds, 0 => by simp [pyA]
  | d :: ds, j + 1 => by simp only [pyA, List.getElem?_cons_succ]; exact pyA_get ds j
theorem s_index {K : PySem.W.Frag} : R2S K (fun x y H R => rIndexD K x [y] H R) gIndex := fun M N H x y d e Q l f hx hy w R hR => by
  unfold gIndex at w
  cases d <;> first | exact w.elim | skip
  rename_i ds
  obtain ⟨h1, h2, j, z, e1, e2, e3, w⟩ := w
  obtain ⟨n1, s1⟩ := Bool.and_eq_true_iff.mp (show (noDic (.list ds) && SeqAt.shaped (pyD (.list ds))) = true from h1)
  obtain ⟨n2, s2⟩ := Bool.and_eq_true_iff.mp (show (noDic e && SeqAt.shaped (pyD e)) = true from h2)
  obtain ⟨a, xs, rfl, ha, hd⟩ := hx.list
  refine ⟨a, y, pyD e, pyA ds, j, pyD z, rfl, rfl, hx.dp n1 f, hy.dp n2 f, s1, s2, by rw [pyA_get, e1]; rfl, e2, fun m z' hm hz' => ?_, hR _ _ _ (Same.refl _) (.int _) w⟩
  rw [pyA_get] at hz'
  obtain ⟨z2, e4, rfl⟩ := Option.map_eq_some_iff.mp hz'
  exact e3 m z2 hm e4
end Vt
namespace Vt
open PySem PySem.Spec L2
variable [WorldC]
/-! ### a, b, .. = x, y, .. by a tuple, one of them a new list that is owned -/
def setsV {β : Type} : List (Option β) → List Nat → List β → List (Option β)
  | s, i :: is, v :: vs => setsV (s.set i (some v)) is vs
  | s, _, _ => s
def gNames : List Nat → TGs
  | [] => gNil
  | i :: is => gCons (gName i) (gNames is)
theorem gNames_ok : ∀ {is : List Nat} {vs : List V} {σ : St} {H : Hp} {Q : St → Hp → Prop}, vs.length = is.length → Q (setsV σ is vs) H → gNames is vs σ H Q
  | [], [], _, _, _, _, q => ⟨rfl, q⟩
  | i :: is, v :: vs, σ, H, Q, hl, q => ⟨v, vs, rfl, gNames_ok (by simpa using hl) q⟩
theorem setsV_comm {β : Type} {o : Nat} {d : β} : ∀ {is : List Nat} {vs : List β} {s : List (Option β)}, o ∉ is → setsV (s.set o (some d)) is vs = (setsV s is vs).set o (some d)
  | [], _, _, _ => rfl
  | _ :: _, [], _, _ => rfl
  | i :: is, v :: vs, s, h => by
    have h1 : o ≠ i := fun e => h (by rw [e]; exact List.mem_cons_self)
    show setsV ((s.set o (some d)).set i (some v)) is vs = (setsV (s.set i (some v)) is vs).set o (some d)
    rw [List.set_comm _ _ h1]
    exact setsV_comm fun m => h (List.mem_cons_of_mem _ m)
theorem setsV_app {β : Type} : ∀ {is js : List Nat} {vs ws : List β} {s : List (Option β)}, vs.length = is.length → setsV s (is ++ js) (vs ++ ws) = setsV (setsV s is vs) js ws
  | [], _, [], _, _, _ => rfl
  | i :: is, js, v :: vs, ws, s, h => by
    show setsV (s.set i (some v)) (is ++ js) (vs ++ ws) = _
    exact setsV_app (by simpa using h)
theorem setsV_len {β : Type} : ∀ {is : List Nat} {vs : List β} {s : List (Option β)}, (setsV s is vs).length = s.length
  | [], _, _ => rfl
  | _ :: _, [], _ => rfl
  | i :: is, v :: vs, s => by
    show (setsV (s.set i (some v)) is vs).length = _
    rw [setsV_len, List.length_set]
section
variable {K : PySem.W.Frag} {c : Fx} {op : Op} {F : Nat → AS} {H : Hp}
theorem Sim.sets : ∀ {is : List Nat} {vs : List V} {ds : List D} {σ : St} {ρ : DEnv}, Sim K c op F σ H ρ → DzA K (Mt c op F) H vs ds → (∀ i ∈ is, noOp op i = true) → (∀ i ∈ is, ∀ p ∈ c.pv, p.1 ≠ i) → Sim K c op F (setsV σ is vs) H (setsV ρ is ds)
  | [], _, _, _, _, S, _, _, _ => S
  | _ :: _, [], _, _, _, S, h, _, _ => by cases h; exact S
  | i :: is, v :: vs, _, σ, ρ, S, h, n1, n2 => by
    cases h with
    | @cons _ _ d ds hv ht =>
      show Sim K c op F (setsV (σ.set i (some v)) is vs) H (setsV (ρ.set i (some d)) is ds)
      exact Sim.sets (S.set hv (noOp_ne (n1 i List.mem_cons_self)) (n2 i List.mem_cons_self)) ht (fun j m => n1 j (List.mem_cons_of_mem _ m)) (fun j m => n2 j (List.mem_cons_of_mem _ m))
end
def dParN (is : List Nat) (t : DTA) : DTS := fun E ρ => t ρ fun ds ρ1 => ds.length = is.length ∧ E.nx (setsV ρ1 is ds)
section
variable {X : Cx} {lp : Jc} {po op : Op} {es tgs : List Expr} {ta : TA} {ta' : DTA} {m n : Nat} {pt pt2 pos : Pos}
theorem sds_tupO {is : List Nat} {o : Nat} (h : DAO X op m es ta ta') (ho : is[m]? = some o) (nd : is.Nodup) (n1 : is.all (noOp op) = true) (m1 : is.all (noOp po) = true) (hn : n = is.length) (hz : is.length ≤ 100) :
    SdS X.K lp po op ((o, kL) :: op) (tAsg (tTup ta) (gTup X.K n (gNames is))) (dParN is (dNewAt o ta')) := fun c F σ H ρ E R pv S w k => by
  refine h.sd c F σ H ρ _ S w _ fun vs H1 ⟨vs1, vs2, ds1, ds2, ls, l, xs, ρ1, F1, ev, hm, S1, t1, hn1, e, hl, h1, h2, hol, w1⟩ => ?_
  obtain ⟨hlen, w1⟩ := w1
  have nl := not_n0 S hn1
  have n1' := List.all_eq_true.mp n1
  have m1' := List.all_eq_true.mp m1
  have hlv : vs.length = is.length := by
    rw [ev, ← hlen, List.length_append, List.length_append, List.length_cons, List.length_cons, h1.len, h2.len]
  have sz : vs.length ≤ sizeLine := by
    rw [hlv]
    exact Nat.le_trans hz (by decide)
  refine ⟨sz, fun p hp => ⟨p, vs, rfl, SqT.of upd_same, by rw [hn]; exact hlv, gNames_ok hlv ?_⟩⟩
  have sm := same_mk (o := .tup vs) hp
  have S2 := S1.same sm
  have ml : m < is.length := (List.getElem?_eq_some_iff.mp ho).1
  obtain ⟨is1, is2, eis, e1⟩ : ∃ is1 is2, is = is1 ++ o :: is2 ∧ is1.length = m := ⟨is.take m, is.drop (m + 1), by
    have : is[m] = o := (List.getElem?_eq_some_iff.mp ho).2
    rw [← this, List.getElem_cons_drop, List.take_append_drop], by rw [List.length_take]; omega⟩
  subst eis
  have hv1 : vs1.length = is1.length := by omega
  have hd1 : ds1.length = is1.length := by rw [← h1.len]; exact hv1
  have o1 : o ∉ is1 := fun mm => by
    have := List.nodup_append.mp nd
    exact this.2.2 o mm o List.mem_cons_self rfl
  have o2 : o ∉ is2 := fun mm => by
    have := (List.nodup_append.mp nd).2.1
    exact (List.nodup_cons.mp this).1 mm
  have g1 := h1.same sm S1.live
  have g2 := h2.same sm S1.live
  have S3 := Sim.sets (is := is1) S2 g1 (fun i mm => n1' i (by simp [mm])) (fun i mm => pv_ne (c := c.add l) pv (m1' i (by simp [mm])))
  have S4 := Sim.sets (is := is2) S3 g2 (fun i mm => n1' i (by simp [mm])) (fun i mm => pv_ne (c := c.add l) pv (m1' i (by simp [mm])))
  have e' : upd H1 p (.tup vs) l = some (.lst xs) := sm _ _ e
  have S5 := S4.holdL e' (hl.same sm S1.live) (by rw [setsV_len, setsV_len]; exact hol) (n1' o (by simp)) (pv_ne pv (m1' o (by simp))) nl
  have ev2 : setsV σ (is1 ++ o :: is2) vs = (setsV (setsV σ is1 vs1) is2 vs2).set o (some (.ref l)) := by
    rw [ev, setsV_app hv1]
    show setsV ((setsV σ is1 vs1).set o (some (.ref l))) is2 vs2 = _
    exact setsV_comm o2
  have ed2 : setsV ρ1 (is1 ++ o :: is2) (ds1 ++ .list ls :: ds2) = (setsV (setsV ρ1 is1 ds1) is2 ds2).set o (some (.list ls)) := by
    rw [setsV_app hd1]
    show setsV ((setsV ρ1 is1 ds1).set o (some (.list ls))) is2 ds2 = _
    exact setsV_comm o2
  rw [ev2]
  rw [ed2] at w1
  exact k.nx _ _ ⟨_, _, S5, (hold_trn (trn_or t1 hn1) (n1' o (by simp))).trans (Trn.same sm), w1⟩
theorem ds_tupO {is : List Nat} {o : Nat} {gs' : DTGs} {gl : List Nat} {kt k2} (hc : X.calm = true) (ha : DAO X op m es ta ta') (hg : DGs X po op tgs gl (gNames is) gs') (ho : is[m]? = some o := by rfl) (nd : is.Nodup := by decide) (n1 : is.all (noOp op) = true := by rfl) (m1 : is.all (noOp po) = true := by rfl) (hz : is.length ≤ 100 := by decide)
    (hn : (assignEach tgs X.env).length = is.length := by rfl) (hst : (assignEach tgs X.env).findIdx? (·.1) = none := by rfl) (hs : swapsWithSole [.Tuple tgs kt pt] (.Tuple es k2 pt2) pos.line X.env = pure false := by rfl) (hw : swappedStores [.Tuple tgs kt pt] (.Tuple es k2 pt2) X.env = pure none := by rfl)
    (h1 : (assignEach [.Tuple tgs kt pt] X.env).map (·.2) = [assign (.Tuple tgs kt pt) X.env] := by rfl) : DS X lp po op ((o, kL) :: op) (.Assign [.Tuple tgs kt pt] (.Tuple es k2 pt2) pos) (tAsg (tTup ta) (gTup X.K is.length (gNames is))) (dParN is (dNewAt o ta')) :=
  ⟨ps_asg (pe_tup ha.pa) (pg_tup hc hg.pg hn hst) hs hw h1, sds_tupO ha ho nd n1 m1 rfl hz⟩
end
end Vt
namespace Vt
open PySem PySem.Spec L2
variable [WorldC]
/-! ### what a dict holds behind a store -/
theorem getK_app {z : Key} {y : List (D × D)} : ∀ {x : List (D × D)}, getK (x ++ y) z = match getK x z with | some d => some d | none => getK y z
  | [] => rfl
  | q :: r => by
    show (if kOf q.1 = some z then some q.2 else getK (r ++ y) z) = match (if kOf q.1 = some z then some q.2 else getK r z) with | some d => some d | none => getK y z
    by_cases h : kOf q.1 = some z
    · rw [if_pos h, if_pos h]
    · rw [if_neg h, if_neg h]
      exact getK_app
theorem getK_map {z k : Key} {d : D} : ∀ {x : List (D × D)}, getK (x.map fun q => if kOf q.1 = some k then (q.1, d) else q) z = if z = k then (if hasK x k = true then some d else none) else getK x z
  | [] => by
    show (none : Option D) = _
    by_cases h : z = k
    · rw [if_pos h]; rfl
    · rw [if_neg h]; rfl
  | q :: r => by
    have ih := getK_map (z := z) (k := k) (d := d) (x := r)
    show (if kOf (if kOf q.1 = some k then (q.1, d) else q).1 = some z then some (if kOf q.1 = some k then (q.1, d) else q).2 else getK (r.map _) z) = _
    have e1 : (if kOf q.1 = some k then (q.1, d) else q).1 = q.1 := by split <;> rfl
    rw [e1, ih]
    have eh : hasK (q :: r) k = if kOf q.1 = some k then true else hasK r k := by
      show (if kOf q.1 = some k then some q.2 else getK r k).isSome = _
      split <;> rfl
    have eg : getK (q :: r) z = if kOf q.1 = some z then some q.2 else getK r z := rfl
    rw [eh, eg]
    by_cases h : kOf q.1 = some z
    · by_cases h2 : z = k
      · subst h2; simp [h]
      · have h3 : ¬ kOf q.1 = some k := fun e => h2 (by rw [h] at e; exact Option.some.inj e)
        simp [h, h2, h3]
    · by_cases h2 : z = k
      · subst h2; simp [h]
      · simp [h, h2]
theorem getK_put {z k : Key} {d : D} {x : List (D × D)} : getK (putKD x k d) z = if z = k then some d else getK x z := by
  unfold putKD
  by_cases h : hasK x k = true
  · rw [if_pos h, getK_map, if_pos h]
  · rw [if_neg h, getK_app]
    have e : getK [(kD k, d)] z = if kOf (kD k) = some z then some d else none := rfl
    rw [e, kOf_kD]
    by_cases h2 : z = k
    · subst h2
      have : getK x z = none := by
        unfold hasK at h
        cases q : getK x z with
        | none => rfl
        | some v => rw [q] at h; exact absurd rfl h
      rw [this]
      simp
    · rw [if_neg h2]
      cases getK x z with
      | some v => rfl
      | none => simp [Ne.symm h2]
theorem putK_len {k : Key} {d : D} {x : List (D × D)} : (putKD x k d).length ≤ x.length + 1 := by
  unfold putKD
  split <;> simp
theorem getT_app {z : NestedKey} {y : List (D × D)} : ∀ {x : List (D × D)}, getT (x ++ y) z = match getT x z with | some d => some d | none => getT y z
  | [] => rfl
  | q :: r => by
    show (if nkOf q.1 = some z then some q.2 else getT (r ++ y) z) = match (if nkOf q.1 = some z then some q.2 else getT r z) with | some d => some d | none => getT y z
    by_cases h : nkOf q.1 = some z
    · rw [if_pos h, if_pos h]
    · rw [if_neg h, if_neg h]
      exact getT_app
theorem getT_map {z k : NestedKey} {d : D} : ∀ {x : List (D × D)}, getT (x.map fun q => if nkOf q.1 = some k then (q.1, d) else q) z = if z = k then (if hasT x k = true then some d else none) else getT x z
  | [] => by
    show (none : Option D) = _
    by_cases h : z = k
    · rw [if_pos h]; rfl
    · rw [if_neg h]; rfl
  | q :: r => by
    have ih := getT_map (z := z) (k := k) (d := d) (x := r)
    show (if nkOf (if nkOf q.1 = some k then (q.1, d) else q).1 = some z then some (if nkOf q.1 = some k then (q.1, d) else q).2 else getT (r.map _) z) = _
    have e1 : (if nkOf q.1 = some k then (q.1, d) else q).1 = q.1 := by split <;> rfl
    rw [e1, ih]
    have eh : hasT (q :: r) k = if nkOf q.1 = some k then true else hasT r k := by
      show (if nkOf q.1 = some k then some q.2 else getT r k).isSome = _
      split <;> rfl
    have eg : getT (q :: r) z = if nkOf q.1 = some z then some q.2 else getT r z := rfl
    rw [eh, eg]
    by_cases h : nkOf q.1 = some z
    · by_cases h2 : z = k
      · subst h2; simp [h]
      · have h3 : ¬ nkOf q.1 = some k := fun e => h2 (by rw [h] at e; exact Option.some.inj e)
        simp [h, h2, h3]
    · by_cases h2 : z = k
      · subst h2; simp [h]
      · simp [h, h2]
theorem getT_put {z k : NestedKey} {d : D} {x : List (D × D)} : getT (putT x k d) z = if z = k then some d else getT x z := by
  unfold putT
  by_cases h : hasT x k = true
  · rw [if_pos h, getT_map, if_pos h]
  · rw [if_neg h, getT_app]
    have e : getT [(nkD k, d)] z = if nkOf (nkD k) = some z then some d else none := rfl
    rw [e, nkOf_nkD]
    by_cases h2 : z = k
    · subst h2
      have : getT x z = none := by
        unfold hasT at h
        cases q : getT x z with
        | none => rfl
        | some v => rw [q] at h; exact absurd rfl h
      rw [this]
      simp
    · rw [if_neg h2]
      cases getT x z with
      | some v => rfl
      | none => simp [Ne.symm h2]
theorem putT_len {k : NestedKey} {d : D} {x : List (D × D)} : (putT x k d).length ≤ x.length + 1 := by
  unfold putT
  split <;> simp
/-! ### slices -/
theorem cut_to {α : Type} {xs : List α} {i : Int} (h0 : 0 ≤ i) : cutG xs none (some i) = xs.take i.toNat := by
  unfold cutG HT.sIx
  simp only
  rw [if_neg (by omega), List.drop_zero, Nat.sub_zero]
  by_cases h : i.toNat ≤ xs.length
  · rw [Nat.min_eq_left h]
  · rw [Nat.min_eq_right (by omega), List.take_of_length_le (Nat.le_refl _), List.take_of_length_le (by omega)]
theorem cut_from {α : Type} {xs : List α} {i : Int} (h0 : 0 ≤ i) : cutG xs (some i) none = xs.drop i.toNat := by
  unfold cutG HT.sIx
  simp only
  rw [if_neg (by omega)]
  by_cases h : i.toNat ≤ xs.length
  · rw [Nat.min_eq_left h, List.take_of_length_le (by simp)]
  · rw [Nat.min_eq_right (by omega), List.drop_of_length_le (Nat.le_refl _), List.drop_of_length_le (by omega)]
    simp
/-! ### names of steps -/
abbrev Nm := Int × Int
def nmD (p : Nm) : D := .tuple [.int p.1, .int p.2]
def nmK (p : Nm) : NestedKey := .tup [.num p.1, .num p.2]
theorem nm_tk (p : Nm) : tkOf (nmD p) = some (nmK p) := by
  unfold nmD tkOf nmK
  simp only [nkOf, nksOf, Option.map_some]
  rw [if_pos (by simp [NestedKey.depth, NestedKey.depthAll])]
theorem nmK_inj {p q : Nm} (h : nmK p = nmK q) : p = q := by
  unfold nmK at h
  simp only [NestedKey.tup.injEq, List.cons.injEq, NestedKey.num.injEq, and_true] at h
  exact Prod.ext h.1 h.2
theorem nm_nb (p : Nm) : Nb 1 (nmD p) := nb_tuple fun d hd => by
  simp only [List.mem_cons, List.not_mem_nil, or_false] at hd
  rcases hd with rfl | rfl <;> exact nb_int
theorem nmD_inj {p q : Nm} (h : nmD p = nmD q) : p = q := by
  unfold nmD at h
  simp only [D.tuple.injEq, List.cons.injEq, D.int.injEq, and_true] at h
  exact Prod.ext h.1 h.2
theorem eq_nm (p q : Nm) : eqD (nmD p) (nmD q) = decide (p = q) := by
  have h := eqD_iff (nmD p) (nmD q) (nm_nb p).nd (nm_nb q).nd (nm_nb p).nb (nm_nb q).nb
  by_cases e : p = q
  · subst e
    rw [decide_eq_true rfl]
    exact h.mpr rfl
  · rw [decide_eq_false e]
    cases z : eqD (nmD p) (nmD q) with
    | false => rfl
    | true => exact absurd (nmD_inj (h.mp z)) e
def nmsA (pre : List Int) : List Int → List Nm
  | [] => []
  | t :: r => (t, ((pre.count t : Nat) : Int)) :: nmsA (pre ++ [t]) r
def nms (ts : List Int) : List Nm := nmsA [] ts
theorem nmsA_len : ∀ {r pre : List Int}, (nmsA pre r).length = r.length
  | [], _ => rfl
  | _ :: r, pre => by rw [nmsA, List.length_cons, nmsA_len, List.length_cons]
theorem nmsA_app : ∀ {r s pre : List Int}, nmsA pre (r ++ s) = nmsA pre r ++ nmsA (pre ++ r) s
  | [], s, pre => by simp [nmsA]
  | t :: r, s, pre => by
    rw [List.cons_append, nmsA, nmsA, nmsA_app, List.cons_append]
    simp
theorem nmsA_ge : ∀ {r pre : List Int} {t m : Int}, (t, m) ∈ nmsA pre r → ((pre.count t : Nat) : Int) ≤ m
  | [], _, _, _, h => by cases h
  | u :: r, pre, t, m, h => by
    rcases List.mem_cons.mp h with e | h
    · cases e; exact Int.le_refl _
    · have := nmsA_ge h
      rw [List.count_append] at this
      omega
theorem nmsA_nodup : ∀ {r pre : List Int}, (nmsA pre r).Nodup
  | [], _ => List.nodup_nil
  | t :: r, pre => by
    rw [nmsA, List.nodup_cons]
    refine ⟨fun h => ?_, nmsA_nodup⟩
    have := nmsA_ge h
    rw [List.count_append] at this
    simp at this
    omega
theorem nms_nodup (ts : List Int) : (nms ts).Nodup := nmsA_nodup
theorem nms_len (ts : List Int) : (nms ts).length = ts.length := nmsA_len
theorem nms_snoc (ts : List Int) (t : Int) : nms (ts ++ [t]) = nms ts ++ [((t, ((ts.count t : Nat) : Int)) : Nm)] := by
  unfold nms
  rw [nmsA_app]
  rfl
end Vt
namespace K36
open PySem L2 Vt Pn
variable [WorldC]
local macro_rules | `(tactic| k_caught0) => `(tactic| fail)
local macro_rules | `(tactic| top_raise0) => `(tactic| first | (refine Nat.le_trans ?_ (show 16777216 ≤ PySem.sizeLine from Nat.le_refl _); (try simp only [reps_one, List.length_map, List.length_append, List.length_replicate, List.length_cons, List.length_nil, List.length_reverse, List.length_take, List.length_drop] at *); omega) | (refine Nat.lt_of_lt_of_le ?_ (show 16777216 ≤ PySem.sizeLine from Nat.le_refl _); (try simp only [reps_one, List.length_map, List.length_append, List.length_replicate, List.length_cons, List.length_nil, List.length_reverse, List.length_take, List.length_drop] at *); omega))
local macro_rules | `(tactic| k_caughtB) => `(tactic| first | assumption | rfl | decide | exact Nat.le_of_ble_eq_true rfl | omega | exact shaped_ints _ | exact shaped_l0 | exact cdiv (by omega) (by omega) | exact cpow18 | exact cdivn (by assumption) (by omega) (by omega) | exact cmul_m (by omega) (by omega) | exact cmul_l (by omega) (by omega) | exact cmul_r (by omega) (by omega) | (simp only [List.length_map, List.length_append, List.length_replicate, List.length_cons, List.length_nil, List.length_reverse, List.length_take, List.length_drop] at *; omega) | top_raise0 | fail)
local macro_rules | `(tactic| k_caughtNB) => `(tactic| first
  | ((with_reducible refine br_d (fun hb => ?_) (fun hb => ?_)) <;> first | with_reducible exact absurd rfl hb | skip)
  | ((with_reducible refine br_l0 (fun hb => ?_) (fun hb => ?_)) <;> first | exact absurd rfl hb | exact absurd hb (snoc_ne _ _) | skip)
  | ((with_reducible refine br_nl0 (fun hb => ?_) (fun hb => ?_)) <;> first | exact absurd rfl hb | exact absurd hb (snoc_ne _ _) | skip)
  | ((with_reducible refine br_li (fun hb => ?_) (fun hb => ?_)) <;> first | exact absurd rfl hb | exact absurd hb (snoc_ne _ _) | skip)
  | ((with_reducible refine br_nli (fun hb => ?_) (fun hb => ?_)) <;> first | exact absurd rfl hb | exact absurd hb (snoc_ne _ _) | skip)
  | ((with_reducible refine br_n (fun hb => ?_) (fun hb => ?_)) <;> first | with_reducible exact absurd rfl hb | skip)
  | with_reducible refine br_z (fun hb => ?_) (fun hb => ?_)
  | with_reducible refine br_e (fun hb => ?_) (fun hb => ?_)
  | with_reducible refine br_t ?_
  | with_reducible refine br_f ?_
  | ((with_reducible refine br_kt ?hside ?_); (case hside => rfl))
  | ((with_reducible refine br_kf ?hside ?_); (case hside => rfl))
  | with_reducible refine br (fun hb => ?_) (fun hb => ?_)
  | k_caught0
  | with_reducible refine opt rfl ?_
  | with_reducible refine opt (at_last _ _) ?_
  | ((with_reducible refine opt_int ?hside ?hside2 (fun hb => ?_)); (case hside => k_caughtB); (case hside2 => k_caughtB))
  | ((with_reducible refine And.intro ?hside ?_); (case hside => k_caughtB))
  | fail)
local macro_rules | `(tactic| k_caughtN0) => `(tactic| ((repeat' (first | k_caughtNB | ((try dsimp only [List.set_cons_zero, List.set_cons_succ]); (conv => whnf); k_caughtNB) | fail)) <;> (try (conv => whnf))))
@[irreducible] def sp_names_of : DSp := fun ds Q _ => ∃ (ts : List Int), ds = [.list (ts.map .int)] ∧ (ts.length ≤ 100000) ∧ (Q (.list ((nms ts).map nmD)) [])
theorem mo_names_of : Mono sp_names_of := by
  unfold sp_names_of
  rintro ds Q Q' E E' h _ ⟨ts, e, hl2, q⟩
  exact ⟨ts, e, hl2, h _ _ q⟩
theorem r_names_of {ts : List Int} {Q : D → List D → Prop} {E : PySem.Str → Fds → List D → Prop} (hl2 : ts.length ≤ 100000) (q : Q (.list ((nms ts).map nmD)) []) : sp_names_of [.list (ts.map .int)] Q E := by
  unfold sp_names_of
  exact ⟨ts, rfl, hl2, q⟩
def b_names_of : DTS := (dSeq (dBind 1 dDnew)
  (dSeq (dOwn 2 (dfLst dNil))
  (dSeq (dFor (diAny (dVar 0)) (dgName 3) (dSeq (dAppend 2 (dTup (dCons (dVar 3) (dCons (dGet2 (dVar 1) (dVar 3) (dC (.int 0))) dNil))))
  (dPdput 1 (dOp dAdd (dGet2 (dVar 1) (dVar 3) (dC (.int 0))) (dC (.int 1))) (dplVar 1) (dVar 3))))
  (dRet [] (dVar 2)))))
theorem pu_names_of : ∀ (ds : List D) (Q : D → List D → Prop) (E : PySem.Str → Fds → List D → Prop), ds.length = 1 → sp_names_of ds Q E → b_names_of { nx := fun ρ => Q .none (conts ρ []), rt := Q, ex := fun n fs ρ => E n fs (conts ρ []) } (start0 4 ds) := by
  intro ds Q E hl h
  unfold sp_names_of at h
  obtain ⟨ts, rfl, hl2, q⟩ := h
  k_caughtN0
  refine for_list (fun r ρ => ∃ pre kvs v, ρ = [some (.list (ts.map .int)), some (.dict kvs), some (.list ((nms pre).map nmD)), v] ∧ (∃ s, r = s.map D.int ∧ pre ++ s = ts) ∧ (∀ x : Int, (getK kvs (.inl x)).getD (.int 0) = .int (pre.count x : Nat)) ∧ kvs.length ≤ pre.length) ⟨[], [], _, rfl, ⟨ts, rfl, rfl⟩, fun _ => rfl, by simp⟩ ?_ ?_
  · rintro d r ρ N ⟨pre, kvs, v, rfl, ⟨s, hs, e⟩, hg, hlen⟩ k
    cases s with
    | nil => cases hs
    | cons t s =>
      simp only [List.map_cons, List.cons.injEq] at hs
      obtain ⟨rfl, rfl⟩ := hs
      have hp : pre.length ≤ ts.length := by rw [← e]; simp
      have hn := nms_len pre
      k_caughtN0
      rw [hg]
      k_caughtN0
      refine k _ ⟨pre ++ [t], putKD kvs (.inl t) (.int (((pre.count t : Nat) : Int) + 1)), some (.int t), ?_, ⟨s, rfl, by rw [← e]; simp⟩, fun x => ?_, ?_⟩
      · rw [nms_snoc, List.map_append]
        rfl
      · rw [getK_put]
        by_cases z : x = t
        · subst z
          rw [if_pos rfl]
          simp
        · rw [if_neg (fun e => z (Sum.inl.inj e)), hg, List.count_append]
          have z0 : [t].count x = 0 := by rw [List.count_eq_zero]; simpa using z
          rw [z0, Nat.add_zero]
      · rw [List.length_append]
        exact Nat.le_trans putK_len (by simp; omega)
  · rintro ρ ⟨pre, kvs, v, rfl, ⟨s, hs, e⟩, hg, hlen⟩
    cases s with
    | cons t s => cases hs
    | nil =>
      rw [List.append_nil] at e
      subst e
      k_caughtN0
      exact q
local macro_rules | `(tactic| k_caught0) => `(tactic| ((refine r_names_of ?hl2 ?_); (case hl2 => omega)))
abbrev Bf := Nm × Nm
def bfD (b : Bf) : D := .tuple [nmD b.1, nmD b.2]
/-- a before that names don't keep -/
def kpv (ns : List Nm) (b : Bf) : Bool := decide (b.2 ∈ ns) && (!decide (b.1 ∈ ns) || decide (ns.idxOf b.2 ≤ ns.idxOf b.1))
def keepsB (bs : List Bf) (ns : List Nm) : Bool := !(bs.any (kpv ns))
theorem idx_take {x : Nm} : ∀ {l : List Nm} {k : Nat}, x ∈ l.take k ↔ x ∈ l ∧ l.idxOf x < k
  | [], k => by simp
  | y :: r, 0 => by simp
  | y :: r, k + 1 => by
    rw [List.take_succ_cons, List.mem_cons, List.mem_cons, List.idxOf_cons]
    by_cases e : y = x
    · subst e; simp
    · have : (y == x) = false := by simpa using e
      rw [this, idx_take (l := r) (k := k)]
      simp [Ne.symm e]
theorem nodup_idx {x : Nm} {l : List Nm} {i : Nat} (nd : l.Nodup) (h : l[i]? = some x) : l.idxOf x = i := by
  induction l generalizing i with
  | nil => simp at h
  | cons y r ih =>
    obtain ⟨n1, n2⟩ := List.nodup_cons.mp nd
    cases i with
    | zero =>
      simp at h
      subst h
      simp
    | succ i =>
      simp at h
      have ne : y ≠ x := fun e => n1 (by rw [e]; exact List.mem_of_getElem? h)
      rw [List.idxOf_cons, show (y == x) = false by simpa using ne, ih n2 h]
      rfl
@[irreducible] def sp_keeps : DSp := fun ds Q _ => ∃ (bs : List Bf), ∃ (ts : List Int), ds = [.list (bs.map bfD), .list (ts.map .int)] ∧ (ts.length ≤ 100000) ∧ (Q (.bool (keepsB bs (nms ts))) [])
theorem mo_keeps : Mono sp_keeps := by
  unfold sp_keeps
  rintro ds Q Q' E E' h _ ⟨bs, ts, e, hl2, q⟩
  exact ⟨bs, ts, e, hl2, h _ _ q⟩
theorem r_keeps {bs : List Bf} {ts : List Int} {Q : D → List D → Prop} {E : PySem.Str → Fds → List D → Prop} (hl2 : ts.length ≤ 100000) (q : Q (.bool (keepsB bs (nms ts))) []) : sp_keeps [.list (bs.map bfD), .list (ts.map .int)] Q E := by
  unfold sp_keeps
  exact ⟨bs, ts, rfl, hl2, q⟩
local macro_rules | `(tactic| k_caught0) => `(tactic| (with_reducible refine opt (nm_tk _) ?_))
def b_keeps : DTS := (dSeq (dBind 2 dTnew)
  (dSeq (dFor (diEnum (dCall 1 sp_names_of (dCons (dVar 1) dNil))) (dgTup 2 (dgCons (dgName 3) (dgCons (dgName 4) dgNil))) (dPtput 2 (dVar 3) (dplVar 2) (dVar 4)))
  (dSeq (dFor (diAny (dVar 0)) (dgTup 2 (dgCons (dgName 5) (dgCons (dgName 6) dgNil))) (dIfS (dAnd (dTest (dTin (dVar 6) (dVar 2))) (dOr (dTest (dTnotin (dVar 5) (dVar 2))) (dTest (dOp (dOrd gGe zGe) (dImm (dOp dGetT (dVar 2) (dVar 5))) (dImm (dOp dGetT (dVar 2) (dVar 6))))))) (dRet [] (dC (.bool false))) dNext))
  (dRet [] (dC (.bool true))))))
theorem pu_keeps : ∀ (ds : List D) (Q : D → List D → Prop) (E : PySem.Str → Fds → List D → Prop), ds.length = 2 → sp_keeps ds Q E → b_keeps { nx := fun ρ => Q .none (conts ρ []), rt := Q, ex := fun n fs ρ => E n fs (conts ρ []) } (start0 7 ds) := by
  intro ds Q E hl h
  unfold sp_keeps at h
  obtain ⟨bs, ts, rfl, hl2, q⟩ := h
  k_caughtN0
  have nd := nms_nodup ts
  have nl := nms_len ts
  refine for_inv (fun i ρ => ∃ kvs v1 v2 v3 v4, ρ = [some (.list (bs.map bfD)), some (.list (ts.map .int)), some (.tdic kvs), v1, v2, v3, v4] ∧ (∀ x : Nm, getT kvs (nmK x) = if x ∈ (nms ts).take i then some (.int ((nms ts).idxOf x : Nat)) else none) ∧ kvs.length ≤ i) ⟨[], _, _, _, _, rfl, fun x => by simp [getT], by simp⟩ ?_ ?_
  · rintro i d ρ N hd ⟨kvs, v1, v2, v3, v4, rfl, hg, hlen⟩ k
    rw [enum_get, List.getElem?_map, Option.map_map] at hd
    obtain ⟨x, hx, rfl⟩ := Option.map_eq_some_iff.mp hd
    have hi : i < (nms ts).length := (List.getElem?_eq_some_iff.mp hx).1
    k_caughtN0
    refine k _ ⟨putT kvs (nmK x) (.int ((0 + i : Nat) : Int)), _, _, v3, v4, rfl, fun y => ?_, Nat.le_trans putT_len (by omega)⟩
    rw [getT_put, hg]
    have ht : (nms ts).take (i + 1) = (nms ts).take i ++ [x] := by rw [List.take_succ, hx]; rfl
    rw [ht]
    by_cases z : y = x
    · subst z
      rw [if_pos rfl, if_pos (by simp), nodup_idx nd hx, Nat.zero_add]
    · rw [if_neg (fun e => z (nmK_inj e))]
      congr 1
      simp [z]
  · rintro ρ ⟨kvs, v1, v2, v3, v4, rfl, hg, hlen⟩
    rw [enum_len, List.length_map, List.take_length] at hg
    have hT : ∀ x, hasT kvs (nmK x) = decide (x ∈ nms ts) := fun x => by
      unfold hasT
      rw [hg]
      by_cases z : x ∈ nms ts
      · rw [if_pos z, decide_eq_true z]; rfl
      · rw [if_neg z, decide_eq_false z]; rfl
    k_caughtN0
    refine for_list (fun r ρ => ∃ pre s u1 u2, r = s.map bfD ∧ bs = pre ++ s ∧ pre.any (kpv (nms ts)) = false ∧ ρ = [some (.list (bs.map bfD)), some (.list (ts.map .int)), some (.tdic kvs), v1, v2, u1, u2]) ⟨[], bs, _, _, rfl, rfl, rfl, rfl⟩ ?_ ?_
    · rintro d r ρ N ⟨pre, s, u1, u2, hs, e, ha, rfl⟩ k
      cases s with
      | nil => cases hs
      | cons b s =>
        simp only [List.map_cons, List.cons.injEq] at hs
        obtain ⟨rfl, rfl⟩ := hs
        have fin : kpv (nms ts) b = false → N [some (.list (bs.map bfD)), some (.list (ts.map .int)), some (.tdic kvs), v1, v2, some (nmD b.1), some (nmD b.2)] := fun z =>
          k _ ⟨pre ++ [b], s, _, _, rfl, by rw [e]; simp, by rw [List.any_append, ha]; simp [z], rfl⟩
        have bad : kpv (nms ts) b = true → keepsB bs (nms ts) = false := fun z => by
          unfold keepsB
          rw [e, List.any_append, List.any_cons, z]
          simp
        k_caughtN0
        · rename_i z1 z2
          rw [hT] at z1
          rw [hT] at z2
          have z : kpv (nms ts) b = true := by
            unfold kpv
            rw [z1, z2]
            rfl
          rw [bad z] at q
          exact q
        · rename_i z1 z2
          rw [hT] at z1
          rw [hT] at z2
          have y1 := of_decide_eq_true z1
          have y2 : b.1 ∈ nms ts := by simpa using z2
          refine opt ((hg _).trans (if_pos y2)) ?_
          refine ⟨rfl, ?_⟩
          k_caughtN0
          refine opt ((hg _).trans (if_pos y1)) ?_
          refine ⟨rfl, ?_⟩
          k_caughtN0
          · rename_i z3
            have z : kpv (nms ts) b = true := by
              unfold kpv
              rw [z1, z2]
              have : decide ((nms ts).idxOf b.2 ≤ (nms ts).idxOf b.1) = true := decide_eq_true (by omega)
              rw [this]
              rfl
            rw [bad z] at q
            exact q
          · rename_i z3
            have z : kpv (nms ts) b = false := by
              unfold kpv
              rw [z1, z2]
              have : decide ((nms ts).idxOf b.2 ≤ (nms ts).idxOf b.1) = false := decide_eq_false (by omega)
              rw [this]
              rfl
            exact fin z
        · rename_i z1
          rw [hT] at z1
          exact fin (by unfold kpv; rw [z1]; rfl)
    · rintro ρ ⟨pre, s, u1, u2, hs, e, ha, rfl⟩
      cases s with
      | cons b s => cases hs
      | nil =>
        rw [List.append_nil] at e
        subst e
        have z : keepsB bs (nms ts) = true := by unfold keepsB; rw [ha]; rfl
        rw [z] at q
        k_caughtN0
        exact q
local macro_rules | `(tactic| k_caught0) => `(tactic| ((refine r_keeps ?hl2 ?_); (case hl2 => omega)))
theorem nm_shA {ns : List Nm} : shD (.list (ns.map nmD)) = true := (cd_list (n := 1) fun d hd => by
  obtain ⟨x, _, rfl⟩ := List.mem_map.mp hd
  exact (nm_nb x).toCd).sh
theorem nm_sh (x : Nm) : shD (nmD x) = true := (nm_nb x).toCd.sh
theorem nm_any (ns : List Nm) (x : Nm) : ((ns.map nmD).any fun z => eqD z (nmD x)) = decide (x ∈ ns) := by
  rw [List.any_map]
  have : ((fun z => eqD z (nmD x)) ∘ nmD) = fun y => decide (y = x) := funext fun y => eq_nm y x
  rw [this]
  by_cases h : x ∈ ns
  · rw [decide_eq_true h, List.any_eq_true]
    exact ⟨x, h, decide_eq_true rfl⟩
  · rw [decide_eq_false h, List.any_eq_false]
    intro y hy e
    exact h (of_decide_eq_true e ▸ hy)
theorem nm_index {ns : List Nm} {x : Nm} {Q : D → Prop} (h : x ∈ ns) (q : Q (.int (ns.idxOf x : Nat))) : gIndex (.list (ns.map nmD)) (nmD x) Q := by
  unfold gIndex
  have hl : ns.idxOf x < ns.length := List.idxOf_lt_length_iff.mpr h
  refine ⟨nm_shA, nm_sh x, ns.idxOf x, nmD x, ?_, by rw [eq_nm]; exact decide_eq_true rfl, fun m z' hm hz => ?_, q⟩
  · rw [List.getElem?_map, List.getElem?_eq_getElem hl, List.getElem_idxOf hl]
    rfl
  · rw [List.getElem?_map] at hz
    obtain ⟨y, hy, rfl⟩ := Option.map_eq_some_iff.mp hz
    rw [eq_nm]
    refine decide_eq_false fun e => ?_
    subst e
    have := List.not_of_lt_findIdx (p := (· == y)) (xs := ns) hm
    obtain ⟨h1, h2⟩ := List.getElem?_eq_some_iff.mp hy
    rw [h2] at this
    simp at this
theorem nms_get {ts : List Int} {i : Nat} (h : i < ts.length) : (nms ts)[i]? = some ((ts[i], (((ts.take i).count ts[i] : Nat) : Int)) : Nm) := by
  have e : ts = ts.take i ++ ts[i] :: ts.drop (i + 1) := by rw [List.getElem_cons_drop, List.take_append_drop]
  have e2 : nms ts = nms (ts.take i) ++ nmsA ([] ++ ts.take i) (ts[i] :: ts.drop (i + 1)) := by
    conv => lhs; rw [e]
    unfold nms
    rw [nmsA_app]
  rw [e2, List.getElem?_append_right (by rw [nms_len, List.length_take]; omega), nms_len, List.length_take, Nat.min_eq_left (by omega), Nat.sub_self]
  rfl
@[irreducible] def sp__law_named : DSp := fun ds Q _ => ∃ (ts : List Int), ds = [.list (ts.map .int)] ∧ (ts.length ≤ 100000) ∧ (Q (.list ((nms ts).map nmD)) [])
theorem mo__law_named : Mono sp__law_named := by
  unfold sp__law_named
  rintro ds Q Q' E E' h _ ⟨ts, e, hl2, q⟩
  exact ⟨ts, e, hl2, h _ _ q⟩
theorem r__law_named {ts : List Int} {Q : D → List D → Prop} {E : PySem.Str → Fds → List D → Prop} (hl2 : ts.length ≤ 100000) (q : Q (.list ((nms ts).map nmD)) []) : sp__law_named [.list (ts.map .int)] Q E := by
  unfold sp__law_named
  exact ⟨ts, rfl, hl2, q⟩
def b__law_named : DTS := (dRet [] (dNew (dfLc (diRange1 (dUn dLen (dVar 0))) (dgName 1) dYes (dTup (dCons (dOp dIx (dVar 0) (dVar 1)) (dCons (dLm gCount (dSlice (dVar 0) dNoPart (dPart (dVar 1))) (dOp dIx (dVar 0) (dVar 1))) dNil))) [1])))
theorem pu__law_named : ∀ (ds : List D) (Q : D → List D → Prop) (E : PySem.Str → Fds → List D → Prop), ds.length = 1 → sp__law_named ds Q E → b__law_named { nx := fun ρ => Q .none (conts ρ []), rt := Q, ex := fun n fs ρ => E n fs (conts ρ []) } (start0 2 ds) := by
  intro ds Q E hl h
  unfold sp__law_named at h
  obtain ⟨ts, rfl, hl2, q⟩ := h
  k_caughtN0
  refine lc_rng (fun i acc ρ => ρ = [some (.list (ts.map .int)), none] ∧ acc = ((nms ts).take i).map nmD) (by rw [List.length_map]; show _ ≤ 16777216; omega) ⟨rfl, rfl⟩ ?_ ?_
  · rintro i acc ρ N hi hl3 ⟨rfl, rfl⟩ k
    rw [List.length_map] at hi
    have hi : i < ts.length := by omega
    have h0 : ((0 : Int) + (i : Int)).toNat = i := by omega
    k_caughtN0
    refine ⟨ts.take i, by rw [cut_map, cut_to (by omega), h0], ?_⟩
    k_caughtN0
    refine k _ _ (by simp; omega) ⟨rfl, ?_⟩
    rw [List.take_succ, nms_get hi, List.map_append]
    simp only [h0]
    rfl
  · rintro acc ρ ⟨rfl, rfl⟩
    rw [List.length_map, Int.toNat_natCast, ← nms_len, List.take_length]
    k_caughtN0
    exact q
local macro_rules | `(tactic| k_caught0) => `(tactic| ((refine r__law_named ?hl2 ?_); (case hl2 => omega)))
@[irreducible] def sp__law_keeps : DSp := fun ds Q _ => ∃ (bs : List Bf), ∃ (ns : List Nm), ds = [.list (bs.map bfD), .list (ns.map nmD)] ∧ (Q (.bool (keepsB bs ns)) [])
theorem mo__law_keeps : Mono sp__law_keeps := by
  unfold sp__law_keeps
  rintro ds Q Q' E E' h _ ⟨bs, ns, e, q⟩
  exact ⟨bs, ns, e, h _ _ q⟩
theorem r__law_keeps {bs : List Bf} {ns : List Nm} {Q : D → List D → Prop} {E : PySem.Str → Fds → List D → Prop}  (q : Q (.bool (keepsB bs ns)) []) : sp__law_keeps [.list (bs.map bfD), .list (ns.map nmD)] Q E := by
  unfold sp__law_keeps
  exact ⟨bs, ns, rfl, q⟩
def b__law_keeps : DTS := (dSeq (dFor (diAny (dVar 0)) (dgTup 2 (dgCons (dgName 2) (dgCons (dgName 3) dgNil))) (dIfS (dAnd (dTest (dOp dIn (dVar 3) (dVar 1))) (dTest (dOp dNotIn (dVar 2) (dSlice (dVar 1) dNoPart (dPart (dLm gIndex (dVar 1) (dVar 3))))))) (dRet [] (dC (.bool false))) dNext))
  (dRet [] (dC (.bool true))))
theorem pu__law_keeps : ∀ (ds : List D) (Q : D → List D → Prop) (E : PySem.Str → Fds → List D → Prop), ds.length = 2 → sp__law_keeps ds Q E → b__law_keeps { nx := fun ρ => Q .none (conts ρ []), rt := Q, ex := fun n fs ρ => E n fs (conts ρ []) } (start0 4 ds) := by
  intro ds Q E hl h
  unfold sp__law_keeps at h
  obtain ⟨bs, ns, rfl, q⟩ := h
  k_caughtN0
  refine for_list (fun r ρ => ∃ pre s u1 u2, r = s.map bfD ∧ bs = pre ++ s ∧ pre.any (kpv ns) = false ∧ ρ = [some (.list (bs.map bfD)), some (.list (ns.map nmD)), u1, u2]) ⟨[], bs, _, _, rfl, rfl, rfl, rfl⟩ ?_ ?_
  · rintro d r ρ N ⟨pre, s, u1, u2, hs, e, ha, rfl⟩ k
    cases s with
    | nil => cases hs
    | cons b s =>
      simp only [List.map_cons, List.cons.injEq] at hs
      obtain ⟨rfl, rfl⟩ := hs
      have fin : kpv ns b = false → N [some (.list (bs.map bfD)), some (.list (ns.map nmD)), some (nmD b.1), some (nmD b.2)] := fun z =>
        k _ ⟨pre ++ [b], s, _, _, rfl, by rw [e]; simp, by rw [List.any_append, ha]; simp [z], rfl⟩
      have bad : kpv ns b = true → keepsB bs ns = false := fun z => by
        unfold keepsB
        rw [e, List.any_append, List.any_cons, z]
        simp
      k_caughtN0
      refine ⟨nm_shA, ?_⟩
      rw [nm_any]
      k_caughtN0
      · rename_i z1
        have z1 : b.2 ∈ ns := z1
        refine nm_index z1 ?_
        k_caughtN0
        rw [cut_map, cut_to (by omega), Int.toNat_natCast]
        refine ⟨nm_shA, ?_⟩
        rw [nm_any]
        have e2 : kpv ns b = !decide (b.1 ∈ ns.take (ns.idxOf b.2)) := by
          unfold kpv
          rw [decide_eq_true z1]
          by_cases y : b.1 ∈ ns
          · rw [decide_eq_true y]
            by_cases x : ns.idxOf b.2 ≤ ns.idxOf b.1
            · rw [decide_eq_true x, decide_eq_false (fun m => by have := (idx_take.mp m).2; omega)]; rfl
            · rw [decide_eq_false x, decide_eq_true (idx_take.mpr ⟨y, by omega⟩)]; rfl
          · rw [decide_eq_false y, decide_eq_false fun m => y (idx_take.mp m).1]; rfl
        k_caughtN0
        · rename_i z2
          rw [bad (e2.trans (by simpa using z2))] at q
          exact q
        · rename_i z2
          exact fin (e2.trans (by simpa using z2))
      · rename_i z1
        exact fin (by unfold kpv; rw [decide_eq_false z1]; rfl)
  · rintro ρ ⟨pre, s, u1, u2, hs, e, ha, rfl⟩
    cases s with
    | cons b s => cases hs
    | nil =>
      rw [List.append_nil] at e
      subst e
      have z : keepsB bs ns = true := by unfold keepsB; rw [ha]; rfl
      rw [z] at q
      k_caughtN0
      exact q
local macro_rules | `(tactic| k_caught0) => `(tactic| ((refine r__law_keeps ?_)))
local macro_rules | `(tactic| k_caughtB) => `(tactic| first | exact Shw.nd (by assumption) | exact Shw.sh (by assumption) | exact Nat.le_trans (Shw.dp (by assumption)) (by decide) | exact Shw.len (by assumption) (by omega))
theorem nms_mem {x : Nm} : ∀ {r pre : List Int}, x ∈ nmsA pre r → x.1 ∈ r ∧ 0 ≤ x.2 ∧ x.2 < ((pre ++ r).length : Int)
  | [], _, h => by cases h
  | t :: r, pre, h => by
    rcases List.mem_cons.mp h with e | h
    · subst e
      have := List.count_le_length (a := t) (l := pre)
      refine ⟨List.mem_cons_self, by simp, ?_⟩
      simp only [List.length_append, List.length_cons]
      omega
    · obtain ⟨h1, h2, h3⟩ := nms_mem h
      refine ⟨List.mem_cons_of_mem _ h1, h2, ?_⟩
      simp only [List.length_append, List.length_cons, List.length_nil] at h3 ⊢
      omega
def Sm (x : Nm) : Prop := x.1.natAbs < 1000 ∧ x.2.natAbs < 1000
theorem sm_int {i : Int} (h : i.natAbs < 1000) : Shw 0 60 (.int i) := Shw.int (Nat.lt_trans h (by decide))
theorem nm_shw {x : Nm} (h : Sm x) : Shw 1 122 (nmD x) := Shw.tuple (h := 0) (w := 60) (ds := [.int x.1, .int x.2]) fun d hd => by
  simp only [List.mem_cons, List.not_mem_nil, or_false] at hd
  rcases hd with rfl | rfl
  · exact sm_int h.1
  · exact sm_int h.2
theorem bf_shw {b : Bf} (h : Sm b.1 ∧ Sm b.2) : Shw 2 246 (bfD b) := Shw.tuple (h := 1) (w := 122) (ds := [nmD b.1, nmD b.2]) fun d hd => by
  simp only [List.mem_cons, List.not_mem_nil, or_false] at hd
  rcases hd with rfl | rfl
  · exact nm_shw h.1
  · exact nm_shw h.2
theorem kept_shw {bs : List Bf} {us : List Int} (hb : ∀ b ∈ bs, Sm b.1 ∧ Sm b.2) (hu : ∀ u ∈ us, u.natAbs < 1000) (h1 : bs.length ≤ 100) (h2 : us.length ≤ 100) : Shw 4 60000 (.tuple [.list (bs.map bfD), .list (us.map .int)]) := by
  have a1 : Shw 3 25000 (.list (bs.map bfD)) := (Shw.list fun d hd => by
    obtain ⟨b, hm, rfl⟩ := List.mem_map.mp hd
    exact bf_shw (hb b hm)).up (Nat.le_refl _) (by rw [List.length_map]; omega)
  have a2 : Shw 3 25000 (.list (us.map D.int)) := (Shw.list fun d hd => by
    obtain ⟨b, hm, rfl⟩ := List.mem_map.mp hd
    exact sm_int (hu b hm)).up (by decide) (by rw [List.length_map]; omega)
  exact (Shw.tuple (h := 3) (w := 25000) (ds := [.list (bs.map bfD), .list (us.map .int)]) fun d hd => by
    simp only [List.mem_cons, List.not_mem_nil, or_false] at hd
    rcases hd with rfl | rfl
    · exact a1
    · exact a2).up (Nat.le_refl _) (by simp)
theorem nm_at {ns : List Nm} {i : Int} {F : D → Prop} (h0 : 0 ≤ i) (h1 : i < ((ns.map nmD).length : Int)) (q : ∀ x ∈ ns, F (nmD x)) : Opt (atI (ns.map nmD) i) F := opt_ix h0 h1 fun d hd => by
  obtain ⟨x, hx, rfl⟩ := List.mem_map.mp hd
  exact q x hx
theorem keeps_more (bs : List Bf) (ns : List Nm) : keepsB (bs ++ bs.take 1) ns = keepsB bs ns := by
  unfold keepsB
  rw [List.any_append]
  cases bs with
  | nil => rfl
  | cons b r =>
    show (!((b :: r).any (kpv ns) || [b].any (kpv ns))) = !((b :: r).any (kpv ns))
    rw [List.any_cons, List.any_cons, List.any_nil, Bool.or_false]
    cases kpv ns b <;> cases r.any (kpv ns) <;> rfl
theorem keeps_no (bs : List Bf) : keepsB bs (nms []) = true := by
  unfold keepsB
  have : bs.any (kpv (nms [])) = false := List.any_eq_false.mpr fun b _ => by simp [kpv, nms, nmsA]
  rw [this]
  rfl
theorem nm_emp (ns : List Nm) : eqD (.list (ns.map nmD)) (.list []) = ns.isEmpty := by cases ns <;> rfl
@[irreducible] def sp_law : DSp := fun ds Q _ => (∃ ns : List Int, ds = [.list (ns.map .int)] ∧ ns.length ≤ 63) ∧ ∀ cs, Q (.bool true) cs
theorem law_ok {ns : List Int} (h : ns.length ≤ 63) : ∀ (Q : D → List D → Prop) (E : PySem.Str → Fds → List D → Prop), (∀ cs, Q (.bool true) cs) → sp_law [.list (ns.map .int)] Q E := fun Q E q => by
  unfold sp_law
  exact ⟨⟨ns, rfl, h⟩, q⟩
theorem three_at {r a b c : Int} {F : D → Prop} (h0 : 0 ≤ r) (h1 : r < 3) (q : ∀ m : Int, m = a ∨ m = b ∨ m = c → F (.int m)) : Opt (atI ([.int a, .int b, .int c] : List D) r) F := by
  refine opt_ix h0 (show r < (3 : Int) from h1) fun d hd => ?_
  simp only [List.mem_cons, List.not_mem_nil, or_false] at hd
  rcases hd with rfl | rfl | rfl
  · exact q _ (.inl rfl)
  · exact q _ (.inr (.inl rfl))
  · exact q _ (.inr (.inr rfl))
local macro_rules | `(tactic| k_caught0) => `(tactic| (refine r_pen ?_; intro pn0 hp))
local macro_rules | `(tactic| k_caught0) => `(tactic| ((refine three_at ?h0 ?h1 ?_); (case h0 => assumption); (case h1 => assumption); intro m hm))
local macro_rules | `(tactic| k_caught0) => `(tactic| ((refine' r_draw ?hp ?hn ?h0 ?h1 ?_); (case hp => assumption); (case hn => omega); (case h0 => omega); (case h1 => omega); intro r p' hr0 hr1 hp'))
local macro_rules | `(tactic| k_caught0) => `(tactic| ((refine nm_at ?h0 ?h1 ?_); (case h0 => omega); (case h1 => omega); intro x hx))
def b_law : DTS := (dSeq (dBind 1 (dScr 0 Pn.spPen))
  (dSeq (dFor (diRange1 (dC (.int 12))) (dgName 2) (dSeq (dSet 4 (dNew (dfLc (diRange1 (dCall1 2 0 1 Pn.spDraw (dOwnArg (dCons (dOp dIx (dLst (dCons (dC (.int 4)) (dCons (dC (.int 12)) (dCons (dC (.int 61)) dNil)))) (dCall1 2 0 1 Pn.spDraw (dOwnArg (dCons (dC (.int 3)) dNil)))) dNil)))) (dgName 3) dYes (dCall1 2 0 1 Pn.spDraw (dOwnArg (dCons (dC (.int 4)) dNil))) [3])))
  (dSeq (dParN [5, 6, 7] (dNewAt 7 (dCons (dCall 1 sp__law_named (dCons (dVar 4) dNil)) (dCons (dOp dIx (dLst (dCons (dC (.int 3)) (dCons (dC (.int 9)) (dCons (dC (.int 20)) dNil)))) (dCall1 2 0 1 Pn.spDraw (dOwnArg (dCons (dC (.int 3)) dNil)))) (dFhere (dfLst dNil) dNil)))))
  (dSeq (dFor (diRange1 (dCall1 2 0 1 Pn.spDraw (dOwnArg (dCons (dC (.int 7)) dNil)))) (dgName 3) (dSeq (dSet 8 (dNew (dfLc (diRange1 (dC (.int 2))) (dgName 12) dYes (dTup (dCons (dCall1 2 0 1 Pn.spDraw (dOwnArg (dCons (dC (.int 4)) dNil))) (dCons (dCall1 2 0 1 Pn.spDraw (dOwnArg (dCons (dVar 6) dNil))) dNil))) [12])))
  (dSeq (dIfS (dAnd (dTest (dOp dNe (dVar 5) (dLst dNil))) (dTest (dOp dEq (dCall1 2 0 1 Pn.spDraw (dOwnArg (dCons (dC (.int 2)) dNil))) (dC (.int 0))))) (dSeq (dSet 9 (dCall1 2 0 1 Pn.spDraw (dOwnArg (dCons (dUn dLen (dVar 5)) dNil))))
  (dSet 8 (dLst (dCons (dOp dIx (dVar 5) (dCall1 2 0 1 Pn.spDraw (dOwnArg (dCons (dOp dAdd (dVar 9) (dC (.int 1))) dNil)))) (dCons (dOp dIx (dVar 5) (dVar 9)) dNil))))) dNext)
  (dIfS (dTest (dOp dNe (dOp dIx (dVar 8) (dC (.int 0))) (dOp dIx (dVar 8) (dC (.int 1))))) (dAppend 7 (dUn dTuple (dVar 8))) dNext))))
  (dSeq (dSet 10 (dImm (dUn dReprX (dTup (dCons (dVar 7) (dCons (dVar 4) dNil))))))
  (dSeq (dSet 11 (dImm (dCall 2 sp__law_keeps (dCons (dVar 7) (dCons (dVar 5) dNil)))))
  (dSeq (dIfS (dOr (dTest (dOp dNe (dUn dReprX (dImm (dCall 2 sp_keeps (dCons (dVar 7) (dCons (dVar 4) dNil))))) (dUn dReprX (dVar 11)))) (dTest (dOp dNe (dCall 2 sp_keeps (dCons (dOp dAdd (dVar 7) (dSlice (dVar 7) dNoPart (dPart (dC (.int 1))))) (dCons (dVar 4) dNil))) (dVar 11)))) (dRet [(0, kS)] (dC (.bool false))) dNext)
  (dIfS (dOr (dTest (dOp dNe (dImm (dUn dReprX (dTup (dCons (dVar 7) (dCons (dVar 4) dNil))))) (dVar 10))) (dOr (dTest (dOp dNotB (dCall 2 sp_keeps (dCons (dLst dNil) (dCons (dVar 4) dNil))) (dC (.bool true)))) (dTest (dOp dNotB (dImm (dCall 2 sp_keeps (dCons (dVar 7) (dCons (dLst dNil) dNil)))) (dC (.bool true)))))) (dRet [(0, kS)] (dC (.bool false))) dNext))))))))
  (dRet [(0, kS)] (dC (.bool true)))))
theorem pu_law : ∀ (ds : List D) (Q : D → List D → Prop) (E : PySem.Str → Fds → List D → Prop), ds.length = 1 → sp_law ds Q E → b_law { nx := fun ρ => Q .none (conts ρ [(0, kS)]), rt := Q, ex := fun n fs ρ => E n fs (conts ρ [(0, kS)]) } (start0 13 ds) := by
  intro ds Q E hl h
  unfold sp_law at h
  obtain ⟨⟨ns, rfl, hns⟩, q⟩ := h
  k_caughtN0
  rename_i pn0 hp
  refine for_rng (fun i ρ => ∃ pn a b c d e f g h j k, ρ = [some (.list (ns.map .int)), some pn, a, b, c, d, e, f, g, h, j, k, none] ∧ Pen pn (1000 * i)) ⟨_, _, _, _, _, _, _, _, _, _, _, rfl, hp.le (by omega)⟩ ?_ ?_
  · rintro i ρ N hi ⟨pn, a, b, c, d, e, f, g, h, j0, k0, rfl, hp⟩ k
    k_caughtN0
    rename_i r1 p1 _ _ _ m hm r p2 hr0 hr1 hp2
    have hr : r < 61 := by omega
    refine lc_rng (fun i2 acc ρ => ∃ pn us, ρ = [some (.list (ns.map .int)), some pn, some (.int (0 + (i : Int))), b, c, d, e, f, g, h, j0, k0, none] ∧ acc = us.map D.int ∧ us.length = i2 ∧ (∀ u ∈ us, u.natAbs < 1000) ∧ Pen pn (1000 * i + 2 + i2)) (by show _ ≤ 16777216; omega) ⟨_, [], rfl, rfl, rfl, by simp, hp2.le (by omega)⟩ ?_ ?_
    · rintro i2 acc ρ N2 hi2 hl2 ⟨pn, us, rfl, rfl, hlen, hus, hp⟩ k2
      k_caughtN0
      rename_i t p3 ht0 ht1 hp3
      exact k2 _ _ (by simp [hlen]) ⟨_, us ++ [t], rfl, by simp, by simp [hlen], fun u hu => by
        rcases List.mem_append.mp hu with hu | hu
        · exact hus u hu
        · rcases List.mem_singleton.mp hu with rfl
          omega, hp3.le (by omega)⟩
    · rintro acc ρ ⟨pn, us, rfl, rfl, hlen, hus, hp⟩
      have hul : us.length ≤ 61 := by omega
      k_caughtN0
      rename_i r3 p3 _ _ hp3 far hfar r4 p4 _ _ hp4
      refine for_rng (fun j ρ => ∃ pn v3 v8 v9, ∃ bs : List Bf, ρ = [some (.list (ns.map .int)), some pn, some (.int (0 + (i : Int))), v3, some (.list (us.map .int)), some (.list ((nms us).map nmD)), some (.int far), some (.list (bs.map bfD)), v8, v9, j0, k0, none] ∧ bs.length ≤ j ∧ (∀ b ∈ bs, Sm b.1 ∧ Sm b.2) ∧ Pen pn (1000 * i + 70 + 10 * j)) ⟨_, _, _, _, [], rfl, by simp, by simp, hp4.le (by omega)⟩ ?_ ?_
      · rintro j2 ρ N2 hj ⟨pn, v3, v8, v9, bs, rfl, hbl, hbs, hp⟩ k2
        have addB : ∀ (pn : D) (v8 v9 : Option D) (x y : Nm), Sm x → Sm y → Pen pn (1000 * i + 70 + 10 * j2 + 9) → N2 [some (.list (ns.map .int)), some pn, some (.int (0 + (i : Int))), some (.int (0 + (j2 : Int))), some (.list (us.map .int)), some (.list ((nms us).map nmD)), some (.int far), some (.list (bs.map bfD ++ [bfD (x, y)])), v8, v9, j0, k0, none] := fun pn v8 v9 x y sx sy hp => by
          rw [show bs.map bfD ++ [bfD (x, y)] = (bs ++ [((x, y) : Bf)]).map bfD by simp]
          refine k2 _ ⟨pn, _, v8, v9, _, rfl, by simp; omega, fun b hb => ?_, hp.le (by omega)⟩
          rcases List.mem_append.mp hb with hb | hb
          · exact hbs b hb
          · rcases List.mem_singleton.mp hb with rfl
            exact ⟨sx, sy⟩
        have notB : ∀ (pn : D) (v8 v9 : Option D), Pen pn (1000 * i + 70 + 10 * j2 + 9) → N2 [some (.list (ns.map .int)), some pn, some (.int (0 + (i : Int))), some (.int (0 + (j2 : Int))), some (.list (us.map .int)), some (.list ((nms us).map nmD)), some (.int far), some (.list (bs.map bfD)), v8, v9, j0, k0, none] := fun pn v8 v9 hp =>
          k2 _ ⟨pn, _, v8, v9, bs, rfl, by omega, hbs, hp.le (by omega)⟩
        k_caughtN0
        refine lc_rng (fun i3 acc ρ => ∃ pn, ∃ xs : List Nm, ρ = [some (.list (ns.map .int)), some pn, some (.int (0 + (i : Int))), some (.int (0 + (j2 : Int))), some (.list (us.map .int)), some (.list ((nms us).map nmD)), some (.int far), some (.list (bs.map bfD)), v8, v9, j0, k0, none] ∧ acc = xs.map nmD ∧ xs.length = i3 ∧ (∀ x ∈ xs, Sm x) ∧ Pen pn (1000 * i + 70 + 10 * j2 + 2 * i3)) (by decide) ⟨_, [], rfl, rfl, rfl, by simp, hp.le (by omega)⟩ ?_ ?_
        · rintro i3 acc ρ N3 hi3 hl3 ⟨pn, xs, rfl, rfl, hxl, hxs, hp⟩ k3
          k_caughtN0
          rename_i a1 p5 _ _ hp5 a2 p6 _ _ hp6
          refine k3 _ _ (by simp [hxl]) ⟨_, xs ++ [((a1, a2) : Nm)], rfl, by rw [List.map_append]; rfl, by simp [hxl], fun x hx => ?_, hp6.le (by omega)⟩
          rcases List.mem_append.mp hx with hx | hx
          · exact hxs x hx
          · rcases List.mem_singleton.mp hx with rfl
            exact ⟨show a1.natAbs < 1000 by omega, show a2.natAbs < 1000 by omega⟩
        · rintro acc ρ ⟨pn, xs, rfl, rfl, hxl, hxs, hp⟩
          match xs, hxl with
          | [x, y], _ =>
            have sx := hxs x (by simp)
            have sy := hxs y (by simp)
            k_caughtN0
            refine ⟨nm_shA, shaped_l0, ?_⟩
            rw [nm_emp]
            by_cases he : nms us = []
            · have he2 : (nms us).isEmpty = true := by rw [he]; rfl
              rw [he2]
              k_caughtN0
              · exact addB _ _ _ x y sx sy (hp.le (by omega))
              · exact notB _ _ _ (hp.le (by omega))
            · have he2 : (nms us).isEmpty = false := by simpa using he
              rw [he2]
              have hn1 : (((nms us).map nmD).length : Int) ≤ 61 := by rw [List.length_map, nms_len]; omega
              have hn0 : 0 < (((nms us).map nmD).length : Int) := by
                rw [List.length_map]
                have := List.length_pos_iff.mpr he
                omega
              have snm : ∀ x ∈ nms us, Sm x := fun x hx => by
                obtain ⟨h1, h2, h3⟩ := nms_mem hx
                simp only [List.nil_append] at h3
                exact ⟨hus _ h1, by omega⟩
              k_caughtN0
              · rename_i hp9 x hx y hy _
                have sx := snm _ hx
                have sy := snm _ hy
                exact addB _ _ _ x y sx sy (hp9.le (by omega))
              · rename_i hp9 x hx y hy _
                exact notB _ _ _ (hp9.le (by omega))
              · rename_i hp9 _ _
                exact addB _ _ _ x y sx sy (hp9.le (by omega))
              · rename_i hp9 _ _
                exact notB _ _ _ (hp9.le (by omega))
      · rintro ρ ⟨pn, v3, v8, v9, bs, rfl, hbl, hbs, hp⟩
        have sh := kept_shw hbs hus (by omega) (by omega)
        have hc : cutG (bs.map bfD) none (some 1) = (bs.take 1).map bfD := by rw [cut_map, cut_to (by decide)]; rfl
        k_caughtN0
        rw [hc]
        refine ⟨by simp only [List.length_map, List.length_take]; show _ ≤ 16777216; omega, ?_⟩
        rw [← List.map_append]
        k_caughtN0
        · rename_i z
          exact absurd (keeps_more bs (nms us)) z
        · have z1 : keepsB [] (nms us) = true := rfl
          have z2 := keeps_no bs
          refine r_keeps (bs := []) (by omega) ?_
          rw [z1]
          k_caughtN0
          refine r_keeps (ts := []) (by simp) ?_
          rw [z2]
          k_caughtN0
          exact k _ ⟨_, _, _, _, _, _, _, _, _, _, _, rfl, hp.le (by omega)⟩
  · rintro ρ ⟨pn, a, b, c, d, e, f, g, h, j, k, rfl, hp⟩
    k_caughtN0
    exact q _
def top (i : Nat) : Stmt := PySem.Challenge.pw_replaytravel_k36_befores_kept.main.body.getD i (.Pass ⟨0, 0, 0, 0⟩)
abbrev FnP (K : PySem.W.Frag) (x : Str) (st : Stmt) (f : Addr) (fd : FuncData) : Prop := FunD K x x (defArgs st) (defBody st) (defScope st) [] [] f fd
abbrev s_names_of : Stmt := top 1
abbrev s_keeps : Stmt := top 3
abbrev s__law_pen : Stmt := top 5
abbrev s__law_draw : Stmt := top 6
abbrev s__law_named : Stmt := top 7
abbrev s__law_keeps : Stmt := top 8
abbrev s_law : Stmt := top 9
structure Txt (K : PySem.W.Frag) (w : World) (mg : Str → Option Value) : Prop where
  b_abs : mg "abs" = none
  b_enumerate : mg "enumerate" = none
  b_len : mg "len" = none
  b_list : mg "list" = none
  b_range : mg "range" = none
  b_repr : mg "repr" = none
  b_tuple : mg "tuple" = none
section
variable {P : Program} {K : PySem.W.Frag} {mg : Str → Option Value} {base : Heap}
abbrev b__law_pen := Pn.b_pen
abbrev pu__law_pen := @Pn.pu_pen
abbrev sp__law_pen := Pn.spPen
abbrev mo__law_pen := Pn.moPen
abbrev b__law_draw := Pn.b_pdraw
abbrev pu__law_draw := @Pn.pu_pdraw
abbrev sp__law_draw := Pn.spDraw
abbrev mo__law_draw := Pn.moDraw
theorem sc__law_pen : FnScope ["_law_script"] ["_law_script"] (defScope s__law_pen) := ⟨rfl, rfl, rfl, by decide +kernel, rfl, by decide +kernel, by decide +kernel⟩
theorem ok__law_pen {f : Addr} {fd : FuncData} (F : FnP K "_law_pen" s__law_pen f fd) (T : Txt K WorldC.w mg)  : FnG P WorldC.w K mg base (L2.CX P WorldC.w) 1 f fd ["_law_script"] (spOf K [(0, kS)] [(0, kS)] [(0, kS)] 1 (.lst .leaf) Pn.spPen) :=
  fndT F sc__law_pen rfl nx_no fun cv A outer s H E hr tk hp => ⟨_, b__law_pen, (dss_one (ds_retT (m := 0) (dr_df (df_lst (da_cons (de_t1 c_list s_list T.b_list (de_sliceS (j := 0) (pv 0) rfl do_none (do_some (de_int pe_int)))) (da_cons (de_int pe_int) (da_cons (de_int pe_int) da_nil))))))), pu__law_pen⟩
theorem sc__law_keeps : FnScope ["_law_befores", "_law_called", "_law_one", "_law_other"] ["_law_befores", "_law_called"] (defScope s__law_keeps) := ⟨rfl, rfl, rfl, by decide +kernel, rfl, by decide +kernel, by decide +kernel⟩
theorem ok__law_keeps {f : Addr} {fd : FuncData} (F : FnP K "_law_keeps" s__law_keeps f fd) (T : Txt K WorldC.w mg)  : FnG P WorldC.w K mg base (L2.CX P WorldC.w) 1 f fd ["_law_befores", "_law_called"] (spOf K [] [] [] 2 .leaf sp__law_keeps) :=
  fndT F sc__law_keeps rfl nx_leaf fun cv A outer s H E hr tk hp => ⟨_, b__law_keeps, (dss_cons (ds_for hp rfl (di_seq (de_var (pv 0))) (dg_tup rfl (dgs_cons (dg_name (i := 2) sc__law_keeps.nd) (dgs_cons (dg_name (i := 3) sc__law_keeps.nd) dgs_nil))) (dss_one (ds_if (DW.pt (dw_and (dt_cmp (o_in hr.u65) s_in (de_var (pv 3)) (de_var (pv 1)) rfl) (dw_and1 (dt_cmp (o_notIn hr.u65) s_notIn (de_var (pv 2)) (de_slice (de_var (pv 1)) do_none (do_some (de_lm PySem.F.slot_list_index PySem.F.type_list_index (mt_indexD hr.u65) s_index (de_var (pv 1)) (de_var (pv 3))))) rfl)))) (dss_one (ds_ret (n := 0) (de_bl pe_bl))) dss_nil)))
      (dss_one (ds_ret (n := 0) (de_bl pe_bl)))), pu__law_keeps⟩
theorem sc__law_draw : FnScope ["_law_pen_here", "_law_many", "_law_digit", "_law_turn", "_law_cell", "_law_primes", "_law_prime", "_law_mixed"] ["_law_pen_here", "_law_many"] (defScope s__law_draw) := ⟨rfl, rfl, rfl, by decide +kernel, rfl, by decide +kernel, by decide +kernel⟩
theorem ok__law_draw {f : Addr} {fd : FuncData} (F : FnP K "_law_draw" s__law_draw f fd) (T : Txt K WorldC.w mg)  : FnG P WorldC.w K mg base (L2.CX P WorldC.w) 1 f fd ["_law_pen_here", "_law_many"] (spOf K [(0, kL)] [(0, kL)] [(0, kL)] 2 .leaf Pn.spDraw) :=
  fndT F sc__law_draw rfl nx_leaf fun cv A outer s H E hr tk hp => ⟨_, b__law_draw, (dss_cons (ds_if (dt_cmp o_gt s_ord (de_ix (de_own (j := 0) (pv 0)) (de_int pe_int)) (de_int pe_int) (nomark _)) (dss_cons (ds_set (i := 2) sc__law_draw.nd (de_bin op_mod s_mod (de_ix (de_own (j := 0) (pv 0)) (de_int pe_int)) (de_var (pv 1))))
      (dss_cons (ds_put (i := 0) (j := 0) (pv 0) (de_bin op_fdiv s_div (de_ix (de_own (j := 0) (pv 0)) (de_int pe_int)) (de_var (pv 1))) (de_int pe_int))
      (dss_one (ds_ret (n := 0) (de_var (pv 2)))))) dss_nil)
      (dss_cons (ds_set (i := 3) sc__law_draw.nd (de_ix (de_own (j := 0) (pv 0)) (de_int pe_int)))
      (dss_cons (ds_put (i := 0) (j := 0) (pv 0) (de_bin o_add s_add (de_var (pv 3)) (de_int pe_int)) (de_int pe_int))
      (dss_cons (ds_set (i := 4) sc__law_draw.nd (de_int pe_int))
      (dss_cons (ds_if (dt_cmp (o_ne hr.u64) s_ne (de_ix (de_own (j := 0) (pv 0)) (de_int pe_int)) (de_lst da_nil) (nomark _)) (dss_one (ds_set (i := 4) sc__law_draw.nd (de_ix (de_ix (de_own (j := 0) (pv 0)) (de_int pe_int)) (de_bin op_mod s_mod (de_var (pv 3)) (de_b1 c_len s_len T.b_len (de_ix (de_own (j := 0) (pv 0)) (de_int pe_int))))))) dss_nil)
      (dss_cons (ds_if (DW.pt (dw_and (dt_cmp o_lt s_ord (de_var (pv 3)) (de_b1 c_len s_len T.b_len (de_ix (de_own (j := 0) (pv 0)) (de_int pe_int))) (nomark _)) (dw_and1 (dt_cmp o_ge s_ord (de_b1 call_abs s_abs T.b_abs (de_var (pv 4))) (de_bin op_pow s_pow (de_int pe_int) (de_int pe_int)) (nomark _))))) (dss_cons (ds_put (i := 0) (j := 0) (pv 0) (de_bin op_fdiv s_div (de_bin op_sub s_sub (de_b1 call_abs s_abs T.b_abs (de_var (pv 4))) (de_bin op_pow s_pow (de_int pe_int) (de_int pe_int))) (de_var (pv 1))) (de_int pe_int))
      (dss_one (ds_ret (n := 0) (de_bin op_mod s_mod (de_bin op_sub s_sub (de_b1 call_abs s_abs T.b_abs (de_var (pv 4))) (de_bin op_pow s_pow (de_int pe_int) (de_int pe_int))) (de_var (pv 1)))))) dss_nil)
      (dss_cons (ds_set (i := 5) sc__law_draw.nd (de_lst (da_cons (de_int pe_int) (da_cons (de_int pe_int) (da_cons (de_int pe_int) (da_cons (de_int pe_int) (da_cons (de_int pe_int) da_nil)))))))
      (dss_cons (ds_set (i := 6) sc__law_draw.nd (de_ix (de_var (pv 5)) (de_bin op_mod s_mod (de_var (pv 3)) (de_int pe_int))))
      (dss_cons (ds_set (i := 7) sc__law_draw.nd (de_bin op_mod s_mod (de_bin o_add s_add (de_bin o_add s_add (de_bin o_add s_add (de_bin o_mul s_mul (de_bin op_mod s_mod (de_var (pv 4)) (de_var (pv 6))) (de_int pe_int)) (de_bin o_mul s_mul (de_bin o_mul s_mul (de_int pe_int) (de_var (pv 3))) (de_var (pv 3)))) (de_bin o_mul s_mul (de_int pe_int) (de_var (pv 3)))) (de_int pe_int)) (de_var (pv 6))))
      (dss_cons (ds_set (i := 7) sc__law_draw.nd (de_bin op_mod s_mod (de_bin o_mul s_mul (de_var (pv 7)) (de_bin o_add s_add (de_var (pv 7)) (de_int pe_int))) (de_ix (de_var (pv 5)) (de_bin op_mod s_mod (de_bin o_add s_add (de_var (pv 3)) (de_int pe_int)) (de_int pe_int)))))
      (dss_one (ds_ret (n := 0) (de_bin op_mod s_mod (de_bin op_fdiv s_div (de_bin op_mod s_mod (de_bin o_mul s_mul (de_var (pv 7)) (de_var (pv 7))) (de_int pe_int)) (de_int pe_int)) (de_var (pv 1))))))))))))))), pu__law_draw⟩
theorem sc__law_named : FnScope ["_law_turns", "_law_k"] ["_law_turns"] (defScope s__law_named) := ⟨rfl, rfl, rfl, by decide +kernel, rfl, by decide +kernel, by decide +kernel⟩
theorem ok__law_named {f : Addr} {fd : FuncData} (F : FnP K "_law_named" s__law_named f fd) (T : Txt K WorldC.w mg)  : FnG P WorldC.w K mg base (L2.CX P WorldC.w) 1 f fd ["_law_turns"] (spOf K [] [] [] 1 .leaf sp__law_named) :=
  fndT F sc__law_named rfl nx_leaf fun cv A outer s H E hr tk hp => ⟨_, b__law_named, (dss_one (ds_ret (n := 0) (de_df (df_lcE (own := [("_law_k", 1)]) rfl sc__law_named.nd (di_range1 T.b_range (de_b1 c_len s_len T.b_len (de_var (pv 0)))) (blkOk_by (own := [("_law_k", 1)]) (N := ["_law_turns", "_law_k"]) (sc := defScope s__law_named) (by decide +kernel)) (fun _ _ _ _ _ => ⟨_, (dg_name (i := 1) sc__law_named.nd)⟩) (fun _ _ _ _ _ => ⟨_, dts_nil⟩) (fun _ _ _ _ _ => ⟨_, _, (de_tup (da_cons (de_ix (de_var (pv 0)) (de_var (pv 1))) (da_cons (de_lm PySem.F.slot_list_count PySem.F.type_list_count mt_lcount s_count (de_slice (de_var (pv 0)) do_none (do_some (de_var (pv 1)))) (de_ix (de_var (pv 0)) (de_var (pv 1)))) da_nil)))⟩))))), pu__law_named⟩
theorem sc_names_of : FnScope ["turns", "many", "found", "thread"] ["turns"] (defScope s_names_of) := ⟨rfl, rfl, rfl, by decide +kernel, rfl, by decide +kernel, by decide +kernel⟩
theorem ok_names_of {f : Addr} {fd : FuncData} (F : FnP K "names_of" s_names_of f fd) (T : Txt K WorldC.w mg)  : FnG P WorldC.w K mg base (L2.CX P WorldC.w) 1 f fd ["turns"] (spOf K [] [] [] 1 .leaf sp_names_of) :=
  fndT F sc_names_of rfl nx_leaf fun cv A outer s H E hr tk hp => ⟨_, b_names_of, (dss_cons (ds_bind (i := 1) sc_names_of.nd (dr_fr dfr_dnew))
      (dss_cons (ds_own (i := 2) sc_names_of.nd (df_lst da_nil))
      (dss_cons (ds_for hp rfl (di_seq (de_var (pv 0))) (dg_name (i := 3) sc_names_of.nd) (dss_cons (ds_append (i := 2) (j := 0) (pv 2) (de_tup (da_cons (de_var (pv 3)) (da_cons (de_dget2 hr.u1 (de_ownM (j := 1) (pv 1)) (de_var (pv 3)) (de_int pe_int)) da_nil))))
      (dss_one (ds_vdput (j := 1) hr.u1 (de_bin o_add s_add (de_dget2 hr.u1 (de_ownM (j := 1) (pv 1)) (de_var (pv 3)) (de_int pe_int)) (de_int pe_int)) (pv 1) (de_var (pv 3))))))
      (dss_one (ds_ret (n := 2) (de_own (j := 0) (pv 2))))))), pu_names_of⟩
theorem sc_keeps : FnScope ["befores", "turns", "places", "at", "name", "one", "other"] ["befores", "turns"] (defScope s_keeps) := ⟨rfl, rfl, rfl, by decide +kernel, rfl, by decide +kernel, by decide +kernel⟩
theorem ok_keeps {f : Addr} {fd : FuncData} (F : FnP K "keeps" s_keeps f fd) (T : Txt K WorldC.w mg) (C_names_of : CalG P WorldC.w K mg base (L2.CX P WorldC.w) 1 "names_of" ["turns"] [] (spOf K [] [] [] 1 .leaf sp_names_of)) : FnG P WorldC.w K mg base (L2.CX P WorldC.w) 2 f fd ["befores", "turns"] (spOf K [] [] [] 2 .leaf sp_keeps) :=
  fndT F sc_keeps rfl nx_leaf fun cv A outer s H E hr tk hp => ⟨_, b_keeps, (dss_cons (ds_bind (i := 2) sc_keeps.nd (dr_fr dfr_tnew))
      (dss_cons (ds_for hp rfl (di_enum T.b_enumerate (de_call mo_names_of C_names_of hr (da_cons (de_var (pv 1)) da_nil))) (dg_tup rfl (dgs_cons (dg_name (i := 3) sc_keeps.nd) (dgs_cons (dg_name (i := 4) sc_keeps.nd) dgs_nil))) (dss_one (ds_ptput hr.u9 (de_var (pv 3)) (dpl_var (j := 0) (pv 2)) (de_var (pv 4)))))
      (dss_cons (ds_for hp rfl (di_seq (de_var (pv 0))) (dg_tup rfl (dgs_cons (dg_name (i := 5) sc_keeps.nd) (dgs_cons (dg_name (i := 6) sc_keeps.nd) dgs_nil))) (dss_one (ds_if (DW.pt (dw_and (dt_tin hr.u9 (de_var (pv 6)) (de_ownT (j := 0) (pv 2))) (dw_and1 (DW.pt (dw_or (dt_tnotin hr.u9 (de_var (pv 5)) (de_ownT (j := 0) (pv 2))) (dw_or1 (dt_cmp o_ge s_ord (de_imm (de_tget hr.u9 (de_ownT (j := 0) (pv 2)) (de_var (pv 5)))) (de_imm (de_tget hr.u9 (de_ownT (j := 0) (pv 2)) (de_var (pv 6)))) (nomark _)))))))) (dss_one (ds_ret (n := 1) (de_bl pe_bl))) dss_nil)))
      (dss_one (ds_ret (n := 1) (de_bl pe_bl)))))), pu_keeps⟩
theorem sc_law : FnScope ["_law_script", "_law_pen_here", "_law_bout", "_law_k", "_law_turns", "_law_names", "_law_far", "_law_befores", "_law_some", "_law_at", "_law_kept", "_law_due", "_law_j"] ["_law_script"] (defScope s_law) := ⟨rfl, rfl, rfl, by decide +kernel, rfl, by decide +kernel, by decide +kernel⟩
theorem ok_law {f : Addr} {fd : FuncData} (F : FnP K "law" s_law f fd) (T : Txt K WorldC.w mg) (C__law_pen : CalG P WorldC.w K mg base (L2.CX P WorldC.w) 1 "_law_pen" ["_law_script"] [] (spOf K [(0, kS)] [(0, kS)] [(0, kS)] 1 (.lst .leaf) Pn.spPen)) (C__law_keeps : CalG P WorldC.w K mg base (L2.CX P WorldC.w) 1 "_law_keeps" ["_law_befores", "_law_called"] [] (spOf K [] [] [] 2 .leaf sp__law_keeps)) (C__law_draw : CalG P WorldC.w K mg base (L2.CX P WorldC.w) 1 "_law_draw" ["_law_pen_here", "_law_many"] [] (spOf K [(0, kL)] [(0, kL)] [(0, kL)] 2 .leaf Pn.spDraw)) (C__law_named : CalG P WorldC.w K mg base (L2.CX P WorldC.w) 1 "_law_named" ["_law_turns"] [] (spOf K [] [] [] 1 .leaf sp__law_named)) (C_keeps : CalG P WorldC.w K mg base (L2.CX P WorldC.w) 2 "keeps" ["befores", "turns"] [] (spOf K [] [] [] 2 .leaf sp_keeps)) : FnG P WorldC.w K mg base (L2.CX P WorldC.w) 3 f fd ["_law_script"] (spOf K [(0, kS)] [(0, kS)] [(0, kS)] 1 .leaf sp_law) :=
  fndT F sc_law rfl nx_leaf fun cv A outer s H E hr tk hp => ⟨_, b_law, (dss_cons (ds_bind (i := 1) sc_law.nd (dr_fr (dfr_scr (j := 0) mo__law_pen C__law_pen hr (pv 0))))
      (dss_cons (ds_for hp rfl (di_range1 T.b_range (de_int pe_int)) (dg_name (i := 2) sc_law.nd) (dss_endAt (i := 7) (k := kL) (l2 := [(1, kL), (0, kS)]) [] (dss_cons (ds_lcSet (dlcE (i := 4) (own := [("_law_k", 3)]) rfl sc_law.nd (di_range1 T.b_range (de_call1 mo__law_draw C__law_draw hr (dgp_v (n := 0) (pv 1) (da_cons (de_ix (de_lst (da_cons (de_int pe_int) (da_cons (de_int pe_int) (da_cons (de_int pe_int) da_nil)))) (de_call1 mo__law_draw C__law_draw hr (dgp_v (n := 0) (pv 1) (da_cons (de_int pe_int) da_nil)))) da_nil)))) (blkOk_by (own := [("_law_k", 3)]) (N := ["_law_script", "_law_pen_here", "_law_bout", "_law_k", "_law_turns", "_law_names", "_law_far", "_law_befores", "_law_some", "_law_at", "_law_kept", "_law_due", "_law_j"]) (sc := defScope s_law) (by decide +kernel)) (fun _ _ _ _ _ => ⟨_, (dg_name (i := 3) sc_law.nd)⟩) (fun _ _ _ _ _ => ⟨_, dts_nil⟩) (fun _ _ _ _ _ => ⟨_, _, (de_call1 mo__law_draw C__law_draw hr (dgp_v (n := 0) (pv 1) (da_cons (de_int pe_int) da_nil)))⟩)))
      (dss_cons (ds_tupO (is := [5, 6, 7]) (o := 7) rfl (dao_later (de_call mo__law_named C__law_named hr (da_cons (de_var (pv 4)) da_nil)) (dao_later (de_ix (de_lst (da_cons (de_int pe_int) (da_cons (de_int pe_int) (da_cons (de_int pe_int) da_nil)))) (de_call1 mo__law_draw C__law_draw hr (dgp_v (n := 0) (pv 1) (da_cons (de_int pe_int) da_nil)))) (dao_here (df_lst da_nil) da_nil))) (dgs_cons (dg_name (i := 5) sc_law.nd) (dgs_cons (dg_name (i := 6) sc_law.nd) (dgs_cons (dg_name (i := 7) sc_law.nd) dgs_nil))))
      (dss_cons (ds_for hp rfl (di_range1 T.b_range (de_call1 mo__law_draw C__law_draw hr (dgp_v (n := 1) (pv 1) (da_cons (de_int pe_int) da_nil)))) (dg_name (i := 3) sc_law.nd) (dss_cons (ds_lcSet (dlcE (i := 8) (own := [("_law_j", 12)]) rfl sc_law.nd (di_range1 T.b_range (de_int pe_int)) (blkOk_by (own := [("_law_j", 12)]) (N := ["_law_script", "_law_pen_here", "_law_bout", "_law_k", "_law_turns", "_law_names", "_law_far", "_law_befores", "_law_some", "_law_at", "_law_kept", "_law_due", "_law_j"]) (sc := defScope s_law) (by decide +kernel)) (fun _ _ _ _ _ => ⟨_, (dg_name (i := 12) sc_law.nd)⟩) (fun _ _ _ _ _ => ⟨_, dts_nil⟩) (fun _ _ _ _ _ => ⟨_, _, (de_tup (da_cons (de_call1 mo__law_draw C__law_draw hr (dgp_v (n := 1) (pv 1) (da_cons (de_int pe_int) da_nil))) (da_cons (de_call1 mo__law_draw C__law_draw hr (dgp_v (n := 1) (pv 1) (da_cons (de_var (pv 6)) da_nil))) da_nil)))⟩)))
      (dss_cons (ds_if (DW.pt (dw_and (dt_cmp (o_ne hr.u64) s_ne (de_var (pv 5)) (de_lst da_nil) (nomark _)) (dw_and1 (dt_cmp (o_eq hr.u64) s_eq (de_call1 mo__law_draw C__law_draw hr (dgp_v (n := 1) (pv 1) (da_cons (de_int pe_int) da_nil))) (de_int pe_int) (nomark _))))) (dss_cons (ds_set (i := 9) sc_law.nd (de_call1 mo__law_draw C__law_draw hr (dgp_v (n := 1) (pv 1) (da_cons (de_b1 c_len s_len T.b_len (de_var (pv 5))) da_nil))))
      (dss_one (ds_set (i := 8) sc_law.nd (de_lst (da_cons (de_ix (de_var (pv 5)) (de_call1 mo__law_draw C__law_draw hr (dgp_v (n := 1) (pv 1) (da_cons (de_bin o_add s_add (de_var (pv 9)) (de_int pe_int)) da_nil)))) (da_cons (de_ix (de_var (pv 5)) (de_var (pv 9))) da_nil)))))) dss_nil)
      (dss_one (ds_if (dt_cmp (o_ne hr.u64) s_ne (de_ix (de_var (pv 8)) (de_int pe_int)) (de_ix (de_var (pv 8)) (de_int pe_int)) (nomark _)) (dss_one (ds_append (i := 7) (j := 0) (pv 7) (de_t1 c_tuple s_tuple T.b_tuple (de_var (pv 8))))) dss_nil)))))
      (dss_cons (ds_set (i := 10) sc_law.nd (de_imm (de_b1 (c_reprX hr) s_reprX T.b_repr (de_tup (da_cons (de_own (j := 0) (pv 7)) (da_cons (de_var (pv 4)) da_nil))))))
      (dss_cons (ds_set (i := 11) sc_law.nd (de_imm (de_call mo__law_keeps C__law_keeps hr (da_cons (de_own (j := 0) (pv 7)) (da_cons (de_var (pv 5)) da_nil)))))
      (dss_cons (ds_if (DW.pt (dw_or (dt_cmp (o_ne hr.u64) s_ne (de_b1 (c_reprX hr) s_reprX T.b_repr (de_imm (de_call mo_keeps C_keeps hr (da_cons (de_own (j := 0) (pv 7)) (da_cons (de_var (pv 4)) da_nil))))) (de_b1 (c_reprX hr) s_reprX T.b_repr (de_var (pv 11))) (nomark _)) (dw_or1 (dt_cmp (o_ne hr.u64) s_ne (de_call mo_keeps C_keeps hr (da_cons (de_bin o_add s_add (de_own (j := 0) (pv 7)) (de_slice (de_own (j := 0) (pv 7)) do_none (do_some (de_int pe_int)))) (da_cons (de_var (pv 4)) da_nil))) (de_var (pv 11)) (nomark _))))) (dss_one (ds_ret (n := 2) (de_bl pe_bl))) dss_nil)
      (dss_one (ds_if (DW.pt (dw_or (dt_cmp (o_ne hr.u64) s_ne (de_imm (de_b1 (c_reprX hr) s_reprX T.b_repr (de_tup (da_cons (de_own (j := 0) (pv 7)) (da_cons (de_var (pv 4)) da_nil))))) (de_var (pv 10)) (nomark _)) (dw_or (dt_cmp op_notBl s_notB (de_call mo_keeps C_keeps hr (da_cons (de_lst da_nil) (da_cons (de_var (pv 4)) da_nil))) (de_bl pe_bl) (nomark _)) (dw_or1 (dt_cmp op_notBl s_notB (de_imm (de_call mo_keeps C_keeps hr (da_cons (de_own (j := 0) (pv 7)) (da_cons (de_lst da_nil) da_nil)))) (de_bl pe_bl) (nomark _)))))) (dss_one (ds_ret (n := 2) (de_bl pe_bl))) dss_nil))))))))))
      (dss_one (ds_ret (n := 1) (de_bl pe_bl))))), pu_law⟩
end
end K36
namespace K36
open PySem L2 Vt Pn
/-! ### the head -/
def dd__law_pen : He.DefD := ⟨("_law_pen", none), "_law_pen", "_law_pen", defArgs s__law_pen, defBody s__law_pen, defScope s__law_pen, [], []⟩
def dd__law_keeps : He.DefD := ⟨("_law_keeps", none), "_law_keeps", "_law_keeps", defArgs s__law_keeps, defBody s__law_keeps, defScope s__law_keeps, [], []⟩
def dd__law_draw : He.DefD := ⟨("_law_draw", none), "_law_draw", "_law_draw", defArgs s__law_draw, defBody s__law_draw, defScope s__law_draw, [], []⟩
def dd__law_named : He.DefD := ⟨("_law_named", none), "_law_named", "_law_named", defArgs s__law_named, defBody s__law_named, defScope s__law_named, [], []⟩
def dd_names_of : He.DefD := ⟨("names_of", none), "names_of", "names_of", defArgs s_names_of, defBody s_names_of, defScope s_names_of, [], []⟩
def dd_keeps : He.DefD := ⟨("keeps", none), "keeps", "keeps", defArgs s_keeps, defBody s_keeps, defScope s_keeps, [], []⟩
def dd_law : He.DefD := ⟨("law", none), "law", "law", defArgs s_law, defBody s_law, defScope s_law, [], []⟩
def fn : List He.DefD := [dd__law_pen, dd__law_keeps, dd__law_draw, dd__law_named, dd_names_of, dd_keeps, dd_law]
def fa : List He.Fa := [.glo "_law_pen", .glo "_law_keeps", .glo "_law_draw", .glo "_law_named", .glo "names_of", .glo "keeps", .glo "law", .free "abs", .free "enumerate", .free "len", .free "list", .free "range", .free "repr", .free "tuple"]
def loose : List PySem.Str := (["__name__", "names_of", "keeps", "_law_pen", "_law_draw", "_law_named", "_law_keeps"] : List PySem.Str)
abbrev R : PySem.W.OpenRow := PySem.W.OpenLaw.row PySem.Challenge.rw_replaytravel_k36_befores_kept
abbrev hk : PySem.W.Hook := He.hookD 4 fa fn
def ob (s : PySem.W.SharedT) : He.AlD := He.obsDG 4 fa fn (HandSHeadRun.getT s)
theorem ob_eq (s : PySem.W.SharedT) : ob s = hk.obs s.abs := He.obsDG_eq (HandSHeadRun.getT_eq s)
theorem run (w : World) : HandSHeadRun.RunEq R (PySem.W.view R.prog [9]) hk ob 600 loose w := by
  intro os
  kernel_rfl
theorem facts [WorldC] {P : Program} {K : PySem.W.Frag} {h : Heap} {mg : Str → Option Value} {f : Addr} (X : K.In h) (G : h.Ns mainGlobals mg) (hfa : mg ("law" : Str) = some (.ref f)) (c : He.SaysD fa fn K) :
    ∃ fd : FuncData, (∀ (s : Shared) (v : Value), BindsTo s fd ⟨[v], []⟩ [("_law_script", v)]) ∧ ∀ base : Heap, K.In base → base.Ns mainGlobals mg → FnG P WorldC.w K mg base (L2.CX P WorldC.w) 3 f fd ["_law_script"] (spOf K [(0, kS)] [(0, kS)] [(0, kS)] 1 .leaf sp_law) := by
  obtain ⟨fd__law_pen, F__law_pen⟩ := c.def_ 0 (d := dd__law_pen) rfl
  have g__law_pen := He.glo_ok X G (c.fact 0 (f := .glo "_law_pen") rfl)
  obtain ⟨fd__law_keeps, F__law_keeps⟩ := c.def_ 1 (d := dd__law_keeps) rfl
  have g__law_keeps := He.glo_ok X G (c.fact 1 (f := .glo "_law_keeps") rfl)
  obtain ⟨fd__law_draw, F__law_draw⟩ := c.def_ 2 (d := dd__law_draw) rfl
  have g__law_draw := He.glo_ok X G (c.fact 2 (f := .glo "_law_draw") rfl)
  obtain ⟨fd__law_named, F__law_named⟩ := c.def_ 3 (d := dd__law_named) rfl
  have g__law_named := He.glo_ok X G (c.fact 3 (f := .glo "_law_named") rfl)
  obtain ⟨fd_names_of, F_names_of⟩ := c.def_ 4 (d := dd_names_of) rfl
  have g_names_of := He.glo_ok X G (c.fact 4 (f := .glo "names_of") rfl)
  obtain ⟨fd_keeps, F_keeps⟩ := c.def_ 5 (d := dd_keeps) rfl
  have g_keeps := He.glo_ok X G (c.fact 5 (f := .glo "keeps") rfl)
  obtain ⟨fd_law, F_law⟩ := c.def_ 6 (d := dd_law) rfl
  have g_law := He.glo_ok X G (c.fact 6 (f := .glo "law") rfl)
  have e := hfa.symm.trans g_law
  cases e
  have T : Txt K WorldC.w mg := ⟨(He.free_ok X G (c.fact 7 (f := .free "abs") rfl)), (He.free_ok X G (c.fact 8 (f := .free "enumerate") rfl)), (He.free_ok X G (c.fact 9 (f := .free "len") rfl)), (He.free_ok X G (c.fact 10 (f := .free "list") rfl)), (He.free_ok X G (c.fact 11 (f := .free "range") rfl)), (He.free_ok X G (c.fact 12 (f := .free "repr") rfl)), (He.free_ok X G (c.fact 13 (f := .free "tuple") rfl))⟩
  have b := FunD.bindsA (ps := ["_law_script"]) F_law fun _ _ _ _ _ _ us hl => match us, hl with | [_], _ => rfl
  refine ⟨fd_law, fun s v => b s [v] rfl, fun base hb1 hb2 => ?_⟩
  have O__law_pen : FnG P WorldC.w K mg base (L2.CX P WorldC.w) 1 _ fd__law_pen ["_law_script"] (spOf K [(0, kS)] [(0, kS)] [(0, kS)] 1 (.lst .leaf) Pn.spPen) := ok__law_pen F__law_pen T 
  have C__law_pen : CalG P WorldC.w K mg base (L2.CX P WorldC.w) 1 "_law_pen" ["_law_script"] [] (spOf K [(0, kS)] [(0, kS)] [(0, kS)] 1 (.lst .leaf) Pn.spPen) := ⟨_, _, [], O__law_pen, g__law_pen, F__law_pen.kp, FunD.bindsN (ps := ["_law_script"]) F__law_pen (fun _ _ _ _ _ _ us hl => match us, hl with | [_], _ => rfl), .nil⟩
  have O__law_keeps : FnG P WorldC.w K mg base (L2.CX P WorldC.w) 1 _ fd__law_keeps ["_law_befores", "_law_called"] (spOf K [] [] [] 2 .leaf sp__law_keeps) := ok__law_keeps F__law_keeps T 
  have C__law_keeps : CalG P WorldC.w K mg base (L2.CX P WorldC.w) 1 "_law_keeps" ["_law_befores", "_law_called"] [] (spOf K [] [] [] 2 .leaf sp__law_keeps) := ⟨_, _, [], O__law_keeps, g__law_keeps, F__law_keeps.kp, FunD.bindsN (ps := ["_law_befores", "_law_called"]) F__law_keeps (fun _ _ _ _ _ _ us hl => match us, hl with | [_, _], _ => rfl), .nil⟩
  have O__law_draw : FnG P WorldC.w K mg base (L2.CX P WorldC.w) 1 _ fd__law_draw ["_law_pen_here", "_law_many"] (spOf K [(0, kL)] [(0, kL)] [(0, kL)] 2 .leaf Pn.spDraw) := ok__law_draw F__law_draw T 
  have C__law_draw : CalG P WorldC.w K mg base (L2.CX P WorldC.w) 1 "_law_draw" ["_law_pen_here", "_law_many"] [] (spOf K [(0, kL)] [(0, kL)] [(0, kL)] 2 .leaf Pn.spDraw) := ⟨_, _, [], O__law_draw, g__law_draw, F__law_draw.kp, FunD.bindsN (ps := ["_law_pen_here", "_law_many"]) F__law_draw (fun _ _ _ _ _ _ us hl => match us, hl with | [_, _], _ => rfl), .nil⟩
  have O__law_named : FnG P WorldC.w K mg base (L2.CX P WorldC.w) 1 _ fd__law_named ["_law_turns"] (spOf K [] [] [] 1 .leaf sp__law_named) := ok__law_named F__law_named T 
  have C__law_named : CalG P WorldC.w K mg base (L2.CX P WorldC.w) 1 "_law_named" ["_law_turns"] [] (spOf K [] [] [] 1 .leaf sp__law_named) := ⟨_, _, [], O__law_named, g__law_named, F__law_named.kp, FunD.bindsN (ps := ["_law_turns"]) F__law_named (fun _ _ _ _ _ _ us hl => match us, hl with | [_], _ => rfl), .nil⟩
  have O_names_of : FnG P WorldC.w K mg base (L2.CX P WorldC.w) 1 _ fd_names_of ["turns"] (spOf K [] [] [] 1 .leaf sp_names_of) := ok_names_of F_names_of T 
  have C_names_of : CalG P WorldC.w K mg base (L2.CX P WorldC.w) 1 "names_of" ["turns"] [] (spOf K [] [] [] 1 .leaf sp_names_of) := ⟨_, _, [], O_names_of, g_names_of, F_names_of.kp, FunD.bindsN (ps := ["turns"]) F_names_of (fun _ _ _ _ _ _ us hl => match us, hl with | [_], _ => rfl), .nil⟩
  have O_keeps : FnG P WorldC.w K mg base (L2.CX P WorldC.w) 2 _ fd_keeps ["befores", "turns"] (spOf K [] [] [] 2 .leaf sp_keeps) := ok_keeps F_keeps T C_names_of
  have C_keeps : CalG P WorldC.w K mg base (L2.CX P WorldC.w) 2 "keeps" ["befores", "turns"] [] (spOf K [] [] [] 2 .leaf sp_keeps) := ⟨_, _, [], O_keeps, g_keeps, F_keeps.kp, FunD.bindsN (ps := ["befores", "turns"]) F_keeps (fun _ _ _ _ _ _ us hl => match us, hl with | [_, _], _ => rfl), .nil⟩
  exact ok_law F_law T C__law_pen C__law_keeps C__law_draw C__law_named C_keeps
end K36
open PySem PySem.W PySem.Calls PyProof.Rows
set_option maxHeartbeats 0 in
theorem PySem.Challenge.cw_replaytravel_k36_befores_kept_holds : PySem.Challenge.rw_replaytravel_k36_befores_kept.Holds := by
  w_on; o_law
  refine HandSHeadRun.head_any (r := OpenLaw.row PySem.Challenge.rw_replaytravel_k36_befores_kept) (q := view (OpenLaw.row PySem.Challenge.rw_replaytravel_k36_befores_kept).prog [9]) (H := K36.hk) (ob := K36.ob) (M := 600) (loose := K36.loose) (d := HandSHeadRun.topDef (OpenLaw.row PySem.Challenge.rw_replaytravel_k36_befores_kept).prog 9) (kwd := []) K36.ob_eq
    (by kernel_rfl) (fun s => by kernel_rfl) K36.run (by kernel_rfl) (by kernel_rfl) (by kernel_rfl) (by rfl) (by first | assumption | decide +kernel) (by decide +kernel) ⟨rfl, rfl, rfl, rfl, rfl, by decide +kernel⟩ ?hw ?hc
  case hw => w_witness2
  case hc =>
    refine Vt.walk_gw (l := PySem.Challenge.rw_replaytravel_k36_befores_kept) (n := 63) (k := 3) (x := "_law_script") rfl (by decide) (by kernel_rfl) ⟨rfl, by decide, by decide⟩ ?F
    intro w mg fa h Y G hmg0
    obtain ⟨K, KX, c⟩ := Y
    have hmg : mg ("law" : PySem.Str) = some (.ref fa) := by
      have e : (HandSHeadRun.topDef (OpenLaw.row PySem.Challenge.rw_replaytravel_k36_befores_kept).prog 9).name = ("law" : PySem.Str) := by kernel_rfl
      rw [← e]
      exact hmg0
    letI : Vt.WorldC := ⟨w⟩
    obtain ⟨fd, hb, hF⟩ := K36.facts (P := (PySem.Challenge.rw_replaytravel_k36_befores_kept).prog) KX G hmg c
    exact ⟨K, fd, _, KX, hb, fun H a ns hl o hS => Vt.law_start hS o (K36.law_ok hl), hF⟩
