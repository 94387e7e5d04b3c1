import Derived.Test.YtnafknkchbfpaaaGreatDoorGB
namespace Go.Bl
open Go.RowKit
set_option linter.unusedVariables false
inductive PV where
 | v (x : Value)
 | l (xs : List PV)
 | p (xs : List PV)
 | a (xs : List PV)
 | t (xs : List PV)
 | i (t : TypeId) (x : PV)
 | f (fn : Fn) (first caps : List PV)
 deriving Inhabited
def PV.cells : PV -> List PV
 | .a xs => xs
 | x => [x]
def PV.one : PV -> Bool
 | .a _ => false
 | .t _ => false
 | _ => true
def PV.free : PV -> Bool
 | .v _ => true
 | .i _ (.v _) => true
 | _ => false
mutual
inductive je (A : Nat -> Prop) (w : World) : PV -> Value -> Prop
 | v {x : Value} : x.oneCell' = true -> je A w (.v x) x
 | l {xs : List PV} {ad : Option Addr} {cap s : Nat} {us : List Value} : qj A w (xs.flatMap PV.cells) us -> (∀ x ∈ xs, x.cells.length = s) -> (∀ x ∈ xs, ∀ c ∈ x.cells, c.one = true) -> 0 < s -> xs.length <= cap -> cap <= maxLen -> Row A w ad us ->
   je A w (.l xs) (.slice ad xs.length cap)
 | p {xs : List PV} {ad : Addr} {us : List Value} : qj A w xs us -> (∀ c ∈ xs, c.one = true) -> Row A w (some ad) us -> je A w (.p xs) (.pointer (some ad))
 | a {xs : List PV} {us : List Value} : qj A w xs us -> (∀ c ∈ xs, c.one = true) -> je A w (.a xs) (.agg us.toArray)
 | t {xs : List PV} {us : List Value} : qj A w xs us -> je A w (.t xs) (.tuple us.toArray)
 | i {t : TypeId} {x : PV} {u : Value} : je A w x u -> je A w (.i t x) (.iface t u)
 | f {fn : Fn} {xs ys : List PV} {us zs : List Value} : qj A w xs us -> qj A w ys zs -> je A w (.f fn xs ys) (.func fn us.toArray zs.toArray)
inductive qj (A : Nat -> Prop) (w : World) : List PV -> List Value -> Prop
 | nil : qj A w [] []
 | cons {x : PV} {u : Value} {xs : List PV} {us : List Value} : je A w x u -> qj A w xs us -> qj A w (x :: xs) (u :: us)
end
structure j8 (A A' : Nat -> Prop) (w w' : World) : Prop where
 heap : ∀ b, b < w.heap.size -> ¬ A b -> w'.heap[b]? = w.heap[b]?
 out : ∀ b, b < w.heap.size -> A' b -> A b
theorem j8.refl (A : Nat -> Prop) (w : World) : j8 A A w w := ⟨fun _ _ _ => rfl, fun _ _ h => h⟩
theorem Row.stay {A A' : Nat -> Prop} {w w' : World} {ad : Option Addr} {cs : List Value} (h : Row A w ad cs) (k : j8 A A' w w') : Row A' w' ad cs := by
 rcases h with h | ⟨b, off, c, e, fz, rfl, hn, hb, hc⟩
 ·exact .inl h
 ·have hl := ql hb
  exact .inr ⟨b, off, c, e, fz, rfl, fun h => hn (k.out b hl h), by rw [k.heap b hl hn]; exact hb, hc⟩
mutual
theorem je.stay {A A' : Nat -> Prop} {w w' : World} (k : j8 A A' w w') : ∀ {x : PV} {u : Value}, je A w x u -> je A' w' x u
 | _, _, .v h => .v h
 | _, _, .l h h1 h2 h3 h4 h5 h6 => .l (qj.stay k h) h1 h2 h3 h4 h5 (h6.stay k)
 | _, _, .p h h1 h2 => .p (qj.stay k h) h1 (h2.stay k)
 | _, _, .a h h1 => .a (qj.stay k h) h1
 | _, _, .t h => .t (qj.stay k h)
 | _, _, .i h => .i (je.stay k h)
 | _, _, .f h h1 => .f (qj.stay k h) (qj.stay k h1)
theorem qj.stay {A A' : Nat -> Prop} {w w' : World} (k : j8 A A' w w') : ∀ {xs : List PV} {us : List Value}, qj A w xs us -> qj A' w' xs us
 | _, _, .nil => .nil
 | _, _, .cons h h1 => .cons (je.stay k h) (qj.stay k h1)
end
theorem je.free {A A' : Nat -> Prop} {w w' : World} {x : PV} {u : Value} (h : je A w x u) (hx : x.free = true) : je A' w' x u := by
 cases h with
 | v h => exact .v h
 | i h =>
  cases h with
  | v h => exact .i (.v h)
  | _ => cases hx
 | _ => cases hx
theorem qj.length {A : Nat -> Prop} {w : World} : ∀ {xs : List PV} {us : List Value}, qj A w xs us -> xs.length = us.length
 | _, _, .nil => rfl
 | _, _, .cons _ h => by simp [qj.length h]
theorem qj.get {A : Nat -> Prop} {w : World} : ∀ {xs : List PV} {us : List Value}, qj A w xs us -> ∀ {i : Nat} {x : PV}, xs[i]? = some x -> ∃ u, us[i]? = some u /\ je A w x u
 | _, _, .nil, _, _, h => by simp at h
 | _, _, .cons h h1, 0, _, e => by simp at e; subst e; exact ⟨_, rfl, h⟩
 | _, _, .cons h h1, i + 1, _, e => by simp at e; obtain ⟨u, h2, h3⟩ := qj.get h1 e; exact ⟨u, by simpa using h2, h3⟩
theorem qj.app {A : Nat -> Prop} {w : World} : ∀ {xs : List PV} {us : List Value}, qj A w xs us -> ∀ {ys : List PV} {zs : List Value}, qj A w ys zs -> qj A w (xs ++ ys) (us ++ zs)
 | _, _, .nil, _, _, h => h
 | _, _, .cons h h1, _, _, h2 => .cons h (qj.app h1 h2)
theorem qj.split {A : Nat -> Prop} {w : World} : ∀ {xs ys : List PV} {us : List Value}, qj A w (xs ++ ys) us -> ∃ u1 u2, us = u1 ++ u2 /\ qj A w xs u1 /\ qj A w ys u2
 | [], ys, us, h => ⟨[], us, rfl, .nil, h⟩
 | x :: xs, ys, _, .cons h h1 => by
  obtain ⟨u1, u2, e, h2, h3⟩ := qj.split h1
  exact ⟨_ :: u1, u2, by rw [e]; rfl, .cons h h2, h3⟩
theorem qj.take {A : Nat -> Prop} {w : World} : ∀ {xs : List PV} {us : List Value}, qj A w xs us -> ∀ (k : Nat), qj A w (xs.take k) (us.take k)
 | _, _, .nil, k => by simp; exact .nil
 | _, _, .cons h h1, 0 => .nil
 | _, _, .cons h h1, k + 1 => .cons h (qj.take h1 k)
theorem qj.drop {A : Nat -> Prop} {w : World} : ∀ {xs : List PV} {us : List Value}, qj A w xs us -> ∀ (k : Nat), qj A w (xs.drop k) (us.drop k)
 | _, _, .nil, k => by simp; exact .nil
 | _, _, .cons h h1, 0 => .cons h h1
 | _, _, .cons h h1, k + 1 => qj.drop h1 k
theorem qj.set {A : Nat -> Prop} {w : World} {x : PV} {u : Value} (hx : je A w x u) : ∀ {xs : List PV} {us : List Value}, qj A w xs us -> ∀ (k : Nat), qj A w (xs.set k x) (us.set k u)
 | _, _, .nil, k => by simp; exact .nil
 | _, _, .cons h h1, 0 => .cons hx h1
 | _, _, .cons h h1, k + 1 => .cons h (qj.set hx h1 k)
theorem qj.replicate {A : Nat -> Prop} {w : World} {x : PV} {u : Value} (hx : je A w x u) : ∀ (k : Nat), qj A w (List.replicate k x) (List.replicate k u)
 | 0 => .nil
 | k + 1 => .cons hx (qj.replicate hx k)
theorem je.one {A : Nat -> Prop} {w : World} {x : PV} {u : Value} (h : je A w x u) (hx : x.one = true) : u.oneCell' = true := by
 cases h with
 | v h => exact h
 | a h h1 => cases hx
 | t h => cases hx
 | _ => rfl
theorem qj.ones {A : Nat -> Prop} {w : World} : ∀ {xs : List PV} {us : List Value}, qj A w xs us -> (∀ x ∈ xs, x.one = true) -> ∀ u ∈ us, u.oneCell' = true
 | _, _, .nil, _, u, h => by cases h
 | _, _, .cons h h1, ho, u, hu => by
  rcases List.mem_cons.1 hu with rfl | hu
  ·exact h.one (ho _ List.mem_cons_self)
  ·exact qj.ones h1 (fun x hx => ho x (List.mem_cons_of_mem _ hx)) u hu
theorem Q2 {u : Value} (h : u.oneCell' = true) : u.cells = #[u] := by
 cases u <;> first | rfl | cases h
theorem je.cs {A : Nat -> Prop} {w : World} {x : PV} {u : Value} (h : je A w x u) (ht : ∀ xs, x ≠ .t xs) : qj A w x.cells u.cells.toList /\ ∀ c ∈ x.cells, c.one = true := by
 cases h with
 | a h h1 => exact ⟨by simpa [PV.cells, Value.cells] using h, h1⟩
 | t h => exact absurd rfl (ht _)
 | v h => exact ⟨by rw [Q2 h]; exact .cons (.v h) .nil, by simp [PV.cells, PV.one]⟩
 | l h h1 h2 h3 h4 h5 h6 => exact ⟨.cons (.l h h1 h2 h3 h4 h5 h6) .nil, by simp [PV.cells, PV.one]⟩
 | p h h1 h2 => exact ⟨.cons (.p h h1 h2) .nil, by simp [PV.cells, PV.one]⟩
 | i h => exact ⟨.cons (.i h) .nil, by simp [PV.cells, PV.one]⟩
 | f h h1 => exact ⟨.cons (.f h h1) .nil, by simp [PV.cells, PV.one]⟩
theorem je.nil (A : Nat -> Prop) (w : World) : je A w (.l []) (.slice none 0 0) := .l (s := 1) (xs := []) .nil qf qf qd (Nat.le_refl _) (by simp [maxLen]) (.inl rfl)
end Go.Bl
namespace Go.Bl
open Go.RowKit
inductive AV where
 | pv (x : PV)
 | nil
 | ref (n i j : Nat)
 | own (n : Nat)
 | sl (n off len : Nat)
 | ag (xs : List AV)
 | tup (xs : List AV)
 | fn (f : Fn) (first caps : List AV)
 deriving Inhabited
inductive Ob where
 | row (e : TypeId) (s : Nat) (xs : List PV) (sh : Bool)
 | var (t : TypeId) (xs : List PV) (sh : Bool)
 | box (t : TypeId) (cs : List AV) (sh : Bool)
 deriving Inhabited
def Ob.sh : Ob -> Bool
 | .row _ _ _ b => b
 | .var _ _ b => b
 | .box _ _ b => b
def Ob.share : Ob -> Ob
 | .row e s xs _ => .row e s xs true
 | .var t xs _ => .var t xs true
 | .box t cs _ => .box t cs true
inductive RA where
 | pv (x : PV)
 | nil
 | own (e : TypeId) (s : Nat) (xs : List PV)
 | box (t : TypeId) (cs : List RA)
 | tup (xs : List RA)
 | any
 deriving Inhabited
def ja {α : Type} : List (Nat × α) -> Nat -> Option α
 | [], _ => none
 | (k, x) :: r, n => if n = k then some x else ja r n
structure St where
 slots : List (Nat × Option AV)
 objs : List (Nat × Option Ob)
def St.slot (σ : St) (s : Nat) : Option AV := (ja σ.slots s).join
def St.obj (σ : St) (n : Nat) : Option Ob := (ja σ.objs n).join
structure Out where
 val : Option AV
 objs : List (Nat × Option Ob)
def St.put (σ : St) (d : Option Nat) (o : Out) : St :=
 ⟨match d with | some d => (d, o.val) :: σ.slots | none => σ.slots, o.objs ++ σ.objs⟩
inductive RM (α : Type) where
 | ret (a : α)
 | fail
 | slot (s : Nat) (k : AV -> RM α)
 | obj (n : Nat) (k : Ob -> RM α)
 | chk (p : Unit -> Prop) (k : RM α)
 | brn (b : Bool) (k : Bool -> RM α)
 | call (f : FuncId) (k : List RA -> RA -> List RA -> RM α)
def RM.bind {α β : Type} : RM α -> (α -> RM β) -> RM β
 | .ret a, f => f a
 | .fail, _ => .fail
 | .slot s k, f => .slot s fun x => (k x).bind f
 | .obj n k, f => .obj n fun x => (k x).bind f
 | .chk p k, f => .chk p (k.bind f)
 | .brn b k, f => .brn b fun x => (k x).bind f
 | .call g k, f => .call g fun x y z => (k x y z).bind f
inductive Lc where
 | s (n : Nat)
 | o (n : Nat)
 deriving DecidableEq
def RM.vc {α : Type} (C : FuncId -> List RA -> RA -> List RA -> Prop) (σ : St) : RM α -> (α -> List Lc -> Prop) -> Prop
 | .ret a, K => K a []
 | .fail, _ => False
 | .slot s k, K => match σ.slot s with
  | some x => (k x).vc C σ fun a l => K a (.s s :: l)
  | none => False
 | .obj n k, K => match σ.obj n with
  | some x => (k x).vc C σ fun a l => K a (.o n :: l)
  | none => False
 | .chk p k, K => (∀ u, p u) /\ k.vc C σ K
 | .brn b k, K => (b = true -> (k true).vc C σ K) /\ (b = false -> (k false).vc C σ K)
 | .call f k, K => ∃ xs r ys, C f xs r ys /\ (k xs r ys).vc C σ K
def RM.runs {α : Type} (C : FuncId -> List RA -> RA -> List RA -> Prop) (σ : St) : RM α -> α -> List Lc -> Prop
 | .ret a, b, l => b = a /\ l = []
 | .fail, _, _ => False
 | .slot s k, b, l => ∃ x l', σ.slot s = some x /\ l = .s s :: l' /\ (k x).runs C σ b l'
 | .obj n k, b, l => ∃ x l', σ.obj n = some x /\ l = .o n :: l' /\ (k x).runs C σ b l'
 | .chk p k, b, l => (∀ u, p u) /\ k.runs C σ b l
 | .brn c k, b, l => (k c).runs C σ b l
 | .call f k, b, l => ∃ xs r ys, C f xs r ys /\ (k xs r ys).runs C σ b l
theorem RM.runs_of_vc {α : Type} {C : FuncId -> List RA -> RA -> List RA -> Prop} {σ : St} : ∀ {m : RM α} {K : α -> List Lc -> Prop}, m.vc C σ K -> ∃ a l, m.runs C σ a l /\ K a l
 | .ret a, K, h => ⟨a, [], ⟨rfl, rfl⟩, h⟩
 | .fail, K, h => h.elim
 | .slot s k, K, h => by
  simp only [RM.vc] at h
  split at h
  ·rename_i x hx
   obtain ⟨a, l, h1, h2⟩ := runs_of_vc h
   exact ⟨a, _, ⟨x, l, hx, rfl, h1⟩, h2⟩
  ·exact Y23
 | .obj n k, K, h => by
  simp only [RM.vc] at h
  split at h
  ·rename_i x hx
   obtain ⟨a, l, h1, h2⟩ := runs_of_vc h
   exact ⟨a, _, ⟨x, l, hx, rfl, h1⟩, h2⟩
  ·exact Y23
 | .chk p k, K, h => by
  obtain ⟨a, l, h1, h2⟩ := runs_of_vc h.2
  exact ⟨a, l, ⟨h.1, h1⟩, h2⟩
 | .brn b k, K, h => by
  cases b
  ·obtain ⟨a, l, h1, h2⟩ := runs_of_vc (h.2 rfl); exact ⟨a, l, h1, h2⟩
  ·obtain ⟨a, l, h1, h2⟩ := runs_of_vc (h.1 rfl); exact ⟨a, l, h1, h2⟩
 | .call f k, K, ⟨xs, r, ys, hc, h⟩ => by
  obtain ⟨a, l, h1, h2⟩ := runs_of_vc h
  exact ⟨a, l, ⟨xs, r, ys, hc, h1⟩, h2⟩
def Lc.same (σ τ : St) : Lc -> Prop
 | .s n => σ.slot n = τ.slot n
 | .o n => σ.obj n = τ.obj n
theorem RM.runs_local {α : Type} {C : FuncId -> List RA -> RA -> List RA -> Prop} {σ τ : St} : ∀ {m : RM α} {a : α} {l : List Lc}, m.runs C σ a l -> (∀ c ∈ l, c.same σ τ) -> m.runs C τ a l
 | .ret _, _, _, h, _ => h
 | .fail, _, _, h, _ => h
 | .slot s k, _, _, ⟨x, l, hx, rfl, h⟩, hs => ⟨x, l, (hs _ List.mem_cons_self).symm.trans hx, rfl, runs_local h fun c hc => hs c (List.mem_cons_of_mem _ hc)⟩
 | .obj n k, _, _, ⟨x, l, hx, rfl, h⟩, hs => ⟨x, l, (hs _ List.mem_cons_self).symm.trans hx, rfl, runs_local h fun c hc => hs c (List.mem_cons_of_mem _ hc)⟩
 | .chk p k, _, _, ⟨hp, h⟩, hs => ⟨hp, runs_local h hs⟩
 | .brn b k, _, _, h, hs => runs_local (m := k b) h hs
 | .call f k, _, _, ⟨xs, r, ys, hc, h⟩, hs => ⟨xs, r, ys, hc, runs_local h hs⟩
end Go.Bl
namespace Go.Bl
open Go.RowKit
structure TI where
 size : Nat
 bytes : Nat
 zero : Option (Unit -> Value)
 desc : TypeDesc
structure Cx where
 h : (α : Type) -> (Unit -> α) -> α
 T : TypeId -> Option TI
 G : Nat -> Option (List PV)
 N : Nat
def TI.isAgg (i : TI) : Bool := match i.desc with | .struct _ => true | .array _ _ => true | _ => false
def noP : PV := .v (.bool false)
def jI : Value -> PV
 | .slice none 0 0 => .l []
 | x => .v x
def vp : Value -> AV
 | .slice none 0 0 => .nil
 | x => .pv (.v x)
def UX : List AV -> Option (List PV)
 | [] => some []
 | .pv x :: r => (UX r).map (x :: ·)
 | _ :: _ => none
def Vk (cs : List AV) : AV := match UX cs with | some xs => .pv (.a xs) | none => .ag cs
def Wx : Value -> AV
 | .slice none 0 0 => .nil
 | .agg cs => Vk (cs.toList.map vp)
 | x => .pv (.v x)
def Vy : List Value -> Bool
 | [] => true
 | x :: r => x.oneCell' && Vy r
def okV : Value -> Bool
 | .agg cs => Vy cs.toList
 | x => x.oneCell'
def vr : Value -> PV
 | .agg cs => .a (cs.toList.map jI)
 | x => jI x
def AV.cells : AV -> Option (List AV)
 | .pv (.a xs) => some (xs.map .pv)
 | .pv (.t _) => none
 | .ag xs => some xs
 | .tup _ => none
 | x => some [x]
def splice {α : Type} (off : Nat) (cs base : List α) : List α := base.take off ++ cs ++ base.drop (off + cs.length)
def Q5 (s : Nat) (xs : List PV) : Prop := ∀ x ∈ xs, x.cells.length = s
def PV.int : PV -> Int
 | .v (.int _ n) => n
 | _ => 0
def PV.bool : PV -> Bool
 | .v (.bool b) => b
 | _ => false
def PV.str : PV -> ByteArray
 | .v (.string s) => s
 | _ => .empty
def PV.val : PV -> Value
 | .v x => x
 | _ => .nilIface
def PV.els : PV -> List PV
 | .l xs => xs
 | .p xs => xs
 | _ => []
def Cx.flatF (X : Cx) : List Field -> Bool
 | [] => true
 | f :: r => match X.T f.type with | some ti => !ti.isAgg && X.flatF r | none => false
def Cx.flat (X : Cx) (d : TypeDesc) : Bool := match d with | .struct fs => X.flatF fs.toList | _ => false
def Cx.ex1 (X : Cx) (d : TypeDesc) (e : PV) : PV := match d with
 | .int k => .v (.int k (X.h _ fun _ => e.int))
 | .bool => .v (.bool (X.h _ fun _ => e.bool))
 | .string => .v (.string (X.h _ fun _ => e.str))
 | .slice _ => .l (X.h _ fun _ => e.els)
 | .pointer _ => .p (X.h _ fun _ => e.els)
 | .interface _ => .v (X.h _ fun _ => e.val)
 | _ => e
def Cx.shapeF (X : Cx) : List Field -> Option (List (TypeDesc × Nat))
 | [] => some []
 | f :: r => match X.T f.type with
  | some ti => match ti.isAgg with
   | true => none
   | false => match X.shapeF r with
    | some s => some ((ti.desc, f.offset) :: s)
    | none => none
  | none => none
def Cx.shape (X : Cx) : TypeDesc -> Option (List (TypeDesc × Nat))
 | .struct fs => X.shapeF fs.toList
 | _ => none
def Cx.exS (X : Cx) (cs : List PV) : List (TypeDesc × Nat) -> List PV
 | [] => []
 | (d, o) :: r => X.ex1 d (X.h _ fun _ => cs.getD o noP) :: X.exS cs r
def Cx.exA (X : Cx) (s : Option (List (TypeDesc × Nat))) (cs : List PV) : List PV := match s with
 | some s => X.exS cs s
 | none => cs
variable {α : Type}
def evK (X : Cx) : Operand -> (AV -> RM α) -> RM α
 | .tmp t, k => .slot t k
 | .const v, k => match okV v with | true => k (Wx v) | false => .fail
 | .global g, k => match X.G g with | some xs => k (.pv (.p xs)) | none => .fail
 | .func f, k => k (.fn (.func f) [] [])
def jJ (X : Cx) (t : TypeId) (k : TI -> RM α) : RM α := match X.T t with | some i => k i | none => .fail
mutual
def Xz (X : Cx) : Nat -> AV -> (PV -> List Nat -> RM α) -> RM α
 | _, .pv x, k => k x []
 | _, .nil, k => k (.l []) []
 | _, .own n, k => .obj n fun o => match o with
  | .row _ _ xs _ => k (.l xs) [n]
  | _ => .fail
 | _, .sl n off len, k => .obj n fun o => match o with
  | .row _ _ xs _ => .chk (fun _ => off + len <= xs.length) (k (.l (X.h _ fun _ => (xs.drop off).take len)) [n])
  | .var _ xs _ => .chk (fun _ => off + len <= xs.length) (k (.l (X.h _ fun _ => (xs.drop off).take len)) [n])
  | _ => .fail
 | n' + 1, .ref n i j, k => .obj n fun o => match o with
  | .row _ _ xs _ => .chk (fun _ => i < xs.length) (k (.p (X.h _ fun _ => (xs.getD i noP).cells.drop j)) [n])
  | .var _ xs _ => k (.p (X.h _ fun _ => xs.drop (i + j))) [n]
  | .box _ cs _ => Qr X n' (cs.drop (i + j)) fun ys ns => k (.p ys) (n :: ns)
 | 0, .ref _ _ _, _ => .fail
 | n + 1, .ag xs, k => Qr X n xs fun ys ns => k (.a ys) ns
 | n + 1, .tup xs, k => Qr X n xs fun ys ns => k (.t ys) ns
 | n + 1, .fn f a b, k => Qr X n a fun as ns => Qr X n b fun bs ms => k (.f f as bs) (ns ++ ms)
 | 0, .ag _, _ => .fail
 | 0, .tup _, _ => .fail
 | 0, .fn _ _ _, _ => .fail
def Qr (X : Cx) : Nat -> List AV -> (List PV -> List Nat -> RM α) -> RM α
 | _, [], k => k [] []
 | 0, _ :: _, _ => .fail
 | n + 1, x :: r, k => Xz X n x fun y ns => Qr X n r fun ys ms => k (y :: ys) (ns ++ ms)
end
def ZZ : Nat := 200
def Uy : List Nat -> (List (Nat × Option Ob) -> RM α) -> RM α
 | [], k => k []
 | n :: r, k => .obj n fun o => Uy r fun l => k ((n, some o.share) :: l)
def Jt (X : Cx) (x : AV) (k : PV -> List (Nat × Option Ob) -> RM α) : RM α := Xz X ZZ x fun y ns => Uy ns fun l => k y l
def V9 (X : Cx) : List (Nat × Operand) -> (List (Nat × AV) -> RM α) -> RM α
 | [], k => k []
 | (i, x) :: r, k => evK X x fun a => V9 X r fun l => k ((i, a) :: l)
def K8 (place : Nat -> Option (Nat × Nat)) : List AV -> List (Nat × AV) -> (List AV -> RM α) -> RM α
 | base, [], k => k base
 | base, (i, x) :: r, k => match place i, x.cells with
  | some (off, size), some cs => .chk (fun _ => cs.length = size /\ off + size <= base.length) (K8 place (splice off cs base) r k)
  | _, _ => .fail
def XM (X : Cx) (place : Nat -> Option (Nat × Nat)) : List PV -> List (Nat × AV) -> (List PV -> List (Nat × Option Ob) -> RM α) -> RM α
 | base, [], k => k base []
 | base, (i, x) :: r, k => match place i with
  | some (off, size) => Jt X x fun y sh => .chk (fun _ => y.cells.length = size /\ off + size <= base.length /\ ((∃ xs, y = .t xs) -> False)) (XM X place (X.h _ fun _ => splice off y.cells base) r fun zs l => k zs (sh ++ l))
  | none => .fail
def zZ (X : Cx) (fs : Array Field) (i : Nat) : Option (Nat × Nat) := match fs[i]? with
 | some f => match X.T f.type with | some ti => some (f.offset, ti.size) | none => none
 | none => none
def Yx (X : Cx) (s : Nat) : List PV -> List (Nat × AV) -> (List PV -> List (Nat × Option Ob) -> RM α) -> RM α
 | xs, [], k => k xs []
 | xs, (i, x) :: r, k => Jt X x fun y sh => .chk (fun _ => i < xs.length /\ y.cells.length = s /\ ((∃ zs, y = .t zs) -> False)) (Yx X s (xs.set i y) r fun zs l => k zs (sh ++ l))
def Xn : AV -> (IntKind -> Int -> RM α) -> RM α
 | .pv (.v (.int kd n)), k => k kd n
 | _, _ => .fail
def Lq (op : BinOp) (k : IntKind) (x y : Int) : Int := match op with
 | .and => k.wrap (BitVec.ofInt k.bits x &&& BitVec.ofInt k.bits y).toNat
 | .or => k.wrap (BitVec.ofInt k.bits x ||| BitVec.ofInt k.bits y).toNat
 | .xor => k.wrap (BitVec.ofInt k.bits x ^^^ BitVec.ofInt k.bits y).toNat
 | _ => k.wrap (BitVec.ofInt k.bits x &&& ~~~BitVec.ofInt k.bits y).toNat
def qew (X : Cx) (op : BinOp) (kd : IntKind) (a : Int) (kd' : IntKind) (b : Int) (k : Value -> RM α) : RM α := match op with
 | .shl => .chk (fun _ => 0 <= b) (k (.int kd (X.h _ fun _ => kd.wrap (a * 2 ^ min b.toNat kd.bits))))
 | .shr => .chk (fun _ => 0 <= b) (k (.int kd (X.h _ fun _ => a.fdiv (2 ^ min b.toNat kd.bits))))
 | .add => .chk (fun _ => kd = kd') (k (.int kd (X.h _ fun _ => kd.wrap (a + b))))
 | .sub => .chk (fun _ => kd = kd') (k (.int kd (X.h _ fun _ => kd.wrap (a - b))))
 | .mul => .chk (fun _ => kd = kd') (k (.int kd (X.h _ fun _ => kd.wrap (a * b))))
 | .quo => .chk (fun _ => kd = kd' /\ b ≠ 0) (k (.int kd (X.h _ fun _ => kd.wrap (a.tdiv b))))
 | .rem => .chk (fun _ => kd = kd' /\ b ≠ 0) (k (.int kd (X.h _ fun _ => a.tmod b)))
 | .eql => .chk (fun _ => kd = kd') (k (.bool (X.h _ fun _ => a == b)))
 | .neq => .chk (fun _ => kd = kd') (k (.bool (X.h _ fun _ => a != b)))
 | .lss => .chk (fun _ => kd = kd') (k (.bool (X.h _ fun _ => decide (a < b))))
 | .leq => .chk (fun _ => kd = kd') (k (.bool (X.h _ fun _ => decide (a <= b))))
 | .gtr => .chk (fun _ => kd = kd') (k (.bool (X.h _ fun _ => decide (a > b))))
 | .geq => .chk (fun _ => kd = kd') (k (.bool (X.h _ fun _ => decide (a ≥ b))))
 | op => .chk (fun _ => kd = kd') (k (.int kd (X.h _ fun _ => Lq op kd a b)))
def yA : Operand -> Bool
 | .const _ => true
 | _ => false
def YI (op : BinOp) (b : Bool) (k : Value -> RM α) : RM α := match op with
 | .eql => k (.bool b)
 | .neq => k (.bool !b)
 | _ => .fail
def u8P (b : UInt8) : PV := .v (u8v b)
def xC : PV -> UInt8
 | .v (.int _ n) => UInt8.ofNat n.toNat
 | _ => 0
def qb6 (n : Nat) (te : TI) (xs ys : List PV) : Prop := te.size = 1 /\ xs.length = n /\ ys.length = n /\ (∀ x ∈ xs, ∃ b, x = u8P b) /\ ∀ y ∈ ys, ∃ b, y = u8P b
def qeZ (X : Cx) (ti : TI) (op : BinOp) (c : Bool) (x y : AV) (k : Value -> RM α) : RM α := match x, y with
 | .pv (.v (.int kd a)), .pv (.v (.int kd' b)) => qew X op kd a kd' b k
 | .pv (.v (.bool a)), .pv (.v (.bool b)) => match ti.desc, op with
  | .bool, .eql => k (.bool (X.h _ fun _ => a == b))
  | .bool, .neq => k (.bool (X.h _ fun _ => !(a == b)))
  | _, _ => .fail
 | .pv (.v (.string a)), .pv (.v (.string b)) => match op with
  | .eql => k (.bool (X.h _ fun _ => a.toList == b.toList))
  | .neq => k (.bool (X.h _ fun _ => !(a.toList == b.toList)))
  | .add => .chk (fun _ => a.size + b.size <= 9223372036854775807) (k (.string (X.h _ fun _ => a ++ b)))
  | _ => .fail
 | .pv (.v .nilIface), .pv (.v .nilIface) => match ti.desc, c with | .interface _, true => YI op true k | _, _ => .fail
 | .pv (.v (.iface _ _)), .pv (.v .nilIface) => match ti.desc with | .interface _ => YI op false k | _ => .fail
 | .pv (.v .nilIface), .pv (.v (.iface _ _)) => match ti.desc with | .interface _ => YI op false k | _ => .fail
 | .pv (.i _ _), .pv (.v .nilIface) => match ti.desc with | .interface _ => YI op false k | _ => .fail
 | .pv (.v .nilIface), .pv (.i _ _) => match ti.desc with | .interface _ => YI op false k | _ => .fail
 | .pv (.p _), .pv (.v (.pointer none)) => match ti.desc with | .pointer _ => YI op false k | _ => .fail
 | .ref _ _ _, .pv (.v (.pointer none)) => match ti.desc with | .pointer _ => YI op false k | _ => .fail
 | .pv (.a xs), .pv (.a ys) => match ti.desc with
  | .array n e => match X.T e with
   | some te => match te.desc with
    | .int .u8 => match op with
     | .eql => .chk (fun _ => qb6 n te xs ys) (k (.bool (X.h _ fun _ => xs.map xC == ys.map xC)))
     | .neq => .chk (fun _ => qb6 n te xs ys) (k (.bool (X.h _ fun _ => !(xs.map xC == ys.map xC))))
     | _ => .fail
    | _ => .fail
   | none => .fail
  | _ => .fail
 | _, _ => .fail
def qaX {β : Type} (lo : Nat) (hi : Option Nat) (xs : List β) : List β := match hi with
 | some h => (xs.take h).drop lo
 | none => xs.drop lo
def qe1 (X : Cx) : Option Operand -> (Option Int -> RM α) -> RM α
 | none, k => k none
 | some x, k => evK X x fun a => Xn a fun _ n => k (some n)
def UE (X : Cx) (n : Unit -> Nat) (lo hi : Option Int) (k : Nat -> Option Nat -> RM α) : RM α :=
 match lo, hi with
 | none, none => k 0 none
 | some l, none => .chk (fun _ => 0 <= l /\ l <= n ()) (k (X.h _ fun _ => l.toNat) none)
 | none, some h => .chk (fun _ => 0 <= h /\ h <= n ()) (k 0 (some (X.h _ fun _ => h.toNat)))
 | some l, some h => .chk (fun _ => 0 <= l /\ l <= h /\ h <= n ()) (k (X.h _ fun _ => l.toNat) (some (X.h _ fun _ => h.toNat)))
def qfI (X : Cx) (ti : TI) (cs : Unit -> List PV) (k : AV -> RM α) (s : Option (List (TypeDesc × Nat))) : RM α :=
 .chk (fun _ => (cs ()).take ti.size = X.exA s (X.h _ fun _ => (cs ()).take ti.size)) (k (.pv (.a (X.exA s (X.h _ fun _ => (cs ()).take ti.size)))))
def JJ (X : Cx) (t : TypeId) (ti : TI) (n : Nat) (cs : Unit -> List PV) (k : AV -> RM α) : RM α :=
 .chk (fun _ => ti.size <= (cs ()).length) (match ti.isAgg with
  | true => qfI X ti cs k (X.shape ti.desc)
  | false => .chk (fun _ => 0 < (cs ()).length /\ (cs ()).getD 0 noP = X.ex1 ti.desc (X.h _ fun _ => (cs ()).getD 0 noP)) (k (.pv (X.ex1 ti.desc (X.h _ fun _ => (cs ()).getD 0 noP)))))
def qbt (X : Cx) (t : TypeId) (p : AV) (k : AV -> RM α) : RM α := jJ X t fun ti => match p with
 | .pv (.p xs) => JJ X t ti 0 (fun _ => xs) k
 | .ref n i j => .obj n fun o => match o with
  | .row _ s xs _ => .chk (fun _ => i < xs.length /\ j + ti.size <= s) (JJ X t ti 0 (fun _ => (xs.getD i noP).cells.drop j) k)
  | .var _ xs _ => JJ X t ti 0 (fun _ => xs.drop (i + j)) k
  | .box _ cs _ => match ti.isAgg with
   | true => .chk (fun _ => i + j + ti.size <= cs.length) (k (Vk ((cs.drop (i + j)).take ti.size)))
   | false => match cs[i + j]? with | some c => k c | none => .fail
 | _ => .fail
def qcU (X : Cx) (t : TypeId) (p x : AV) (k : List (Nat × Option Ob) -> RM α) : RM α := jJ X t fun ti => match p with
 | .ref n i j => .obj n fun o => match o with
  | .row e s xs false => Jt X x fun y sh => match ja sh n with
   | some _ => .fail
   | none => .chk (fun _ => i < xs.length /\ y.cells.length = ti.size /\ j + ti.size <= s /\ ((∃ zs, y = .t zs) -> False)) (match j == 0 && ti.size == s with
    | true => k ((n, some (.row e s (X.h _ fun _ => xs.set i y) false)) :: sh)
    | false => k ((n, some (.row e s (X.h _ fun _ => xs.set i (.a (splice j y.cells (xs.getD i noP).cells))) false)) :: sh))
  | .var e xs false => Jt X x fun y sh => match ja sh n with
   | some _ => .fail
   | none => .chk (fun _ => y.cells.length = ti.size /\ i + j + ti.size <= xs.length /\ ((∃ zs, y = .t zs) -> False)) (k ((n, some (.var e (X.h _ fun _ => splice (i + j) y.cells xs) false)) :: sh))
  | .box e bs false => match x.cells with
   | some cs => .chk (fun _ => cs.length = ti.size /\ i + j + ti.size <= bs.length) (k [(n, some (.box e (splice (i + j) cs bs) false))])
   | none => .fail
  | _ => .fail
 | _ => .fail
def Zx (X : Cx) (t : TypeId) (x : AV) (i : Int) (k : AV -> RM α) : RM α := jJ X t fun ti => match ti.desc with
 | .slice e => jJ X e fun te => match x with
  | .pv (.l xs) => .chk (fun _ => 0 <= i /\ i < xs.length /\ (xs.getD i.toNat noP).cells.length = te.size) (k (.pv (.p (X.h _ fun _ => (xs.getD i.toNat noP).cells))))
  | .own n => .obj n fun o => match o with
   | .row _ s xs _ => .chk (fun _ => s = te.size /\ 0 <= i /\ i < xs.length) (k (.ref n (X.h _ fun _ => i.toNat) 0))
   | _ => .fail
  | .sl n off len => .obj n fun o => match o with
   | .row _ s xs _ => .chk (fun _ => s = te.size /\ 0 <= i /\ i < len) (k (.ref n (X.h _ fun _ => off + i.toNat) 0))
   | .var _ xs _ => .chk (fun _ => te.size = 1 /\ 0 <= i /\ i < len) (k (.ref n (X.h _ fun _ => off + i.toNat) 0))
   | _ => .fail
  | _ => .fail
 | .array len e => jJ X e fun te => .chk (fun _ => 0 <= i /\ i < len) (match x with
  | .pv (.p xs) => k (.pv (.p (X.h _ fun _ => xs.drop (i.toNat * te.size))))
  | .ref n i0 j => .obj n fun o => match o with
   | .row _ _ _ _ => k (.ref n i0 (X.h _ fun _ => j + i.toNat * te.size))
   | .var _ _ _ => match te.size == 1 with
    | true => k (.ref n (X.h _ fun _ => i0 + i.toNat) j)
    | false => k (.ref n (X.h _ fun _ => i0 + i.toNat * te.size) j)
   | .box _ _ _ => k (.ref n (i0 + i.toNat * te.size) j)
  | _ => .fail)
 | _ => .fail
def qbj (X : Cx) (t : TypeId) (k : TypeId -> TI -> RM α) : RM α := jJ X t fun ti => match ti.desc with
 | .slice e => jJ X e (k e)
 | _ => .fail
def UM (X : Cx) (t : TypeId) (k : TI -> RM α) : RM α := jJ X t fun ti => match ti.desc with
 | .slice e => jJ X e k
 | _ => .fail
def W6 (X : Cx) (t : TypeId) (x : AV) (lo hi : Option Int) (k : AV -> RM α) : RM α := match x with
 | .pv (.v (.string s)) => jJ X t fun ti => match ti.desc with
  | .string => UE X (fun _ => s.size) lo hi fun l h => k (.pv (.v (.string (X.h _ fun _ => s.extract l (h.getD s.size)))))
  | _ => .fail
 | .pv (.l xs) => UM X t fun te => .chk (fun _ => lo = none ∨ Q5 te.size xs) (UE X (fun _ => xs.length) lo hi fun l h => k (.pv (.l (X.h _ fun _ => qaX l h xs))))
 | .nil => UM X t fun te => UE X (fun _ => 0) lo hi fun l h => k (.pv (.l []))
 | .own n => .obj n fun o => match o with
  | .row _ s xs _ => UM X t fun te => .chk (fun _ => s = te.size) (UE X (fun _ => xs.length) lo hi fun l h => k (.sl n l (X.h _ fun _ => h.getD xs.length - l)))
  | _ => .fail
 | .sl n off len => .obj n fun o => match o with
  | .row _ s _ _ => UM X t fun te => .chk (fun _ => s = te.size) (UE X (fun _ => len) lo hi fun l h => k (.sl n (X.h _ fun _ => off + l) (X.h _ fun _ => h.getD len - l)))
  | .var _ _ _ => UM X t fun te => .chk (fun _ => te.size = 1) (UE X (fun _ => len) lo hi fun l h => k (.sl n (X.h _ fun _ => off + l) (X.h _ fun _ => h.getD len - l)))
  | _ => .fail
 | .pv (.p xs) => jJ X t fun ti => match ti.desc with
  | .array len e => jJ X e fun te => .chk (fun _ => te.size = 1 /\ len <= xs.length /\ len <= maxLen) (UE X (fun _ => len) lo hi fun l h => k (.pv (.l (X.h _ fun _ => qaX l (some (h.getD len)) xs))))
  | _ => .fail
 | .ref n i j => jJ X t fun ti => match ti.desc with
  | .array len e => jJ X e fun te => .obj n fun o => match o with
   | .var _ xs _ => .chk (fun _ => te.size = 1 /\ i + j + len <= xs.length /\ xs.length <= maxLen) (UE X (fun _ => len) lo hi fun l h => k (.sl n (X.h _ fun _ => i + j + l) (X.h _ fun _ => h.getD len - l)))
   | _ => .fail
  | _ => .fail
 | _ => .fail
def Vw (X : Cx) (x : AV) (k : List PV -> RM α) : RM α := match x with
 | .pv (.l xs) => k xs
 | .nil => k []
 | .own n => .obj n fun o => match o with
  | .row _ _ xs _ => k xs
  | _ => .fail
 | .sl n off len => .obj n fun o => match o with
  | .row _ _ xs _ => .chk (fun _ => off + len <= xs.length) (k (X.h _ fun _ => (xs.drop off).take len))
  | .var _ xs _ => .chk (fun _ => off + len <= xs.length) (k (X.h _ fun _ => (xs.drop off).take len))
  | _ => .fail
 | .pv (.v (.string s)) => k (X.h _ fun _ => s.data.toList.map u8P)
 | _ => .fail
def qfL (X : Cx) (t : TypeId) (x : AV) (k : Int -> RM α) : RM α := jJ X t fun ti => match ti.desc with
 | .slice _ => match x with
  | .pv (.l xs) => k (X.h _ fun _ => xs.length)
  | .nil => k 0
  | .own n => .obj n fun o => match o with
   | .row _ _ xs _ => k (X.h _ fun _ => xs.length)
   | _ => .fail
  | .sl n off len => k (X.h _ fun _ => len)
  | _ => .fail
 | .string => match x with
  | .pv (.v (.string s)) => k (X.h _ fun _ => s.size)
  | _ => .fail
 | .array n _ => k n
 | _ => .fail
def qcA (e : TypeId) (s : Nat) (x : AV) (k : List PV -> List Nat -> RM α) : RM α := match x with
 | .nil => k [] []
 | .own n => .obj n fun o => match o with
  | .row e' s' xs false => .chk (fun _ => e' = e /\ s' = s) (k xs [n])
  | _ => .fail
 | _ => .fail
def qe5 (X : Cx) (ns : List Nat) (xs ys : List PV) : List PV := match ns with
 | [] => ys
 | _ => X.h _ fun _ => xs ++ ys
def qfz : AV -> Bool
 | .pv (.v _) => false
 | _ => true
def K0 (X : Cx) (d : Nat) (t : TypeId) (s x : AV) : RM Out := qbj X t fun e te => match te.zero, qfz x with
 | some _, true => .chk (fun _ => 0 < te.size) (Vw X x fun ys => qcA e te.size s fun xs ns => .chk (fun _ => Q5 te.size ys /\ (xs.length + ys.length) * te.bytes <= 140737488355328 /\ xs.length + ys.length <= maxLen /\ ∀ n ∈ ns, n ≠ d)
   (.ret ⟨some (.own d), (d, some (.row e te.size (qe5 X ns xs ys) false)) :: ns.map fun n => (n, none)⟩))
 | _, _ => .fail
def yb (d k : Nat) : Nat := d + 1000 * k
def uQ (d : Nat) : Nat -> List RA -> List AV × List (Nat × Option Ob)
 | _, [] => ([], [])
 | k, .pv x :: r => (.pv x :: (uQ d (k + 1) r).1, (uQ d (k + 1) r).2)
 | k, .nil :: r => (.nil :: (uQ d (k + 1) r).1, (uQ d (k + 1) r).2)
 | k, .own e s xs :: r => (.own (yb d k) :: (uQ d (k + 1) r).1, (yb d k, some (.row e s xs false)) :: (uQ d (k + 1) r).2)
 | k, _ :: r => (.pv noP :: (uQ d (k + 1) r).1, (uQ d (k + 1) r).2)
def ZF (d : Nat) : RA -> AV × List (Nat × Option Ob)
 | .pv x => (.pv x, [])
 | .nil => (.nil, [])
 | .own e s xs => (.own d, [(d, some (.row e s xs false))])
 | .tup xs => (.tup (uQ d 1 xs).1, (uQ d 1 xs).2)
 | _ => (.pv noP, [])
def U7 : List RA -> Bool
 | [] => true
 | .pv x :: r => x.free && U7 r
 | _ :: _ => false
def RA.free : RA -> Bool
 | .pv x => x.free
 | .tup xs => U7 xs
 | _ => false
def qbm (X : Cx) : List AV -> List RA -> (List Nat -> RM α) -> RM α
 | [], [], k => k []
 | x :: xs, .pv y :: ys, k => Xz X ZZ x fun z ns => .chk (fun _ => z = y) (qbm X xs ys fun ms => k (ns ++ ms))
 | _, _, _ => .fail
def okL : List RA -> Bool
 | [] => true
 | .pv _ :: r => okL r
 | .nil :: r => okL r
 | .own _ _ _ :: r => okL r
 | _ :: _ => false
def okR : RA -> Bool
 | .pv _ => true
 | .nil => true
 | .own _ _ _ => true
 | .tup xs => okL xs
 | _ => false
def qfy (e : TypeId) (s : Nat) (ys : List PV) (outs : List RA) (xs : List AV) : RM Out := match outs, xs with
 | [.own e' s' zs], [.own n] => .obj n fun o => match o with
  | .row e0 s0 us false => .chk (fun _ => e0 = e /\ s0 = s /\ us = ys /\ e' = e /\ s' = s) (.ret ⟨none, [(n, some (.row e0 s0 zs false))]⟩)
  | _ => .fail
 | _, _ => .fail
def qcO (X : Cx) (d : Nat) (xs : List AV) (as : List RA) (r : RA) : RM Out := match okR r with
 | true => qbm X xs as fun ns => match ns with
  | [] => .ret ⟨some (ZF d r).1, (ZF d r).2⟩
  | n :: ns => match r.free with
   | true => .ret ⟨some (ZF d r).1, (ZF d r).2⟩
   | false => Uy (n :: ns) fun l => .ret ⟨some (ZF d r).1, (ZF d r).2 ++ l⟩
 | false => .fail
def LQ (X : Cx) (f : FuncId) (d : Nat) (xs : List AV) : RM Out :=
 .call f fun as r outs => match as with
  | [.own e s ys] => qfy e s ys outs xs
  | as => qcO X d xs as r
def qbx (X : Cx) : List Operand -> (List AV -> RM α) -> RM α
 | [], k => k []
 | x :: r, k => evK X x fun a => qbx X r fun l => k (a :: l)
def val (x : AV) : RM Out := .ret ⟨some x, []⟩
def WY (X : Cx) (d : Nat) (t : TypeId) (ti : TI) (z : Unit -> Value) : RM Out :=
 match X.flat ti.desc || !ti.isAgg with
 | true => .ret ⟨some (.ref d 0 0), [(d, some (.box t ((z ()).cells.toList.map vp) false))]⟩
 | false => .ret ⟨some (.ref d 0 0), [(d, some (.var t (X.h _ fun _ => (z ()).cells.toList.map jI) false))]⟩
def qeP (X : Cx) (d : Nat) (t : TypeId) (ti : TI) (a : AV) : RM Out := match a with
 | .pv (.a xs) => match X.flat ti.desc with
  | true => .ret ⟨some (.ref d 0 0), [(d, some (.box t (xs.map .pv) false))]⟩
  | false => .ret ⟨some (.ref d 0 0), [(d, some (.var t xs false))]⟩
 | .tup _ => .fail
 | .pv (.t _) => .fail
 | .ag xs => .ret ⟨some (.ref d 0 0), [(d, some (.box t xs false))]⟩
 | y => .ret ⟨some (.ref d 0 0), [(d, some (.box t [y] false))]⟩
def okF (X : Cx) : List Field -> Bool
 | [] => true
 | f :: r => (X.T f.type).isSome && okF X r
def Kw (X : Cx) (ti : TI) (z : Unit -> Value) (ps : List (Nat × AV)) : RM Out := match ti.desc with
 | .struct fs => match X.flatF fs.toList with
  | true => K8 (zZ X fs) ((z ()).cells.toList.map vp) ps fun cs => val (Vk cs)
  | false => .chk (fun _ => okF X fs.toList = true) (XM X (zZ X fs) (X.h _ fun _ => (z ()).cells.toList.map jI) ps fun cs sh => .ret ⟨some (.pv (.a cs)), sh⟩)
 | .array _ e => jJ X e fun te => XM X (fun i => some (i * te.size, te.size)) (X.h _ fun _ => (z ()).cells.toList.map jI) ps fun cs sh => .ret ⟨some (.pv (.a cs)), sh⟩
 | _ => .fail
def qbN (X : Cx) (si ti : TI) (a : AV) : RM Out := match ti.desc, si.desc with
 | .int k, .int _ => Xn a fun _ n => val (.pv (.v (.int k (X.h _ fun _ => k.wrap n))))
 | .string, .string => match a with
  | .pv (.v (.string s)) => val (.pv (.v (.string s)))
  | _ => .fail
 | .string, .slice e => jJ X e fun te => match te.desc with
  | .int .u8 => match a with
   | .pv (.v _) => .fail
   | a => Vw X a fun xs => .chk (fun _ => ∀ x ∈ xs, ∃ b, x = u8P b) (val (.pv (.v (.string (X.h _ fun _ => ⟨(xs.map xC).toArray⟩)))))
  | _ => .fail
 | .slice e, .string => match a with
  | .pv (.v (.string b)) => jJ X e fun te => match te.desc with
   | .int .u8 => .chk (fun _ => b.size <= maxLen) (val (.pv (.l (X.h _ fun _ => b.data.toList.map u8P))))
   | _ => .fail
  | _ => .fail
 | _, _ => .fail
def Kc (X : Cx) (n : Nat) (te : TI) (a : AV) : RM Out := match a with
 | .pv (.l xs) => .chk (fun _ => 0 < n /\ n <= xs.length /\ te.size = 1 /\ Q5 1 xs) (val (.pv (.p (X.h _ fun _ => xs.flatMap PV.cells))))
 | .own m => .obj m fun o => match o with
  | .row _ s xs _ => .chk (fun _ => 0 < n /\ n <= xs.length) (val (.ref m 0 0))
  | _ => .fail
 | .sl m off len => .chk (fun _ => 0 < n /\ n <= len) (val (.ref m off 0))
 | _ => .fail
def Kf (X : Cx) (fs : Array Field) (fd : Field) (tf : TI) (a : AV) : RM Out := match a with
 | .pv (.a xs) => match X.flatF fs.toList with
  | true => match xs[fd.offset]? with | some x => val (.pv x) | none => .fail
  | false => JJ X fd.type tf 0 (fun _ => xs.drop fd.offset) val
 | .ag cs => match tf.isAgg with
  | true => .chk (fun _ => fd.offset + tf.size <= cs.length) (val (Vk ((cs.drop fd.offset).take tf.size)))
  | false => match cs[fd.offset]? with | some c => val c | none => .fail
 | _ => .fail
def opM (X : Cx) (o : Oper) : RM Out := match o.op with
 | .move x => evK X x val
 | .assign x => evK X x val
 | .pick c a b => evK X c fun u => match u with
  | .pv (.v (.bool q)) => .brn q fun q => match q with | true => evK X a val | false => evK X b val
  | _ => .fail
 | .alloc t => match o.dst with
  | some d => jJ X t fun ti => match ti.zero with | some z => WY X d t ti z | none => .fail
  | none => .fail
 | .box t x => match o.dst with
  | some d => jJ X t fun ti => evK X x fun a => qeP X d t ti a
  | none => .fail
 | .build t parts => jJ X t fun ti => match ti.zero with
  | some z => V9 X parts.toList fun ps => Kw X ti z ps
  | none => .fail
 | .buildSlice t len parts => match o.dst with
  | some d => jJ X t fun ti => match ti.desc with
   | .slice e => jJ X e fun te => match te.zero with
    | some z => V9 X parts.toList fun ps => Yx X te.size (List.replicate len (vr (z ()))) ps fun xs sh => .chk (fun _ => 0 < te.size /\ len * te.size <= 16777216) (.ret ⟨some (.own d), (d, some (.row e te.size xs false)) :: sh⟩)
    | none => .fail
   | _ => .fail
  | none => .fail
 | .load t x => evK X x fun p => qbt X t p val
 | .store t p x => evK X p fun a => evK X x fun b => qcU X t a b fun l => .ret ⟨none, l⟩
 | .nilCheck x => evK X x fun a => match a with
  | .ref _ _ _ => val a
  | .pv (.p _) => val a
  | .fn (.func _) _ _ => val a
  | _ => .fail
 | .binOp op t x y _ => jJ X t fun ti => evK X x fun a => evK X y fun b => qeZ X ti op (yA x || yA y) a b fun r => val (.pv (.v r))
 | .unOp op t x => evK X x fun a => match op, a with
  | .not, .pv (.v (.bool b)) => val (.pv (.v (.bool (X.h _ fun _ => !b))))
  | .neg, .pv (.v (.int k n)) => val (.pv (.v (.int k (X.h _ fun _ => k.wrap (0 - n)))))
  | .xor, .pv (.v (.int k n)) => val (.pv (.v (.int k (X.h _ fun _ => Lq .xor k (if k.signed then -1 else k.max) n))))
  | _, _ => .fail
 | .convert s t x => jJ X s fun si => jJ X t fun ti => evK X x fun a => qbN X si ti a
 | .sliceToArrayPointer t x => jJ X t fun ti => match ti.desc with
  | .array n e => jJ X e fun te => evK X x fun a => Kc X n te a
  | _ => .fail
 | .makeInterface t x => jJ X t fun ti => match ti.desc with
  | .interface _ => .fail
  | _ => evK X x fun a => Jt X a fun y sh => .ret ⟨some (.pv (.i t y)), sh⟩
 | .makeFunc fn a b => qbx X a.toList fun as => qbx X b.toList fun bs => val (.fn fn as bs)
 | .makeSlice t l c => match o.dst with
  | some d => jJ X t fun ti => match ti.desc with
   | .slice e => jJ X e fun te => match te.zero with
    | some z => evK X l fun a => evK X c fun b => Xn a fun _ n => Xn b fun _ m => .chk (fun _ => 0 < te.size /\ 0 <= n /\ n <= m /\ m <= maxLen /\ m * te.bytes <= 140737488355328) (.ret ⟨some (.own d), [(d, some (.row e te.size (X.h _ fun _ => List.replicate n.toNat (vr (z ()))) false))]⟩)
    | none => .fail
   | _ => .fail
  | none => .fail
 | .slice t x lo hi none => evK X x fun a => qe1 X lo fun l => qe1 X hi fun h => W6 X t a l h val
 | .fieldAddr s x f => jJ X s fun si => match si.desc with
  | .struct fs => match fs[f]? with
   | some fd => jJ X fd.type fun tf => .chk (fun _ => tf.size ≠ 0) (evK X x fun a => match a with
    | .pv (.p xs) => val (.pv (.p (X.h _ fun _ => xs.drop fd.offset)))
    | .ref n i j => val (.ref n i (j + fd.offset))
    | _ => .fail)
   | none => .fail
  | _ => .fail
 | .field t x f => jJ X t fun ti => match ti.desc with
  | .struct fs => match fs[f]? with
   | some fd => jJ X fd.type fun tf => evK X x fun a => Kf X fs fd tf a
   | none => .fail
  | _ => .fail
 | .indexAddr t x i => evK X x fun a => evK X i fun b => Xn b fun _ n => Zx X t a n val
 | .index t x i => evK X x fun a => evK X i fun b => Xn b fun _ n => match a with
  | .pv (.v (.string s)) => jJ X t fun ti => match ti.desc with
   | .string => .chk (fun _ => 0 <= n /\ n < s.size) (val (.pv (.v (.int .u8 (X.h _ fun _ => (s.data.toList.getD n.toNat 0).toNat)))))
   | _ => .fail
  | .pv (.a xs) => jJ X t fun ti => match ti.desc with
   | .array len e => jJ X e fun te => .chk (fun _ => 0 <= n /\ n < len) (JJ X e te 0 (fun _ => xs.drop (n.toNat * te.size)) val)
   | _ => .fail
  | _ => .fail
 | .extract x i => evK X x fun a => match a with
  | .tup xs => match xs[i]? with | some y => val y | none => .fail
  | .pv (.t xs) => match xs[i]? with | some y => val (.pv y) | none => .fail
  | _ => .fail
 | .call c => qbx X c.args.toList fun xs => match c.callee with
  | .builtin .len => match xs, c.argTypes.toList with
   | [x], [t] => qfL X t x fun n => val (.pv (.v (.int .i64 n)))
   | _, _ => .fail
  | .builtin .append => match xs, c.argTypes.toList, o.dst with
   | [s, x], [t, u], some d => match u == t with
    | true => K0 X d t s x
    | false => .fail
   | _, _, _ => .fail
  | .builtin .min => match xs with
   | [.pv (.v (.int k a)), .pv (.v (.int _ b))] => val (.pv (.v (.int k (X.h _ fun _ => if b < a then b else a))))
   | _ => .fail
  | .builtin .max => match xs with
   | [.pv (.v (.int k a)), .pv (.v (.int _ b))] => val (.pv (.v (.int k (X.h _ fun _ => if b > a then b else a))))
   | _ => .fail
  | .value f => match o.dst with
   | some d => evK X f fun g => match g with
    | .fn (.func f) first caps => LQ X f d (first ++ xs ++ caps)
    | .pv (.f (.func f) first caps) => LQ X f d (first.map .pv ++ xs ++ caps.map .pv)
    | _ => .fail
   | none => .fail
  | _ => .fail
 | _ => .fail
end Go.Bl
namespace Go.Bl
open Go.RowKit
inductive Xt where
 | n
 | e (id : Nat)
 | r
def Xt.then (f : St -> Prop) (Q : Xt -> St -> Prop) : Xt -> St -> Prop
 | .n, σ => f σ
 | .e i, σ => Q (.e i) σ
 | .r, σ => Q .r σ
def Xt.block (id : Nat) (Q : Xt -> St -> Prop) : Xt -> St -> Prop
 | .n, σ => Q .n σ
 | .e i, σ => if i = id then Q .n σ else Q (.e i) σ
 | .r, σ => Q .r σ
mutual
def AV.has (p : Nat -> Bool) : AV -> Bool
 | .pv _ => false
 | .nil => false
 | .ref n _ _ => p n
 | .own n => p n
 | .sl n _ _ => p n
 | .ag xs => AV.hasL p xs
 | .tup xs => AV.hasL p xs
 | .fn _ a b => AV.hasL p a || AV.hasL p b
def AV.hasL (p : Nat -> Bool) : List AV -> Bool
 | [] => false
 | x :: r => AV.has p x || AV.hasL p r
end
def Ob.has (p : Nat -> Bool) : Ob -> Bool
 | .box _ cs _ => AV.hasL p cs
 | _ => false
def zO (p : Nat -> Bool) : List (Nat × Option AV) -> Bool
 | [] => false
 | (_, some x) :: r => x.has p || zO p r
 | (_, none) :: r => zO p r
def uE (p : Nat -> Bool) : List (Nat × Option Ob) -> Bool
 | [] => false
 | (n, some x) :: r => p n || (x.has p || uE p r)
 | (_, none) :: r => uE p r
def zL : List Oper -> List Nat
 | [] => []
 | o :: r => match o.dst with | some d => d :: zL r | none => zL r
def Ua : List Nat -> Nat -> Bool
 | [], _ => false
 | x :: r, n => n == x || Ua r n
def Qd : List Nat -> Bool
 | [] => true
 | x :: r => !Ua r x && Qd r
def KZ (n : Nat) : List Nat -> Bool
 | [] => true
 | x :: r => decide (x < n) && KZ n r
def Lz (X : Cx) (fr : Bool) (ds : List Nat) : Bool := fr && (Qd ds && KZ X.N ds)
def St.fresh (σ : St) (ds : List Nat) : Bool := !(zO (fun n => Ua ds (n % 1000)) σ.slots || uE (fun n => Ua ds (n % 1000)) σ.objs)
def qbz (X : Cx) (o : Oper) (want : Bool) (a : AV) : RM Out := match a with
 | .pv (.v (.bool b)) => .brn b fun c => match c, want with
  | true, true => opM X o
  | false, false => opM X o
  | _, _ => .ret ⟨none, []⟩
 | _ => .fail
def Vp (X : Cx) (ops : Array Oper) (o : Oper) : RM Out := match o.guard with
 | none => opM X o
 | some (j, want) => match (ops[j]?).bind (·.dst) with
  | some s => .slot s (qbz X o want)
  | none => .fail
def LA (X : Cx) (C : FuncId -> List RA -> RA -> List RA -> Prop) (ops : Array Oper) : List Oper -> St -> (St -> Prop) -> Prop
 | [], σ, Q => Q σ
 | o :: r, σ, Q => (Vp X ops o).vc C σ fun out _ => LA X C ops r (σ.put o.dst out) Q
structure Lg where
 rd : List Lc
 wr : List Lc
def Out.wr (d : Option Nat) (o : Out) : List Lc := (match d with | some d => [.s d] | none => []) ++ o.objs.map fun x => .o x.1
def Lg.clash (a b : Lg) : Bool := a.wr.any (fun x => b.rd.contains x || b.wr.contains x) || b.wr.any fun x => a.rd.contains x
def qbA (ops : Array Oper) (i k : Nat) : Bool := jd ops 12 i k
def Le (ops : Array Oper) : Bool := (List.range ops.size).all fun i => (qz ops i).all fun k => decide (k < i)
def Uh (ops : Array Oper) (L : List Lg) : Bool :=
 Le ops && (List.range L.length).all fun j => (List.range j).all fun i => !(L.getD i ⟨[], []⟩).clash (L.getD j ⟨[], []⟩) || qbA ops j i
def Ux (X : Cx) (C : FuncId -> List RA -> RA -> List RA -> Prop) (ops : Array Oper) : List Oper -> List Lg -> St -> (St -> Prop) -> Prop
 | [], L, σ, Q => Uh ops L.reverse = true /\ Q σ
 | o :: r, L, σ, Q => (Vp X ops o).vc C σ fun out l => Ux X C ops r (⟨l, out.wr o.dst⟩ :: L) (σ.put o.dst out) Q
def rnm (ρ : List (Nat × Nat)) (n : Nat) : Nat := (ja ρ n).getD n
mutual
def AV.ren (ρ : List (Nat × Nat)) : AV -> AV
 | .pv x => .pv x
 | .nil => .nil
 | .ref n i j => .ref (rnm ρ n) i j
 | .own n => .own (rnm ρ n)
 | .sl n i j => .sl (rnm ρ n) i j
 | .ag xs => .ag (AV.renL ρ xs)
 | .tup xs => .tup (AV.renL ρ xs)
 | .fn f a b => .fn f (AV.renL ρ a) (AV.renL ρ b)
def AV.renL (ρ : List (Nat × Nat)) : List AV -> List AV
 | [] => []
 | x :: r => AV.ren ρ x :: AV.renL ρ r
end
def Ob.ren (ρ : List (Nat × Nat)) : Ob -> Ob
 | .box t cs b => .box t (AV.renL ρ cs) b
 | o => o
def qeD (ρ : List (Nat × Nat)) (σ : St) : List (Nat × Option AV) -> Prop
 | [] => True
 | (s, some x) :: r => σ.slot s = some (x.ren ρ) /\ qeD ρ σ r
 | (_, none) :: _ => False
def qeU (ρ : List (Nat × Nat)) (σ : St) : List (Nat × Option Ob) -> Prop
 | [] => True
 | (n, some x) :: r => σ.obj (rnm ρ n) = some (x.ren ρ) /\ qeU ρ σ r
 | (_, none) :: _ => False
def Sub (σ τ : St) : Prop := ∃ ρ, Qd (τ.objs.map fun x => rnm ρ x.1) = true /\ Qd (τ.objs.map (·.1)) = true /\ qeU ρ σ τ.objs /\ qeD ρ σ τ.slots
def St.mat1 (σ : St) (s n : Nat) (e : TypeId) (z : Nat) : St := ⟨(s, some (.own n)) :: σ.slots, (n, some (.row e z [] false)) :: σ.objs⟩
def St.mat (σ : St) : List (Nat × Nat × TypeId × Nat) -> St
 | [] => σ
 | (s, n, e, z) :: r => (σ.mat1 s n e z).mat r
def qbp (σ : St) : List (Nat × Nat × TypeId × Nat) -> Prop
 | [] => True
 | (s, n, e, z) :: r => σ.slot s = some .nil /\ 0 < z /\ σ.fresh [n % 1000] = true /\ qbp (σ.mat1 s n e z) r
def Kj (c : Option AV) (p q : Prop) : Prop := match c with
 | some (.pv (.v (.bool x))) => (x = true -> p) /\ (x = false -> q)
 | _ => False
def uG (X : Cx) (C : FuncId -> List RA -> RA -> List RA -> Prop) : Code -> (Xt -> St -> Prop) -> St -> Prop
 | .skip, Q, σ => Q .n σ
 | .seq a b, Q, σ => uG X C a (Xt.then (uG X C b Q) Q) σ
 | .region _ ops false, Q, σ => Lz X (σ.fresh (zL ops.toList)) (zL ops.toList) = true /\ LA X C ops ops.toList σ (Q .n)
 | .region _ ops true, Q, σ => Lz X (σ.fresh (zL ops.toList)) (zL ops.toList) = true /\ Ux X C ops ops.toList [] σ (Q .n)
 | .cond (.tmp c) a b, Q, σ => Kj (σ.slot c) (uG X C a Q σ) (uG X C b Q σ)
 | .block id c, Q, σ => uG X C c (Xt.block id Q) σ
 | .loop c, Q, σ => ∃ (α : Type) (tm : α -> St) (I : α -> Prop) (μ : α -> Nat) (x0 : α) (l : List (Nat × Nat × TypeId × Nat)), I x0 /\ qbp σ l /\ Sub (σ.mat l) (tm x0) /\ ∀ x, I x -> uG X C c (Xt.then (fun σ' => ∃ y, I y /\ μ y < μ x /\ Sub σ' (tm y)) Q) (tm x)
 | .exit id, Q, σ => Q (.e id) σ
 | .ret, Q, σ => Q .r σ
 | _, _, _ => False
end Go.Bl
namespace Go.Bl
open Go.RowKit
structure Gv where
 val : Nat -> Option (List PV)
 obj : Nat -> Option Obj
structure Env (G : Gv) (A : Nat -> Prop) (w : World) : Prop where
 val : ∀ g xs, G.val g = some xs -> je A w (.p xs) (.pointer (some ⟨g, 0, none⟩))
 obj : ∀ b o, G.obj b = some o -> w.heap[b]? = some o /\ ¬ A b
theorem Env.stay {G : Gv} {A A' : Nat -> Prop} {w w' : World} (k : j8 A A' w w') (h : Env G A w) : Env G A' w' :=
 ⟨fun g xs hg => (h.val g xs hg).stay k, fun b o hb => by
  obtain ⟨h1, h2⟩ := h.obj b o hb
  have hl := ql h1
  exact ⟨by rw [k.heap b hl h2]; exact h1, fun q => h2 (k.out b hl q)⟩⟩
structure Bk where
 v : Value
 s : Nat
 cap : Nat
def Bk.blk (k : Bk) : Option Nat := match k.v with
 | .slice (some a) _ _ => some a.block
 | .pointer (some a) => some a.block
 | _ => none
def AV.one : AV -> Bool
 | .pv x => x.one
 | .ag _ => false
 | .tup _ => false
 | _ => true
mutual
inductive qD (β : Nat -> Option Bk) (A : Nat -> Prop) (w : World) : AV -> Value -> Prop
 | pv {x : PV} {u : Value} : je A w x u -> qD β A w (.pv x) u
 | nil : qD β A w .nil (.slice none 0 0)
 | ref {n i j b : Nat} {k : Bk} : β n = some k -> k.blk = some b -> qD β A w (.ref n i j) (.pointer (some ⟨b, i * k.s + j, none⟩))
 | own {n : Nat} {k : Bk} : β n = some k -> qD β A w (.own n) k.v
 | sl {n off len b c : Nat} {k : Bk} : β n = some k -> k.blk = some b -> off + c <= k.cap -> len <= c -> (c = k.cap - off ∨ ∃ p, k.v = .pointer p) -> k.cap <= maxLen -> qD β A w (.sl n off len) (.slice (some ⟨b, off * k.s, none⟩) len c)
 | sl0 {n off : Nat} {ad : Option Addr} : qD β A w (.sl n off 0) (.slice ad 0 0)
 | ag {xs : List AV} {us : List Value} : qm β A w xs us -> (∀ x ∈ xs, x.one = true) -> qD β A w (.ag xs) (.agg us.toArray)
 | tup {xs : List AV} {us : List Value} : qm β A w xs us -> qD β A w (.tup xs) (.tuple us.toArray)
 | fn {f : Fn} {xs ys : List AV} {us zs : List Value} : qm β A w xs us -> qm β A w ys zs -> qD β A w (.fn f xs ys) (.func f us.toArray zs.toArray)
inductive qm (β : Nat -> Option Bk) (A : Nat -> Prop) (w : World) : List AV -> List Value -> Prop
 | nil : qm β A w [] []
 | cons {x : AV} {u : Value} {xs : List AV} {us : List Value} : qD β A w x u -> qm β A w xs us -> qm β A w (x :: xs) (u :: us)
end
def zn (β β' : Nat -> Option Bk) : Prop := ∀ n k, β n = some k -> β' n = some k
theorem zn.refl (β : Nat -> Option Bk) : zn β β := fun _ _ h => h
mutual
theorem qD.mono {β β' : Nat -> Option Bk} {A A' : Nat -> Prop} {w w' : World} (hb : zn β β') (k : j8 A A' w w') : ∀ {x : AV} {u : Value}, qD β A w x u -> qD β' A' w' x u
 | _, _, .pv h => .pv (h.stay k)
 | _, _, .nil => .nil
 | _, _, .ref h h1 => .ref (hb _ _ h) h1
 | _, _, .own h => .own (hb _ _ h)
 | _, _, .sl h h1 h2 h3 h4 h5 => .sl (hb _ _ h) h1 h2 h3 h4 h5
 | _, _, .sl0 => .sl0
 | _, _, .ag h h1 => .ag (qm.mono hb k h) h1
 | _, _, .tup h => .tup (qm.mono hb k h)
 | _, _, .fn h h1 => .fn (qm.mono hb k h) (qm.mono hb k h1)
theorem qm.mono {β β' : Nat -> Option Bk} {A A' : Nat -> Prop} {w w' : World} (hb : zn β β') (k : j8 A A' w w') : ∀ {xs : List AV} {us : List Value}, qm β A w xs us -> qm β' A' w' xs us
 | _, _, .nil => .nil
 | _, _, .cons h h1 => .cons (qD.mono hb k h) (qm.mono hb k h1)
end
theorem qm.length {β : Nat -> Option Bk} {A : Nat -> Prop} {w : World} : ∀ {xs : List AV} {us : List Value}, qm β A w xs us -> xs.length = us.length
 | _, _, .nil => rfl
 | _, _, .cons _ h => by simp [qm.length h]
theorem qm.get {β : Nat -> Option Bk} {A : Nat -> Prop} {w : World} : ∀ {xs : List AV} {us : List Value}, qm β A w xs us -> ∀ {i : Nat} {x : AV}, xs[i]? = some x -> ∃ u, us[i]? = some u /\ qD β A w x u
 | _, _, .nil, _, _, h => by simp at h
 | _, _, .cons h h1, 0, _, e => by simp at e; subst e; exact ⟨_, rfl, h⟩
 | _, _, .cons h h1, i + 1, _, e => by simp at e; obtain ⟨u, h2, h3⟩ := qm.get h1 e; exact ⟨u, by simpa using h2, h3⟩
theorem qm.app {β : Nat -> Option Bk} {A : Nat -> Prop} {w : World} : ∀ {xs : List AV} {us : List Value}, qm β A w xs us -> ∀ {ys : List AV} {zs : List Value}, qm β A w ys zs -> qm β A w (xs ++ ys) (us ++ zs)
 | _, _, .nil, _, _, h => h
 | _, _, .cons h h1, _, _, h2 => .cons h (qm.app h1 h2)
theorem qm.take {β : Nat -> Option Bk} {A : Nat -> Prop} {w : World} : ∀ {xs : List AV} {us : List Value}, qm β A w xs us -> ∀ (k : Nat), qm β A w (xs.take k) (us.take k)
 | _, _, .nil, k => by simp; exact .nil
 | _, _, .cons h h1, 0 => .nil
 | _, _, .cons h h1, k + 1 => .cons h (qm.take h1 k)
theorem qm.drop {β : Nat -> Option Bk} {A : Nat -> Prop} {w : World} : ∀ {xs : List AV} {us : List Value}, qm β A w xs us -> ∀ (k : Nat), qm β A w (xs.drop k) (us.drop k)
 | _, _, .nil, k => by simp; exact .nil
 | _, _, .cons h h1, 0 => .cons h h1
 | _, _, .cons h h1, k + 1 => qm.drop h1 k
theorem qm.pvs {β : Nat -> Option Bk} {A : Nat -> Prop} {w : World} : ∀ {xs : List PV} {us : List Value}, qj A w xs us -> qm β A w (xs.map .pv) us
 | _, _, .nil => .nil
 | _, _, .cons h h1 => .cons (.pv h) (qm.pvs h1)
theorem qD.one {β : Nat -> Option Bk} {A : Nat -> Prop} {w : World} {x : AV} {u : Value} (h : qD β A w x u) (hx : x.one = true) (hk : ∀ n k, β n = some k -> k.v.oneCell' = true) : u.oneCell' = true := by
 cases h with
 | pv h => exact h.one hx
 | own h => exact hk _ _ h
 | ag h h1 => cases hx
 | tup h => cases hx
 | _ => rfl
def xJ (β : Nat -> Option Bk) (A : Nat -> Prop) (w : World) (n : Nat) : Ob -> Prop
 | .row e s xs _ => ∃ k us, β n = some k /\ k.s = s /\ 0 < s /\ qj A w (xs.flatMap PV.cells) us /\ (∀ x ∈ xs, x.cells.length = s) /\ (∀ x ∈ xs, ∀ c ∈ x.cells, c.one = true) /\
   w.ownsRow 0 e s k.v xs.length us /\ (∀ b, k.blk = some b -> k.v = .slice (some ⟨b, 0, none⟩) xs.length k.cap /\ k.cap <= maxLen)
 | .var t xs _ => ∃ k us b, β n = some k /\ k.s = 1 /\ qj A w xs us /\ (∀ c ∈ xs, c.one = true) /\ k.v = .pointer (some ⟨b, 0, none⟩) /\ w.heap[b]? = some (.cells us.toArray t (0, 0)) /\ k.cap = xs.length
 | .box t cs _ => ∃ k us b, β n = some k /\ k.s = 1 /\ qm β A w cs us /\ (∀ c ∈ cs, c.one = true) /\ k.v = .pointer (some ⟨b, 0, none⟩) /\ w.heap[b]? = some (.cells us.toArray t (0, 0)) /\ k.cap = cs.length
theorem xJ.mono {β β' : Nat -> Option Bk} {A A' : Nat -> Prop} {w w' : World} (hb : zn β β') (hs : j8 A A' w w') {n : Nat} {o : Ob} (h : xJ β A w n o)
  (hblk : ∀ k b, β n = some k -> k.blk = some b -> w'.heap[b]? = w.heap[b]?) : xJ β' A' w' n o := by
 cases o with
 | row e s xs sh =>
  obtain ⟨k, us, h1, h2, h3, h4, h5, h6, h7, h8⟩ := h
  refine ⟨k, us, hb _ _ h1, h2, h3, h4.stay hs, h5, h6, ⟨h7.1, ?_⟩, h8⟩
  rcases h7.2 with h | ⟨g, cap, cur, hv, hg, hh, r⟩
  ·exact .inl h
  ·exact .inr ⟨g, cap, cur, hv, hg, by rw [hblk k g h1 (by simp [Bk.blk, hv])]; exact hh, r⟩
 | var t xs sh =>
  obtain ⟨k, us, b, h1, h2, h3, h4, h5, h6, h7⟩ := h
  exact ⟨k, us, b, hb _ _ h1, h2, h3.stay hs, h4, h5, by rw [hblk k b h1 (by simp [Bk.blk, h5])]; exact h6, h7⟩
 | box t cs sh =>
  obtain ⟨k, us, b, h1, h2, h3, h4, h5, h6, h7⟩ := h
  exact ⟨k, us, b, hb _ _ h1, h2, h3.mono hb hs, h4, h5, by rw [hblk k b h1 (by simp [Bk.blk, h5])]; exact h6, h7⟩
theorem xJ.bound {β : Nat -> Option Bk} {A : Nat -> Prop} {w : World} {n : Nat} {o : Ob} (h : xJ β A w n o) : ∃ k, β n = some k /\ ∀ b, k.blk = some b -> b < w.heap.size := by
 cases o with
 | row e s xs sh =>
  obtain ⟨k, us, h1, h2, h3, h4, h5, h6, h7, h8⟩ := h
  refine ⟨k, h1, fun b hb => ?_⟩
  rcases h7.2 with ⟨h, -⟩ | ⟨g, cap, cur, hv, hg, hh, r⟩
  ·simp [Bk.blk, h] at hb
  ·simp [Bk.blk, hv] at hb; subst hb; exact ql hh
 | var t xs sh =>
  exact Y57
 | box t cs sh =>
  exact Y57
def Mut (A0 : Nat -> Prop) (β : Nat -> Option Bk) (σ : St) (b : Nat) : Prop := A0 b ∨ ∃ n o k, σ.obj n = some o /\ o.sh = false /\ β n = some k /\ k.blk = some b
structure Pl where
 G : Gv
 N : Nat
 w0 : World
 bs : List Nat
 A0 : Nat -> Prop
structure Sim (L : Pl) (F : Nat -> Prop) (β : Nat -> Option Bk) (σ : St) (a : Act) (w : World) : Prop where
 size : a.tmps.size = L.N
 defs : a.defers = []
 slots : ∀ s x, σ.slot s = some x -> qD β (Mut L.A0 β σ) w x (slot a s)
 objs : ∀ n o, σ.obj n = some o -> xJ β (Mut L.A0 β σ) w n o
 one : ∀ n k, β n = some k -> k.v.oneCell' = true
 res : ∀ n, F n -> β n = none
 inj : ∀ n m o o' k k' b, σ.obj n = some o -> σ.obj m = some o' -> β n = some k -> β m = some k' -> k.blk = some b -> k'.blk = some b -> n = m
 low : ∀ n o k b, σ.obj n = some o -> β n = some k -> k.blk = some b -> b ∈ L.bs ∨ L.w0.heap.size <= b
 fr : Fr L.bs L.w0 w
 env : Env L.G (Mut L.A0 β σ) w
 a0 : ∀ b, L.A0 b -> b < L.w0.heap.size /\ b ∉ L.bs
theorem Sim.ext {L : Pl} {F : Nat -> Prop} {β : Nat -> Option Bk} {σ τ : St} {a : Act} {w : World} (h : Sim L F β σ a w) (hs : ∀ s, τ.slot s = σ.slot s) (ho : ∀ n, τ.obj n = σ.obj n) : Sim L F β τ a w := by
 have e : Mut L.A0 β τ = Mut L.A0 β σ := by
  funext b
  simp only [Mut, ho]
 refine ⟨h.size, h.defs, ?_, ?_, h.one, h.res, ?_, ?_, h.fr, ?_, h.a0⟩
 ·intro s x hx; rw [e]; rw [hs] at hx; exact h.slots s x hx
 ·intro n o hx; rw [e]; rw [ho] at hx; exact h.objs n o hx
 ·intro n m o o' k k' b h1 h2; rw [ho] at h1 h2; exact h.inj n m o o' k k' b h1 h2
 ·intro n o k b h1; rw [ho] at h1; exact h.low n o k b h1
 ·rw [e]; exact h.env
theorem Sim.turn {L : Pl} {F F' : Nat -> Prop} {β β' : Nat -> Option Bk} {σ σ' : St} {a a' : Act} {w w' : World} (h : Sim L F β σ a w) (hb : zn β β') (hs : j8 (Mut L.A0 β σ) (Mut L.A0 β' σ') w w')
  (hsz : a'.tmps.size = a.tmps.size) (hd : a'.defers = a.defers)
  (hsl : ∀ s x, σ'.slot s = some x -> (σ.slot s = some x /\ slot a' s = slot a s) ∨ qD β' (Mut L.A0 β' σ') w' x (slot a' s))
  (hob : ∀ n o, σ'.obj n = some o -> (∃ o', σ.obj n = some o' /\ (o = o' ∨ o = o'.share) /\ ∀ k b, β n = some k -> k.blk = some b -> w'.heap[b]? = w.heap[b]?) ∨ xJ β' (Mut L.A0 β' σ') w' n o)
  (hone : ∀ n k, β' n = some k -> k.v.oneCell' = true) (hres : ∀ n, F' n -> β' n = none)
  (hinj : ∀ n m o o' k k' b, σ'.obj n = some o -> σ'.obj m = some o' -> β' n = some k -> β' m = some k' -> k.blk = some b -> k'.blk = some b -> n = m)
  (hlow : ∀ n o k b, σ'.obj n = some o -> β' n = some k -> k.blk = some b -> b ∈ L.bs ∨ L.w0.heap.size <= b) (hfr : Fr L.bs L.w0 w') : Sim L F' β' σ' a' w' := by
 refine ⟨hsz.trans h.size, hd.trans h.defs, ?_, ?_, hone, hres, hinj, hlow, hfr, ?_, h.a0⟩
 ·intro s x hx
  rcases hsl s x hx with ⟨h1, h2⟩ | h1
  ·rw [h2]; exact (h.slots s x h1).mono hb hs
  ·exact h1
 ·intro n o hx
  rcases hob n o hx with ⟨o', h1, h2, h3⟩ | h1
  ·have := (h.objs n o' h1).mono hb hs h3
   rcases h2 with rfl | rfl
   ·exact this
   ·cases o' <;> exact this
  ·exact h1
 ·exact h.env.stay hs
theorem Um (a : Act) (d : Option Nat) (v : Value) : (a.put d v).tmps.size = a.tmps.size := by cases d <;> simp [Act.put]
theorem Qe (a : Act) (d : Option Nat) (v : Value) : (a.put d v).defers = a.defers := by cases d <;> rfl
theorem St.slot_put_self {σ : St} {d : Nat} {o : Out} : (σ.put (some d) o).slot d = o.val := by simp [St.slot, St.put, ja]
theorem St.slot_put_ne {σ : St} {d : Option Nat} {s : Nat} {o : Out} (h : d ≠ some s) : (σ.put d o).slot s = σ.slot s := by
 cases d with
 | none => rfl
 | some d =>
  have hn : ¬ s = d := fun e => h (by rw [e])
  simp [St.slot, St.put, ja, hn]
theorem Sim.val {L : Pl} {F : Nat -> Prop} {β : Nat -> Option Bk} {σ : St} {a : Act} {w : World} (h : Sim L F β σ a w) {d : Option Nat} {x : Option AV} {v : Value} (hd : ∀ s, d = some s -> s < L.N)
  (hx : ∀ y, x = some y -> qD β (Mut L.A0 β σ) w y v) : Sim L F β (σ.put d ⟨x, []⟩) (a.put d v) w := by
 have e : Mut L.A0 β (σ.put d ⟨x, []⟩) = Mut L.A0 β σ := rfl
 refine h.turn (zn.refl _) (by rw [e]; exact j8.refl _ _) (Um _ _ _) (Qe _ _ _) ?_ ?_ h.one h.res h.inj h.low h.fr
 ·intro s y hy
  cases d with
  | none => exact .inl ⟨hy, rfl⟩
  | some d =>
   by_cases hs : s = d
   ·subst hs
    rw [St.slot_put_self] at hy
    exact .inr (by rw [slot_put_self (by rw [h.size]; exact hd _ rfl)]; exact hx y hy)
   ·rw [St.slot_put_ne Y95] at hy
    exact .inl ⟨hy, slot_put_ne Y95⟩
 ·intro n o hn
  exact .inl ⟨o, hn, .inl rfl, fun _ _ _ _ => rfl⟩
theorem Sim.fewer {L : Pl} {F F' : Nat -> Prop} {β : Nat -> Option Bk} {σ : St} {a : Act} {w : World} (h : Sim L F β σ a w) (hf : ∀ n, F' n -> F n) : Sim L F' β σ a w :=
 ⟨h.size, h.defs, h.slots, h.objs, h.one, fun n hn => h.res n (hf n hn), h.inj, h.low, h.fr, h.env, h.a0⟩
end Go.Bl
namespace Go.Bl
open Go.RowKit
theorem Row.of_own' {A : Nat -> Prop} {w : World} {base : Nat} {e : TypeId} {s n : Nat} {v : Value} {us : List Value} (h : w.ownsRow base e s v n us) (hA : ∀ b, v.ownBlock = some b -> ¬ A b) :
  ∃ ad cap, v = .slice ad n cap /\ n <= cap /\ cap <= maxLen /\ Row A w ad us := by
 obtain ⟨hl, h⟩ := h
 rcases h with ⟨rfl, rfl⟩ | ⟨g, cap, cur, rfl, hg, hh, hn, hm, hs, ht⟩
 ·exact ⟨none, 0, rfl, Nat.le_refl _, by simp [maxLen], .inl (List.eq_nil_of_length_eq_zero (by simpa using hl))⟩
 ·refine ⟨some ⟨g, 0, none⟩, cap, rfl, hn, hm, .inr ⟨g, 0, cur, e, (0, 0), rfl, hA g rfl, hh, fun i hi => ?_⟩⟩
  rw [<- ht, List.getElem?_take, if_pos (by rw [<- hl]; exact hi)]
  simp
theorem Vz {k : Bk} {b : Nat} (h : k.v.ownBlock = some b) : k.blk = some b := by
 unfold Value.ownBlock at h
 unfold Bk.blk
 split at h
 ·rename_i a n c hv
  rw [hv]
  exact h
 ·cases h
mutual
inductive uT (A : Nat -> Prop) (w : World) : RA -> Value -> List Nat -> Prop
 | pv {x : PV} {u : Value} : je A w x u -> uT A w (.pv x) u []
 | nil : uT A w .nil (.slice none 0 0) []
 | own {e s : Nat} {xs : List PV} {v : Value} {us : List Value} : 0 < s -> qj A w (xs.flatMap PV.cells) us -> (∀ x ∈ xs, x.cells.length = s) -> (∀ x ∈ xs, ∀ c ∈ x.cells, c.one = true) -> w.ownsRow 0 e s v xs.length us ->
   uT A w (.own e s xs) v v.ownBlock.toList
 | tup {xs : List RA} {us : List Value} {bs : List Nat} : jP A w xs us bs -> uT A w (.tup xs) (.tuple us.toArray) bs
 | any {u : Value} : uT A w .any u []
inductive jP (A : Nat -> Prop) (w : World) : List RA -> List Value -> List Nat -> Prop
 | nil : jP A w [] [] []
 | cons {x : RA} {u : Value} {xs : List RA} {us : List Value} {b bs : List Nat} : uT A w x u b -> jP A w xs us bs -> jP A w (x :: xs) (u :: us) (b ++ bs)
end
def ZV (P : Program) (f : FuncId) : Prop := ∀ args w, (callFunc f args).run P w = .ok (.enter f args) w
def Con (P : Program) (G : Gv) (f : FuncId) (args : List RA) (res : RA) (outs : List RA) : Prop :=
 ZV P f /\ ∀ (w : World) (vals : List Value) (bs : List Nat) (A : Nat -> Prop), (∀ b, A b -> b < w.heap.size) -> (∀ b ∈ bs, A b) -> bs.Nodup -> Env G A w -> jP A w args vals bs ->
  Calls P f vals.toArray w fun e w' => ∃ v b1 b2, e = .returned v /\ uT (fun b => (A b /\ b ∉ bs) ∨ b ∈ b1 ++ b2) w' res v b1 /\ jP (fun b => (A b /\ b ∉ bs) ∨ b ∈ b1 ++ b2) w' outs vals b2 /\
   (b1 ++ b2).Nodup /\ (∀ b ∈ b1 ++ b2, (b ∈ bs ∨ w.heap.size <= b) /\ b < w'.heap.size) /\ Fr bs w w'
structure Cok (P : Program) (X : Cx) (L : Pl) : Prop where
 h : ∀ α f, X.h α f = f ()
 T : ∀ t ti, X.T t = some ti -> P.underlying t = some ti.desc /\ ∃ i, P.info? t = some i /\ i.size = ti.size /\ i.bytes = ti.bytes /\ ∀ z, ti.zero = some z -> i.zero = some (z ()) /\ okV (z ()) = true /\ (z ()).cells.size = ti.size
 G : X.G = L.G.val
 N : X.N = L.N
 N1 : L.N <= 1000
section
variable {α : Type} {P : Program} {X : Cx} {L : Pl} {F : Nat -> Prop} {β : Nat -> Option Bk} {σ : St} {a : Act} {w : World} {C : FuncId -> List RA -> RA -> List RA -> Prop} {b : α} {l : List Lc}
theorem Xw {A : Nat -> Prop} {v : Value} (h : v.oneCell' = true) : qD β A w (vp v) v /\ (vp v).one = true := by
 unfold vp
 split
 ·exact ⟨.nil, rfl⟩
 ·exact ⟨.pv (.v h), rfl⟩
theorem Uf {A : Nat -> Prop} {v : Value} (h : v.oneCell' = true) : je A w (jI v) v /\ (jI v).one = true := by
 unfold jI
 split
 ·exact ⟨.nil _ _, rfl⟩
 ·exact ⟨.v h, rfl⟩
theorem ur {A : Nat -> Prop} : ∀ {vs : List Value}, (∀ v ∈ vs, v.oneCell' = true) -> qm β A w (vs.map vp) vs /\ ∀ x ∈ vs.map vp, x.one = true
 | [], _ => ⟨.nil, by simp⟩
 | v :: vs, h => by
  obtain ⟨h1, h2⟩ := Xw (β := β) (A := A) (w := w) (h v List.mem_cons_self)
  obtain ⟨h3, h4⟩ := ur (vs := vs) fun x hx => h x (List.mem_cons_of_mem _ hx)
  exact ⟨.cons h1 h3, fun x hx => by rcases List.mem_cons.1 hx with rfl | hx; (exact h2); (exact h4 x hx)⟩
theorem jW {A : Nat -> Prop} : ∀ {vs : List Value}, (∀ v ∈ vs, v.oneCell' = true) -> qj A w (vs.map jI) vs /\ ∀ x ∈ vs.map jI, x.one = true
 | [], _ => ⟨.nil, by simp⟩
 | v :: vs, h => by
  obtain ⟨h1, h2⟩ := Uf (A := A) (w := w) (h v List.mem_cons_self)
  obtain ⟨h3, h4⟩ := jW (vs := vs) fun x hx => h x (List.mem_cons_of_mem _ hx)
  exact ⟨.cons h1 h3, fun x hx => by rcases List.mem_cons.1 hx with rfl | hx; (exact h2); (exact h4 x hx)⟩
theorem UL {A : Nat -> Prop} : ∀ {cs : List AV} {us : List Value} {xs : List PV}, qm β A w cs us -> (∀ c ∈ cs, c.one = true) -> UX cs = some xs -> qj A w xs us /\ ∀ x ∈ xs, x.one = true
 | [], _, _, .nil, _, h => by simp [UX] at h; subst h; exact ⟨.nil, by simp⟩
 | c :: cs, _, _, .cons h1 h2, ho, h => by
  cases c with
  | pv x =>
   simp only [UX, Option.map_eq_some_iff] at h
   obtain ⟨ys, hy, rfl⟩ := h
   obtain ⟨h3, h4⟩ := UL h2 (fun x hx => ho x (List.mem_cons_of_mem _ hx)) hy
   cases h1 with
   | pv h1 => exact ⟨.cons h1 h3, fun y hy => by
     rcases List.mem_cons.1 hy with rfl | hy
     ·exact ho _ List.mem_cons_self
     ·exact h4 y hy⟩
  | _ => simp [UX] at h
theorem yF {A : Nat -> Prop} {cs : List AV} {us : List Value} (h : qm β A w cs us) (ho : ∀ c ∈ cs, c.one = true) : qD β A w (Vk cs) (.agg us.toArray) := by
 unfold Vk
 split
 ·rename_i xs hx
  obtain ⟨h1, h2⟩ := UL h ho hx
  exact .pv (.a h1 h2)
 ·exact .ag h ho
theorem xA : ∀ {vs : List Value}, Vy vs = true -> ∀ v ∈ vs, v.oneCell' = true
 | [], _, v, h => by cases h
 | x :: vs, h, v, hv => by
  simp only [Vy, Bool.and_eq_true] at h
  rcases List.mem_cons.1 hv with rfl | hv
  ·exact h.1
  ·exact xA h.2 v hv
theorem Vx {v : Value} (h : okV v = true) (hn : ∀ cs, v ≠ .agg cs) : v.oneCell' = true := by
 unfold okV at h
 split at h
 ·rename_i cs; exact absurd rfl (hn cs)
 ·exact h
theorem Wp {A : Nat -> Prop} {v : Value} (h : okV v = true) : qD β A w (Wx v) v := by
 unfold Wx
 split
 ·exact .nil
 ·rename_i cs
  obtain ⟨h1, h2⟩ := ur (β := β) (A := A) (w := w) (xA h)
  have := yF h1 h2
  simpa using this
 ·rename_i hn
  exact .pv (.v (Vx h fun cs e => hn cs e))
theorem qaC {x : PV} (h : x.one = true) : ∀ xs, x ≠ .t xs := fun xs e => by rw [e] at h; cases h
theorem Jh {A : Nat -> Prop} {v : Value} (h : okV v = true) : je A w (vr v) v /\ (vr v).cells.length = v.cells.size /\ ∀ c ∈ (vr v).cells, c.one = true := by
 unfold vr
 split
 ·rename_i cs
  obtain ⟨h1, h2⟩ := jW (A := A) (w := w) (xA h)
  refine ⟨?_, by simp [PV.cells, Value.cells], h2⟩
  have := je.a h1 h2
  simpa using this
 ·rename_i hn
  have ho := Vx h fun cs e => hn cs e
  obtain ⟨h1, h2⟩ := Uf (A := A) (w := w) ho
  obtain ⟨h3, h4⟩ := h1.cs (qaC h2)
  exact ⟨h1, by rw [h3.length]; simp, h4⟩
theorem qE (hX : Cok P X L) (S : Sim L F β σ a w) {x : Operand} {k : AV -> RM α} (h : (evK X x k).runs C σ b l) :
  ∃ y l', qD β (Mut L.A0 β σ) w y (a.eval x) /\ (k y).runs C σ b l' := by
 cases x with
 | tmp t =>
  obtain ⟨y, l', h1, rfl, h2⟩ := h
  exact ⟨y, l', S.slots t y h1, h2⟩
 | const v =>
  simp only [evK] at h
  split at h
  ·rename_i hv
   exact ⟨_, l, Wp hv, h⟩
  ·exact Y23
 | global g =>
  simp only [evK] at h
  split at h
  ·rename_i xs hg
   exact ⟨_, l, .pv (S.env.val g xs (by rw [<- hX.G]; exact hg)), h⟩
  ·exact Y23
 | func f => exact ⟨_, l, .fn .nil .nil, h⟩
end
end Go.Bl
