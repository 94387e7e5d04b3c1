import Derived.Test.YtdloaifdpajcjaaGreatDoorGB
import Derived.RangeFuncSeq
set_option linter.unusedVariables false
set_option linter.unusedSimpArgs false
namespace Go.Bl
open Go.RowKit
inductive PV where
 | v (x : Value)
 | l (xs : List PV)
 | p (xs : List PV)
 | a (xs : List PV)
 | t (xs : List PV)
 | i (t : TypeId) (x : PV)
 | f (fn : Fn) (first caps : List PV)
 | m (ks : List Int) (vs : List PV)
 deriving Inhabited
def PV.cells : PV -> List PV
 | .a xs => xs
 | x => [x]
def PV.one : PV -> Bool
 | .a _ => false
 | .t _ => false
 | _ => true
def PV.free : PV -> Bool
 | .v _ => true
 | .i _ (.v _) => true
 | _ => false
def Qx (A : Nat -> Prop) (w : World) (r : Option Nat) (ks : List Int) (us : List Value) : Prop :=
 (r = none /\ ks = [] /\ us = []) ∨ ∃ b es ck, r = some b /\ ¬ A b /\ w.heap[b]? = some (.map es ck) /\ es.toList.map (·.key) = ks.map (Value.int .i64) /\ es.toList.map (·.val) = us
mutual
inductive qN (A : Nat -> Prop) (w : World) : PV -> Value -> Prop
 | v {x : Value} : x.oneCell' = true -> qN A w (.v x) x
 | l {xs : List PV} {ad : Option Addr} {cap s : Nat} {us : List Value} : qe A w (xs.flatMap PV.cells) us -> (∀ x ∈ xs, x.cells.length = s) -> (∀ x ∈ xs, ∀ c ∈ x.cells, c.one = true) -> 0 < s -> xs.length <= cap -> cap <= maxLen -> Row A w ad us ->
   qN A w (.l xs) (.slice ad xs.length cap)
 | p {xs : List PV} {ad : Addr} {us : List Value} : qe A w xs us -> (∀ c ∈ xs, c.one = true) -> Row A w (some ad) us -> qN A w (.p xs) (.pointer (some ad))
 | a {xs : List PV} {us : List Value} : qe A w xs us -> (∀ c ∈ xs, c.one = true) -> qN A w (.a xs) (.agg us.toArray)
 | t {xs : List PV} {us : List Value} : qe A w xs us -> qN A w (.t xs) (.tuple us.toArray)
 | i {t : TypeId} {x : PV} {u : Value} : qN A w x u -> qN A w (.i t x) (.iface t u)
 | f {fn : Fn} {xs ys : List PV} {us zs : List Value} : qe A w xs us -> qe A w ys zs -> qN A w (.f fn xs ys) (.func fn us.toArray zs.toArray)
 | m {ks : List Int} {vs : List PV} {us : List Value} {r : Option Nat} : qe A w vs us -> Qx A w r ks us -> qN A w (.m ks vs) (.map r)
inductive qe (A : Nat -> Prop) (w : World) : List PV -> List Value -> Prop
 | nil : qe A w [] []
 | cons {x : PV} {u : Value} {xs : List PV} {us : List Value} : qN A w x u -> qe A w xs us -> qe A w (x :: xs) (u :: us)
end
structure qQ (A A' : Nat -> Prop) (w w' : World) : Prop where
 heap : ∀ b, b < w.heap.size -> ¬ A b -> w'.heap[b]? = w.heap[b]?
 out : ∀ b, b < w.heap.size -> A' b -> A b
theorem qQ.refl (A : Nat -> Prop) (w : World) : qQ A A w w := ⟨fun _ _ _ => rfl, fun _ _ h => h⟩
theorem Row.stay {A A' : Nat -> Prop} {w w' : World} {ad : Option Addr} {cs : List Value} (h : Row A w ad cs) (k : qQ A A' w w') : Row A' w' ad cs := by
 rcases h with h | ⟨b, off, c, e, fz, rfl, hn, hb, hc⟩
 ·exact .inl h
 ·have hl := qk hb
  exact .inr ⟨b, off, c, e, fz, rfl, fun h => hn (k.out b hl h), by rw [k.heap b hl hn]; exact hb, hc⟩
theorem Qx.stay {A A' : Nat -> Prop} {w w' : World} {r : Option Nat} {ks : List Int} {us : List Value} (h : Qx A w r ks us) (k : qQ A A' w w') : Qx A' w' r ks us := by
 rcases h with h | ⟨b, es, ck, h1, h2, h3, h4⟩
 ·exact .inl h
 ·have hl := qk h3
  exact .inr ⟨b, es, ck, h1, fun h => h2 (k.out b hl h), by rw [k.heap b hl h2]; exact h3, h4⟩
mutual
theorem qN.stay {A A' : Nat -> Prop} {w w' : World} (k : qQ A A' w w') : ∀ {x : PV} {u : Value}, qN A w x u -> qN A' w' x u
 | _, _, .v h => .v h
 | _, _, .l h h1 h2 h3 h4 h5 h6 => .l (qe.stay k h) h1 h2 h3 h4 h5 (h6.stay k)
 | _, _, .p h h1 h2 => .p (qe.stay k h) h1 (h2.stay k)
 | _, _, .a h h1 => .a (qe.stay k h) h1
 | _, _, .t h => .t (qe.stay k h)
 | _, _, .i h => .i (qN.stay k h)
 | _, _, .f h h1 => .f (qe.stay k h) (qe.stay k h1)
 | _, _, .m h h1 => .m (qe.stay k h) (h1.stay k)
theorem qe.stay {A A' : Nat -> Prop} {w w' : World} (k : qQ A A' w w') : ∀ {xs : List PV} {us : List Value}, qe A w xs us -> qe A' w' xs us
 | _, _, .nil => .nil
 | _, _, .cons h h1 => .cons (qN.stay k h) (qe.stay k h1)
end
theorem qN.free {A A' : Nat -> Prop} {w w' : World} {x : PV} {u : Value} (h : qN A w x u) (hx : x.free = true) : qN A' w' x u := by
 cases h with
 | v h => exact .v h
 | i h =>
  cases h with
  | v h => exact .i (.v h)
  | _ => cases hx
 | _ => cases hx
theorem qe.length {A : Nat -> Prop} {w : World} : ∀ {xs : List PV} {us : List Value}, qe A w xs us -> xs.length = us.length
 | _, _, .nil => rfl
 | _, _, .cons _ h => by simp [qe.length h]
theorem qe.get {A : Nat -> Prop} {w : World} : ∀ {xs : List PV} {us : List Value}, qe A w xs us -> ∀ {i : Nat} {x : PV}, xs[i]? = some x -> ∃ u, us[i]? = some u /\ qN A w x u
 | _, _, .nil, _, _, h => by simp at h
 | _, _, .cons h h1, 0, _, e => by simp at e; subst e; exact ⟨_, rfl, h⟩
 | _, _, .cons h h1, i + 1, _, e => by simp at e; obtain ⟨u, h2, h3⟩ := qe.get h1 e; exact ⟨u, by simpa using h2, h3⟩
theorem qe.app {A : Nat -> Prop} {w : World} : ∀ {xs : List PV} {us : List Value}, qe A w xs us -> ∀ {ys : List PV} {zs : List Value}, qe A w ys zs -> qe A w (xs ++ ys) (us ++ zs)
 | _, _, .nil, _, _, h => h
 | _, _, .cons h h1, _, _, h2 => .cons h (qe.app h1 h2)
theorem qe.split {A : Nat -> Prop} {w : World} : ∀ {xs ys : List PV} {us : List Value}, qe A w (xs ++ ys) us -> ∃ u1 u2, us = u1 ++ u2 /\ qe A w xs u1 /\ qe A w ys u2
 | [], ys, us, h => ⟨[], us, rfl, .nil, h⟩
 | x :: xs, ys, _, .cons h h1 => by
  obtain ⟨u1, u2, e, h2, h3⟩ := qe.split h1
  exact ⟨_ :: u1, u2, by rw [e]; rfl, .cons h h2, h3⟩
theorem qe.take {A : Nat -> Prop} {w : World} : ∀ {xs : List PV} {us : List Value}, qe A w xs us -> ∀ (k : Nat), qe A w (xs.take k) (us.take k)
 | _, _, .nil, k => by simp; exact .nil
 | _, _, .cons h h1, 0 => .nil
 | _, _, .cons h h1, k + 1 => .cons h (qe.take h1 k)
theorem qe.drop {A : Nat -> Prop} {w : World} : ∀ {xs : List PV} {us : List Value}, qe A w xs us -> ∀ (k : Nat), qe A w (xs.drop k) (us.drop k)
 | _, _, .nil, k => by simp; exact .nil
 | _, _, .cons h h1, 0 => .cons h h1
 | _, _, .cons h h1, k + 1 => qe.drop h1 k
theorem qe.set {A : Nat -> Prop} {w : World} {x : PV} {u : Value} (hx : qN A w x u) : ∀ {xs : List PV} {us : List Value}, qe A w xs us -> ∀ (k : Nat), qe A w (xs.set k x) (us.set k u)
 | _, _, .nil, k => by simp; exact .nil
 | _, _, .cons h h1, 0 => .cons hx h1
 | _, _, .cons h h1, k + 1 => .cons h (qe.set hx h1 k)
theorem qe.replicate {A : Nat -> Prop} {w : World} {x : PV} {u : Value} (hx : qN A w x u) : ∀ (k : Nat), qe A w (List.replicate k x) (List.replicate k u)
 | 0 => .nil
 | k + 1 => .cons hx (qe.replicate hx k)
theorem qN.one {A : Nat -> Prop} {w : World} {x : PV} {u : Value} (h : qN A w x u) (hx : x.one = true) : u.oneCell' = true := by
 cases h with
 | v h => exact h
 | a h h1 => cases hx
 | t h => cases hx
 | _ => rfl
theorem qe.ones {A : Nat -> Prop} {w : World} : ∀ {xs : List PV} {us : List Value}, qe A w xs us -> (∀ x ∈ xs, x.one = true) -> ∀ u ∈ us, u.oneCell' = true
 | _, _, .nil, _, u, h => by cases h
 | _, _, .cons h h1, ho, u, hu => by
  rcases List.mem_cons.1 hu with rfl | hu
  ·exact h.one (ho _ List.mem_cons_self)
  ·exact qe.ones h1 (fun x hx => ho x (List.mem_cons_of_mem _ hx)) u hu
theorem JM {u : Value} (h : u.oneCell' = true) : u.cells = #[u] := by
 cases u <;> first | rfl | cases h
theorem qN.cs {A : Nat -> Prop} {w : World} {x : PV} {u : Value} (h : qN A w x u) (ht : ∀ xs, x ≠ .t xs) : qe A w x.cells u.cells.toList /\ ∀ c ∈ x.cells, c.one = true := by
 cases h with
 | a h h1 => exact ⟨by simpa [PV.cells, Value.cells] using h, h1⟩
 | t h => exact absurd rfl (ht _)
 | v h => exact ⟨by rw [JM h]; exact .cons (.v h) .nil, by simp [PV.cells, PV.one]⟩
 | l h h1 h2 h3 h4 h5 h6 => exact ⟨.cons (.l h h1 h2 h3 h4 h5 h6) .nil, by simp [PV.cells, PV.one]⟩
 | p h h1 h2 => exact ⟨.cons (.p h h1 h2) .nil, by simp [PV.cells, PV.one]⟩
 | i h => exact ⟨.cons (.i h) .nil, by simp [PV.cells, PV.one]⟩
 | f h h1 => exact ⟨.cons (.f h h1) .nil, by simp [PV.cells, PV.one]⟩
 | m h h1 => exact ⟨.cons (.m h h1) .nil, by simp [PV.cells, PV.one]⟩
theorem qN.nil (A : Nat -> Prop) (w : World) : qN A w (.l []) (.slice none 0 0) := .l (s := 1) (xs := []) .nil Y85 Y85 Y86 (Nat.le_refl _) (by simp [maxLen]) (.inl rfl)
end Go.Bl
namespace Go.Bl
open Go.RowKit
inductive AV where
 | pv (x : PV)
 | nil
 | ref (n i j : Nat)
 | own (n : Nat)
 | sl (n off len : Nat)
 | ag (xs : List AV)
 | tup (xs : List AV)
 | fn (f : Fn) (first caps : List AV)
 deriving Inhabited
inductive Ob where
 | row (e : TypeId) (s : Nat) (xs : List PV) (sh : Bool)
 | var (t : TypeId) (xs : List PV) (sh : Bool)
 | box (t : TypeId) (cs : List AV) (sh : Bool)
 | mrow (e : TypeId) (xs : List PV) (sh : Bool)
 | map (ks : List Int) (vs : List PV) (sh : Bool)
 deriving Inhabited
def Ob.sh : Ob -> Bool
 | .row _ _ _ b => b
 | .var _ _ b => b
 | .box _ _ b => b
 | .mrow _ _ b => b
 | .map _ _ b => b
def Ob.share : Ob -> Ob
 | .row e s xs _ => .row e s xs true
 | .var t xs _ => .var t xs true
 | .box t cs _ => .box t cs true
 | .mrow e xs _ => .mrow e xs true
 | .map ks vs _ => .map ks vs true
inductive RA where
 | pv (x : PV)
 | nil
 | own (e : TypeId) (s : Nat) (xs : List PV)
 | hp (ρ : List (Nat × Nat)) (objs : List (Nat × Ob)) (xs : List AV)
 | tup (xs : List RA)
 | itr (lb : List PV) (rows : List (List PV))
 | any
 deriving Inhabited
def qp {α : Type} : List (Nat × α) -> Nat -> Option α
 | [], _ => none
 | (k, x) :: r, n => if n = k then some x else qp r n
mutual
def AV.has (p : Nat -> Bool) : AV -> Bool
 | .pv _ => false
 | .nil => false
 | .ref n _ _ => p n
 | .own n => p n
 | .sl n _ _ => p n
 | .ag xs => AV.hasL p xs
 | .tup xs => AV.hasL p xs
 | .fn _ a b => AV.hasL p a || AV.hasL p b
def AV.hasL (p : Nat -> Bool) : List AV -> Bool
 | [] => false
 | x :: r => AV.has p x || AV.hasL p r
end
def Ob.has (p : Nat -> Bool) : Ob -> Bool
 | .box _ cs _ => AV.hasL p cs
 | _ => false
def rnm (ρ : List (Nat × Nat)) (n : Nat) : Nat := (qp ρ n).getD n
mutual
def AV.ren (ρ : List (Nat × Nat)) : AV -> AV
 | .pv x => .pv x
 | .nil => .nil
 | .ref n i j => .ref (rnm ρ n) i j
 | .own n => .own (rnm ρ n)
 | .sl n i j => .sl (rnm ρ n) i j
 | .ag xs => .ag (AV.renL ρ xs)
 | .tup xs => .tup (AV.renL ρ xs)
 | .fn f a b => .fn f (AV.renL ρ a) (AV.renL ρ b)
def AV.renL (ρ : List (Nat × Nat)) : List AV -> List AV
 | [] => []
 | x :: r => AV.ren ρ x :: AV.renL ρ r
end
def Ob.ren (ρ : List (Nat × Nat)) : Ob -> Ob
 | .box t cs b => .box t (AV.renL ρ cs) b
 | o => o
structure St where
 slots : List (Nat × Option AV)
 objs : List (Nat × Option Ob)
def St.slot (σ : St) (s : Nat) : Option AV := (qp σ.slots s).join
def St.obj (σ : St) (n : Nat) : Option Ob := (qp σ.objs n).join
structure Out where
 val : Option AV
 objs : List (Nat × Option Ob)
def St.put (σ : St) (d : Option Nat) (o : Out) : St :=
 ⟨match d with | some d => (d, o.val) :: σ.slots | none => σ.slots, o.objs ++ σ.objs⟩
inductive RM (α : Type) where
 | ret (a : α)
 | fail
 | slot (s : Nat) (k : AV -> RM α)
 | obj (n : Nat) (k : Ob -> RM α)
 | chk (p : Unit -> Prop) (k : RM α)
 | brn (b : Bool) (k : Bool -> RM α)
 | call (f : FuncId) (k : List RA -> RA -> List RA -> RM α)
def RM.bind {α β : Type} : RM α -> (α -> RM β) -> RM β
 | .ret a, f => f a
 | .fail, _ => .fail
 | .slot s k, f => .slot s fun x => (k x).bind f
 | .obj n k, f => .obj n fun x => (k x).bind f
 | .chk p k, f => .chk p (k.bind f)
 | .brn b k, f => .brn b fun x => (k x).bind f
 | .call g k, f => .call g fun x y z => (k x y z).bind f
inductive Lc where
 | s (n : Nat)
 | o (n : Nat)
 deriving DecidableEq
def RM.vc {α : Type} (C : FuncId -> List RA -> RA -> List RA -> Prop) (σ : St) : RM α -> (α -> List Lc -> Prop) -> Prop
 | .ret a, K => K a []
 | .fail, _ => False
 | .slot s k, K => match σ.slot s with
  | some x => (k x).vc C σ fun a l => K a (.s s :: l)
  | none => False
 | .obj n k, K => match σ.obj n with
  | some x => (k x).vc C σ fun a l => K a (.o n :: l)
  | none => False
 | .chk p k, K => (∀ u, p u) /\ k.vc C σ K
 | .brn b k, K => (b = true -> (k true).vc C σ K) /\ (b = false -> (k false).vc C σ K)
 | .call f k, K => ∃ xs r ys, C f xs r ys /\ (k xs r ys).vc C σ K
def RM.runs {α : Type} (C : FuncId -> List RA -> RA -> List RA -> Prop) (σ : St) : RM α -> α -> List Lc -> Prop
 | .ret a, b, l => b = a /\ l = []
 | .fail, _, _ => False
 | .slot s k, b, l => ∃ x l', σ.slot s = some x /\ l = .s s :: l' /\ (k x).runs C σ b l'
 | .obj n k, b, l => ∃ x l', σ.obj n = some x /\ l = .o n :: l' /\ (k x).runs C σ b l'
 | .chk p k, b, l => (∀ u, p u) /\ k.runs C σ b l
 | .brn c k, b, l => (k c).runs C σ b l
 | .call f k, b, l => ∃ xs r ys, C f xs r ys /\ (k xs r ys).runs C σ b l
theorem RM.runs_of_vc {α : Type} {C : FuncId -> List RA -> RA -> List RA -> Prop} {σ : St} : ∀ {m : RM α} {K : α -> List Lc -> Prop}, m.vc C σ K -> ∃ a l, m.runs C σ a l /\ K a l
 | .ret a, K, h => ⟨a, [], ⟨rfl, rfl⟩, h⟩
 | .fail, K, h => h.elim
 | .slot s k, K, h => by
  simp only [RM.vc] at h
  split at h
  ·rename_i x hx
   obtain ⟨a, l, h1, h2⟩ := runs_of_vc h
   exact ⟨a, _, ⟨x, l, hx, rfl, h1⟩, h2⟩
  ·exact Y8
 | .obj n k, K, h => by
  simp only [RM.vc] at h
  split at h
  ·rename_i x hx
   obtain ⟨a, l, h1, h2⟩ := runs_of_vc h
   exact ⟨a, _, ⟨x, l, hx, rfl, h1⟩, h2⟩
  ·exact Y8
 | .chk p k, K, h => by
  obtain ⟨a, l, h1, h2⟩ := runs_of_vc h.2
  exact ⟨a, l, ⟨h.1, h1⟩, h2⟩
 | .brn b k, K, h => by
  cases b
  ·obtain ⟨a, l, h1, h2⟩ := runs_of_vc (h.2 rfl); exact ⟨a, l, h1, h2⟩
  ·obtain ⟨a, l, h1, h2⟩ := runs_of_vc (h.1 rfl); exact ⟨a, l, h1, h2⟩
 | .call f k, K, ⟨xs, r, ys, hc, h⟩ => by
  obtain ⟨a, l, h1, h2⟩ := runs_of_vc h
  exact ⟨a, l, ⟨xs, r, ys, hc, h1⟩, h2⟩
def Lc.same (σ τ : St) : Lc -> Prop
 | .s n => σ.slot n = τ.slot n
 | .o n => σ.obj n = τ.obj n
theorem RM.runs_local {α : Type} {C : FuncId -> List RA -> RA -> List RA -> Prop} {σ τ : St} : ∀ {m : RM α} {a : α} {l : List Lc}, m.runs C σ a l -> (∀ c ∈ l, c.same σ τ) -> m.runs C τ a l
 | .ret _, _, _, h, _ => h
 | .fail, _, _, h, _ => h
 | .slot s k, _, _, ⟨x, l, hx, rfl, h⟩, hs => ⟨x, l, (hs _ List.mem_cons_self).symm.trans hx, rfl, runs_local h fun c hc => hs c (List.mem_cons_of_mem _ hc)⟩
 | .obj n k, _, _, ⟨x, l, hx, rfl, h⟩, hs => ⟨x, l, (hs _ List.mem_cons_self).symm.trans hx, rfl, runs_local h fun c hc => hs c (List.mem_cons_of_mem _ hc)⟩
 | .chk p k, _, _, ⟨hp, h⟩, hs => ⟨hp, runs_local h hs⟩
 | .brn b k, _, _, h, hs => runs_local (m := k b) h hs
 | .call f k, _, _, ⟨xs, r, ys, hc, h⟩, hs => ⟨xs, r, ys, hc, runs_local h hs⟩
theorem RM.runs_bind {α β : Type} {C : FuncId -> List RA -> RA -> List RA -> Prop} {σ : St} : ∀ {m : RM α} {f : α -> RM β} {b : β} {l : List Lc}, (m.bind f).runs C σ b l -> ∃ a l1 l2, m.runs C σ a l1 /\ (f a).runs C σ b l2 /\ l = l1 ++ l2
 | .ret a, f, b, l, h => ⟨a, [], l, ⟨rfl, rfl⟩, h, rfl⟩
 | .fail, _, _, _, h => h.elim
 | .slot s k, f, b, l, ⟨x, l', hx, e, h⟩ => by
  obtain ⟨a, l1, l2, h1, h2, rfl⟩ := runs_bind h
  exact ⟨a, _, l2, ⟨x, l1, hx, rfl, h1⟩, h2, e⟩
 | .obj n k, f, b, l, ⟨x, l', hx, e, h⟩ => by
  obtain ⟨a, l1, l2, h1, h2, rfl⟩ := runs_bind h
  exact ⟨a, _, l2, ⟨x, l1, hx, rfl, h1⟩, h2, e⟩
 | .chk p k, f, b, l, ⟨hp, h⟩ => by
  obtain ⟨a, l1, l2, h1, h2, e⟩ := runs_bind h
  exact ⟨a, l1, l2, ⟨hp, h1⟩, h2, e⟩
 | .brn c k, f, b, l, h => by
  obtain ⟨a, l1, l2, h1, h2, e⟩ := runs_bind (m := k c) h
  exact ⟨a, l1, l2, h1, h2, e⟩
 | .call g k, f, b, l, ⟨xs, r, ys, hc, h⟩ => by
  obtain ⟨a, l1, l2, h1, h2, e⟩ := runs_bind h
  exact ⟨a, l1, l2, ⟨xs, r, ys, hc, h1⟩, h2, e⟩
end Go.Bl
namespace Go.Bl
open Go.RowKit
structure TI where
 size : Nat
 bytes : Nat
 zero : Option (Unit -> Value)
 desc : TypeDesc
structure Cx where
 h : (α : Type) -> (Unit -> α) -> α
 T : TypeId -> Option TI
 G : Nat -> Option (List PV)
 N : Nat
 J : List Nat
def TI.isAgg (i : TI) : Bool := match i.desc with | .struct _ => true | .array _ _ => true | _ => false
def noP : PV := .v (.bool false)
def jn : Value -> PV
 | .slice none 0 0 => .l []
 | x => .v x
def vT : Value -> AV
 | .slice none 0 0 => .nil
 | x => .pv (.v x)
def VY : List AV -> Option (List PV)
 | [] => some []
 | .pv x :: r => (VY r).map (x :: ·)
 | _ :: _ => none
def Xu (cs : List AV) : AV := match VY cs with | some xs => .pv (.a xs) | none => .ag cs
def Lx : Value -> AV
 | .slice none 0 0 => .nil
 | .agg cs => Xu (cs.toList.map vT)
 | x => .pv (.v x)
def Yu : List Value -> Bool
 | [] => true
 | x :: r => x.oneCell' && Yu r
def okV : Value -> Bool
 | .agg cs => Yu cs.toList
 | x => x.oneCell'
def uh : Value -> PV
 | .agg cs => .a (cs.toList.map jn)
 | x => jn x
def AV.cells : AV -> Option (List AV)
 | .pv (.a xs) => some (xs.map .pv)
 | .pv (.t _) => none
 | .ag xs => some xs
 | .tup _ => none
 | x => some [x]
def splice {α : Type} (off : Nat) (cs base : List α) : List α := base.take off ++ cs ++ base.drop (off + cs.length)
def xc (s : Nat) (xs : List PV) : Prop := ∀ x ∈ xs, x.cells.length = s
def PV.int : PV -> Int
 | .v (.int _ n) => n
 | _ => 0
def PV.bool : PV -> Bool
 | .v (.bool b) => b
 | _ => false
def PV.str : PV -> ByteArray
 | .v (.string s) => s
 | _ => .empty
def PV.val : PV -> Value
 | .v x => x
 | _ => .nilIface
def PV.els : PV -> List PV
 | .l xs => xs
 | .p xs => xs
 | _ => []
def Cx.flatF (X : Cx) : List Field -> Bool
 | [] => true
 | f :: r => match X.T f.type with | some ti => !ti.isAgg && X.flatF r | none => false
def Cx.flat (X : Cx) (d : TypeDesc) : Bool := match d with | .struct fs => X.flatF fs.toList | _ => false
def Cx.ex1 (X : Cx) (d : TypeDesc) (e : PV) : PV := match d with
 | .int k => .v (.int k (X.h _ fun _ => e.int))
 | .bool => .v (.bool (X.h _ fun _ => e.bool))
 | .string => .v (.string (X.h _ fun _ => e.str))
 | .slice _ => .l (X.h _ fun _ => e.els)
 | .pointer _ => .p (X.h _ fun _ => e.els)
 | .interface _ => .v (X.h _ fun _ => e.val)
 | _ => e
def Cx.shapeF (X : Cx) : List Field -> Option (List (TypeDesc × Nat))
 | [] => some []
 | f :: r => match X.T f.type with
  | some ti => match ti.isAgg with
   | true => none
   | false => match X.shapeF r with
    | some s => some ((ti.desc, f.offset) :: s)
    | none => none
  | none => none
def Cx.shape (X : Cx) : TypeDesc -> Option (List (TypeDesc × Nat))
 | .struct fs => X.shapeF fs.toList
 | _ => none
def Cx.exS (X : Cx) (cs : List PV) : List (TypeDesc × Nat) -> List PV
 | [] => []
 | (d, o) :: r => X.ex1 d (X.h _ fun _ => cs.getD o noP) :: X.exS cs r
def Cx.exA (X : Cx) (s : Option (List (TypeDesc × Nat))) (cs : List PV) : List PV := match s with
 | some s => X.exS cs s
 | none => cs
variable {α : Type}
def evK (X : Cx) : Operand -> (AV -> RM α) -> RM α
 | .tmp t, k => .slot t k
 | .const v, k => match okV v with | true => k (Lx v) | false => .fail
 | .global g, k => match X.G g with | some xs => k (.pv (.p xs)) | none => .fail
 | .func f, k => k (.fn (.func f) [] [])
def jG (X : Cx) (t : TypeId) (k : TI -> RM α) : RM α := match X.T t with | some i => k i | none => .fail
mutual
def ZC (X : Cx) : Nat -> AV -> (PV -> List Nat -> RM α) -> RM α
 | _, .pv x, k => k x []
 | _, .nil, k => k (.l []) []
 | _, .own n, k => .obj n fun o => match o with
  | .row _ _ xs _ => k (.l xs) [n]
  | .mrow _ xs _ => k (.l xs) [n]
  | .map ks vs _ => k (.m ks vs) [n]
  | _ => .fail
 | _, .sl n off len, k => .obj n fun o => match o with
  | .row _ _ xs _ => .chk (fun _ => off + len <= xs.length) (k (.l (X.h _ fun _ => (xs.drop off).take len)) [n])
  | .var _ xs _ => .chk (fun _ => off + len <= xs.length) (k (.l (X.h _ fun _ => (xs.drop off).take len)) [n])
  | _ => .fail
 | n' + 1, .ref n i j, k => .obj n fun o => match o with
  | .row _ _ xs _ => .chk (fun _ => i < xs.length) (k (.p (X.h _ fun _ => (xs.getD i noP).cells.drop j)) [n])
  | .var _ xs _ => k (.p (X.h _ fun _ => xs.drop (i + j))) [n]
  | .box _ cs _ => QY X n' (cs.drop (i + j)) fun ys ns => k (.p ys) (n :: ns)
  | _ => .fail
 | 0, .ref _ _ _, _ => .fail
 | n + 1, .ag xs, k => QY X n xs fun ys ns => k (.a ys) ns
 | n + 1, .tup xs, k => QY X n xs fun ys ns => k (.t ys) ns
 | n + 1, .fn f a b, k => QY X n a fun as ns => QY X n b fun bs ms => k (.f f as bs) (ns ++ ms)
 | 0, .ag _, _ => .fail
 | 0, .tup _, _ => .fail
 | 0, .fn _ _ _, _ => .fail
def QY (X : Cx) : Nat -> List AV -> (List PV -> List Nat -> RM α) -> RM α
 | _, [], k => k [] []
 | 0, _ :: _, _ => .fail
 | n + 1, x :: r, k => ZC X n x fun y ns => QY X n r fun ys ms => k (y :: ys) (ns ++ ms)
end
def x4 : Nat := 200
def yA : List Nat -> (List (Nat × Option Ob) -> RM α) -> RM α
 | [], k => k []
 | n :: r, k => .obj n fun o => yA r fun l => k ((n, some o.share) :: l)
def Js (X : Cx) (x : AV) (k : PV -> List (Nat × Option Ob) -> RM α) : RM α := ZC X x4 x fun y ns => yA ns fun l => k y l
def Ye (X : Cx) : List (Nat × Operand) -> (List (Nat × AV) -> RM α) -> RM α
 | [], k => k []
 | (i, x) :: r, k => evK X x fun a => Ye X r fun l => k ((i, a) :: l)
def qaO (place : Nat -> Option (Nat × Nat)) : List AV -> List (Nat × AV) -> (List AV -> RM α) -> RM α
 | base, [], k => k base
 | base, (i, x) :: r, k => match place i, x.cells with
  | some (off, size), some cs => .chk (fun _ => cs.length = size /\ off + size <= base.length) (qaO place (splice off cs base) r k)
  | _, _ => .fail
def WL (X : Cx) (place : Nat -> Option (Nat × Nat)) : List PV -> List (Nat × AV) -> (List PV -> List (Nat × Option Ob) -> RM α) -> RM α
 | base, [], k => k base []
 | base, (i, x) :: r, k => match place i with
  | some (off, size) => Js X x fun y sh => .chk (fun _ => y.cells.length = size /\ off + size <= base.length /\ ((∃ xs, y = .t xs) -> False)) (WL X place (X.h _ fun _ => splice off y.cells base) r fun zs l => k zs (sh ++ l))
  | none => .fail
def uJ (X : Cx) (fs : Array Field) (i : Nat) : Option (Nat × Nat) := match fs[i]? with
 | some f => match X.T f.type with | some ti => some (f.offset, ti.size) | none => none
 | none => none
def YS (X : Cx) (s : Nat) : List PV -> List (Nat × AV) -> (List PV -> List (Nat × Option Ob) -> RM α) -> RM α
 | xs, [], k => k xs []
 | xs, (i, x) :: r, k => Js X x fun y sh => .chk (fun _ => i < xs.length /\ y.cells.length = s /\ ((∃ zs, y = .t zs) -> False)) (YS X s (xs.set i y) r fun zs l => k zs (sh ++ l))
def Za : AV -> (IntKind -> Int -> RM α) -> RM α
 | .pv (.v (.int kd n)), k => k kd n
 | _, _ => .fail
def yp (op : BinOp) (k : IntKind) (x y : Int) : Int := match op with
 | .and => k.wrap (BitVec.ofInt k.bits x &&& BitVec.ofInt k.bits y).toNat
 | .or => k.wrap (BitVec.ofInt k.bits x ||| BitVec.ofInt k.bits y).toNat
 | .xor => k.wrap (BitVec.ofInt k.bits x ^^^ BitVec.ofInt k.bits y).toNat
 | _ => k.wrap (BitVec.ofInt k.bits x &&& ~~~BitVec.ofInt k.bits y).toNat
def qgD (X : Cx) (op : BinOp) (kd : IntKind) (a : Int) (kd' : IntKind) (b : Int) (k : Value -> RM α) : RM α := match op with
 | .shl => .chk (fun _ => 0 <= b) (k (.int kd (X.h _ fun _ => kd.wrap (a * 2 ^ min b.toNat kd.bits))))
 | .shr => .chk (fun _ => 0 <= b) (k (.int kd (X.h _ fun _ => a.fdiv (2 ^ min b.toNat kd.bits))))
 | .add => .chk (fun _ => kd = kd') (k (.int kd (X.h _ fun _ => kd.wrap (a + b))))
 | .sub => .chk (fun _ => kd = kd') (k (.int kd (X.h _ fun _ => kd.wrap (a - b))))
 | .mul => .chk (fun _ => kd = kd') (k (.int kd (X.h _ fun _ => kd.wrap (a * b))))
 | .quo => .chk (fun _ => kd = kd' /\ b ≠ 0) (k (.int kd (X.h _ fun _ => kd.wrap (a.tdiv b))))
 | .rem => .chk (fun _ => kd = kd' /\ b ≠ 0) (k (.int kd (X.h _ fun _ => a.tmod b)))
 | .eql => .chk (fun _ => kd = kd') (k (.bool (X.h _ fun _ => a == b)))
 | .neq => .chk (fun _ => kd = kd') (k (.bool (X.h _ fun _ => a != b)))
 | .lss => .chk (fun _ => kd = kd') (k (.bool (X.h _ fun _ => decide (a < b))))
 | .leq => .chk (fun _ => kd = kd') (k (.bool (X.h _ fun _ => decide (a <= b))))
 | .gtr => .chk (fun _ => kd = kd') (k (.bool (X.h _ fun _ => decide (a > b))))
 | .geq => .chk (fun _ => kd = kd') (k (.bool (X.h _ fun _ => decide (a ≥ b))))
 | op => .chk (fun _ => kd = kd') (k (.int kd (X.h _ fun _ => yp op kd a b)))
def Qi : Operand -> Bool
 | .const _ => true
 | _ => false
def VJ (op : BinOp) (b : Bool) (k : Value -> RM α) : RM α := match op with
 | .eql => k (.bool b)
 | .neq => k (.bool !b)
 | _ => .fail
def u8P (b : UInt8) : PV := .v (u8v b)
def uV : PV -> UInt8
 | .v (.int _ n) => UInt8.ofNat n.toNat
 | _ => 0
def qgZ (n : Nat) (te : TI) (xs ys : List PV) : Prop := te.size = 1 /\ xs.length = n /\ ys.length = n /\ (∀ x ∈ xs, ∃ a, x = .v (.int .i64 a)) /\ ∀ y ∈ ys, ∃ a, y = .v (.int .i64 a)
def qeu (n : Nat) (te : TI) (xs ys : List PV) : Prop := te.size = 1 /\ xs.length = n /\ ys.length = n /\ (∀ x ∈ xs, ∃ b, x = u8P b) /\ ∀ y ∈ ys, ∃ b, y = u8P b
def qhd (X : Cx) (ti : TI) (op : BinOp) (c : Bool) (x y : AV) (k : Value -> RM α) : RM α := match x, y with
 | .pv (.v (.int kd a)), .pv (.v (.int kd' b)) => qgD X op kd a kd' b k
 | .pv (.v (.bool a)), .pv (.v (.bool b)) => match ti.desc, op with
  | .bool, .eql => k (.bool (X.h _ fun _ => a == b))
  | .bool, .neq => k (.bool (X.h _ fun _ => !(a == b)))
  | _, _ => .fail
 | .pv (.v (.string a)), .pv (.v (.string b)) => match op with
  | .eql => k (.bool (X.h _ fun _ => a.toList == b.toList))
  | .neq => k (.bool (X.h _ fun _ => !(a.toList == b.toList)))
  | .add => .chk (fun _ => a.size + b.size <= 9223372036854775807) (k (.string (X.h _ fun _ => a ++ b)))
  | _ => .fail
 | .pv (.v .nilIface), .pv (.v .nilIface) => match ti.desc, c with | .interface _, true => VJ op true k | _, _ => .fail
 | .pv (.v (.iface _ _)), .pv (.v .nilIface) => match ti.desc with | .interface _ => VJ op false k | _ => .fail
 | .pv (.v .nilIface), .pv (.v (.iface _ _)) => match ti.desc with | .interface _ => VJ op false k | _ => .fail
 | .pv (.i _ _), .pv (.v .nilIface) => match ti.desc with | .interface _ => VJ op false k | _ => .fail
 | .pv (.v .nilIface), .pv (.i _ _) => match ti.desc with | .interface _ => VJ op false k | _ => .fail
 | .pv (.p _), .pv (.v (.pointer none)) => match ti.desc with | .pointer _ => VJ op false k | _ => .fail
 | .ref _ _ _, .pv (.v (.pointer none)) => match ti.desc with | .pointer _ => VJ op false k | _ => .fail
 | .pv (.l xs), .nil => match ti.desc with | .slice _ => .chk (fun _ => xs ≠ []) (VJ op false k) | _ => .fail
 | .nil, .nil => match ti.desc with | .slice _ => VJ op true k | _ => .fail
 | .pv (.a xs), .pv (.a ys) => match ti.desc with
  | .array n e => match X.T e with
   | some te => match te.desc with
    | .int .u8 => match op with
     | .eql => .chk (fun _ => qeu n te xs ys) (k (.bool (X.h _ fun _ => xs.map uV == ys.map uV)))
     | .neq => .chk (fun _ => qeu n te xs ys) (k (.bool (X.h _ fun _ => !(xs.map uV == ys.map uV))))
     | _ => .fail
    | .int .i64 => match op with
     | .eql => .chk (fun _ => qgZ n te xs ys) (k (.bool (X.h _ fun _ => xs.map PV.int == ys.map PV.int)))
     | .neq => .chk (fun _ => qgZ n te xs ys) (k (.bool (X.h _ fun _ => !(xs.map PV.int == ys.map PV.int))))
     | _ => .fail
    | _ => .fail
   | none => .fail
  | _ => .fail
 | _, _ => .fail
def qcE {β : Type} (lo : Nat) (hi : Option Nat) (xs : List β) : List β := match hi with
 | some h => (xs.take h).drop lo
 | none => xs.drop lo
def qhl (X : Cx) : Option Operand -> (Option Int -> RM α) -> RM α
 | none, k => k none
 | some x, k => evK X x fun a => Za a fun _ n => k (some n)
def VM (X : Cx) (n : Unit -> Nat) (lo hi : Option Int) (k : Nat -> Option Nat -> RM α) : RM α :=
 match lo, hi with
 | none, none => k 0 none
 | some l, none => .chk (fun _ => 0 <= l /\ l <= n ()) (k (X.h _ fun _ => l.toNat) none)
 | none, some h => .chk (fun _ => 0 <= h /\ h <= n ()) (k 0 (some (X.h _ fun _ => h.toNat)))
 | some l, some h => .chk (fun _ => 0 <= l /\ l <= h /\ h <= n ()) (k (X.h _ fun _ => l.toNat) (some (X.h _ fun _ => h.toNat)))
def qhR (X : Cx) (ti : TI) (cs : Unit -> List PV) (k : AV -> RM α) (s : Option (List (TypeDesc × Nat))) : RM α :=
 .chk (fun _ => (cs ()).take ti.size = X.exA s (X.h _ fun _ => (cs ()).take ti.size)) (k (.pv (.a (X.exA s (X.h _ fun _ => (cs ()).take ti.size)))))
def Zr (X : Cx) (t : TypeId) (ti : TI) (n : Nat) (cs : Unit -> List PV) (k : AV -> RM α) : RM α :=
 .chk (fun _ => ti.size <= (cs ()).length) (match ti.isAgg with
  | true => qhR X ti cs k (X.shape ti.desc)
  | false => .chk (fun _ => 0 < (cs ()).length /\ (cs ()).getD 0 noP = X.ex1 ti.desc (X.h _ fun _ => (cs ()).getD 0 noP)) (k (.pv (X.ex1 ti.desc (X.h _ fun _ => (cs ()).getD 0 noP)))))
def qd3 (X : Cx) (t : TypeId) (p : AV) (k : AV -> RM α) : RM α := jG X t fun ti => match p with
 | .pv (.p xs) => Zr X t ti 0 (fun _ => xs) k
 | .ref n i j => .obj n fun o => match o with
  | .row _ s xs _ => .chk (fun _ => i < xs.length /\ j + ti.size <= s) (Zr X t ti 0 (fun _ => (xs.getD i noP).cells.drop j) k)
  | .var _ xs _ => Zr X t ti 0 (fun _ => xs.drop (i + j)) k
  | .box _ cs _ => match ti.isAgg with
   | true => .chk (fun _ => i + j + ti.size <= cs.length) (k (Xu ((cs.drop (i + j)).take ti.size)))
   | false => match cs[i + j]? with | some c => k c | none => .fail
  | _ => .fail
 | _ => .fail
def qdT (X : Cx) (t : TypeId) (p x : AV) (k : List (Nat × Option Ob) -> RM α) : RM α := jG X t fun ti => match p with
 | .ref n i j => .obj n fun o => match o with
  | .row e s xs false => Js X x fun y sh => match qp sh n with
   | some _ => .fail
   | none => .chk (fun _ => i < xs.length /\ y.cells.length = ti.size /\ j + ti.size <= s /\ ((∃ zs, y = .t zs) -> False)) (match j == 0 && ti.size == s with
    | true => k ((n, some (.row e s (X.h _ fun _ => xs.set i y) false)) :: sh)
    | false => k ((n, some (.row e s (X.h _ fun _ => xs.set i (.a (splice j y.cells (xs.getD i noP).cells))) false)) :: sh))
  | .var e xs false => Js X x fun y sh => match qp sh n with
   | some _ => .fail
   | none => .chk (fun _ => y.cells.length = ti.size /\ i + j + ti.size <= xs.length /\ ((∃ zs, y = .t zs) -> False)) (k ((n, some (.var e (X.h _ fun _ => splice (i + j) y.cells xs) false)) :: sh))
  | .box e bs false => match x.cells with
   | some cs => .chk (fun _ => cs.length = ti.size /\ i + j + ti.size <= bs.length) (k [(n, some (.box e (splice (i + j) cs bs) false))])
   | none => .fail
  | _ => .fail
 | _ => .fail
def Vc (X : Cx) (t : TypeId) (x : AV) (i : Int) (k : AV -> RM α) : RM α := jG X t fun ti => match ti.desc with
 | .slice e => jG X e fun te => match x with
  | .pv (.l xs) => .chk (fun _ => 0 <= i /\ i < xs.length /\ (xs.getD i.toNat noP).cells.length = te.size) (k (.pv (.p (X.h _ fun _ => (xs.getD i.toNat noP).cells))))
  | .own n => .obj n fun o => match o with
   | .row _ s xs _ => .chk (fun _ => s = te.size /\ 0 <= i /\ i < xs.length) (k (.ref n (X.h _ fun _ => i.toNat) 0))
   | _ => .fail
  | .sl n off len => .obj n fun o => match o with
   | .row _ s xs _ => .chk (fun _ => s = te.size /\ 0 <= i /\ i < len) (k (.ref n (X.h _ fun _ => off + i.toNat) 0))
   | .var _ xs _ => .chk (fun _ => te.size = 1 /\ 0 <= i /\ i < len) (k (.ref n (X.h _ fun _ => off + i.toNat) 0))
   | _ => .fail
  | _ => .fail
 | .array len e => jG X e fun te => .chk (fun _ => 0 <= i /\ i < len) (match x with
  | .pv (.p xs) => k (.pv (.p (X.h _ fun _ => xs.drop (i.toNat * te.size))))
  | .ref n i0 j => .obj n fun o => match o with
   | .row _ _ _ _ => k (.ref n i0 (X.h _ fun _ => j + i.toNat * te.size))
   | .var _ _ _ => match te.size == 1 with
    | true => k (.ref n (X.h _ fun _ => i0 + i.toNat) j)
    | false => k (.ref n (X.h _ fun _ => i0 + i.toNat * te.size) j)
   | .box _ _ _ => k (.ref n (i0 + i.toNat * te.size) j)
   | _ => .fail
  | _ => .fail)
 | _ => .fail
def qcQ (X : Cx) (t : TypeId) (k : TypeId -> TI -> RM α) : RM α := jG X t fun ti => match ti.desc with
 | .slice e => jG X e (k e)
 | _ => .fail
def ZJ (X : Cx) (t : TypeId) (k : TI -> RM α) : RM α := jG X t fun ti => match ti.desc with
 | .slice e => jG X e k
 | _ => .fail
def Lr (X : Cx) (t : TypeId) (x : AV) (lo hi : Option Int) (k : AV -> RM α) : RM α := match x with
 | .pv (.v (.string s)) => jG X t fun ti => match ti.desc with
  | .string => VM X (fun _ => s.size) lo hi fun l h => k (.pv (.v (.string (X.h _ fun _ => s.extract l (h.getD s.size)))))
  | _ => .fail
 | .pv (.l xs) => ZJ X t fun te => .chk (fun _ => lo = none ∨ xc te.size xs) (VM X (fun _ => xs.length) lo hi fun l h => k (.pv (.l (X.h _ fun _ => qcE l h xs))))
 | .nil => ZJ X t fun te => VM X (fun _ => 0) lo hi fun l h => k (.pv (.l []))
 | .own n => .obj n fun o => match o with
  | .row _ s xs _ => ZJ X t fun te => .chk (fun _ => s = te.size) (VM X (fun _ => xs.length) lo hi fun l h => k (.sl n l (X.h _ fun _ => h.getD xs.length - l)))
  | _ => .fail
 | .sl n off len => .obj n fun o => match o with
  | .row _ s _ _ => ZJ X t fun te => .chk (fun _ => s = te.size) (VM X (fun _ => len) lo hi fun l h => k (.sl n (X.h _ fun _ => off + l) (X.h _ fun _ => h.getD len - l)))
  | .var _ _ _ => ZJ X t fun te => .chk (fun _ => te.size = 1) (VM X (fun _ => len) lo hi fun l h => k (.sl n (X.h _ fun _ => off + l) (X.h _ fun _ => h.getD len - l)))
  | _ => .fail
 | .pv (.p xs) => jG X t fun ti => match ti.desc with
  | .array len e => jG X e fun te => .chk (fun _ => te.size = 1 /\ len <= xs.length /\ len <= maxLen) (VM X (fun _ => len) lo hi fun l h => k (.pv (.l (X.h _ fun _ => qcE l (some (h.getD len)) xs))))
  | _ => .fail
 | .ref n i j => jG X t fun ti => match ti.desc with
  | .array len e => jG X e fun te => .obj n fun o => match o with
   | .var _ xs _ => .chk (fun _ => te.size = 1 /\ i + j + len <= xs.length /\ xs.length <= maxLen) (VM X (fun _ => len) lo hi fun l h => k (.sl n (X.h _ fun _ => i + j + l) (X.h _ fun _ => h.getD len - l)))
   | _ => .fail
  | _ => .fail
 | _ => .fail
def Vf (X : Cx) (x : AV) (k : List PV -> RM α) : RM α := match x with
 | .pv (.l xs) => k xs
 | .nil => k []
 | .own n => .obj n fun o => match o with
  | .row _ _ xs _ => k xs
  | .mrow _ xs _ => k xs
  | _ => .fail
 | .sl n off len => .obj n fun o => match o with
  | .row _ _ xs _ => .chk (fun _ => off + len <= xs.length) (k (X.h _ fun _ => (xs.drop off).take len))
  | .var _ xs _ => .chk (fun _ => off + len <= xs.length) (k (X.h _ fun _ => (xs.drop off).take len))
  | _ => .fail
 | .pv (.v (.string s)) => k (X.h _ fun _ => s.data.toList.map u8P)
 | _ => .fail
def qh4 (X : Cx) (t : TypeId) (x : AV) (k : Int -> RM α) : RM α := jG X t fun ti => match ti.desc with
 | .slice _ => match x with
  | .pv (.l xs) => k (X.h _ fun _ => xs.length)
  | .nil => k 0
  | .own n => .obj n fun o => match o with
   | .row _ _ xs _ => k (X.h _ fun _ => xs.length)
   | .mrow _ xs _ => k (X.h _ fun _ => xs.length)
   | _ => .fail
  | .sl n off len => k (X.h _ fun _ => len)
  | _ => .fail
 | .string => match x with
  | .pv (.v (.string s)) => k (X.h _ fun _ => s.size)
  | _ => .fail
 | .array n _ => k n
 | .map _ _ => match x with
  | .own n => .obj n fun o => match o with
   | .map ks _ _ => k (X.h _ fun _ => ks.length)
   | _ => .fail
  | .pv (.m ks _) => k (X.h _ fun _ => ks.length)
  | _ => .fail
 | _ => .fail
def qeG (e : TypeId) (s : Nat) (x : AV) (k : List PV -> List Nat -> RM α) (m : Nat -> TypeId -> List PV -> RM α) : RM α := match x with
 | .nil => k [] []
 | .own n => .obj n fun o => match o with
  | .row e' s' xs false => .chk (fun _ => e' = e /\ s' = s) (k xs [n])
  | .mrow e' xs false => m n e' xs
  | _ => .fail
 | _ => .fail
def qhr (X : Cx) (ns : List Nat) (xs ys : List PV) : List PV := match ns with
 | [] => ys
 | _ => X.h _ fun _ => xs ++ ys
def qdc : AV -> Bool
 | .pv (.v _) => false
 | _ => true
def qfn (X : Cx) (d n : Nat) (e : TypeId) (te : TI) (e' : TypeId) (xs ys : List PV) : RM Out :=
 .chk (fun _ => e' = e /\ te.size = 1 /\ te.bytes = 1 /\ te.zero.map (fun z => z ()) = some (.int .u8 0) /\ (∀ x ∈ ys, ∃ b, x = u8P b) /\ 0 < ys.length /\ xs.length + ys.length <= 140737488355328 /\ n ≠ d) (.ret ⟨some (.own d), [(d, some (.mrow e (X.h _ fun _ => xs ++ ys) false)), (n, none)]⟩)
def qa8 (X : Cx) (d : Nat) (t : TypeId) (s x : AV) : RM Out := qcQ X t fun e te => match te.zero, qdc x with
 | some _, true => .chk (fun _ => 0 < te.size) (Vf X x fun ys => qeG e te.size s (fun xs ns => .chk (fun _ => xc te.size ys /\ (xs.length + ys.length) * te.bytes <= 140737488355328 /\ xs.length + ys.length <= maxLen /\ ∀ n ∈ ns, n ≠ d)
   (.ret ⟨some (.own d), (d, some (.row e te.size (qhr X ns xs ys) false)) :: ns.map fun n => (n, none)⟩)) fun n e' xs => qfn X d n e te e' xs ys)
 | _, _ => .fail
def qgx (X : Cx) (t : TypeId) (x y : AV) : RM Out := ZJ X t fun te => match x, qdc y with
 | .sl n off len, true => .obj n fun o => match o with
  | .var e xs false => Vf X y fun ys => .chk (fun _ => te.size = 1 /\ off + len <= xs.length /\ xc 1 ys) (.ret ⟨some (.pv (.v (.int .i64 (X.h _ fun _ => ((min ys.length len : Nat) : Int))))), [(n, some (.var e (X.h _ fun _ => splice off ((ys.flatMap PV.cells).take len) xs) false))]⟩)
  | _ => .fail
 | _, _ => .fail
def zg (d k : Nat) : Nat := d + 1000 * k
def vq (d : Nat) : Nat -> List RA -> List AV × List (Nat × Option Ob)
 | _, [] => ([], [])
 | k, .pv x :: r => (.pv x :: (vq d (k + 1) r).1, (vq d (k + 1) r).2)
 | k, .nil :: r => (.nil :: (vq d (k + 1) r).1, (vq d (k + 1) r).2)
 | k, .own e s xs :: r => (.own (zg d k) :: (vq d (k + 1) r).1, (zg d k, some (.row e s xs false)) :: (vq d (k + 1) r).2)
 | k, _ :: r => (.pv noP :: (vq d (k + 1) r).1, (vq d (k + 1) r).2)
def Qn (d : Nat) : RA -> AV × List (Nat × Option Ob)
 | .pv x => (.pv x, [])
 | .nil => (.nil, [])
 | .own e s xs => (.own d, [(d, some (.row e s xs false))])
 | .tup xs => (.tup (vq d 1 xs).1, (vq d 1 xs).2)
 | _ => (.pv noP, [])
def Xx : List RA -> Bool
 | [] => true
 | .pv x :: r => x.free && Xx r
 | _ :: _ => false
def RA.free : RA -> Bool
 | .pv x => x.free
 | .tup xs => Xx xs
 | _ => false
def qdu (X : Cx) : List AV -> List RA -> (List Nat -> RM α) -> RM α
 | [], [], k => k []
 | x :: xs, .pv y :: ys, k => ZC X x4 x fun z ns => .chk (fun _ => z = y) (qdu X xs ys fun ms => k (ns ++ ms))
 | _, _, _ => .fail
def okL : List RA -> Bool
 | [] => true
 | .pv _ :: r => okL r
 | .nil :: r => okL r
 | .own _ _ _ :: r => okL r
 | _ :: _ => false
def okR : RA -> Bool
 | .pv _ => true
 | .nil => true
 | .own _ _ _ => true
 | .tup xs => okL xs
 | _ => false
def qif (e : TypeId) (s : Nat) (ys : List PV) (outs : List RA) (xs : List AV) : RM Out := match outs, xs with
 | [.own e' s' zs], [.own n] => .obj n fun o => match o with
  | .row e0 s0 us false => .chk (fun _ => e0 = e /\ s0 = s /\ us = ys /\ e' = e /\ s' = s) (.ret ⟨none, [(n, some (.row e0 s0 zs false))]⟩)
  | _ => .fail
 | _, _ => .fail
def qen (X : Cx) (d : Nat) (xs : List AV) (as : List RA) (r : RA) : RM Out := match okR r with
 | true => qdu X xs as fun ns => match ns with
  | [] => .ret ⟨some (Qn d r).1, (Qn d r).2⟩
  | n :: ns => match r.free with
   | true => .ret ⟨some (Qn d r).1, (Qn d r).2⟩
   | false => yA (n :: ns) fun l => .ret ⟨some (Qn d r).1, (Qn d r).2 ++ l⟩
 | false => .fail
def vd : List Nat -> Nat -> Bool
 | [], _ => false
 | x :: r, n => n == x || vd r n
def jH : List Nat -> Bool
 | [] => true
 | x :: r => !vd r x && jH r
def KP {α : Type} (X : Cx) : List AV -> List RA -> (List Nat -> List Nat -> RM α) -> RM α
 | [], [], k => k [] []
 | .own n :: xs, .own e s ys :: as, k => .obj n fun o => match o with
  | .row e0 s0 us false => .chk (fun _ => e0 = e /\ s0 = s /\ us = ys) (KP X xs as fun ns gs => k ns (n :: gs))
  | _ => .fail
 | x :: xs, .pv y :: as, k => ZC X x4 x fun z ns => .chk (fun _ => z = y) (KP X xs as fun ms gs => k (ns ++ ms) gs)
 | _, _, _ => .fail
def qc0 (d : Nat) (gs : List Nat) (l : List (Nat × Option Ob)) : Bool := gs.all fun g => g % 1000 != d && (qp l g).isNone
def qdx (X : Cx) (d : Nat) (xs : List AV) (as : List RA) (r : RA) : RM Out := match okR r with
 | true => KP X xs as fun ns gs => yA ns fun l => match jH gs && qc0 d gs l with
  | true => .ret ⟨some (Qn d r).1, (Qn d r).2 ++ (gs.map (fun g => (g, none)) ++ l)⟩
  | false => .fail
 | false => .fail
def qeY : List RA -> Bool
 | [] => false
 | .own _ _ _ :: _ => true
 | _ :: r => qeY r
def V7 (X : Cx) (ρ : List (Nat × Nat)) : List AV -> List AV -> (List Nat -> RM α) -> RM α
 | [], [], k => k []
 | x :: xs, .pv y :: ys, k => ZC X x4 x fun z ns => .chk (fun _ => z = y) (V7 X ρ xs ys fun ms => k (ns ++ ms))
 | x :: xs, y :: ys, k => .chk (fun _ => x = y.ren ρ) (V7 X ρ xs ys k)
 | _, _, _ => .fail
def qaI (ρ : List (Nat × Nat)) : List (Nat × Ob) -> RM α -> RM α
 | [], k => k
 | (n, o) :: r, k => .obj (rnm ρ n) fun o' => .chk (fun _ => o' = o.ren ρ) (qaI ρ r k)
def zl (d : Nat) (ρ : List (Nat × Nat)) (pre post : List (Nat × Ob)) : List (Nat × Nat) := post.map fun x => (x.1, match qp pre x.1 with | some _ => rnm ρ x.1 | none => zg d x.1)
def qhh : List AV -> AV
 | [x] => x
 | xs => .tup xs
def okH (ρ : List (Nat × Nat)) (pre post : List (Nat × Ob)) (rs : List AV) : Bool :=
 jH (pre.map fun x => rnm ρ x.1) && (jH (pre.map (·.1)) && (jH (post.map (·.1)) && (pre.all (fun x => !x.2.sh) && (!AV.hasL (fun n => !vd (post.map (·.1)) n) rs && post.all fun x => !x.2.has fun n => !vd (post.map (·.1)) n))))
def qdy (X : Cx) (d : Nat) (xs : List AV) (ρ : List (Nat × Nat)) (pre : List (Nat × Ob)) (ys : List AV) (post : List (Nat × Ob)) (rs : List AV) : RM Out := match okH ρ pre post rs with
 | true => V7 X ρ xs ys fun ns => qaI ρ pre (yA ns fun l => match pre.all fun x => (qp l (rnm ρ x.1)).isNone with
  | true => .ret ⟨some (qhh (AV.renL (zl d ρ pre post) rs)), post.map (fun x => (rnm (zl d ρ pre post) x.1, some (x.2.ren (zl d ρ pre post)))) ++ (pre.map fun x => rnm ρ x.1).map (fun g => (g, none)) ++ l⟩
  | false => .fail)
 | false => .fail
def qbf (X : Cx) (f : FuncId) (d : Nat) (xs : List AV) : RM Out :=
 .call f fun as r outs => match as with
  | [.hp ρ pre ys] => match r with
   | .hp _ post rs => qdy X d xs ρ pre ys post rs
   | _ => .fail
  | [.own e s ys] => qif e s ys outs xs
  | as => match qeY as with
   | true => qdx X d xs as r
   | false => qen X d xs as r
def qeQ (X : Cx) : List Operand -> (List AV -> RM α) -> RM α
 | [], k => k []
 | x :: r, k => evK X x fun a => qeQ X r fun l => k (a :: l)
def val (x : AV) : RM Out := .ret ⟨some x, []⟩
def KY (X : Cx) (d : Nat) (t : TypeId) (ti : TI) (z : Unit -> Value) : RM Out :=
 match X.flat ti.desc || !ti.isAgg with
 | true => .ret ⟨some (.ref d 0 0), [(d, some (.box t ((z ()).cells.toList.map vT) false))]⟩
 | false => .ret ⟨some (.ref d 0 0), [(d, some (.var t (X.h _ fun _ => (z ()).cells.toList.map jn) false))]⟩
def qg1 (X : Cx) (d : Nat) (t : TypeId) (ti : TI) (a : AV) : RM Out := match a with
 | .pv (.a xs) => match X.flat ti.desc with
  | true => .ret ⟨some (.ref d 0 0), [(d, some (.box t (xs.map .pv) false))]⟩
  | false => .ret ⟨some (.ref d 0 0), [(d, some (.var t xs false))]⟩
 | .tup _ => .fail
 | .pv (.t _) => .fail
 | .ag xs => .ret ⟨some (.ref d 0 0), [(d, some (.box t xs false))]⟩
 | y => .ret ⟨some (.ref d 0 0), [(d, some (.box t [y] false))]⟩
def okF (X : Cx) : List Field -> Bool
 | [] => true
 | f :: r => (X.T f.type).isSome && okF X r
def Lb (X : Cx) (ti : TI) (z : Unit -> Value) (ps : List (Nat × AV)) : RM Out := match ti.desc with
 | .struct fs => match X.flatF fs.toList with
  | true => qaO (uJ X fs) ((z ()).cells.toList.map vT) ps fun cs => val (Xu cs)
  | false => .chk (fun _ => okF X fs.toList = true) (WL X (uJ X fs) (X.h _ fun _ => (z ()).cells.toList.map jn) ps fun cs sh => .ret ⟨some (.pv (.a cs)), sh⟩)
 | .array _ e => jG X e fun te => WL X (fun i => some (i * te.size, te.size)) (X.h _ fun _ => (z ()).cells.toList.map jn) ps fun cs sh => .ret ⟨some (.pv (.a cs)), sh⟩
 | _ => .fail
def qcS (X : Cx) (dst : Option Nat) (si ti : TI) (a : AV) : RM Out := match ti.desc, si.desc with
 | .int k, .int _ => Za a fun _ n => val (.pv (.v (.int k (X.h _ fun _ => k.wrap n))))
 | .string, .string => match a with
  | .pv (.v (.string s)) => val (.pv (.v (.string s)))
  | _ => .fail
 | .string, .slice e => jG X e fun te => match te.desc with
  | .int .u8 => match a with
   | .pv (.v _) => .fail
   | a => Vf X a fun xs => .chk (fun _ => ∀ x ∈ xs, ∃ b, x = u8P b) (val (.pv (.v (.string (X.h _ fun _ => ⟨(xs.map uV).toArray⟩)))))
  | _ => .fail
 | .slice e, .string => match a with
  | .pv (.v (.string b)) => jG X e fun te => match te.desc with
   | .int .u8 => match dst with
    | some d => .chk (fun _ => b.size <= maxLen) (.ret ⟨some (.own d), [(d, some (.mrow e (X.h _ fun _ => b.data.toList.map u8P) false))]⟩)
    | none => .fail
   | _ => .fail
  | _ => .fail
 | _, _ => .fail
def K0 (X : Cx) (n : Nat) (te : TI) (a : AV) : RM Out := match a with
 | .pv (.l xs) => .chk (fun _ => 0 < n /\ n <= xs.length /\ te.size = 1 /\ xc 1 xs) (val (.pv (.p (X.h _ fun _ => xs.flatMap PV.cells))))
 | .own m => .obj m fun o => match o with
  | .row _ s xs _ => .chk (fun _ => 0 < n /\ n <= xs.length) (val (.ref m 0 0))
  | _ => .fail
 | .sl m off len => .chk (fun _ => 0 < n /\ n <= len) (val (.ref m off 0))
 | _ => .fail
def qad (X : Cx) (fs : Array Field) (fd : Field) (tf : TI) (a : AV) : RM Out := match a with
 | .pv (.a xs) => match X.flatF fs.toList with
  | true => match xs[fd.offset]? with | some x => val (.pv x) | none => .fail
  | false => Zr X fd.type tf 0 (fun _ => xs.drop fd.offset) val
 | .ag cs => match tf.isAgg with
  | true => .chk (fun _ => fd.offset + tf.size <= cs.length) (val (Xu ((cs.drop fd.offset).take tf.size)))
  | false => match cs[fd.offset]? with | some c => val c | none => .fail
 | _ => .fail
def Yh (X : Cx) (t : TypeId) (x : AV) (p q : Int) : RM Out := match x with
 | .own n => .obj n fun o => match o with
  | .row _ s xs _ => ZJ X t fun te => .chk (fun _ => s = te.size /\ 0 <= p /\ p <= q /\ q <= xs.length) (val (.sl n 0 (X.h _ fun _ => p.toNat)))
  | _ => .fail
 | _ => .fail
def uI : List Int -> Int -> Option Nat
 | [], _ => none
 | a :: ks, k => if a = k then some 0 else (uI ks k).map (· + 1)
def Xz (ks : List Int) (vs : List PV) (k : Int) : Option PV := (uI ks k).bind fun j => vs[j]?
def WE (ks : List Int) (k : Int) : List Int := match uI ks k with | some _ => ks | none => ks ++ [k]
def KJ (ks : List Int) (vs : List PV) (k : Int) (v : PV) : List PV := match uI ks k with | some j => vs.set j v | none => vs ++ [v]
def Kx (ks : List Int) (k : Int) : List Int := match uI ks k with | some j => ks.eraseIdx j | none => ks
def YY (ks : List Int) (vs : List PV) (k : Int) : List PV := match uI ks k with | some j => vs.eraseIdx j | none => vs
def qei (m : AV) (k : List Int -> List PV -> RM α) : RM α := match m with
 | .pv (.m ks vs) => k ks vs
 | .pv (.v (.map none)) => k [] []
 | .own n => .obj n fun o => match o with
  | .map ks vs _ => k ks vs
  | _ => .fail
 | _ => .fail
def qfG (X : Cx) (t : TypeId) (k : TypeId -> TI -> RM α) : RM α := jG X t fun ti => match ti.desc with
 | .map kt et => jG X kt fun ki => match ki.desc with
  | .int .i64 => jG X et fun te => k et te
  | _ => .fail
 | _ => .fail
def asK (X : Cx) (te : TI) (y : Unit -> PV) (k : AV -> RM α) : RM α := match te.isAgg with
 | true => .chk (fun _ => y () = .a (X.exA (X.shape te.desc) (X.h _ fun _ => (y ()).cells))) (k (.pv (.a (X.exA (X.shape te.desc) (X.h _ fun _ => (y ()).cells)))))
 | false => .chk (fun _ => y () = X.ex1 te.desc (X.h _ fun _ => y ())) (k (.pv (X.ex1 te.desc (X.h _ fun _ => y ()))))
def qaJ (X : Cx) (t : TypeId) (m k : AV) (ok : Bool) : RM Out := qfG X t fun _ te => match te.zero with
 | some z => qei m fun ks vs => Za k fun kd n => .chk (fun _ => kd = .i64) (asK X te (fun _ => (Xz ks vs n).getD (uh (z ()))) fun y => match ok with
  | true => val (.tup [y, .pv (.v (.bool (X.h _ fun _ => (Xz ks vs n).isSome)))])
  | false => val y)
 | none => .fail
def YC (X : Cx) (t : TypeId) (m k x : AV) : RM Out := qfG X t fun _ te => match m with
 | .own n => .obj n fun o => match o with
  | .map ks vs false => Za k fun kd i => Js X x fun y sh => match qp sh n with
   | some _ => .fail
   | none => .chk (fun _ => kd = .i64) (.ret ⟨none, (n, some (.map (X.h _ fun _ => WE ks i) (X.h _ fun _ => KJ ks vs i y) false)) :: sh⟩)
  | _ => .fail
 | _ => .fail
def qa6 (X : Cx) (t : TypeId) (m k : AV) : RM Out := qfG X t fun _ te => match m with
 | .own n => .obj n fun o => match o with
  | .map ks vs false => Za k fun kd i => .chk (fun _ => kd = .i64) (.ret ⟨none, [(n, some (.map (X.h _ fun _ => Kx ks i) (X.h _ fun _ => YY ks vs i) false))]⟩)
  | _ => .fail
 | _ => .fail
def opM (X : Cx) (o : Oper) : RM Out := match o.op with
 | .move x => evK X x val
 | .assign x => evK X x val
 | .pick c a b => evK X c fun u => match u with
  | .pv (.v (.bool q)) => .brn q fun q => match q with | true => evK X a val | false => evK X b val
  | _ => .fail
 | .alloc t => match o.dst with
  | some d => jG X t fun ti => match ti.zero with | some z => KY X d t ti z | none => .fail
  | none => .fail
 | .box t x => match o.dst with
  | some d => jG X t fun ti => evK X x fun a => qg1 X d t ti a
  | none => .fail
 | .build t parts => jG X t fun ti => match ti.zero with
  | some z => Ye X parts.toList fun ps => Lb X ti z ps
  | none => .fail
 | .buildSlice t len parts => match o.dst with
  | some d => jG X t fun ti => match ti.desc with
   | .slice e => jG X e fun te => match te.zero with
    | some z => Ye X parts.toList fun ps => YS X te.size (List.replicate len (uh (z ()))) ps fun xs sh => .chk (fun _ => 0 < te.size /\ len * te.size <= 16777216) (.ret ⟨some (.own d), (d, some (.row e te.size xs false)) :: sh⟩)
    | none => .fail
   | _ => .fail
  | none => .fail
 | .load t x => evK X x fun p => qd3 X t p val
 | .store t p x => evK X p fun a => evK X x fun b => qdT X t a b fun l => .ret ⟨none, l⟩
 | .makeMap _ none => match o.dst with
  | some d => .ret ⟨some (.own d), [(d, some (.map [] [] false))]⟩
  | none => .fail
 | .lookup t m k ok => evK X m fun a => evK X k fun b => qaJ X t a b ok
 | .mapUpdate t m k x => evK X m fun a => evK X k fun b => evK X x fun c => YC X t a b c
 | .insert t m k x => evK X m fun a => evK X k fun b => evK X x fun c => YC X t a b c
 | .nilCheck x => evK X x fun a => match a with
  | .ref _ _ _ => val a
  | .pv (.p _) => val a
  | .fn (.func _) _ _ => val a
  | _ => .fail
 | .binOp op t x y _ => jG X t fun ti => evK X x fun a => evK X y fun b => qhd X ti op (Qi x || Qi y) a b fun r => val (.pv (.v r))
 | .unOp op t x => evK X x fun a => match op, a with
  | .not, .pv (.v (.bool b)) => val (.pv (.v (.bool (X.h _ fun _ => !b))))
  | .neg, .pv (.v (.int k n)) => val (.pv (.v (.int k (X.h _ fun _ => k.wrap (0 - n)))))
  | .xor, .pv (.v (.int k n)) => val (.pv (.v (.int k (X.h _ fun _ => yp .xor k (if k.signed then -1 else k.max) n))))
  | _, _ => .fail
 | .convert s t x => jG X s fun si => jG X t fun ti => evK X x fun a => qcS X o.dst si ti a
 | .sliceToArrayPointer t x => jG X t fun ti => match ti.desc with
  | .array n e => jG X e fun te => evK X x fun a => K0 X n te a
  | _ => .fail
 | .makeInterface t x => jG X t fun ti => match ti.desc with
  | .interface _ => .fail
  | _ => evK X x fun a => Js X a fun y sh => .ret ⟨some (.pv (.i t y)), sh⟩
 | .makeFunc fn a b => qeQ X a.toList fun as => qeQ X b.toList fun bs => val (.fn fn as bs)
 | .makeSlice t l c => match o.dst with
  | some d => jG X t fun ti => match ti.desc with
   | .slice e => jG X e fun te => match te.zero with
    | some z => evK X l fun a => evK X c fun b => Za a fun _ n => Za b fun _ m => .chk (fun _ => 0 < te.size /\ 0 <= n /\ n <= m /\ m <= maxLen /\ m * te.bytes <= 140737488355328) (.ret ⟨some (.own d), [(d, some (.row e te.size (X.h _ fun _ => List.replicate n.toNat (uh (z ()))) false))]⟩)
    | none => .fail
   | _ => .fail
  | none => .fail
 | .slice t x lo hi none => evK X x fun a => qhl X lo fun l => qhl X hi fun h => Lr X t a l h val
 | .slice t x none (some y) (some z) => evK X x fun a => evK X y fun b => evK X z fun c => Za b fun _ p => Za c fun _ q => Yh X t a p q
 | .fieldAddr s x f => jG X s fun si => match si.desc with
  | .struct fs => match fs[f]? with
   | some fd => jG X fd.type fun tf => .chk (fun _ => tf.size ≠ 0) (evK X x fun a => match a with
    | .pv (.p xs) => val (.pv (.p (X.h _ fun _ => xs.drop fd.offset)))
    | .ref n i j => val (.ref n i (j + fd.offset))
    | _ => .fail)
   | none => .fail
  | _ => .fail
 | .field t x f => jG X t fun ti => match ti.desc with
  | .struct fs => match fs[f]? with
   | some fd => jG X fd.type fun tf => evK X x fun a => qad X fs fd tf a
   | none => .fail
  | _ => .fail
 | .indexAddr t x i => evK X x fun a => evK X i fun b => Za b fun _ n => Vc X t a n val
 | .index t x i => evK X x fun a => evK X i fun b => Za b fun _ n => match a with
  | .pv (.v (.string s)) => jG X t fun ti => match ti.desc with
   | .string => .chk (fun _ => 0 <= n /\ n < s.size) (val (.pv (.v (.int .u8 (X.h _ fun _ => (s.data.toList.getD n.toNat 0).toNat)))))
   | _ => .fail
  | .pv (.a xs) => jG X t fun ti => match ti.desc with
   | .array len e => jG X e fun te => .chk (fun _ => 0 <= n /\ n < len) (Zr X e te 0 (fun _ => xs.drop (n.toNat * te.size)) val)
   | _ => .fail
  | _ => .fail
 | .extract x i => evK X x fun a => match a with
  | .tup xs => match xs[i]? with | some y => val y | none => .fail
  | .pv (.t xs) => match xs[i]? with | some y => val (.pv y) | none => .fail
  | _ => .fail
 | .call c => qeQ X c.args.toList fun xs => match c.callee with
  | .builtin .len => match xs, c.argTypes.toList with
   | [x], [t] => qh4 X t x fun n => val (.pv (.v (.int .i64 n)))
   | _, _ => .fail
  | .builtin .append => match xs, c.argTypes.toList, o.dst with
   | [s, x], [t, u], some d => match u == t with
    | true => qa8 X d t s x
    | false => .fail
   | _, _, _ => .fail
  | .builtin .copy => match xs, c.argTypes.toList, o.dst with
   | [x, y], [t, _], some _ => qgx X t x y
   | _, _, _ => .fail
  | .builtin .delete => match xs, c.argTypes.toList with
   | [m, k], [t, _] => qa6 X t m k
   | _, _ => .fail
  | .builtin .min => match xs with
   | [.pv (.v (.int k a)), .pv (.v (.int _ b))] => val (.pv (.v (.int k (X.h _ fun _ => if b < a then b else a))))
   | _ => .fail
  | .builtin .max => match xs with
   | [.pv (.v (.int k a)), .pv (.v (.int _ b))] => val (.pv (.v (.int k (X.h _ fun _ => if b > a then b else a))))
   | _ => .fail
  | .value f => match o.dst with
   | some d => evK X f fun g => match g with
    | .fn (.func f) first caps => qbf X f d (first ++ xs ++ caps)
    | .pv (.f (.func f) first caps) => qbf X f d (first.map .pv ++ xs ++ caps.map .pv)
    | _ => .fail
   | none => .fail
  | _ => .fail
 | _ => .fail
end Go.Bl
namespace Go.Bl
open Go.RowKit
inductive Xt where
 | n
 | e (id : Nat)
 | r
def Xt.then (f : St -> Prop) (Q : Xt -> St -> Prop) : Xt -> St -> Prop
 | .n, σ => f σ
 | .e i, σ => Q (.e i) σ
 | .r, σ => Q .r σ
def Xt.block (id : Nat) (Q : Xt -> St -> Prop) : Xt -> St -> Prop
 | .n, σ => Q .n σ
 | .e i, σ => if i = id then Q .n σ else Q (.e i) σ
 | .r, σ => Q .r σ
def zD (p : Nat -> Bool) : List (Nat × Option AV) -> Bool
 | [] => false
 | (_, some x) :: r => x.has p || zD p r
 | (_, none) :: r => zD p r
def vt (p : Nat -> Bool) : List (Nat × Option Ob) -> Bool
 | [] => false
 | (n, some x) :: r => p n || (x.has p || vt p r)
 | (_, none) :: r => vt p r
def uy : List Oper -> List Nat
 | [] => []
 | o :: r => match o.dst with | some d => d :: uy r | none => uy r
def KE (n : Nat) : List Nat -> Bool
 | [] => true
 | x :: r => decide (x < n) && KE n r
def qaE (X : Cx) (fr : Bool) (ds : List Nat) : Bool := fr && (jH ds && KE X.N ds)
def St.fresh (σ : St) (ds : List Nat) : Bool := !(zD (fun n => vd ds (n % 1000)) σ.slots || vt (fun n => vd ds (n % 1000)) σ.objs || (vd ds 999 || vd ds 998))
def XD : Out := ⟨some (.pv (.t [])), []⟩
def K5 (X : Cx) (o : Oper) (want : Bool) (a : AV) : RM Out := match a with
 | .pv (.v (.bool b)) => .brn b fun c => match c, want with
  | true, true => opM X o
  | false, false => opM X o
  | _, _ => .ret XD
 | .pv (.t []) => .ret XD
 | _ => .fail
def XM (X : Cx) (ops : Array Oper) (o : Oper) : RM Out := match o.guard with
 | none => opM X o
 | some (j, want) => match (ops[j]?).bind (·.dst) with
  | some s => .slot s (K5 X o want)
  | none => .fail
structure Ev (b c : Bool) : Prop where
 out : b = c
abbrev uj := List (Nat × Bool)
def opK (X : Cx) (K : uj) (o : Oper) : RM (Out × uj) := match o.op with
 | .pick (.tmp s) a b => match qp K s with
  | some c => .slot s fun u => match u with
   | .pv (.v (.bool q)) => .chk (fun _ => Ev q c) (match c with
    | true => evK X a fun x => .ret (⟨some x, []⟩, K)
    | false => evK X b fun x => .ret (⟨some x, []⟩, K))
   | _ => .fail
  | none => (opM X o).bind fun out => .ret (out, K)
 | _ => (opM X o).bind fun out => .ret (out, K)
def qa3 (X : Cx) (ops : Array Oper) (K : uj) (o : Oper) : RM (Out × uj) := match o.guard with
 | none => opK X K o
 | some (j, want) => match (ops[j]?).bind (·.dst) with
  | some s => .slot s fun a => match a with
   | .pv (.v (.bool b)) => match qp K s with
    | some c => .chk (fun _ => Ev b c) (match c, want with
     | true, true => opK X K o
     | false, false => opK X K o
     | _, _ => .ret (XD, K))
    | none => .brn b fun c => match c, want with
     | true, true => opK X ((s, true) :: K) o
     | false, false => opK X ((s, false) :: K) o
     | true, false => .ret (XD, (s, true) :: K)
     | false, true => .ret (XD, (s, false) :: K)
   | .pv (.t []) => .ret (XD, K)
   | _ => .fail
  | none => .fail
def qaY (X : Cx) (C : FuncId -> List RA -> RA -> List RA -> Prop) (ops : Array Oper) : List Oper -> uj -> St -> (St -> Prop) -> Prop
 | [], _, σ, Q => Q σ
 | o :: r, K, σ, Q => (qa3 X ops K o).vc C σ fun p _ => qaY X C ops r p.2 (σ.put o.dst p.1) Q
structure Lg where
 rd : List Lc
 wr : List Lc
def Out.wr (d : Option Nat) (o : Out) : List Lc := (match d with | some d => [.s d] | none => []) ++ o.objs.map fun x => .o x.1
def Lg.clash (a b : Lg) : Bool := a.wr.any (fun x => b.rd.contains x || b.wr.contains x) || b.wr.any fun x => a.rd.contains x
def qan (ops : Array Oper) (i k : Nat) : Bool := match (qE ops i).contains k with
 | true => true
 | false => yy ops 12 i k
def qbe (ops : Array Oper) : Bool := (List.range ops.size).all fun i => (qE ops i).all fun k => decide (k < i)
def UW (ops : Array Oper) (L : List Lg) : Bool :=
 qbe ops && (List.range L.length).all fun j => (List.range j).all fun i => match (L.getD i ⟨[], []⟩).clash (L.getD j ⟨[], []⟩) with
  | false => true
  | true => qan ops j i
def Vk (X : Cx) (C : FuncId -> List RA -> RA -> List RA -> Prop) (ops : Array Oper) : List Oper -> uj -> List Lg -> St -> (St -> Prop) -> Prop
 | [], _, L, σ, Q => UW ops L.reverse = true /\ Q σ
 | o :: r, K, L, σ, Q => (qa3 X ops K o).vc C σ fun p l => Vk X C ops r p.2 (⟨l, p.1.wr o.dst⟩ :: L) (σ.put o.dst p.1) Q
def qda (ρ : List (Nat × Nat)) (σ : St) : List (Nat × Option AV) -> Prop
 | [] => True
 | (s, some x) :: r => σ.slot s = some (x.ren ρ) /\ qda ρ σ r
 | (_, none) :: _ => False
def qet (ρ : List (Nat × Nat)) (σ : St) : List (Nat × Option Ob) -> Prop
 | [] => True
 | (n, some x) :: r => σ.obj (rnm ρ n) = some (x.ren ρ) /\ qet ρ σ r
 | (_, none) :: _ => False
def qaV (ρ : List (Nat × Nat)) : Bool := ρ.all fun x => x.1 % 1000 != 999 && x.1 % 1000 != 998
def LU (ρ : List (Nat × Nat)) : Bool := ρ.all fun x => x.1 % 1000 != 999
def Sub (σ τ : St) : Prop := ∃ ρ, (jH (τ.objs.map fun x => rnm ρ x.1) && qaV ρ) = true /\ jH (τ.objs.map (·.1)) = true /\ qet ρ σ τ.objs /\ qda ρ σ τ.slots
def qhN (σ τ : St) : Prop := ∃ ρ, (jH (τ.objs.map fun x => rnm ρ x.1) && LU ρ) = true /\ jH (τ.objs.map (·.1)) = true /\ qet ρ σ τ.objs /\ qda ρ σ τ.slots
def uU : List (Nat × Option Ob) -> Bool
 | [] => true
 | (_, some o) :: r => !o.sh && uU r
 | (_, none) :: _ => false
def qbp : List Nat -> List PV -> List (Nat × Option AV)
 | p :: ps, x :: xs => (p, some (.pv x)) :: qbp ps xs
 | _, _ => []
def uq : Code -> Bool
 | .seq a b => uq a && uq b
 | .cond _ a b => uq a && uq b
 | .block _ c => uq c
 | .loop c => uq c
 | .rangeFunc _ _ _ _ => false
 | _ => true
def qh9 (X : Cx) (S : List (Nat × Option AV)) (ps : List Nat) (a b : Code) : Bool := !(zD (fun n => n % 1000 != 998) S) && (jH ps && (KE X.N ps && (uq a && uq b)))
def qhf (I : Prop) (Q : Xt -> St -> Prop) (S : List (Nat × Option AV)) (O : List (Nat × Option Ob)) : Xt -> St -> Prop
 | .n, τ => I /\ uU O = true /\ Sub τ ⟨[], O⟩
 | .e i, τ => ∃ O', uU O' = true /\ Sub τ ⟨[], O'⟩ /\ Q (.e i) ⟨S, O'⟩
 | .r, τ => ∃ O', uU O' = true /\ Sub τ ⟨[], O'⟩ /\ Q .r ⟨S, O'⟩
def qgI (f : St -> Prop) : Xt -> St -> Prop
 | .n, τ => uU τ.objs = true /\ f τ
 | _, _ => False
def qfa (σ : St) (s : Nat) : Bool := match decide (s < 1000000) with
 | true => match σ.slot s with | some .nil => true | _ => false
 | false => match σ.obj ((s - 1000000) / 1000) with
  | some (.box _ cs false) => (match cs[(s - 1000000) % 1000]? with | some .nil => true | _ => false)
  | _ => false
def St.mat1 (σ : St) (s n : Nat) (e : TypeId) (z : Nat) : St := match decide (s < 1000000) with
 | true => ⟨(s, some (.own n)) :: σ.slots, (n, some (.row e z [] false)) :: σ.objs⟩
 | false => match σ.obj ((s - 1000000) / 1000) with
  | some (.box t cs sh) => ⟨σ.slots, (n, some (.row e z [] false)) :: ((s - 1000000) / 1000, some (.box t (cs.set ((s - 1000000) % 1000) (.own n)) sh)) :: σ.objs⟩
  | _ => σ
def St.mat (σ : St) : List (Nat × Nat × TypeId × Nat) -> St
 | [] => σ
 | (s, n, e, z) :: r => (σ.mat1 s n e z).mat r
def qat (σ : St) : List (Nat × Nat × TypeId × Nat) -> Prop
 | [] => True
 | (s, n, e, z) :: r => qfa σ s = true /\ 0 < z /\ σ.fresh [n % 1000] = true /\ qat (σ.mat1 s n e z) r
def qak (c : Option AV) (p q : Prop) : Prop := match c with
 | some (.pv (.v (.bool x))) => (x = true -> p) /\ (x = false -> q)
 | _ => False
def qdp : Code -> Option Nat
 | .cond (.tmp c) _ _ => some c
 | .seq _ b => qdp b
 | _ => none
def Cx.joins (X : Cx) (a : Code) : Bool := match qdp a with | some c => vd X.J c | none => false
def ju (X : Cx) (C : FuncId -> List RA -> RA -> List RA -> Prop) : Code -> (Xt -> St -> Prop) -> St -> Prop
 | .skip, Q, σ => Q .n σ
 | .seq a b, Q, σ => match X.joins a with
  | false => ju X C a (Xt.then (ju X C b Q) Q) σ
  | true => ∃ (α : Type) (tm : α -> St) (I : α -> Prop), ju X C a (Xt.then (fun σ' => ∃ x, I x /\ Sub σ' (tm x)) Q) σ /\ ∀ x, I x -> ju X C b Q (tm x)
 | .region _ ops false, Q, σ => qaE X (σ.fresh (uy ops.toList)) (uy ops.toList) = true /\ qaY X C ops ops.toList [] σ (Q .n)
 | .region _ ops true, Q, σ => qaE X (σ.fresh (uy ops.toList)) (uy ops.toList) = true /\ Vk X C ops ops.toList [] [] σ (Q .n)
 | .cond (.tmp c) a b, Q, σ => qak (σ.slot c) (ju X C a Q σ) (ju X C b Q σ)
 | .block id c, Q, σ => ju X C c (Xt.block id Q) σ
 | .loop c, Q, σ => ∃ (α : Type) (tm : α -> St) (I : α -> Prop) (μ : α -> Nat) (x0 : α) (l : List (Nat × Nat × TypeId × Nat)), I x0 /\ qat σ l /\ Sub (σ.mat l) (tm x0) /\ ∀ x, I x -> ju X C c (Xt.then (fun σ' => ∃ y, I y /\ μ y < μ x /\ Sub σ' (tm y)) Q) (tm x)
 | .rangeFunc (.tmp g) ps a b, Q, σ => ∃ (f : FuncId) (lb : List PV) (rows : List (List PV)) (S : List (Nat × Option AV)) (O : Nat -> List (Nat × Option Ob)) (I : Nat -> Prop) (lm : List (Nat × Nat × TypeId × Nat)), C f [.itr lb rows] .any [] /\ qh9 X S ps.toList a b = true /\ uU (O 0) = true /\ (⟨S, O 0⟩ : St).slot g = some (.pv (.f (.func f) [] lb)) /\ qat σ lm /\ qhN (σ.mat lm) ⟨S, O 0⟩ /\ I 0 /\
   (∀ k x, rows[k]? = some x -> I k -> ps.size = x.length /\ ju X C a (qgI (ju X C b (qhf (I (k + 1)) Q S (O (k + 1))))) ⟨qbp ps.toList x ++ S, O k⟩) /\ (I rows.length -> Q .n ⟨S, O rows.length⟩)
 | .exit id, Q, σ => Q (.e id) σ
 | .ret, Q, σ => Q .r σ
 | _, _, _ => False
end Go.Bl
namespace Go.Bl
open Go.RowKit
structure Gv where
 val : Nat -> Option (List PV)
 obj : Nat -> Option Obj
structure Env (G : Gv) (A : Nat -> Prop) (w : World) : Prop where
 val : ∀ g xs, G.val g = some xs -> qN A w (.p xs) (.pointer (some ⟨g, 0, none⟩))
 obj : ∀ b o, G.obj b = some o -> w.heap[b]? = some o /\ ¬ A b
theorem Env.stay {G : Gv} {A A' : Nat -> Prop} {w w' : World} (k : qQ A A' w w') (h : Env G A w) : Env G A' w' :=
 ⟨fun g xs hg => (h.val g xs hg).stay k, fun b o hb => by
  obtain ⟨h1, h2⟩ := h.obj b o hb
  have hl := qk h1
  exact ⟨by rw [k.heap b hl h2]; exact h1, fun q => h2 (k.out b hl q)⟩⟩
structure Bk where
 v : Value
 s : Nat
 cap : Nat
def Bk.blk (k : Bk) : Option Nat := match k.v with
 | .slice (some a) _ _ => some a.block
 | .map r => r
 | .pointer (some a) => some a.block
 | _ => none
def AV.one : AV -> Bool
 | .pv x => x.one
 | .ag _ => false
 | .tup _ => false
 | _ => true
mutual
inductive qq (β : Nat -> Option Bk) (A : Nat -> Prop) (w : World) : AV -> Value -> Prop
 | pv {x : PV} {u : Value} : qN A w x u -> qq β A w (.pv x) u
 | nil : qq β A w .nil (.slice none 0 0)
 | ref {n i j b : Nat} {k : Bk} : β n = some k -> k.blk = some b -> qq β A w (.ref n i j) (.pointer (some ⟨b, i * k.s + j, none⟩))
 | own {n : Nat} {k : Bk} : β n = some k -> qq β A w (.own n) k.v
 | sl {n off len b c : Nat} {k : Bk} : β n = some k -> k.blk = some b -> off + c <= k.cap -> len <= c -> k.cap <= maxLen -> qq β A w (.sl n off len) (.slice (some ⟨b, off * k.s, none⟩) len c)
 | sl0 {n off : Nat} {ad : Option Addr} : qq β A w (.sl n off 0) (.slice ad 0 0)
 | ag {xs : List AV} {us : List Value} : qh β A w xs us -> (∀ x ∈ xs, x.one = true) -> qq β A w (.ag xs) (.agg us.toArray)
 | tup {xs : List AV} {us : List Value} : qh β A w xs us -> qq β A w (.tup xs) (.tuple us.toArray)
 | fn {f : Fn} {xs ys : List AV} {us zs : List Value} : qh β A w xs us -> qh β A w ys zs -> qq β A w (.fn f xs ys) (.func f us.toArray zs.toArray)
inductive qh (β : Nat -> Option Bk) (A : Nat -> Prop) (w : World) : List AV -> List Value -> Prop
 | nil : qh β A w [] []
 | cons {x : AV} {u : Value} {xs : List AV} {us : List Value} : qq β A w x u -> qh β A w xs us -> qh β A w (x :: xs) (u :: us)
end
def jp (β β' : Nat -> Option Bk) : Prop := ∀ n k, β n = some k -> β' n = some k
theorem jp.refl (β : Nat -> Option Bk) : jp β β := fun _ _ h => h
mutual
theorem qq.mono {β β' : Nat -> Option Bk} {A A' : Nat -> Prop} {w w' : World} (hb : jp β β') (k : qQ A A' w w') : ∀ {x : AV} {u : Value}, qq β A w x u -> qq β' A' w' x u
 | _, _, .pv h => .pv (h.stay k)
 | _, _, .nil => .nil
 | _, _, .ref h h1 => .ref (hb _ _ h) h1
 | _, _, .own h => .own (hb _ _ h)
 | _, _, .sl h h1 h2 h3 h5 => .sl (hb _ _ h) h1 h2 h3 h5
 | _, _, .sl0 => .sl0
 | _, _, .ag h h1 => .ag (qh.mono hb k h) h1
 | _, _, .tup h => .tup (qh.mono hb k h)
 | _, _, .fn h h1 => .fn (qh.mono hb k h) (qh.mono hb k h1)
theorem qh.mono {β β' : Nat -> Option Bk} {A A' : Nat -> Prop} {w w' : World} (hb : jp β β') (k : qQ A A' w w') : ∀ {xs : List AV} {us : List Value}, qh β A w xs us -> qh β' A' w' xs us
 | _, _, .nil => .nil
 | _, _, .cons h h1 => .cons (qq.mono hb k h) (qh.mono hb k h1)
end
theorem qh.length {β : Nat -> Option Bk} {A : Nat -> Prop} {w : World} : ∀ {xs : List AV} {us : List Value}, qh β A w xs us -> xs.length = us.length
 | _, _, .nil => rfl
 | _, _, .cons _ h => by simp [qh.length h]
theorem qh.get {β : Nat -> Option Bk} {A : Nat -> Prop} {w : World} : ∀ {xs : List AV} {us : List Value}, qh β A w xs us -> ∀ {i : Nat} {x : AV}, xs[i]? = some x -> ∃ u, us[i]? = some u /\ qq β A w x u
 | _, _, .nil, _, _, h => by simp at h
 | _, _, .cons h h1, 0, _, e => by simp at e; subst e; exact ⟨_, rfl, h⟩
 | _, _, .cons h h1, i + 1, _, e => by simp at e; obtain ⟨u, h2, h3⟩ := qh.get h1 e; exact ⟨u, by simpa using h2, h3⟩
theorem qh.app {β : Nat -> Option Bk} {A : Nat -> Prop} {w : World} : ∀ {xs : List AV} {us : List Value}, qh β A w xs us -> ∀ {ys : List AV} {zs : List Value}, qh β A w ys zs -> qh β A w (xs ++ ys) (us ++ zs)
 | _, _, .nil, _, _, h => h
 | _, _, .cons h h1, _, _, h2 => .cons h (qh.app h1 h2)
theorem qh.take {β : Nat -> Option Bk} {A : Nat -> Prop} {w : World} : ∀ {xs : List AV} {us : List Value}, qh β A w xs us -> ∀ (k : Nat), qh β A w (xs.take k) (us.take k)
 | _, _, .nil, k => by simp; exact .nil
 | _, _, .cons h h1, 0 => .nil
 | _, _, .cons h h1, k + 1 => .cons h (qh.take h1 k)
theorem qh.drop {β : Nat -> Option Bk} {A : Nat -> Prop} {w : World} : ∀ {xs : List AV} {us : List Value}, qh β A w xs us -> ∀ (k : Nat), qh β A w (xs.drop k) (us.drop k)
 | _, _, .nil, k => by simp; exact .nil
 | _, _, .cons h h1, 0 => .cons h h1
 | _, _, .cons h h1, k + 1 => qh.drop h1 k
theorem qh.pvs {β : Nat -> Option Bk} {A : Nat -> Prop} {w : World} : ∀ {xs : List PV} {us : List Value}, qe A w xs us -> qh β A w (xs.map .pv) us
 | _, _, .nil => .nil
 | _, _, .cons h h1 => .cons (.pv h) (qh.pvs h1)
theorem qq.one {β : Nat -> Option Bk} {A : Nat -> Prop} {w : World} {x : AV} {u : Value} (h : qq β A w x u) (hx : x.one = true) (hk : ∀ n k, β n = some k -> k.v.oneCell' = true) : u.oneCell' = true := by
 cases h with
 | pv h => exact h.one hx
 | own h => exact hk _ _ h
 | ag h h1 => cases hx
 | tup h => cases hx
 | _ => rfl
def J4 (n : Nat) (fz : Nat × Nat) : Prop := ∀ j, j < n -> ¬ (fz.1 <= j /\ j < fz.2)
def zA (β : Nat -> Option Bk) (A : Nat -> Prop) (w : World) (n : Nat) : Ob -> Prop
 | .row e s xs _ => ∃ k us, β n = some k /\ k.s = s /\ 0 < s /\ qe A w (xs.flatMap PV.cells) us /\ (∀ x ∈ xs, x.cells.length = s) /\ (∀ x ∈ xs, ∀ c ∈ x.cells, c.one = true) /\
   w.ownsRow 0 e s k.v xs.length us /\ (∀ b, k.blk = some b -> k.v = .slice (some ⟨b, 0, none⟩) xs.length k.cap /\ k.cap <= maxLen)
 | .var t xs _ => ∃ k us b, β n = some k /\ k.s = 1 /\ qe A w xs us /\ (∀ c ∈ xs, c.one = true) /\ k.v = .pointer (some ⟨b, 0, none⟩) /\ w.heap[b]? = some (.cells us.toArray t (0, 0)) /\ k.cap = xs.length
 | .box t cs _ => ∃ k us b, β n = some k /\ k.s = 1 /\ qh β A w cs us /\ (∀ c ∈ cs, c.one = true) /\ k.v = .pointer (some ⟨b, 0, none⟩) /\ w.heap[b]? = some (.cells us.toArray t (0, 0)) /\ k.cap = cs.length
 | .mrow e xs _ => ∃ (k : Bk) (bs : List UInt8) (g : Nat) (cur : Array Value) (fz : Nat × Nat), β n = some k /\ k.s = 1 /\ xs = bs.map u8P /\ k.v = .slice (some ⟨g, 0, none⟩) bs.length k.cap /\ w.heap[g]? = some (.cells cur e fz) /\ J4 cur.size fz /\ bs.length <= k.cap /\ k.cap <= maxLen /\ cur.size = k.cap /\ cur.toList.take bs.length = bs.map u8v
 | .map ks vs _ => ∃ (k : Bk) (es : Array MapEntry) (ck b : Nat) (us : List Value), β n = some k /\ k.v = .map (some b) /\ w.heap[b]? = some (.map es ck) /\ es.toList.map (·.key) = ks.map (Value.int .i64) /\ es.toList.map (·.val) = us /\ qe A w vs us
theorem zA.mono {β β' : Nat -> Option Bk} {A A' : Nat -> Prop} {w w' : World} (hb : jp β β') (hs : qQ A A' w w') {n : Nat} {o : Ob} (h : zA β A w n o)
  (hblk : ∀ k b, β n = some k -> k.blk = some b -> w'.heap[b]? = w.heap[b]?) : zA β' A' w' n o := by
 cases o with
 | row e s xs sh =>
  obtain ⟨k, us, h1, h2, h3, h4, h5, h6, h7, h8⟩ := h
  refine ⟨k, us, hb _ _ h1, h2, h3, h4.stay hs, h5, h6, ⟨h7.1, ?_⟩, h8⟩
  rcases h7.2 with h | ⟨g, cap, cur, hv, hg, hh, r⟩
  ·exact .inl h
  ·exact .inr ⟨g, cap, cur, hv, hg, by rw [hblk k g h1 (by simp [Bk.blk, hv])]; exact hh, r⟩
 | var t xs sh =>
  obtain ⟨k, us, b, h1, h2, h3, h4, h5, h6, h7⟩ := h
  exact ⟨k, us, b, hb _ _ h1, h2, h3.stay hs, h4, h5, by rw [hblk k b h1 (by simp [Bk.blk, h5])]; exact h6, h7⟩
 | box t cs sh =>
  obtain ⟨k, us, b, h1, h2, h3, h4, h5, h6, h7⟩ := h
  exact ⟨k, us, b, hb _ _ h1, h2, h3.mono hb hs, h4, h5, by rw [hblk k b h1 (by simp [Bk.blk, h5])]; exact h6, h7⟩
 | mrow e xs sh =>
  obtain ⟨k, bs, g, cur, fz, h1, h2, h3, h4, h5, h6⟩ := h
  exact ⟨k, bs, g, cur, fz, hb _ _ h1, h2, h3, h4, by rw [hblk k g h1 (by simp [Bk.blk, h4])]; exact h5, h6⟩
 | map ks vs sh =>
  obtain ⟨k, es, ck, b, us, h1, h2, h3, h4, h5, h6⟩ := h
  exact ⟨k, es, ck, b, us, hb _ _ h1, h2, by rw [hblk k b h1 (by simp [Bk.blk, h2])]; exact h3, h4, h5, h6.stay hs⟩
theorem zA.bound {β : Nat -> Option Bk} {A : Nat -> Prop} {w : World} {n : Nat} {o : Ob} (h : zA β A w n o) : ∃ k, β n = some k /\ ∀ b, k.blk = some b -> b < w.heap.size := by
 cases o with
 | row e s xs sh =>
  obtain ⟨k, us, h1, h2, h3, h4, h5, h6, h7, h8⟩ := h
  refine ⟨k, h1, fun b hb => ?_⟩
  rcases h7.2 with ⟨h, -⟩ | ⟨g, cap, cur, hv, hg, hh, r⟩
  ·simp [Bk.blk, h] at hb
  ·simp [Bk.blk, hv] at hb; subst hb; exact qk hh
 | var t xs sh =>
  exact Y47
 | box t cs sh =>
  exact Y47
 | mrow e xs sh =>
  obtain ⟨k, bs, g, cur, fz, h1, h2, h3, h4, h5, h6⟩ := h
  exact ⟨k, h1, fun c hc => by simp [Bk.blk, h4] at hc; subst hc; exact qk h5⟩
 | map ks vs sh =>
  obtain ⟨k, es, ck, b, us, h1, h2, h3, h4, h5, h6⟩ := h
  exact ⟨k, h1, fun c hc => by simp [Bk.blk, h2] at hc; subst hc; exact qk h3⟩
def Mut (A0 : Nat -> Prop) (β : Nat -> Option Bk) (σ : St) (b : Nat) : Prop := A0 b ∨ ∃ n o k, σ.obj n = some o /\ o.sh = false /\ β n = some k /\ k.blk = some b
structure Pl where
 G : Gv
 N : Nat
 w0 : World
 bs : List Nat
 A0 : Nat -> Prop
 pin : Nat -> Option Bk
 rd : Bool := false
def Mk (L : Pl) (ds : List Deferred) (w : World) : Prop := ∃ Ds : List Nat, ds = Ds.map (fun D => { target := .collected D, args := #[] }) /\ Ds.Nodup /\ (∀ D ∈ Ds, L.w0.heap.size <= D /\ w.heap[D]? = some (.deferred (some []))) /\ (L.rd = true -> Ds = [])
theorem Mk.nil (L : Pl) (w : World) : Mk L [] w := ⟨[], rfl, List.nodup_nil, fun D h => (by cases h), fun _ => rfl⟩
theorem zA.kind {β : Nat -> Option Bk} {A : Nat -> Prop} {w : World} {n : Nat} {o : Ob} (h : zA β A w n o) {k : Bk} {b : Nat} (hk : β n = some k) (hb : k.blk = some b) : (∃ c t f, w.heap[b]? = some (.cells c t f)) ∨ ∃ es ck, w.heap[b]? = some (.map es ck) := by
 cases o with
 | row e s xs sh =>
  obtain ⟨k', us, h1, h2, h3, h4, h5, h6, h7, h8⟩ := h
  rw [hk] at h1; cases h1
  rcases h7.2 with ⟨h, -⟩ | ⟨g, cap, cur, hv, hg, hh, r⟩
  ·simp [Bk.blk, h] at hb
  ·simp [Bk.blk, hv] at hb; subst hb; exact .inl ⟨_, _, _, hh⟩
 | var t xs sh =>
  exact Y46
 | box t cs sh =>
  exact Y46
 | mrow e xs sh =>
  obtain ⟨k', bs, g, cur, fz, h1, h2, h3, h4, h5, h6⟩ := h
  rw [hk] at h1; cases h1
  simp [Bk.blk, h4] at hb; subst hb; exact .inl ⟨_, _, _, h5⟩
 | map ks vs sh =>
  obtain ⟨k', es, ck, c, us, h1, h2, h3, h4, h5, h6⟩ := h
  rw [hk] at h1; cases h1
  simp [Bk.blk, h2] at hb; subst hb; exact .inr ⟨_, _, h3⟩
structure Sim (L : Pl) (F : Nat -> Prop) (β : Nat -> Option Bk) (σ : St) (a : Act) (w : World) : Prop where
 size : a.tmps.size = L.N
 defs : Mk L a.defers w
 slots : ∀ s x, σ.slot s = some x -> qq β (Mut L.A0 β σ) w x (slot a s)
 objs : ∀ n o, σ.obj n = some o -> zA β (Mut L.A0 β σ) w n o
 one : ∀ n k, β n = some k -> k.v.oneCell' = true
 res : ∀ n, F n -> β n = none
 inj : ∀ n m o o' k k' b, σ.obj n = some o -> σ.obj m = some o' -> β n = some k -> β m = some k' -> k.blk = some b -> k'.blk = some b -> n = m
 low : ∀ n o k b, σ.obj n = some o -> β n = some k -> k.blk = some b -> b ∈ L.bs ∨ L.w0.heap.size <= b
 fr : Fr L.bs L.w0 w
 env : Env L.G (Mut L.A0 β σ) w
 a0 : ∀ b, L.A0 b -> b < L.w0.heap.size /\ b ∉ L.bs
 pin : ∀ n k, L.pin n = some k -> β n = some k /\ (n % 1000 = 999 ∨ n % 1000 = 998)
theorem Sim.ext {L : Pl} {F : Nat -> Prop} {β : Nat -> Option Bk} {σ τ : St} {a : Act} {w : World} (h : Sim L F β σ a w) (hs : ∀ s, τ.slot s = σ.slot s) (ho : ∀ n, τ.obj n = σ.obj n) : Sim L F β τ a w := by
 have e : Mut L.A0 β τ = Mut L.A0 β σ := by
  funext b
  simp only [Mut, ho]
 refine ⟨h.size, h.defs, ?_, ?_, h.one, h.res, ?_, ?_, h.fr, ?_, h.a0, h.pin⟩
 ·intro s x hx; rw [e]; rw [hs] at hx; exact h.slots s x hx
 ·intro n o hx; rw [e]; rw [ho] at hx; exact h.objs n o hx
 ·intro n m o o' k k' b h1 h2; rw [ho] at h1 h2; exact h.inj n m o o' k k' b h1 h2
 ·intro n o k b h1; rw [ho] at h1; exact h.low n o k b h1
 ·rw [e]; exact h.env
theorem Sim.notMut {L : Pl} {F : Nat -> Prop} {β : Nat -> Option Bk} {σ : St} {a : Act} {w : World} (h : Sim L F β σ a w) {D : Nat} {o : Obj} (hD : L.w0.heap.size <= D) (ho : w.heap[D]? = some o) (h1 : ∀ c t f, o ≠ .cells c t f) (h2 : ∀ es ck, o ≠ .map es ck) : ¬ Mut L.A0 β σ D := by
 rintro (g | ⟨n, o', k, g1, g2, g3, g4⟩)
 ·have := (h.a0 D g).1; omega
 ·rcases (h.objs n o' g1).kind g3 g4 with ⟨c, t, f, e⟩ | ⟨es, ck, e⟩
  ·rw [ho] at e; cases e; exact h1 _ _ _ rfl
  ·rw [ho] at e; cases e; exact h2 _ _ rfl
theorem Sim.marks {L : Pl} {F : Nat -> Prop} {β : Nat -> Option Bk} {σ : St} {a : Act} {w w' : World} (h : Sim L F β σ a w) {A' : Nat -> Prop} (hs : qQ (Mut L.A0 β σ) A' w w') : Mk L a.defers w' := by
 obtain ⟨Ds, h1, h2, h3, h4⟩ := h.defs
 refine ⟨Ds, h1, h2, fun D hD => ⟨(h3 D hD).1, ?_⟩, h4⟩
 obtain ⟨q1, q2⟩ := h3 D hD
 rw [hs.heap D (qk q2) (h.notMut q1 q2 (fun _ _ _ e => by cases e) (fun _ _ e => by cases e))]
 exact q2
theorem Sim.turn {L : Pl} {F F' : Nat -> Prop} {β β' : Nat -> Option Bk} {σ σ' : St} {a a' : Act} {w w' : World} (h : Sim L F β σ a w) (hb : jp β β') (hs : qQ (Mut L.A0 β σ) (Mut L.A0 β' σ') w w')
  (hsz : a'.tmps.size = a.tmps.size) (hd : a'.defers = a.defers)
  (hsl : ∀ s x, σ'.slot s = some x -> (σ.slot s = some x /\ slot a' s = slot a s) ∨ qq β' (Mut L.A0 β' σ') w' x (slot a' s))
  (hob : ∀ n o, σ'.obj n = some o -> (∃ o', σ.obj n = some o' /\ (o = o' ∨ o = o'.share) /\ ∀ k b, β n = some k -> k.blk = some b -> w'.heap[b]? = w.heap[b]?) ∨ zA β' (Mut L.A0 β' σ') w' n o)
  (hone : ∀ n k, β' n = some k -> k.v.oneCell' = true) (hres : ∀ n, F' n -> β' n = none)
  (hinj : ∀ n m o o' k k' b, σ'.obj n = some o -> σ'.obj m = some o' -> β' n = some k -> β' m = some k' -> k.blk = some b -> k'.blk = some b -> n = m)
  (hlow : ∀ n o k b, σ'.obj n = some o -> β' n = some k -> k.blk = some b -> b ∈ L.bs ∨ L.w0.heap.size <= b) (hfr : Fr L.bs L.w0 w') : Sim L F' β' σ' a' w' := by
 refine ⟨hsz.trans h.size, by rw [hd]; exact h.marks hs, ?_, ?_, hone, hres, hinj, hlow, hfr, ?_, h.a0, fun n k hp => ⟨hb n k (h.pin n k hp).1, (h.pin n k hp).2⟩⟩
 ·intro s x hx
  rcases hsl s x hx with ⟨h1, h2⟩ | h1
  ·rw [h2]; exact (h.slots s x h1).mono hb hs
  ·exact h1
 ·intro n o hx
  rcases hob n o hx with ⟨o', h1, h2, h3⟩ | h1
  ·have := (h.objs n o' h1).mono hb hs h3
   rcases h2 with rfl | rfl
   ·exact this
   ·cases o' <;> exact this
  ·exact h1
 ·exact h.env.stay hs
theorem U9 (a : Act) (d : Option Nat) (v : Value) : (a.put d v).tmps.size = a.tmps.size := by cases d <;> simp [Act.put]
theorem QJ (a : Act) (d : Option Nat) (v : Value) : (a.put d v).defers = a.defers := by cases d <;> rfl
theorem St.slot_put_self {σ : St} {d : Nat} {o : Out} : (σ.put (some d) o).slot d = o.val := by simp [St.slot, St.put, qp]
theorem St.slot_put_ne {σ : St} {d : Option Nat} {s : Nat} {o : Out} (h : d ≠ some s) : (σ.put d o).slot s = σ.slot s := by
 cases d with
 | none => rfl
 | some d =>
  have hn : ¬ s = d := fun e => h (by rw [e])
  simp [St.slot, St.put, qp, hn]
theorem Sim.val {L : Pl} {F : Nat -> Prop} {β : Nat -> Option Bk} {σ : St} {a : Act} {w : World} (h : Sim L F β σ a w) {d : Option Nat} {x : Option AV} {v : Value} (hd : ∀ s, d = some s -> s < L.N)
  (hx : ∀ y, x = some y -> qq β (Mut L.A0 β σ) w y v) : Sim L F β (σ.put d ⟨x, []⟩) (a.put d v) w := by
 have e : Mut L.A0 β (σ.put d ⟨x, []⟩) = Mut L.A0 β σ := rfl
 refine h.turn (jp.refl _) (by rw [e]; exact qQ.refl _ _) (U9 _ _ _) (QJ _ _ _) ?_ ?_ h.one h.res h.inj h.low h.fr
 ·intro s y hy
  cases d with
  | none => exact .inl ⟨hy, rfl⟩
  | some d =>
   by_cases hs : s = d
   ·subst hs
    rw [St.slot_put_self] at hy
    exact .inr (by rw [jh (by rw [h.size]; exact hd _ rfl)]; exact hx y hy)
   ·rw [St.slot_put_ne Y76] at hy
    exact .inl ⟨hy, slot_put_ne Y76⟩
 ·intro n o hn
  exact .inl ⟨o, hn, .inl rfl, fun _ _ _ _ => rfl⟩
theorem Sim.fewer {L : Pl} {F F' : Nat -> Prop} {β : Nat -> Option Bk} {σ : St} {a : Act} {w : World} (h : Sim L F β σ a w) (hf : ∀ n, F' n -> F n) : Sim L F' β σ a w :=
 ⟨h.size, h.defs, h.slots, h.objs, h.one, fun n hn => h.res n (hf n hn), h.inj, h.low, h.fr, h.env, h.a0, h.pin⟩
end Go.Bl
namespace Go.Bl
open Go.RowKit
theorem Row.of_own' {A : Nat -> Prop} {w : World} {base : Nat} {e : TypeId} {s n : Nat} {v : Value} {us : List Value} (h : w.ownsRow base e s v n us) (hA : ∀ b, v.ownBlock = some b -> ¬ A b) :
  ∃ ad cap, v = .slice ad n cap /\ n <= cap /\ cap <= maxLen /\ Row A w ad us := by
 obtain ⟨hl, h⟩ := h
 rcases h with ⟨rfl, rfl⟩ | ⟨g, cap, cur, rfl, hg, hh, hn, hm, hs, ht⟩
 ·exact ⟨none, 0, rfl, Nat.le_refl _, by simp [maxLen], .inl (List.eq_nil_of_length_eq_zero (by simpa using hl))⟩
 ·refine ⟨some ⟨g, 0, none⟩, cap, rfl, hn, hm, .inr ⟨g, 0, cur, e, (0, 0), rfl, hA g rfl, hh, fun i hi => ?_⟩⟩
  rw [<- ht, List.getElem?_take, if_pos (by rw [<- hl]; exact hi)]
  simp
theorem Q5 {k : Bk} {b : Nat} (h : k.v.ownBlock = some b) : k.blk = some b := by
 unfold Value.ownBlock at h
 unfold Bk.blk
 split at h
 ·rename_i a n c hv
  rw [hv]
  exact h
 ·cases h
mutual
inductive uN (A : Nat -> Prop) (w : World) : RA -> Value -> List Nat -> Prop
 | pv {x : PV} {u : Value} : qN A w x u -> uN A w (.pv x) u []
 | nil : uN A w .nil (.slice none 0 0) []
 | own {e s : Nat} {xs : List PV} {v : Value} {us : List Value} : 0 < s -> qe A w (xs.flatMap PV.cells) us -> (∀ x ∈ xs, x.cells.length = s) -> (∀ x ∈ xs, ∀ c ∈ x.cells, c.one = true) -> w.ownsRow 0 e s v xs.length us ->
   uN A w (.own e s xs) v v.ownBlock.toList
 | tup {xs : List RA} {us : List Value} {bs : List Nat} : jz A w xs us bs -> uN A w (.tup xs) (.tuple us.toArray) bs
 | any {u : Value} : uN A w .any u []
inductive jz (A : Nat -> Prop) (w : World) : List RA -> List Value -> List Nat -> Prop
 | nil : jz A w [] [] []
 | cons {x : RA} {u : Value} {xs : List RA} {us : List Value} {b bs : List Nat} : uN A w x u b -> jz A w xs us bs -> jz A w (x :: xs) (u :: us) (b ++ bs)
end
def JW (P : Program) (f : FuncId) : Prop := ∀ args w, (callFunc f args).run P w = .ok (.enter f args) w
structure qff (β : Nat -> Option Bk) (A : Nat -> Prop) (w : World) (objs : List (Nat × Ob)) : Prop where
 rep : ∀ n o, qp objs n = some o -> zA β A w n o
 inj : ∀ n m o o' k k' b, qp objs n = some o -> qp objs m = some o' -> β n = some k -> β m = some k' -> k.blk = some b -> k'.blk = some b -> n = m
def hb (β : Nat -> Option Bk) : List (Nat × Ob) -> List Nat
 | [] => []
 | (n, o) :: r => (match o.sh, β n with | false, some k => k.blk.toList | _, _ => []) ++ hb β r
def VK : List Value -> Value
 | [u] => u
 | us => .tuple us.toArray
def qey (P : Program) (G : Gv) (f : FuncId) (pre : List (Nat × Ob)) (xs : List AV) (post : List (Nat × Ob)) (rs : List AV) : Prop :=
 ∀ (w : World) (vals : List Value) (β : Nat -> Option Bk) (A : Nat -> Prop), (∀ b, A b -> b < w.heap.size) -> (∀ b ∈ hb β pre, A b) -> qff β A w pre -> (∀ n k, β n = some k -> k.v.oneCell' = true) -> qh β A w xs vals -> Env G A w ->
  Calls P f vals.toArray w fun e w' => ∃ us β', e = .returned (VK us) /\ (∀ n o, qp pre n = some o -> β' n = β n) /\ (∀ n k, β' n = some k -> k.v.oneCell' = true) /\
   qff β' (fun b => (A b /\ b ∉ hb β pre) ∨ b ∈ hb β' post) w' post /\ qh β' (fun b => (A b /\ b ∉ hb β pre) ∨ b ∈ hb β' post) w' rs us /\
   (∀ n o k b, qp post n = some o -> β' n = some k -> k.blk = some b -> b ∈ hb β pre ∨ w.heap.size <= b) /\ Fr (hb β pre) w w'
def qid (P : Program) (g : FuncId) (us : List Value) (encs : Nat -> List Value) (A : Nat -> Prop) (N : Nat) (w : World) : Prop :=
 ∀ (l : Nat) (J : Nat -> World -> Prop) (Jx : World -> Prop) (W : World),
  w.heap.size <= W.heap.size -> (∀ b, b < w.heap.size -> ¬ A b -> W.heap[b]? = w.heap[b]?) ->
  (∀ k W W', J k W -> Fr [] W W' -> J k W') -> (∀ W W', Jx W -> Fr [] W W' -> Jx W') ->
  (∀ k W1, J k W1 -> k < N -> YieldAt Fence.wide 1 P l (encs k).toArray W1 fun e W' => (e = .returned (.bool true) /\ J (k + 1) W' /\ ∀ b, b < w.heap.size -> ¬ A b -> W'.heap[b]? = W1.heap[b]?) ∨ (e = .returned (.bool false) /\ Jx W')) ->
  J 0 W -> CallsIn Fence.wide 2 P g (#[.func (.yield l) #[] #[]] ++ us.toArray) W fun e W' => (∃ v, e = .returned v) /\ (J N W' ∨ Jx W')
def qgf (P : Program) (G : Gv) (f : FuncId) (lb : List PV) (rows : List (List PV)) : Prop :=
 ∀ (w : World) (us : List Value) (A : Nat -> Prop), (∀ b, A b -> b < w.heap.size) -> Env G A w -> qe A w lb us -> ∃ encs : Nat -> List Value, (∀ k x, rows[k]? = some x -> qe A w x (encs k)) /\ qid P f us encs A rows.length w
structure Con (P : Program) (G : Gv) (f : FuncId) (args : List RA) (res : RA) (outs : List RA) : Prop where
 ent : JW P f
 run : ∀ (w : World) (vals : List Value) (bs : List Nat) (A : Nat -> Prop), (∀ b, A b -> b < w.heap.size) -> (∀ b ∈ bs, A b) -> bs.Nodup -> Env G A w -> jz A w args vals bs ->
  Calls P f vals.toArray w fun e w' => ∃ v b1 b2, e = .returned v /\ uN (fun b => (A b /\ b ∉ bs) ∨ b ∈ b1 ++ b2) w' res v b1 /\ jz (fun b => (A b /\ b ∉ bs) ∨ b ∈ b1 ++ b2) w' outs vals b2 /\
   (b1 ++ b2).Nodup /\ (∀ b ∈ b1 ++ b2, (b ∈ bs ∨ w.heap.size <= b) /\ b < w'.heap.size) /\ Fr bs w w'
 hp : ∀ ρ pre xs ρ' post rs, args = [.hp ρ pre xs] -> res = .hp ρ' post rs -> qey P G f pre xs post rs
 it : ∀ lb rows, args = [.itr lb rows] -> qgf P G f lb rows
def qhq : List RA -> Bool
 | [.hp _ _ _] => false
 | [.itr _ _] => false
 | _ => true
theorem Con.mk' {P : Program} {G : Gv} {f : FuncId} {args : List RA} {res : RA} {outs : List RA} (hn : qhq args = true) (h : JW P f /\ ∀ (w : World) (vals : List Value) (bs : List Nat) (A : Nat -> Prop), (∀ b, A b -> b < w.heap.size) -> (∀ b ∈ bs, A b) -> bs.Nodup -> Env G A w -> jz A w args vals bs ->
  Calls P f vals.toArray w fun e w' => ∃ v b1 b2, e = .returned v /\ uN (fun b => (A b /\ b ∉ bs) ∨ b ∈ b1 ++ b2) w' res v b1 /\ jz (fun b => (A b /\ b ∉ bs) ∨ b ∈ b1 ++ b2) w' outs vals b2 /\
   (b1 ++ b2).Nodup /\ (∀ b ∈ b1 ++ b2, (b ∈ bs ∨ w.heap.size <= b) /\ b < w'.heap.size) /\ Fr bs w w') : Con P G f args res outs :=
 ⟨h.1, h.2, fun ρ pre xs ρ' post rs e _ => (by rw [e] at hn; cases hn), fun lb rows e => (by rw [e] at hn; cases hn)⟩
structure Cok (P : Program) (X : Cx) (L : Pl) : Prop where
 h : ∀ α f, X.h α f = f ()
 T : ∀ t ti, X.T t = some ti -> P.underlying t = some ti.desc /\ ∃ i, P.info? t = some i /\ i.size = ti.size /\ i.bytes = ti.bytes /\ ∀ z, ti.zero = some z -> i.zero = some (z ()) /\ okV (z ()) = true /\ (z ()).cells.size = ti.size
 G : X.G = L.G.val
 N : X.N = L.N
 N1 : L.N <= 1000
section
variable {α : Type} {P : Program} {X : Cx} {L : Pl} {F : Nat -> Prop} {β : Nat -> Option Bk} {σ : St} {a : Act} {w : World} {C : FuncId -> List RA -> RA -> List RA -> Prop} {b : α} {l : List Lc}
theorem WZ {A : Nat -> Prop} {v : Value} (h : v.oneCell' = true) : qq β A w (vT v) v /\ (vT v).one = true := by
 unfold vT
 split
 ·exact ⟨.nil, rfl⟩
 ·exact ⟨.pv (.v h), rfl⟩
theorem Ur {A : Nat -> Prop} {v : Value} (h : v.oneCell' = true) : qN A w (jn v) v /\ (jn v).one = true := by
 unfold jn
 split
 ·exact ⟨.nil _ _, rfl⟩
 ·exact ⟨.v h, rfl⟩
theorem uX {A : Nat -> Prop} : ∀ {vs : List Value}, (∀ v ∈ vs, v.oneCell' = true) -> qh β A w (vs.map vT) vs /\ ∀ x ∈ vs.map vT, x.one = true
 | [], _ => ⟨.nil, by simp⟩
 | v :: vs, h => by
  obtain ⟨h1, h2⟩ := WZ (β := β) (A := A) (w := w) (h v List.mem_cons_self)
  obtain ⟨h3, h4⟩ := uX (vs := vs) fun x hx => h x (List.mem_cons_of_mem _ hx)
  exact ⟨.cons h1 h3, fun x hx => by rcases List.mem_cons.1 hx with rfl | hx; (exact h2); (exact h4 x hx)⟩
theorem zj {A : Nat -> Prop} : ∀ {vs : List Value}, (∀ v ∈ vs, v.oneCell' = true) -> qe A w (vs.map jn) vs /\ ∀ x ∈ vs.map jn, x.one = true
 | [], _ => ⟨.nil, by simp⟩
 | v :: vs, h => by
  obtain ⟨h1, h2⟩ := Ur (A := A) (w := w) (h v List.mem_cons_self)
  obtain ⟨h3, h4⟩ := zj (vs := vs) fun x hx => h x (List.mem_cons_of_mem _ hx)
  exact ⟨.cons h1 h3, fun x hx => by rcases List.mem_cons.1 hx with rfl | hx; (exact h2); (exact h4 x hx)⟩
theorem Xd {A : Nat -> Prop} : ∀ {cs : List AV} {us : List Value} {xs : List PV}, qh β A w cs us -> (∀ c ∈ cs, c.one = true) -> VY cs = some xs -> qe A w xs us /\ ∀ x ∈ xs, x.one = true
 | [], _, _, .nil, _, h => by simp [VY] at h; subst h; exact ⟨.nil, by simp⟩
 | c :: cs, _, _, .cons h1 h2, ho, h => by
  cases c with
  | pv x =>
   simp only [VY, Option.map_eq_some_iff] at h
   obtain ⟨ys, hy, rfl⟩ := h
   obtain ⟨h3, h4⟩ := Xd h2 (fun x hx => ho x (List.mem_cons_of_mem _ hx)) hy
   cases h1 with
   | pv h1 => exact ⟨.cons h1 h3, fun y hy => by
     rcases List.mem_cons.1 hy with rfl | hy
     ·exact ho _ List.mem_cons_self
     ·exact h4 y hy⟩
  | _ => simp [VY] at h
theorem Qc {A : Nat -> Prop} {cs : List AV} {us : List Value} (h : qh β A w cs us) (ho : ∀ c ∈ cs, c.one = true) : qq β A w (Xu cs) (.agg us.toArray) := by
 unfold Xu
 split
 ·rename_i xs hx
  obtain ⟨h1, h2⟩ := Xd h ho hx
  exact .pv (.a h1 h2)
 ·exact .ag h ho
theorem xT : ∀ {vs : List Value}, Yu vs = true -> ∀ v ∈ vs, v.oneCell' = true
 | [], _, v, h => by cases h
 | x :: vs, h, v, hv => by
  simp only [Yu, Bool.and_eq_true] at h
  rcases List.mem_cons.1 hv with rfl | hv
  ·exact h.1
  ·exact xT h.2 v hv
theorem XY {v : Value} (h : okV v = true) (hn : ∀ cs, v ≠ .agg cs) : v.oneCell' = true := by
 unfold okV at h
 split at h
 ·rename_i cs; exact absurd rfl (hn cs)
 ·exact h
theorem Lf {A : Nat -> Prop} {v : Value} (h : okV v = true) : qq β A w (Lx v) v := by
 unfold Lx
 split
 ·exact .nil
 ·rename_i cs
  obtain ⟨h1, h2⟩ := uX (β := β) (A := A) (w := w) (xT h)
  have := Qc h1 h2
  simpa using this
 ·rename_i hn
  exact .pv (.v (XY h fun cs e => hn cs e))
theorem qcJ {x : PV} (h : x.one = true) : ∀ xs, x ≠ .t xs := fun xs e => by rw [e] at h; cases h
theorem xz {A : Nat -> Prop} {v : Value} (h : okV v = true) : qN A w (uh v) v /\ (uh v).cells.length = v.cells.size /\ ∀ c ∈ (uh v).cells, c.one = true := by
 unfold uh
 split
 ·rename_i cs
  obtain ⟨h1, h2⟩ := zj (A := A) (w := w) (xT h)
  refine ⟨?_, by simp [PV.cells, Value.cells], h2⟩
  have := qN.a h1 h2
  simpa using this
 ·rename_i hn
  have ho := XY h fun cs e => hn cs e
  obtain ⟨h1, h2⟩ := Ur (A := A) (w := w) ho
  obtain ⟨h3, h4⟩ := h1.cs (qcJ h2)
  exact ⟨h1, by rw [h3.length]; simp, h4⟩
theorem qr (hX : Cok P X L) (S : Sim L F β σ a w) {x : Operand} {k : AV -> RM α} (h : (evK X x k).runs C σ b l) :
  ∃ y l', qq β (Mut L.A0 β σ) w y (a.eval x) /\ (k y).runs C σ b l' := by
 cases x with
 | tmp t =>
  obtain ⟨y, l', h1, rfl, h2⟩ := h
  exact ⟨y, l', S.slots t y h1, h2⟩
 | const v =>
  simp only [evK] at h
  split at h
  ·rename_i hv
   exact ⟨_, l, Lf hv, h⟩
  ·exact Y8
 | global g =>
  simp only [evK] at h
  split at h
  ·rename_i xs hg
   exact ⟨_, l, .pv (S.env.val g xs (by rw [<- hX.G]; exact hg)), h⟩
  ·exact Y8
 | func f => exact ⟨_, l, .fn .nil .nil, h⟩
end
end Go.Bl
namespace Go.Bl
open Go.RowKit
theorem KI (n : Nat) : J4 n (0, 0) := fun j _ h => by have := h.2; omega
theorem vK {P : Program} (g o : Nat) (t : TypeId) (fz : Nat × Nat) : ∀ (vs : List Value) (i : Nat) (cur : Array Value) (w : World), w.heap[g]? = some (.cells cur t fz) -> J4 cur.size fz -> o + i + vs.length <= cur.size -> (∀ v ∈ vs, v.oneCell' = true) ->
  (storeCells ⟨g, o, none⟩ vs i).run P w = .ok () (w.setRow g (cur.toList.take (o + i) ++ vs ++ cur.toList.drop (o + i + vs.length)).toArray)
 | [], i, cur, w, hg, _, _, _ => by
  simp only [storeCells, List.append_nil, List.length_nil, Nat.add_zero, List.take_append_drop, Array.toArray_toList]
  rw [setRow_self w g cur t fz hg]
  rfl
 | v :: rest, i, cur, w, hg, hz, hl, h1 => by
  have hi : o + i < cur.size := by simp at hl; omega
  have hadd : (⟨g, o, none⟩ : Addr).add i = ⟨g, o + i, none⟩ := by unfold Addr.add; split <;> simp_all
  have hcell : w.cell? ⟨g, o + i, none⟩ = some cur[o + i] := by simp [World.cell?, hg, hi]
  have hfro : w.frozen? ⟨g, o + i, none⟩ = false := by
   have h9 := hz (o + i) hi
   obtain ⟨lo, hi9⟩ := fz
   simp only [World.frozen?, hg]
   simp only at h9
   rw [Bool.and_eq_false_iff]
   by_cases hlo : lo <= o + i
   ·exact .inr Y57
   ·exact .inl Y57
  have hst : (store ((⟨g, o, none⟩ : Addr).add i) v).run P w = .ok () (w.setRow g (cur.setIfInBounds (o + i) v)) := by
   rw [hadd, run_store P w _ v _ (h1 v Y85), hcell]
   simp [hfro, setCell_eq_setRow w g (o + i) cur t fz v hg]
  have ih := vK (P := P) g o t fz rest (i + 1) (cur.setIfInBounds (o + i) v) (w.setRow g (cur.setIfInBounds (o + i) v)) (setRow_heap w g cur _ t _ hg) (by simpa using hz) (by simp at hl ⊢; omega) (fun x hx => h1 x (by simp [hx]))
  simp only [storeCells, Sem.run_bind, hst, Result.andThen_ok, ih, setRow_setRow]
  congr 3
  have e := list_seg_step cur.toList (o + i) v rest (by simp at hl ⊢; omega)
  simpa [Array.toList_setIfInBounds, Nat.add_assoc] using e
def VN (e : TypeId) (base : Nat) (w : World) (v : Value) (xs : List UInt8) : Prop :=
 ∃ g cap cur fz, v = .slice (some ⟨g, 0, none⟩) xs.length cap /\ base <= g /\ w.heap[g]? = some (.cells cur e fz) /\ J4 cur.size fz /\ xs.length <= cap /\ cap <= maxLen /\ cur.size = cap /\ cur.toList.take xs.length = xs.map u8v
theorem VN.bs {A : Nat -> Prop} {e : TypeId} {base : Nat} {w : World} {v : Value} {xs : List UInt8} (h : VN e base w v xs) (hA : ∀ b, A b -> b < base) : Bs A w v xs := by
 obtain ⟨g, cap, cur, fz, rfl, hb, hg, -, hl, hm, hs, ht⟩ := h
 refine ⟨_, cap, rfl, hl, hm, ?_⟩
 rw [<- ht]
 exact (Row.of_block (A := A) hg (fun h9 => by have := hA g h9; omega)).take xs.length
theorem VN.keep {e : TypeId} {base : Nat} {w w' : World} {v : Value} {xs : List UInt8} {S : List Nat} (h : VN e base w v xs) (hf : Fr S w w') (hS : ∀ g ∈ S, g < base) : VN e base w' v xs := by
 obtain ⟨g, cap, cur, fz, rfl, hb, hg, h⟩ := h
 exact ⟨g, cap, cur, fz, rfl, hb, hf.keep hg (fun hm => by have := hS g hm; omega), h⟩
theorem VN.fr {S : List Nat} {w0 w w' : World} {base : Nat} {e : TypeId} {v : Value} {xs : List UInt8} (hown : VN e base w v xs) (h : Fr S w0 w) (hg : w.grownBy w' v.ownBlock) (hb : w0.heap.size <= base) : Fr S w0 w' := by
 obtain ⟨g, cap, cur, fz, rfl, hbg, -⟩ := hown
 exact h.then (Fr.grown (S := [g]) hg (fun k hk => by simp [Value.ownBlock] at hk; simp [hk])) (fun x hx => .inr (by simp at hx; omega))
theorem VO {P : Program} {w : World} {A : Nat -> Prop} (base : Nat) (t ty e : TypeId) (i : TypeInfo) (ht : P.underlying t = some (.slice e)) (hi : P.info? e = some i) (hz : i.zero = some (.int .u8 0)) (hsize : i.size = 1) (hby : i.bytes = 1)
  (v u : Value) (xs ys : List UInt8) (hown : VN e base w v xs) (hb : Bs A w u ys) (h63 : xs.length + ys.length <= 140737488355328) (hbase : base <= w.heap.size) (hy : 0 < ys.length) :
  ∃ v' w', (Builtin.append_ #[t, t] ty #[v, u]).run P w = .ok v' w' /\ VN e base w' v' (xs ++ ys) /\ w.grownBy w' v.ownBlock /\ (v'.ownBlock = v.ownBlock ∨ v'.ownBlock = some w.heap.size) := by
 obtain ⟨g, cap, cur, fz, rfl, hbg, hg, hfz, hnc, hcm, hcs, htake⟩ := hown
 obtain ⟨ad, c, rfl, h2, h3, h4⟩ := hb
 obtain ⟨b, off, rfl, -, hcell⟩ := h4.some_of (by rw [List.length_map]; exact hy)
 have hadd : ∀ j, (⟨b, off, none⟩ : Addr).add j = ⟨b, off + j, none⟩ := fun j => by unfold Addr.add; split <;> simp_all
 have hnews : ∀ j u, (ys.map u8v)[j]? = some u -> w.cell? ((⟨b, off, none⟩ : Addr).add j) = some u := fun j u hj => by
  have hlt : j < (ys.map u8v).length := by
   rcases Nat.lt_or_ge j (ys.map u8v).length with h | h
   ·exact h
   ·rw [List.getElem?_eq_none h] at hj; cases hj
  rw [hadd, hcell j hlt, hj]
 have hl : (ys.map u8v).length = ys.length * i.size := by rw [hsize, List.length_map, Nat.mul_one]
 have hxl : (xs.map u8v).length = xs.length * i.size := by rw [hsize, List.length_map, Nat.mul_one]
 by_cases hroom : xs.length + ys.length <= cap
 ·have hf := run_firstCells_some (P := P) w i.size ys.length ⟨b, off, none⟩ ys.length c (ys.map u8v) hl hnews
  have hst := vK (P := P) g (xs.length * i.size) e fz (ys.map u8v) 0 cur w hg hfz (by rw [hl, hsize, Nat.mul_one, Nat.mul_one]; omega) (Jl _)
  simp only [Nat.add_zero] at hst
  refine ⟨_, w.setRow g (cur.toList.take (xs.length * i.size) ++ ys.map u8v ++ cur.toList.drop (xs.length * i.size + (ys.map u8v).length)).toArray, (by simp [Builtin.append_, run_underlying ht, sizeOf, typeInfo, hi, Builtin.lenOf, hroom, hf, Addr.add_lit, hst]; rfl), ?_, ?_, ?_⟩
  ·refine ⟨g, cap, _, fz, by rw [List.length_append], hbg, setRow_heap w g cur _ e _ hg, ?_, by rw [List.length_append]; exact hroom, hcm, ?_, ?_⟩
   ·have h9 : (cur.toList.take (xs.length * i.size) ++ ys.map u8v ++ cur.toList.drop (xs.length * i.size + (ys.map u8v).length)).toArray.size = cur.size := by
     exact Y44
    rw [h9]
    exact hfz
   ·exact Y44
   ·simp only [hsize, Nat.mul_one, htake]
    rw [List.length_append, <- List.map_append, show xs.length + ys.length = ((xs ++ ys).map u8v).length by simp]
    exact List.take_left
  ·exact ⟨rfl, rfl, rfl, by simp [World.setRow], fun k _ hk => setRow_other w g k _ (fun e => hk (by simp [Value.ownBlock, e]))⟩
  ·exact .inl rfl
 ·have holds : ∀ j u, (xs.map u8v)[j]? = some u -> w.cell? ((⟨g, 0, none⟩ : Addr).add j) = some u := fun j u hu => by
   have hadd : (⟨g, 0, none⟩ : Addr).add j = ⟨g, j, none⟩ := by unfold Addr.add; split <;> simp_all
   rw [hadd, qM hg]
   rw [<- htake, List.getElem?_take] at hu
   split at hu
   ·simpa using hu
   ·cases hu
  have hr := run_append_grow (P := P) w t ty e i (.int .u8 0) ht hi hz ⟨g, 0, none⟩ xs.length cap (xs.map u8v) hxl holds ⟨b, off, none⟩ ys.length c (ys.map u8v) hl hnews Y54 Y54 (growslice_fits Y54 (by rw [hby]; omega))
  have hge := grownCap_ge w (xs.length + ys.length) cap e
  have hcm2 : grownCap w (xs.length + ys.length) cap e <= maxLen := grownCap_le_maxLen w _ cap e (by simp only [maxLen]; omega)
  refine ⟨_, _, hr, ⟨w.heap.size, _, _, (0, 0), by rw [List.length_append], hbase, heap_alloc_new w.drew _, KI _, by rw [List.length_append]; exact hge, hcm2, ?_, ?_⟩, ⟨rfl, rfl, rfl, by simp, fun k hk _ => Below.heap_alloc w.drew _ _ hk⟩, .inr rfl⟩
  ·simp only [Array.size_append, List.size_toArray, size_zeroCells, List.length_map, Value.cells]
   simp
   omega
  ·simp only [Array.toList_append]
   rw [<- List.map_append, show (xs ++ ys).length = ((xs ++ ys).map u8v).length by simp]
   exact List.take_left
end Go.Bl
