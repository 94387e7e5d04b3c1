import Derived.Test.YtdloaifdpajcjaaGreatDoorGA
set_option linter.unusedVariables false
set_option linter.unusedSimpArgs false
namespace Go.Bl
inductive Kind where
 | val
 | mem
 | call
 | tail
 deriving DecidableEq
def qJ (ops : Array Oper) (i : Nat) : Option Tmp := (ops[i]?).bind (·.dst)
def slot (a : Act) (t : Nat) : Value := a.tmps.getD t undef
def qhX (ops : Array Oper) (i : Nat) : List Tmp := match ops[i]? with | some o => o.looksAt ops | none => []
def qE (ops : Array Oper) (i : Nat) : List Nat := match ops[i]? with | some o => (o.after.toList.filter (Region.binds .any)).map (·.on) | none => []
def qah (P : Program) (Kv : Value -> World -> Prop) : Result Next -> Prop
 | .ok (.value v) w' => Kv v w'
 | .ok .skip w' => Kv undef w'
 | .ok (.enter f args) w' => Calls P f args w' fun
   | .returned v, w'' => Kv v w''
   | _, _ => False
 | .ok (.row row args) w' => Rows P row args w' fun v w'' => Kv v w''
 | _ => False
theorem V9 {P : Program} {K K' : Value -> World -> Prop} (h : ∀ v w, K v w -> K' v w) : ∀ {r : Result Next}, qah P K r -> qah P K' r
 | .ok (.value v) w', hr => h _ _ hr
 | .ok .skip w', hr => h _ _ hr
 | .ok (.enter f args) w', hr => Calls.mono hr fun e w he => by cases e <;> first | exact h _ _ he | exact he
 | .ok (.row row args) w', hr => Rows.mono hr fun v w he => h _ _ he
def opV (P : Program) (ops : Array Oper) (i : Nat) (a : Act) (u : World) (Kv : Value -> World -> Prop) : Prop :=
 match ops[i]? with
 | none => False
 | some o => if Region.wanted o (yielded ops a.tmps) = true then qah P Kv ((execOp a.eval o).run P u) else Kv undef u
def qik (P : Program) (ops : Array Oper) (i : Nat) (a : Act) (u : World) : Option (Value × World) :=
  match ops[i]? with
  | none => none
  | some o => if Region.wanted o (yielded ops a.tmps) = true then
      (match (execOp a.eval o).run P u with
       | .ok (.value v) p => some (v, p)
       | .ok .skip p => some (undef, p)
       | _ => none)
    else some (undef, u)
theorem jZ {P : Program} {ops : Array Oper} {i : Nat} {a : Act} {u : World} {K K' : Value -> World -> Prop} (h : ∀ v w, K v w -> K' v w)
  (hh : opV P ops i a u K) : opV P ops i a u K' := by
 unfold opV at *
 split
 ·simp_all
 ·rename_i o ho
  simp only [ho] at hh
  split
  ·rename_i hw; simp only [hw, if_true] at hh; exact V9 h hh
  ·rename_i hw; simp only [hw] at hh; exact h _ _ hh
theorem Wj {P : Program} {ops : Array Oper} {Q : Exit -> Act -> World -> Prop} {i : Nat} {a : Act} {w : World} {K : Act -> World -> Prop} {Kv : Value -> World -> Prop}
  (hh : opV P ops i a w Kv) (hK : ∀ v p, Kv v p -> K (a.put (qJ ops i) v) p) : wpOp P ops Q i K a w := by
 unfold opV at hh
 unfold wpOp
 split at hh
 ·exact hh.elim
 ·rename_i o ho
  have hd : qJ ops i = o.dst := by simp [qJ, ho]
  rw [hd] at hK
  simp only [ho]
  split
  ·rename_i hw
   simp only [hw, if_true] at hh
   refine .inl ?_
   unfold Oper.wp
   generalize (execOp a.eval o).run P w = r at *
   cases r with
   | ok n w' =>
    cases n <;> simp only [Oper.upon, qah] at hh ⊢
    case value v => exact hK _ _ hh
    case skip => exact hK _ _ hh
    case enter f args => exact Calls.mono hh fun e w he => by cases e <;> first | exact hK _ _ he | exact he.elim
    case row row args => exact Rows.mono hh fun v w he => hK _ _ he
   | halt x w' => exact hh.elim
  ·rename_i hw
   simp only [hw] at hh
   exact hK _ _ hh
section
variable {P : Program} {ops : Array Oper} (hns : Region.noSelect ops = true)
include hns
end
theorem jh {a : Act} {d : Tmp} {v : Value} (h : d < a.tmps.size) : slot (a.put (some d) v) d = v := by
 simp [slot, Act.put, h]
theorem slot_put_ne {a : Act} {d : Option Tmp} {t : Nat} {v : Value} (h : d ≠ some t) : slot (a.put d v) t = slot a t := by
 cases d with
 | none => rfl
 | some d =>
  have hne : d ≠ t := fun e => h (by rw [e])
  simp [slot, Act.put, Array.getElem?_setIfInBounds_ne hne]
theorem LY (a : Act) (d : Option Tmp) (v : Value) : (a.put d v).defers = a.defers := by cases d <;> rfl
section
variable (P : Program) (ops : Array Oper) (Q : Exit -> Act -> World -> Prop) (RF RC : World -> World -> Prop) (w0 : World)
def G (dn : Nat -> Bool) (a : Act) (w : World) : List (Kind × Nat) -> Act -> World -> Prop
 | [], ac, wc => ∀ w', RF wc w' -> Q .normal ac w'
 | (.val, i) :: r, ac, wc => ∃ v, (∀ u, RC w0 u -> qik P ops i ac u = some (v, u)) /\ (dn i = true -> ∀ d, qJ ops i = some d -> slot a d = v) /\ G dn a w r (ac.put (qJ ops i) v) wc
 | (.mem, i) :: r, ac, wc =>
  (dn i = true -> ∃ v p, (∀ d, qJ ops i = some d -> slot a d = v) /\ RC p w /\ ∀ w', RF wc w' -> RC p w' -> G dn a w r (ac.put (qJ ops i) v) w') /\
  (dn i = false -> ∀ u, RC w0 u -> ∃ v p, qik P ops i ac u = some (v, p) /\ RF u p /\ ∀ w', RF wc w' -> RC p w' -> G dn a w r (ac.put (qJ ops i) v) w')
 | (.call, i) :: r, ac, wc => dn i = false /\ ∀ u, RF wc u -> opV P ops i ac u fun v p => RC u p /\ G dn a w r (ac.put (qJ ops i) v) p
 | (.tail, i) :: r, ac, wc => dn i = false /\ ∀ u, RF wc u -> opV P ops i ac u fun v p => G dn a w r (ac.put (qJ ops i) v) p
end
section
variable {P : Program} {ops : Array Oper} {Q : Exit -> Act -> World -> Prop} {RF RC : World -> World -> Prop} {w0 : World}
variable (hF : ∀ x, RF x x) (hFF : ∀ x y z, RF x y -> RF y z -> RF x z) (hC : ∀ x, RC x x) (hCC : ∀ x y z, RC x y -> RC y z -> RC x z) (hFC : ∀ x y, RF x y -> RC x y)
variable (hns : Region.noSelect ops = true)
include hF in
include hF hFF hC hCC hFC hns in
include hC hCC hFC hns in
structure Static (ops : Array Oper) (an : Nat -> Nat -> Bool) (sz : Nat) : Prop where
 lt : ∀ i, i < ops.size -> ∀ k ∈ qE ops i, k < i
 step : ∀ i j, i < ops.size -> an i j = true -> ∃ k ∈ qE ops i, j = k ∨ an k j = true
 apart : ∀ i j d, i < ops.size -> j < ops.size -> i ≠ j -> qJ ops j = some d -> qJ ops i ≠ some d /\ (d ∈ qhX ops i -> an i j = true ∨ an j i = true)
 bound : ∀ i d, qJ ops i = some d -> d < sz
def Ord (ops : Array Oper) (an : Nat -> Nat -> Bool) : List (Kind × Nat) -> List Nat -> Prop
 | [], _ => True
 | (k, i) :: r, done => i ∉ done /\ i < ops.size /\ (∀ j ∈ qE ops i, j ∈ done) /\ ((k = .call ∨ k = .tail) -> ∀ j ∈ done, an i j = true) /\ (k = .tail -> ∀ s ∈ r, s.1 = .tail) /\ Ord ops an r (i :: done)
theorem Ord.split {an : Nat -> Nat -> Bool} : ∀ {π1 : List (Kind × Nat)} {rest : List (Kind × Nat)} {done : List Nat}, Ord ops an (π1 ++ rest) done ->
  Ord ops an rest ((π1.map (·.2)).reverse ++ done)
 | [], _, _, h => by simpa using h
 | (k, i) :: π1, rest, done, h => by
  have := Ord.split (π1 := π1) (rest := rest) (done := i :: done) h.2.2.2.2.2
  simpa using this
theorem Ord.lt {an : Nat -> Nat -> Bool} : ∀ {π : List (Kind × Nat)} {done : List Nat}, Ord ops an π done -> ∀ s ∈ π, s.2 < ops.size
 | [], _, _, s, hs => by cases hs
 | (k, i) :: r, done, h, s, hs => by
  rcases List.mem_cons.1 hs with rfl | hs
  ·exact h.2.1
  ·exact Ord.lt h.2.2.2.2.2 s hs
def isDone (listed : Array Bool) (i : Nat) : Bool := listed.getD i false
theorem QN {listed : Array Bool} {i : Nat} (h : i < listed.size) : isDone (listed.setIfInBounds i true) i = true := by simp [isDone, h]
theorem vV {listed : Array Bool} {i j : Nat} (h : j ≠ i) : isDone (listed.setIfInBounds i true) j = isDone listed j :=
 getD_set_ne false (Ne.symm h)
theorem count_set {listed : Array Bool} {i : Nat} (hi : isDone listed i = false) (hl : i < listed.size) :
  ∀ (π : List (Kind × Nat)), ((π.filter fun s => !isDone (listed.setIfInBounds i true) s.2).length <= (π.filter fun s => !isDone listed s.2).length) /\
   ((∃ s ∈ π, s.2 = i) -> (π.filter fun s => !isDone (listed.setIfInBounds i true) s.2).length + 1 <= (π.filter fun s => !isDone listed s.2).length)
 | [] => ⟨by simp, fun ⟨s, hs, _⟩ => by cases hs⟩
 | s :: π => by
  obtain ⟨h1, h2⟩ := count_set hi hl π
  by_cases hs : s.2 = i
  ·have e1 : isDone (listed.setIfInBounds i true) s.2 = true := by rw [hs]; exact QN hl
   have e2 : isDone listed s.2 = false := by rw [hs]; exact hi
   simp only [List.filter_cons, e1, e2]
   exact ⟨by simp; omega, fun _ => by simp; omega⟩
  ·have e1 := vV (listed := listed) hs
   simp only [List.filter_cons, e1]
   refine ⟨by (split <;> (try simp only [List.length_cons])) <;> omega, fun ⟨s', hm, hs'⟩ => ?_⟩
   rcases List.mem_cons.1 hm with rfl | hm
   ·exact absurd hs' hs
   ·have := h2 ⟨s', hm, hs'⟩
    (split <;> (try simp only [List.length_cons])) <;> omega
theorem Ord.closed {an : Nat -> Nat -> Bool} : ∀ {π1 : List (Kind × Nat)} {rest : List (Kind × Nat)} {done : List Nat}, Ord ops an (π1 ++ rest) done ->
  (∀ j ∈ done, j < ops.size /\ ∀ k ∈ qE ops j, k ∈ done) -> ∀ j ∈ (π1.map (·.2)).reverse ++ done, j < ops.size /\ ∀ k ∈ qE ops j, k ∈ (π1.map (·.2)).reverse ++ done
 | [], _, _, _, h => by simpa using h
 | (k, i) :: π1, rest, done, hO, h => by
  have h' : ∀ j ∈ i :: done, j < ops.size /\ ∀ k ∈ qE ops j, k ∈ i :: done := by
   intro j hj
   rcases List.mem_cons.1 hj with rfl | hj
   ·exact ⟨hO.2.1, fun k hk => List.mem_cons_of_mem _ (hO.2.2.1 k hk)⟩
   ·exact ⟨(h j hj).1, fun k hk => List.mem_cons_of_mem _ ((h j hj).2 k hk)⟩
  have := Ord.closed (π1 := π1) (rest := rest) hO.2.2.2.2.2 h'
  simpa using this
end
section
variable {P : Program} {ops : Array Oper} {Q : Exit -> Act -> World -> Prop} {RF RC : World -> World -> Prop} {w0 : World}
variable (hF : ∀ x, RF x x) (hFF : ∀ x y z, RF x y -> RF y z -> RF x z) (hC : ∀ x, RC x x) (hCC : ∀ x y z, RC x y -> RC y z -> RC x z) (hFC : ∀ x y, RF x y -> RC x y)
variable (hns : Region.noSelect ops = true)
include hF hFF hC hCC hFC hns in
end
section
variable {P : Program} {ops : Array Oper}
theorem ready_iff {listed : Array Bool} {i : Nat} (hz : listed.size = ops.size) (hi : i < ops.size) : i ∈ Region.ready .any ops listed ↔ (isDone listed i = false /\ ∀ k ∈ qE ops i, isDone listed k = true) := by
 have hoi : ops[i]? = some (ops[i]) := by simp [hi]
 have hlt : i < listed.size := by omega
 rw [mem_ready]
 constructor
 ·rintro ⟨h1, o, ho, h2⟩
  refine ⟨by simp only [isDone, Array.getD, hlt, dif_pos] at h1 ⊢; exact h1, fun k hk => ?_⟩
  simp only [qE, ho, List.mem_map, List.mem_filter] at hk
  obtain ⟨e, ⟨he, hb⟩, rfl⟩ := hk
  exact h2 e (by simpa using he) hb
 ·rintro ⟨h1, h2⟩
  refine ⟨by simp only [isDone, Array.getD, hlt, dif_pos] at h1 ⊢; exact h1, _, hoi, fun e he hb => ?_⟩
  refine h2 e.on ?_
  simp only [qE, hoi, List.mem_map, List.mem_filter]
  exact ⟨e, ⟨by simpa using he, hb⟩, rfl⟩
theorem ready_lt {listed : Array Bool} {i : Nat} (h : i ∈ Region.ready .any ops listed) : i < ops.size := by
 obtain ⟨_, o, ho, _⟩ := mem_ready.1 h
 exact (Array.getElem?_eq_some_iff.1 ho).1
end
end Go.Bl
namespace Go.Bl
open Go.RowKit
theorem jm {P : Program} {ops : Array Oper} {K : Act -> World -> Prop} {i : Nat} {a : Act} {u : World} (o : Oper) (ho : ops[i]? = some o)
  (h : wpList P ops (fun e a' w' => e = .normal /\ a'.defers = a.defers /\ K a' w') [o] a u) : opV P ops i a u fun v p => K (a.put (qJ ops i) v) p := by
 have hd : qJ ops i = o.dst := by simp [qJ, ho]
 rw [hd]
 unfold opV
 simp only [ho]
 unfold wpList at h
 by_cases hw : Region.wanted o (yielded ops a.tmps) = true
 ·rw [if_pos hw] at h ⊢
  rcases h with h | ⟨_, h⟩
  ·unfold Oper.wp at h
   revert h
   generalize (execOp a.eval o).run P u = r
   intro h
   cases r with
   | ok n w' =>
    cases n with
    | value v' => exact h.2.2
    | skip => exact h.2.2
    | enter f args =>
     refine Calls.mono h fun e w'' he => ?_
     cases e with
     | returned v => exact he.2.2
     | panicked c => cases he.1
     | outgrown =>
      obtain ⟨_, _, h⟩ := he
      cases h.1
    | row r args => exact Rows.mono h fun v w'' he => he.2.2
    | defer d =>
     have := h.2.1
     rw [LY] at this
     simp at this
    | _ => exact h.elim
   | halt x w' =>
    cases x with
    | panic v => cases h.1
    | _ => exact h.elim
  ·obtain ⟨_, _, h⟩ := h
   cases h.1
 ·rw [if_neg hw] at h ⊢
  exact h.2.2
theorem QZ {P : Program} {w : World} {ops : Array Oper} {rest : List Oper} {o : Oper} {a : Act} {Q : Exit -> Act -> World -> Prop} {t te : TypeId} {cur : Array Value} {g off : Nat} (p x : Operand) (hgd : o.guard = none)
  (ho : o.op = .store t p x) (c' : Array Value) (hp : a.eval p = .pointer (some ⟨g, off, none⟩)) (hx : a.eval x = .agg c') (hi : (P.info? t).map (·.size) = some c'.size) (hb : At w g (.cells cur te (0, 0))) (hsz : off + c'.size <= cur.size) (h1 : c'.all (·.oneCell') = true)
  (h : ∀ w', Fr [g] w w' -> At w' g (.cells (cur.toList.take off ++ c'.toList ++ cur.toList.drop (off + c'.size)).toArray te (0, 0)) -> w'.heap.size = w.heap.size -> wpList P ops Q rest (a.put o.dst undef) w') : wpList P ops Q (o :: rest) a w := by
 refine wpList_plain hgd fun K hK => ?_
 have hst := run_storeCells_at P g off te c'.toList 0 cur w hb (by simpa using hsz) (by intro v hv; exact (Array.all_eq_true'.1 h1) v (by simpa using hv))
 simp only [Nat.add_zero, Array.length_toList] at hst
 cases hq : P.info? t with
 | none => simp [hq] at hi
 | some i =>
  have hs : i.size = c'.size := by simpa [hq] using hi
  unfold Oper.wp execOp
  simp only [ho, hp, hx, Instr.storeAt, Instr.sureAddr, Sem.run_bind, Sem.run_pure, Result.andThen_ok]
  have : (storeVar t ⟨g, off, none⟩ (.agg c')).run P w = .ok () (w.setRow g (cur.toList.take off ++ c'.toList ++ cur.toList.drop (off + c'.size)).toArray) := by
   simp [storeVar, sizeOf, typeInfo, hq, Value.cells, hs, hst]
  exact Y28
end Go.Bl
namespace Go.Bl
open Go.RowKit
structure RN (N : Nat) (x y : World) : Prop where
 os : y.os = x.os
 tape : y.tape = x.tape
 output : y.output = x.output
 size : x.heap.size <= y.heap.size
 below : ∀ k, k < N -> k < x.heap.size -> y.heap[k]? = x.heap[k]?
 shape : ∀ (k : Nat) (c : Array Value) (t : TypeId), x.heap[k]? = some (.cells c t (0, 0)) -> ∃ c', c'.size = c.size /\ y.heap[k]? = some (.cells c' t (0, 0))
theorem RN.refl (N : Nat) (x : World) : RN N x x := ⟨rfl, rfl, rfl, Nat.le_refl _, fun _ _ _ => rfl, fun _ c _ h => ⟨c, rfl, h⟩⟩
theorem RN.trans {N : Nat} {x y z : World} (h : RN N x y) (k : RN N y z) : RN N x z :=
 ⟨k.os.trans h.os, k.tape.trans h.tape, k.output.trans h.output, Nat.le_trans h.size k.size, fun i hi hx => (k.below i hi (Nat.lt_of_lt_of_le hx h.size)).trans (h.below i hi hx), fun i c t hc => by
  obtain ⟨c1, h1, h2⟩ := h.shape i c t hc
  obtain ⟨c2, h3, h4⟩ := k.shape i c1 t h2
  exact ⟨c2, h3.trans h1, h4⟩⟩
theorem RN.of_fr {N : Nat} {x y : World} (h : Fr [] x y) : RN N x y :=
 ⟨h.os, h.tape, h.output, h.size, fun k _ hk => h.block k hk Y85, fun k c t hc => ⟨c, rfl, h.keep hc Y85⟩⟩
theorem RN.at {N : Nat} {x y : World} {b : Nat} {o : Obj} (h : RN N x y) (hb : At x b o) (hN : b < N) : At y b o := (h.below b hN hb.lt).trans hb
theorem RN.cell {x y : World} {b i : Nat} {v : Value} (h : RN x.heap.size x y) (hc : x.cell? ⟨b, i, none⟩ = some v) : y.cell? ⟨b, i, none⟩ = some v := by
 unfold World.cell? at hc ⊢
 rcases Nat.lt_or_ge b x.heap.size with hb | hb
 ·rw [h.below b hb hb]; exact hc
 ·rw [Array.getElem?_eq_none hb] at hc; simp at hc
structure qis (RC : World -> World -> Prop) (w0 : World) where
 w : World
 fr : RC w0 w
instance (N : Nat) (w0 : World) : Nonempty (qis (RN N) w0) := ⟨⟨w0, RN.refl _ _⟩⟩
end Go.Bl
namespace Go.Bl
open Go.RowKit
theorem RN.fr {x y : World} (h : RN x.heap.size x y) : Fr [] x y := ⟨h.os, h.tape, h.output, h.size, fun k hk _ => h.below k hk hk⟩
def ur (dn : Nat -> Bool) (i : Nat) (k : Nat) : Bool := dn k || decide (k = i)
theorem also_self (dn : Nat -> Bool) (i : Nat) : ur dn i i = true := by simp [ur]
theorem also_ne (dn : Nat -> Bool) {i k : Nat} (h : k ≠ i) : ur dn i k = dn k := by simp [ur, h]
theorem vX {P : Program} {ops : List Oper} {Q : Exit -> Act -> World -> Prop} {id : Nat} {a : Act} {w : World} (I : (Nat -> Bool) -> Act -> World -> Prop) (hm : P.follows .mixedOrders = true)
  (hlt : ((List.range ops.toArray.size).all fun i => (qE ops.toArray i).all fun k => decide (k < i)) = true)
  (h0 : ∀ w1 : World, Fr [] w w1 -> I (fun _ => false) a w1)
  (step : ∀ i, i < ops.toArray.size -> ∀ (dn : Nat -> Bool) (a : Act) (w : World), dn i = false -> (∀ k, (qE ops.toArray i).contains k = true -> dn k = true) -> I dn a w ->
   opV P ops.toArray i a w fun v p => I (ur dn i) (a.put (qJ ops.toArray i) v) p)
  (fin : ∀ (dn : Nat -> Bool) (a : Act) (w : World), (∀ i, i < ops.toArray.size -> dn i = true) -> I dn a w -> Q .normal a w) : (Code.region id ops.toArray true).wp P Q a w := by
 obtain ⟨A, hA⟩ := exq (ops.toArray)
 rw [hA] at hlt step fin ⊢
 clear hA
 have lt : ∀ i, i < A.size -> ∀ k ∈ qE A i, k < i := fun i hi k hk => of_decide_eq_true (List.all_eq_true.1 (List.all_eq_true.1 hlt i (List.mem_range.2 hi)) k hk)
 have main : ∀ (fuel : Nat) (listed : Array Bool) (dn : Nat -> Bool) (a : Act) (w : World), listed.size = A.size -> (∀ i, i < A.size -> isDone listed i = dn i) ->
   (((List.range A.size).map fun i => (Kind.val, i)).filter fun s => !isDone listed s.2).length <= fuel -> I dn a w -> wpAny P .any A Q fuel listed a w := by
  intro fuel
  have nil : ∀ (listed : Array Bool), listed.size = A.size -> Region.ready .any A listed = [] -> ∀ i, i < A.size -> isDone listed i = true := by
   intro listed hz hr i
   induction i using Nat.strongRecOn with
   | _ i ih =>
    intro hi
    cases hd : isDone listed i with
    | true => rfl
    | false =>
     exfalso
     exact Y40
  induction fuel with
  | zero =>
   intro listed dn a w hz hd hc hI
   have hall : ∀ i, i < A.size -> isDone listed i = true := by
    intro i hi
    cases hx : isDone listed i with
    | true => rfl
    | false =>
     exfalso
     have : (Kind.val, i) ∈ ((List.range A.size).map fun i => (Kind.val, i)).filter fun s => !isDone listed s.2 := by
      rw [List.mem_filter]
      exact ⟨List.mem_map.2 ⟨i, List.mem_range.2 hi, rfl⟩, by simp [hx]⟩
     have := List.length_pos_of_mem this
     omega
   exact Y24
  | succ fuel ih =>
   intro listed dn a w hz hd hc hI
   refine ⟨fun hr => fin dn a w (fun i hi => by rw [<- hd i hi]; exact nil listed hz hr i hi) hI, fun i hi => ?_⟩
   have hl := ready_lt hi
   obtain ⟨q1, q2⟩ := (ready_iff hz hl).1 hi
   refine Wj (step i hl dn a w (by rw [<- hd i hl]; exact q1) (fun k hk => ?_) hI) fun v p hp => ?_
   ·have hk' : k ∈ qE A i := by simpa using hk
    rw [<- hd k (by have := lt i hl k hk'; omega)]
    exact q2 k hk'
   ·refine ih (listed.setIfInBounds i true) (ur dn i) _ p (by simpa using hz) (fun k hk => ?_) ?_ hp
    ·by_cases hki : k = i
     ·subst hki
      rw [QN Y54, also_self]
     ·rw [vV hki, also_ne dn hki]
      exact hd k hk
    ·exact Y33
 refine wp_region_any hm ?_
 exact Y18
theorem qfH {P : Program} {ops : Array Oper} {K : Value -> World -> Prop} {i : Nat} {a : Act} {u p : World} {v : Value} (o : Oper) (ho : ops[i]? = some o) (hg : o.guard = none) (hr : (execOp a.eval o).run P u = .ok (.value v) p) (h : K v p) : opV P ops i a u K := by
 unfold opV
 simp only [ho, Region.wanted, hg, if_true, hr]
 exact h
end Go.Bl
namespace Go.Bl
open Go.RowKit
inductive CK where
 | rd (v : Value) (mx : Nat)
 | st (j : Nat)
def CK.isSt : Option CK -> Bool
 | some (.st _) => true
 | _ => false
def qar (f : Nat -> CK -> Prop) : Nat -> List CK -> Prop
 | _, [] => True
 | i, k :: l => f i k /\ qar f (i + 1) l
theorem U0 {f : Nat -> CK -> Prop} : ∀ (l : List CK) (i0 j : Nat) (k : CK), qar f i0 l -> l[j]? = some k -> f (i0 + j) k
 | [], _, _, _, _, h => by simp at h
 | x :: l, i0, 0, k, h, hk => by simp at hk; subst hk; exact h.1
 | x :: l, i0, j + 1, k, h, hk => by
  have := U0 l (i0 + 1) j k h.2 (by simpa using hk)
  rwa [show i0 + 1 + j = i0 + (j + 1) by omega] at this
theorem slotc_self {a : Act} {d : Nat} {v : Value} (h : d < a.tmps.size) : slot (a.put (some d) v) d = v := by simp [slot, Act.put, h]
theorem WX {a : Act} {d k : Nat} {v : Value} (h : k ≠ d) : slot (a.put (some d) v) k = slot a k := by
 simp only [slot, Act.put, Array.getD_eq_getD_getElem?]
 rw [Array.getElem?_setIfInBounds_ne (Ne.symm h)]
structure U7 (ops : Array Oper) (D : List (Option Nat)) (kl : List CK) (cv : Nat -> Value) (a : Act) (i : Nat) (b : Act) : Prop where
 old : ∀ s, some s ∉ D -> slot b s = slot a s
 rd : ∀ k v mx d, (qE ops i).contains k = true -> kl[k]? = some (.rd v mx) -> D[k]? = some (some d) -> slot b d = v
 st : ∀ k j d, (qE ops i).contains k = true -> kl[k]? = some (.st j) -> D[k]? = some (some d) -> slot b d = cv j
theorem U7.er {ops : Array Oper} {D : List (Option Nat)} {kl : List CK} {cv : Nat -> Value} {a : Act} {i : Nat} {b : Act} (h : U7 ops D kl cv a i b) (k d : Nat) {v : Value} {mx : Nat} (c : (qE ops i).contains k = true) (hk : kl[k]? = some (.rd v mx)) (hd : D[k]? = some (some d)) : b.eval (.tmp d) = v := h.rd k v mx d c hk hd
theorem U7.eo {ops : Array Oper} {D : List (Option Nat)} {kl : List CK} {cv : Nat -> Value} {a : Act} {i : Nat} {b : Act} (h : U7 ops D kl cv a i b) {k : Nat} {v : Value} (hd : some k ∉ D) (hv : slot a k = v) : b.eval (.tmp k) = v := (h.old k hd).trans hv
def qaS (P : Program) (ops : Array Oper) (D : List (Option Nat)) (ch : List Nat) (kl : List CK) (cv : Nat -> Value) (St : Nat -> World -> Prop) (a : Act) (i : Nat) : CK -> Prop
 | .rd v mx => (∃ d, D[i]? = some (some d)) /\ (mx = ch.length ∨ ∃ i', ch[mx]? = some i' /\ (qE ops i').contains i = true) /\ ∀ b p s, s <= mx -> St s p -> U7 ops D kl cv a i b -> ∃ o, ops[i]? = some o /\ o.guard = none /\ (execOp b.eval o).run P p = .ok (.value v) p
 | .st j => ch[j]? = some i /\ (j = 0 ∨ ∃ i', ch[j - 1]? = some i' /\ (qE ops i).contains i' = true) /\ ∀ b p, St j p -> U7 ops D kl cv a i b -> opV P ops i b p fun v p' => St (j + 1) p' /\ (D[i]? = some none ∨ v = cv j)
structure qit (ops : Array Oper) (D : List (Option Nat)) (ch : List Nat) (kl : List CK) (cv : Nat -> Value) (St : Nat -> World -> Prop) (a : Act) (dn : Nat -> Bool) (b : Act) (p : World) : Prop where
 defers : b.defers = a.defers
 size : b.tmps.size = a.tmps.size
 old : ∀ s, some s ∉ D -> slot b s = slot a s
 rd : ∀ (k : Nat) v mx d, kl[k]? = some (CK.rd v mx) -> dn k = true -> D[k]? = some (some d) -> slot b d = v
 out : ∃ s, s <= ch.length /\ (∀ (j i : Nat), ch[j]? = some i -> (dn i = true ↔ j < s)) /\ St s p
 cl : ∀ i k, dn i = true -> (qE ops i).contains k = true -> dn k = true
 st : ∀ (k j : Nat) d, kl[k]? = some (CK.st j) -> dn k = true -> D[k]? = some (some d) -> slot b d = cv j
def ZI : List (Option Nat) -> Bool
 | [] => true
 | none :: l => ZI l
 | some d :: l => !l.contains (some d) && ZI l
theorem JG : ∀ (l : List (Option Nat)) (i j d : Nat), ZI l = true -> l[i]? = some (some d) -> l[j]? = some (some d) -> i = j
 | [], i, j, d, _, h, _ => by simp at h
 | x :: l, i, j, d, hn, hi, hj => by
  have ht : ZI l = true := by
   cases x with
   | none => exact hn
   | some e => simp only [ZI, Bool.and_eq_true] at hn; exact hn.2
  have hx : ∀ k, x = some d -> l[k]? = some (some d) -> False := fun k he hk => by
   subst he
   simp only [ZI, Bool.and_eq_true, Bool.not_eq_true', List.contains_eq_mem, decide_eq_false_iff_not] at hn
   exact hn.1 (List.mem_of_getElem? hk)
  cases i with
  | zero =>
   cases j with
   | zero => rfl
   | succ j => exact (hx j (by simpa using hi) Y74).elim
  | succ i =>
   cases j with
   | zero => exact (hx i Y74 (by simpa using hi)).elim
   | succ j => rw [JG l i j d ht (by simpa using hi) Y74]
theorem getc_lt {α : Type} {l : List α} {i : Nat} {x : α} (h : l[i]? = some x) : i < l.length := (List.getElem?_eq_some_iff.1 h).1
theorem uQ {P : Program} {ops : List Oper} {Q : Exit -> Act -> World -> Prop} {id : Nat} {a : Act} {w : World} (hm : P.follows .mixedOrders = true)
  (hlt : ((List.range ops.toArray.size).all fun i => (qE ops.toArray i).all fun k => decide (k < i)) = true)
  (D : List (Option Nat)) (ch : List Nat) (kl : List CK) (cv : Nat -> Value) (St : Nat -> World -> Prop)
  (hD : (List.range ops.toArray.size).map (qJ ops.toArray) = D) (hnd : ZI D = true) (hDs : D.all (fun d => match d with | some d => decide (d < a.tmps.size) | none => true) = true)
  (hkl : kl.length = ops.toArray.size) (hch : ch.all (fun i => CK.isSt kl[i]?) = true) (hcn : ch.Nodup)
  (h0 : ∀ w1, Fr [] w w1 -> St 0 w1)
  (hk : qar (qaS P ops.toArray D ch kl cv St a) 0 kl)
  (hQ : ∀ (b : Act) (p : World), b.defers = a.defers -> b.tmps.size = a.tmps.size -> (∀ s, some s ∉ D -> slot b s = slot a s) -> St ch.length p -> (∀ (k : Nat) v mx d, kl[k]? = some (CK.rd v mx) -> D[k]? = some (some d) -> slot b d = v) -> Q .normal b p) :
  (Code.region id ops.toArray true).wp P Q a w := by
 have hDl : D.length = ops.toArray.size := by have := congrArg List.length hD; simpa using this.symm
 have hdst : ∀ i, i < ops.toArray.size -> D[i]? = some (qJ ops.toArray i) := by
  exact Y42
 have hst : ∀ (j i : Nat), ch[j]? = some i -> ∃ j', kl[i]? = some (CK.st j') := by
  intro j i hj
  have h := List.all_eq_true.1 hch i (List.mem_of_getElem? hj)
  cases hx : kl[i]? with
  | none => simp [hx, CK.isSt] at h
  | some k =>
   cases k with
   | rd v mx => simp [hx, CK.isSt] at h
   | st j' => exact ⟨_, rfl⟩
 have hkind : ∀ (i : Nat) k, kl[i]? = some k -> qaS P ops.toArray D ch kl cv St a i k := fun i k hi => by
  have := U0 kl 0 i k hk hi
  rwa [Nat.zero_add] at this
 have hslot : ∀ i d, D[i]? = some (some d) -> d < a.tmps.size := fun i d h => by
  have := List.all_eq_true.1 hDs (some d) (List.mem_of_getElem? h)
  exact of_decide_eq_true this
 refine vX (qit ops.toArray D ch kl cv St a) hm hlt ?_ ?_ ?_
 ·intro w1 hw1
  exact ⟨rfl, rfl, fun _ _ => rfl, (fun _ _ _ _ _ h => by cases h), ⟨0, Nat.zero_le _, fun j i _ => ⟨fun h => by (cases h), fun h => by omega⟩, h0 w1 hw1⟩, (fun _ _ h => by cases h), (fun _ _ _ _ h => by cases h)⟩
 ·intro i hi dn b p hdn haft ⟨h1, h2, h3, h4, ⟨s, hsl, hiff, hS⟩, hcl, h5⟩
  have hcl2 : ∀ x k, ur dn i x = true -> (qE ops.toArray x).contains k = true -> ur dn i k = true := fun x k hx hk => by
   by_cases hki : k = i
   ·subst hki; exact also_self dn k
   ·rw [also_ne dn hki]
    by_cases hxi : x = i
    ·subst hxi; exact haft k hk
    ·rw [also_ne dn hxi] at hx; exact hcl x k hx hk
  obtain ⟨k, hki⟩ : ∃ k, kl[i]? = some k := ⟨_, List.getElem?_eq_getElem Y54⟩
  have hok := hkind i k hki
  have hsee : U7 ops.toArray D kl cv a i b := ⟨h3, fun k v mx d hc hv hd => h4 k v mx d hv (haft k hc) hd, fun k j d hc hv hd => h5 k j d hv (haft k hc) hd⟩
  have hDi := hdst i hi
  have hsz2 : ∀ v, (b.put (qJ ops.toArray i) v).tmps.size = a.tmps.size := fun v => by
   cases qJ ops.toArray i <;> simp [Act.put, h2]
  have hdf : ∀ v, (b.put (qJ ops.toArray i) v).defers = a.defers := fun v => by
   cases qJ ops.toArray i <;> exact h1
  have hoth : ∀ v s, some s ≠ qJ ops.toArray i -> slot (b.put (qJ ops.toArray i) v) s = slot b s := fun v s hs => by
   cases hd : qJ ops.toArray i with
   | none => rfl
   | some d => exact WX (fun e => hs (by rw [hd, e]))
  have hold : ∀ v s, some s ∉ D -> slot (b.put (qJ ops.toArray i) v) s = slot a s := fun v s hs => by
   rw [hoth v s (fun e => hs (by rw [e]; exact List.mem_of_getElem? hDi))]; exact h3 s hs
  have hneD : ∀ k d, k ≠ i -> D[k]? = some (some d) -> some d ≠ qJ ops.toArray i := fun k d hne hd e => hne (JG D k i d hnd hd (by rw [hDi, e]))
  cases k with
  | rd v mx =>
   obtain ⟨⟨d, hd⟩, c2, c3⟩ := hok
   have hdd : qJ ops.toArray i = some d := by rw [hDi] at hd; exact Option.some.inj hd
   have hsm : s <= mx := by
    rcases c2 with rfl | ⟨i', hi', hc'⟩
    ·exact hsl
    ·rcases Nat.lt_or_ge mx s with h | h
     ·exfalso
      have hdi := (hiff mx i' hi').2 h
      have := hcl i' i hdi hc'
      rw [hdn] at this; cases this
     ·exact h
   obtain ⟨o, ho1, ho2, ho3⟩ := c3 b p s hsm hS hsee
   refine qfH (v := v) (p := p) o ho1 ho2 ho3 ⟨hdf v, hsz2 v, hold v, ?_, ⟨s, hsl, ?_, hS⟩, hcl2, ?_⟩
   ·intro k v' mx' d' hk' hdk hd'
    by_cases hki' : k = i
    ·exact Y22
    ·rw [hoth v d' (hneD k d' hki' hd')]
     exact h4 k v' mx' d' hk' Y68 hd'
   ·intro j k hj
    have hne : k ≠ i := by
     rintro rfl
     obtain ⟨_, hq⟩ := hst j _ hj
     rw [hki] at hq; cases hq
    rw [also_ne dn hne]; exact hiff j k hj
   ·exact Y34
  | st j =>
   obtain ⟨c1, c2, c3⟩ := hok
   have hsj : s = j := by
    have h0 : ¬ j < s := fun h => by
     have := (hiff j i c1).2 h
     rw [hdn] at this; cases this
    rcases c2 with rfl | ⟨i', hi', hc'⟩
    ·omega
    ·have := (hiff _ i' hi').1 (haft i' hc')
     omega
   subst hsj
   refine jZ (fun v p' hv => ?_) (c3 b p hS hsee)
   obtain ⟨hS', hvv⟩ := hv
   refine ⟨hdf v, hsz2 v, hold v, ?_, ⟨s + 1, getc_lt c1, ?_, hS'⟩, hcl2, ?_⟩
   ·intro k v' mx' d' hk' hdk hd'
    have hne : k ≠ i := by rintro rfl; rw [hki] at hk'; cases hk'
    rw [hoth v d' (hneD k d' hne hd')]
    exact h4 k v' mx' d' hk' Y63 hd'
   ·intro j2 k hj
    by_cases hki' : k = i
    ·exact Y25
    ·exact Y26
   ·intro k j d' hk' hdk hd'
    by_cases hki' : k = i
    ·subst hki'
     rw [hki] at hk'; cases hk'
     have hdd : qJ ops.toArray k = some d' := by rw [hDi] at hd'; exact Option.some.inj hd'
     rw [hdd]
     rw [slotc_self (by rw [h2]; exact hslot _ _ hd')]
     rcases hvv with h | h
     ·rw [hd'] at h; cases h
     ·exact h
    ·rw [hoth v d' (hneD k d' hki' hd')]
     exact h5 k j d' hk' Y68 hd'
 ·intro dn b p hall ⟨h1, h2, h3, h4, ⟨s, hsl, hiff, hS⟩, hcl, h5⟩
  have hs : s = ch.length := by
   rcases Nat.lt_or_ge s ch.length with h | h
   ·exfalso
    have hj := List.getElem?_eq_getElem h
    obtain ⟨_, hq⟩ := hst s _ hj
    have := (hiff s _ hj).1 (hall _ (by have := getc_lt hq; omega))
    omega
   ·omega
  subst hs
  exact hQ b p h1 h2 h3 hS fun k v mx d hv hd => h4 k v mx d hv (hall k (by have := getc_lt hv; omega)) hd
end Go.Bl
namespace Go.Bl
open Go.RowKit
inductive GK where
 | rd (v : Value) (mx : Nat)
 | st (j : Nat)
 | gh (j : Nat)
 | mv (j : Nat)
def GK.isSt : Option GK -> Bool
 | some (.st _) => true
 | some (.gh _) => true
 | _ => false
def K7 (f : Nat -> GK -> Prop) : Nat -> List GK -> Prop
 | _, [] => True
 | i, k :: l => f i k /\ K7 f (i + 1) l
theorem Ve {f : Nat -> GK -> Prop} : ∀ (l : List GK) (i0 j : Nat) (k : GK), K7 f i0 l -> l[j]? = some k -> f (i0 + j) k
 | [], _, _, _, _, h => by simp at h
 | x :: l, i0, 0, k, h, hk => by simp at hk; subst hk; exact h.1
 | x :: l, i0, j + 1, k, h, hk => by
  have := Ve l (i0 + 1) j k h.2 (by simpa using hk)
  rwa [show i0 + 1 + j = i0 + (j + 1) by omega] at this
def upd (g : Nat -> Value) (j : Nat) (v : Value) : Nat -> Value := fun k => if k = j then v else g k
theorem qdP (g : Nat -> Value) (j : Nat) (v : Value) : upd g j v j = v := by simp [upd]
theorem qeb (g : Nat -> Value) {j k : Nat} (v : Value) (h : k ≠ j) : upd g j v k = g k := by simp [upd, h]
theorem qfN {P : Program} {ops : Array Oper} {K : Value -> World -> Prop} {i : Nat} {a : Act} {u : World} (o : Oper) (ho : ops[i]? = some o) (hg : Region.wanted o (yielded ops a.tmps) = false) (h : K undef u) : opV P ops i a u K := by
 unfold opV
 simp only [ho, hg]
 exact h
theorem Wa {P : Program} {ops : Array Oper} {K : Value -> World -> Prop} {i : Nat} {a : Act} {u p : World} {v : Value} (o : Oper) (ho : ops[i]? = some o) (hg : Region.wanted o (yielded ops a.tmps) = true) (hr : (execOp a.eval o).run P u = .ok (.value v) p) (h : K v p) : opV P ops i a u K := by
 unfold opV
 simp only [ho, hg, if_true, hr]
 exact h
theorem zp {o : Oper} {y : Nat -> Option Bool} (hg : o.guard = none) : Region.wanted o y = true := by simp [Region.wanted, hg]
theorem yE {P : Program} {ops : Array Oper} {i : Nat} {b : Act} {p : World} {K : Value -> World -> Prop} (o : Oper) (ho : ops[i]? = some o) (hg : Region.wanted o (yielded ops b.tmps) = true) (f : FuncId) (ags : Array Operand) (ts : Array TypeId)
  (hop : o.op = .call { callee := .value (.func f), args := ags, argTypes := ts }) (vs : Array Value) (hv : ags.map b.eval = vs) (hc : (callFunc f vs).run P p = .ok (.enter f vs) p) (H : Calls P f vs p fun e w' => ∃ v, e = .returned v /\ K v w') : opV P ops i b p K := by
 have hf : b.eval (.func f) = .func (.func f) #[] #[] := rfl
 unfold opV
 simp only [ho, hg, if_true]
 obtain ⟨ρ, hρ⟩ := exq (b.eval)
 rw [hρ] at hv hf ⊢
 have hr : (execOp ρ o).run P p = .ok (.enter f vs) p := by
  unfold execOp
  simp [hop, resolve, invoke, go_sem, hf, hv, hc]
 rw [hr]
 refine H.mono ?_
 rintro e p' ⟨v, rfl, hk⟩
 exact hk
def yy (ops : Array Oper) : Nat -> Nat -> Nat -> Bool
 | 0, _, _ => false
 | n + 1, i, k => (qE ops i).any fun m => m == k || yy ops n m k
theorem uK {ops : Array Oper} {dn : Nat -> Bool} (hcl : ∀ x k, dn x = true -> (qE ops x).contains k = true -> dn k = true) : ∀ (n i k : Nat), (∀ m, (qE ops i).contains m = true -> dn m = true) -> yy ops n i k = true -> dn k = true
 | 0, _, _, _, h => by simp [yy] at h
 | n + 1, i, k, h1, h2 => by
  obtain ⟨m, hm, h3⟩ := List.any_eq_true.1 h2
  have hm' : dn m = true := h1 m (by simpa using hm)
  simp only [Bool.or_eq_true, beq_iff_eq] at h3
  rcases h3 with rfl | h3
  ·exact hm'
  ·exact uK hcl n m k (fun x hx => hcl m x hm' hx) h3
structure Jk (ops : Array Oper) (D : List (Option Nat)) (kl : List GK) (cv g : Nat -> Value) (a : Act) (i : Nat) (b : Act) : Prop where
 size : b.tmps.size = a.tmps.size
 old : ∀ s, some s ∉ D -> slot b s = slot a s
 rd : ∀ k v mx d, (qE ops i).contains k = true -> kl[k]? = some (.rd v mx) -> D[k]? = some (some d) -> slot b d = v
 st : ∀ k j d, (qE ops i).contains k = true -> kl[k]? = some (.st j) -> D[k]? = some (some d) -> slot b d = cv j
 gh : ∀ k j d, (qE ops i).contains k = true -> kl[k]? = some (.gh j) -> D[k]? = some (some d) -> slot b d = g j
 mv : ∀ k j d, (qE ops i).contains k = true -> kl[k]? = some (.mv j) -> D[k]? = some (some d) -> slot b d = g j
 un : ∀ m d, yy ops 6 m i = true -> D[m]? = some (some d) -> slot b d = slot a d
theorem Jk.er {ops : Array Oper} {D : List (Option Nat)} {kl : List GK} {cv g : Nat -> Value} {a : Act} {i : Nat} {b : Act} (h : Jk ops D kl cv g a i b) (k d : Nat) {v : Value} {mx : Nat} (c : (qE ops i).contains k = true) (hk : kl[k]? = some (.rd v mx)) (hd : D[k]? = some (some d)) : b.eval (.tmp d) = v := h.rd k v mx d c hk hd
theorem Jk.eo {ops : Array Oper} {D : List (Option Nat)} {kl : List GK} {cv g : Nat -> Value} {a : Act} {i : Nat} {b : Act} (h : Jk ops D kl cv g a i b) {k : Nat} {v : Value} (hd : some k ∉ D) (hv : slot a k = v) : b.eval (.tmp k) = v := (h.old k hd).trans hv
theorem gw0 {P : Program} {ops : Array Oper} {i : Nat} {b : Act} {p : World} {v : Value} {o : Oper} (ho : ops[i]? = some o) (hg : o.guard = none) (hr : (execOp b.eval o).run P p = .ok (.value v) p) : ∃ o, ops[i]? = some o /\ ((Region.wanted o (yielded ops b.tmps) = true /\ (execOp b.eval o).run P p = .ok (.value v) p) ∨ (Region.wanted o (yielded ops b.tmps) = false /\ v = undef)) := ⟨o, ho, .inl ⟨zp hg, hr⟩⟩
def qaz (P : Program) (ops : Array Oper) (D : List (Option Nat)) (ch : List Nat) (kl : List GK) (cv : Nat -> Value) (St : Nat -> (Nat -> Value) -> World -> Prop) (a : Act) (i : Nat) : GK -> Prop
 | .rd v mx => (∃ d, D[i]? = some (some d)) /\ (mx = ch.length ∨ ∃ i', ch[mx]? = some i' /\ yy ops 6 i' i = true) /\ ∀ b p s g, s <= mx -> (∀ j i', ch[j]? = some i' -> (qE ops i).contains i' = true -> j < s) -> St s g p -> Jk ops D kl cv g a i b -> ∃ o, ops[i]? = some o /\ ((Region.wanted o (yielded ops b.tmps) = true /\ (execOp b.eval o).run P p = .ok (.value v) p) ∨ (Region.wanted o (yielded ops b.tmps) = false /\ v = undef))
 | .st j => ch[j]? = some i /\ (j = 0 ∨ ∃ i', ch[j - 1]? = some i' /\ yy ops 6 i i' = true) /\ ∀ b p g, St j g p -> Jk ops D kl cv g a i b -> opV P ops i b p fun v p' => St (j + 1) g p' /\ (D[i]? = some none ∨ v = cv j)
 | .gh j => ch[j]? = some i /\ (j = 0 ∨ ∃ i', ch[j - 1]? = some i' /\ yy ops 6 i i' = true) /\ ∀ b p g, St j g p -> Jk ops D kl cv g a i b -> opV P ops i b p fun v p' => St (j + 1) (upd g j v) p'
 | .mv j => (∃ d, D[i]? = some (some d)) /\ (∃ i', ch[j]? = some i' /\ yy ops 6 i i' = true) /\ ∀ b p s g, (∀ j i', ch[j]? = some i' -> (qE ops i).contains i' = true -> j < s) -> St s g p -> Jk ops D kl cv g a i b -> ∃ o, ops[i]? = some o /\ Region.wanted o (yielded ops b.tmps) = true /\ (execOp b.eval o).run P p = .ok (.value (g j)) p
structure qhO (ops : Array Oper) (D : List (Option Nat)) (ch : List Nat) (kl : List GK) (cv : Nat -> Value) (St : Nat -> (Nat -> Value) -> World -> Prop) (a : Act) (dn : Nat -> Bool) (b : Act) (p : World) : Prop where
 defers : b.defers = a.defers
 size : b.tmps.size = a.tmps.size
 old : ∀ s, some s ∉ D -> slot b s = slot a s
 rd : ∀ (k : Nat) v mx d, kl[k]? = some (GK.rd v mx) -> dn k = true -> D[k]? = some (some d) -> slot b d = v
 out : ∃ s g, s <= ch.length /\ (∀ (j i : Nat), ch[j]? = some i -> (dn i = true ↔ j < s)) /\ St s g p /\ (∀ (k j : Nat) d, kl[k]? = some (GK.gh j) -> dn k = true -> D[k]? = some (some d) -> slot b d = g j) /\ (∀ (k j : Nat), kl[k]? = some (GK.mv j) -> dn k = true -> j < s) /\ ∀ (k j : Nat) d, kl[k]? = some (GK.mv j) -> dn k = true -> D[k]? = some (some d) -> slot b d = g j
 cl : ∀ i k, dn i = true -> (qE ops i).contains k = true -> dn k = true
 st : ∀ (k j : Nat) d, kl[k]? = some (GK.st j) -> dn k = true -> D[k]? = some (some d) -> slot b d = cv j
 un : ∀ (m : Nat) d, D[m]? = some (some d) -> dn m = false -> slot b d = slot a d
theorem uL {P : Program} {ops : List Oper} {Q : Exit -> Act -> World -> Prop} {id : Nat} {a : Act} {w : World} (hm : P.follows .mixedOrders = true)
  (hlt : ((List.range ops.toArray.size).all fun i => (qE ops.toArray i).all fun k => decide (k < i)) = true)
  (D : List (Option Nat)) (ch : List Nat) (kl : List GK) (cv : Nat -> Value) (St : Nat -> (Nat -> Value) -> World -> Prop)
  (hD : (List.range ops.toArray.size).map (qJ ops.toArray) = D) (hnd : ZI D = true) (hDs : D.all (fun d => match d with | some d => decide (d < a.tmps.size) | none => true) = true)
  (hkl : kl.length = ops.toArray.size) (hch : ch.all (fun i => GK.isSt kl[i]?) = true) (hcn : ch.Nodup)
  (h0 : ∀ w1, Fr [] w w1 -> ∃ g, St 0 g w1)
  (hk : K7 (qaz P ops.toArray D ch kl cv St a) 0 kl)
  (hQ : ∀ (b : Act) (p : World), b.defers = a.defers -> b.tmps.size = a.tmps.size -> (∀ s, some s ∉ D -> slot b s = slot a s) -> (∃ g, St ch.length g p /\ ∀ (k j : Nat) d, (kl[k]? = some (GK.gh j) ∨ kl[k]? = some (GK.mv j)) -> D[k]? = some (some d) -> slot b d = g j) -> (∀ (k : Nat) v mx d, kl[k]? = some (GK.rd v mx) -> D[k]? = some (some d) -> slot b d = v) -> Q .normal b p) :
  (Code.region id ops.toArray true).wp P Q a w := by
 have hDl : D.length = ops.toArray.size := by have := congrArg List.length hD; simpa using this.symm
 have hdst : ∀ i, i < ops.toArray.size -> D[i]? = some (qJ ops.toArray i) := by
  exact Y42
 have hst : ∀ (j i : Nat), ch[j]? = some i -> ∃ j', kl[i]? = some (GK.st j') ∨ kl[i]? = some (GK.gh j') := by
  intro j i hj
  have h := List.all_eq_true.1 hch i (List.mem_of_getElem? hj)
  cases hx : kl[i]? with
  | none => simp [hx, GK.isSt] at h
  | some k =>
   cases k with
   | rd v mx => simp [hx, GK.isSt] at h
   | mv j' => simp [hx, GK.isSt] at h
   | st j' => exact ⟨_, .inl rfl⟩
   | gh j' => exact ⟨_, .inr rfl⟩
 have hkind : ∀ (i : Nat) k, kl[i]? = some k -> qaz P ops.toArray D ch kl cv St a i k := fun i k hi => by
  have := Ve kl 0 i k hk hi
  rwa [Nat.zero_add] at this
 have hslot : ∀ i d, D[i]? = some (some d) -> d < a.tmps.size := fun i d h => by
  have := List.all_eq_true.1 hDs (some d) (List.mem_of_getElem? h)
  exact of_decide_eq_true this
 refine vX (qhO ops.toArray D ch kl cv St a) hm hlt ?_ ?_ ?_
 ·intro w1 hw1
  obtain ⟨g, hg⟩ := h0 w1 hw1
  exact ⟨rfl, rfl, fun _ _ => rfl, (fun _ _ _ _ _ h => by cases h), ⟨0, g, Nat.zero_le _, fun j i _ => ⟨fun h => by (cases h), fun h => by omega⟩, hg, (fun _ _ _ _ h => by cases h), (fun _ _ _ h => by cases h), fun _ _ _ _ h => by cases h⟩, (fun _ _ h => by cases h), (fun _ _ _ _ h => by cases h), fun _ _ _ _ => rfl⟩
 ·intro i hi dn b p hdn haft ⟨h1, h2, h3, h4, ⟨s, g, hsl, hiff, hS, h6, h7, h8⟩, hcl, h5, hun⟩
  have hcl2 : ∀ x k, ur dn i x = true -> (qE ops.toArray x).contains k = true -> ur dn i k = true := fun x k hx hk => by
   by_cases hki : k = i
   ·subst hki; exact also_self dn k
   ·rw [also_ne dn hki]
    by_cases hxi : x = i
    ·subst hxi; exact haft k hk
    ·rw [also_ne dn hxi] at hx; exact hcl x k hx hk
  obtain ⟨k, hki⟩ : ∃ k, kl[i]? = some k := ⟨_, List.getElem?_eq_getElem Y54⟩
  have hok := hkind i k hki
  have hsee : Jk ops.toArray D kl cv g a i b := ⟨h2, h3, fun k v mx d hc hv hd => h4 k v mx d hv (haft k hc) hd, fun k j d hc hv hd => h5 k j d hv (haft k hc) hd, fun k j d hc hv hd => h6 k j d hv (haft k hc) hd, fun k j d hc hv hd => h8 k j d hv (haft k hc) hd, fun m d hr hd => hun m d hd (by
   cases hm : dn m with
   | false => rfl
   | true => rw [<- hdn]; exact (uK hcl 6 m i (fun x hx => hcl m x hm hx) hr).symm)⟩
  have hDi := hdst i hi
  have hsz2 : ∀ v, (b.put (qJ ops.toArray i) v).tmps.size = a.tmps.size := fun v => by
   cases qJ ops.toArray i <;> simp [Act.put, h2]
  have hdf : ∀ v, (b.put (qJ ops.toArray i) v).defers = a.defers := fun v => by
   cases qJ ops.toArray i <;> exact h1
  have hoth : ∀ v s, some s ≠ qJ ops.toArray i -> slot (b.put (qJ ops.toArray i) v) s = slot b s := fun v s hs => by
   cases hd : qJ ops.toArray i with
   | none => rfl
   | some d => exact WX (fun e => hs (by rw [hd, e]))
  have hold : ∀ v s, some s ∉ D -> slot (b.put (qJ ops.toArray i) v) s = slot a s := fun v s hs => by
   rw [hoth v s (fun e => hs (by rw [e]; exact List.mem_of_getElem? hDi))]; exact h3 s hs
  have hneD : ∀ k d, k ≠ i -> D[k]? = some (some d) -> some d ≠ qJ ops.toArray i := fun k d hne hd e => hne (JG D k i d hnd hd (by rw [hDi, e]))
  have hun2 : ∀ v (m : Nat) d, D[m]? = some (some d) -> ur dn i m = false -> slot (b.put (qJ ops.toArray i) v) d = slot a d := fun v m d hd hm => by
   have hne : m ≠ i := by rintro rfl; rw [also_self] at hm; cases hm
   rw [also_ne dn hne] at hm
   rw [hoth v d (hneD m d hne hd)]
   exact hun m d hd hm
  have hrd' : ∀ v, (∀ v' mx', kl[i]? ≠ some (GK.rd v' mx')) -> ∀ (k : Nat) v' mx' d', kl[k]? = some (GK.rd v' mx') -> ur dn i k = true -> D[k]? = some (some d') -> slot (b.put (qJ ops.toArray i) v) d' = v' := fun v hn k v' mx' d' hk' hdk hd' => by
   have hne : k ≠ i := by rintro rfl; exact hn _ _ hk'
   rw [hoth v d' (hneD k d' hne hd')]
   exact h4 k v' mx' d' hk' Y63 hd'
  cases k with
  | rd v mx =>
   obtain ⟨⟨d, hd⟩, c2, c3⟩ := hok
   have hdd : qJ ops.toArray i = some d := by rw [hDi] at hd; exact Option.some.inj hd
   have hsm : s <= mx := by
    rcases c2 with rfl | ⟨i', hi', hc'⟩
    ·exact hsl
    ·rcases Nat.lt_or_ge mx s with h | h
     ·exfalso
      have hdi := (hiff mx i' hi').2 h
      have := uK hcl 6 i' i (fun m hm => hcl i' m hdi hm) hc'
      rw [hdn] at this; cases this
     ·exact h
   obtain ⟨o, ho1, ho23⟩ := c3 b p s g hsm (fun j i' hj hc => (hiff j i' hj).1 (haft i' hc)) hS hsee
   have hni : ∀ (k j : Nat), kl[k]? = some (GK.gh j) ∨ kl[k]? = some (GK.st j) -> k ≠ i := by
    rintro k j h rfl
    rw [hki] at h
    rcases h with h | h <;> cases h
   have hnm : ∀ (k j : Nat), kl[k]? = some (GK.mv j) -> k ≠ i := by
    rintro k j h rfl
    rw [hki] at h
    cases h
   suffices hres : qhO ops.toArray D ch kl cv St a (ur dn i) (b.put (qJ ops.toArray i) v) p by
    rcases ho23 with ⟨ho2, ho3⟩ | ⟨ho2, rfl⟩
    ·exact Wa (v := v) (p := p) o ho1 ho2 ho3 hres
    ·exact qfN o ho1 ho2 hres
   refine ⟨hdf v, hsz2 v, hold v, ?_, ⟨s, g, hsl, ?_, hS, ?_, ?_, ?_⟩, hcl2, ?_, hun2 _⟩
   ·intro k v' mx' d' hk' hdk hd'
    by_cases hki' : k = i
    ·exact Y22
    ·rw [hoth v d' (hneD k d' hki' hd')]
     exact h4 k v' mx' d' hk' Y68 hd'
   ·intro j k hj
    have hne : k ≠ i := by
     obtain ⟨_, hq⟩ := hst j _ hj
     exact hni k _ hq.symm
    rw [also_ne dn hne]; exact hiff j k hj
   ·intro k j d' hk' hdk hd'
    have hne := hni k j (.inl hk')
    rw [hoth v d' (hneD k d' hne hd')]
    exact h6 k j d' hk' Y63 hd'
   ·intro k j hk' hdk
    exact h7 k j hk' (by rwa [also_ne dn (hnm k j hk')] at hdk)
   ·intro k j d' hk' hdk hd'
    have hne := hnm k j hk'
    rw [hoth v d' (hneD k d' hne hd')]
    exact h8 k j d' hk' Y63 hd'
   ·intro k j d' hk' hdk hd'
    have hne := hni k j (.inr hk')
    rw [hoth v d' (hneD k d' hne hd')]
    exact h5 k j d' hk' Y63 hd'
  | st j =>
   obtain ⟨c1, c2, c3⟩ := hok
   have hsj : s = j := by
    have h0 : ¬ j < s := fun h => by
     have := (hiff j i c1).2 h
     rw [hdn] at this; cases this
    rcases c2 with rfl | ⟨i', hi', hc'⟩
    ·omega
    ·have := (hiff _ i' hi').1 (uK hcl 6 i i' haft hc')
     omega
   subst hsj
   refine jZ (fun v p' hv => ?_) (c3 b p g hS hsee)
   obtain ⟨hS', hvv⟩ := hv
   refine ⟨hdf v, hsz2 v, hold v, hrd' v (fun v' mx' h => by rw [hki] at h; cases h), ⟨s + 1, g, getc_lt c1, ?_, hS', ?_, ?_, ?_⟩, hcl2, ?_, hun2 _⟩
   ·intro j2 k hj
    by_cases hki' : k = i
    ·exact Y25
    ·exact Y26
   ·intro k j d' hk' hdk hd'
    have hne : k ≠ i := by rintro rfl; rw [hki] at hk'; cases hk'
    rw [hoth v d' (hneD k d' hne hd')]
    exact h6 k j d' hk' Y63 hd'
   ·exact Y50
   ·intro k j d' hk' hdk hd'
    have hne : k ≠ i := by rintro rfl; rw [hki] at hk'; cases hk'
    rw [hoth v d' (hneD k d' hne hd')]
    exact h8 k j d' hk' Y63 hd'
   ·intro k j d' hk' hdk hd'
    by_cases hki' : k = i
    ·subst hki'
     rw [hki] at hk'; cases hk'
     have hdd : qJ ops.toArray k = some d' := by rw [hDi] at hd'; exact Option.some.inj hd'
     rw [hdd]
     rw [slotc_self (by rw [h2]; exact hslot _ _ hd')]
     rcases hvv with h | h
     ·rw [hd'] at h; cases h
     ·exact h
    ·rw [hoth v d' (hneD k d' hki' hd')]
     exact h5 k j d' hk' Y68 hd'
  | gh j =>
   obtain ⟨c1, c2, c3⟩ := hok
   have hsj : s = j := by
    have h0 : ¬ j < s := fun h => by
     have := (hiff j i c1).2 h
     rw [hdn] at this; cases this
    rcases c2 with rfl | ⟨i', hi', hc'⟩
    ·omega
    ·have := (hiff _ i' hi').1 (uK hcl 6 i i' haft hc')
     omega
   subst hsj
   refine jZ (fun v p' hS' => ?_) (c3 b p g hS hsee)
   refine ⟨hdf v, hsz2 v, hold v, hrd' v (fun v' mx' h => by rw [hki] at h; cases h), ⟨s + 1, upd g s v, getc_lt c1, ?_, hS', ?_, ?_, ?_⟩, hcl2, ?_, hun2 _⟩
   ·intro j2 k hj
    by_cases hki' : k = i
    ·exact Y25
    ·exact Y26
   ·intro k j d' hk' hdk hd'
    by_cases hki' : k = i
    ·subst hki'
     rw [hki] at hk'; cases hk'
     have hdd : qJ ops.toArray k = some d' := by rw [hDi] at hd'; exact Option.some.inj hd'
     rw [hdd, slotc_self (by rw [h2]; exact hslot _ _ hd'), qdP]
    ·have hjs : j ≠ s := by
      rintro rfl
      have := (hkind k _ hk').1
      rw [c1] at this
      cases this
      exact hki' rfl
     rw [hoth v d' (hneD k d' hki' hd'), qeb g v hjs]
     exact h6 k j d' hk' Y68 hd'
   ·exact Y50
   ·intro k j d' hk' hdk hd'
    have hne : k ≠ i := by rintro rfl; rw [hki] at hk'; cases hk'
    have hdk' : dn k = true := by rwa [also_ne dn hne] at hdk
    have hlt := h7 k j hk' hdk'
    rw [hoth v d' (hneD k d' hne hd'), qeb g v Y54]
    exact h8 k j d' hk' hdk' hd'
   ·exact Y34
  | mv j =>
   obtain ⟨⟨d, hd⟩, ⟨i', hi', hr'⟩, c3⟩ := hok
   have hdd : qJ ops.toArray i = some d := by rw [hDi] at hd; exact Option.some.inj hd
   have hjs : j < s := (hiff j i' hi').1 (uK hcl 6 i i' haft hr')
   obtain ⟨o, ho1, ho2, ho3⟩ := c3 b p s g (fun j i' hj hc => (hiff j i' hj).1 (haft i' hc)) hS hsee
   have hni : ∀ (k j : Nat), kl[k]? = some (GK.gh j) ∨ kl[k]? = some (GK.st j) -> k ≠ i := by
    rintro k j h rfl
    rw [hki] at h
    rcases h with h | h <;> cases h
   refine Wa (v := g j) (p := p) o ho1 ho2 ho3 ⟨hdf _, hsz2 _, hold _, hrd' _ (fun v' mx' h => by rw [hki] at h; cases h), ⟨s, g, hsl, ?_, hS, ?_, ?_, ?_⟩, hcl2, ?_, hun2 _⟩
   ·intro j2 k hj
    have hne : k ≠ i := by
     obtain ⟨_, hq⟩ := hst j2 _ hj
     exact hni k _ hq.symm
    rw [also_ne dn hne]; exact hiff j2 k hj
   ·intro k j2 d' hk' hdk hd'
    have hne := hni k j2 (.inl hk')
    rw [hoth _ d' (hneD k d' hne hd')]
    exact h6 k j2 d' hk' Y63 hd'
   ·intro k j2 hk' hdk
    by_cases hki' : k = i
    ·subst hki'
     rw [hki] at hk'; cases hk'
     exact hjs
    ·exact h7 k j2 hk' Y68
   ·intro k j2 d' hk' hdk hd'
    by_cases hki' : k = i
    ·exact Y22
    ·rw [hoth _ d' (hneD k d' hki' hd')]
     exact h8 k j2 d' hk' Y68 hd'
   ·intro k j2 d' hk' hdk hd'
    have hne := hni k j2 (.inr hk')
    rw [hoth _ d' (hneD k d' hne hd')]
    exact h5 k j2 d' hk' Y63 hd'
 ·intro dn b p hall ⟨h1, h2, h3, h4, ⟨s, g, hsl, hiff, hS, h6, h7, h8⟩, hcl, h5, hun⟩
  have hs : s = ch.length := by
   rcases Nat.lt_or_ge s ch.length with h | h
   ·exfalso
    have hj := List.getElem?_eq_getElem h
    obtain ⟨_, hq⟩ := hst s _ hj
    have hlt : ch[s] < kl.length := by rcases hq with hq | hq <;> exact getc_lt hq
    have := (hiff s _ hj).1 (hall _ Y54)
    omega
   ·omega
  subst hs
  exact hQ b p h1 h2 h3 ⟨g, hS, fun k j d hv hd => by
   rcases hv with hv | hv
   ·exact h6 k j d hv (hall k (by have := getc_lt hv; omega)) hd
   ·exact h8 k j d hv (hall k (by have := getc_lt hv; omega)) hd⟩ fun k v mx d hv hd => h4 k v mx d hv (hall k (by have := getc_lt hv; omega)) hd
end Go.Bl
namespace Go.Bl
open Go.RowKit
def qh3 (w : World) (v v' : Value) : Prop := v'.ownBlock = v.ownBlock ∨ ∀ g, v'.ownBlock = some g -> w.heap.size <= g
def Pc (v : Value) (w : World) (u : Value) (ys : List UInt8) : Prop := Bs (fun b => v.ownBlock = some b) w u ys
theorem Pc.keep {v u : Value} {w w' : World} {ys : List UInt8} (h : Pc v w u ys) (hf : Fr [] w w') : Pc v w' u ys := Bs.keep h hf Y85
theorem Pc.new {e : TypeId} {base : Nat} {v u : Value} {w p : World} {xs ys : List UInt8} (hown : qt e base w v xs) (h : qt e w.heap.size p u ys) : Pc v p u ys :=
 h.bs fun b hb => (hown.lt b hb).2
theorem qt.grown {e : TypeId} {base : Nat} {w0 w w' : World} {v : Value} {xs : List UInt8} (hown : qt e base w v xs) (h : Fr [] w0 w) (hg : w.grownBy w' v.ownBlock) (hb : w0.heap.size <= base) : Fr [] w0 w' := qt.fr hown h hg hb
inductive PK where
 | mv
 | rd (v : Value)
 | pc (ys : List UInt8)
 | ap (j q : Nat) (ys : List UInt8)
 | fin
def dS (L : List Nat) (i : Nat) : Nat := L.getD i 0
def qin (L ch : List Nat) : Nat -> Nat
 | 0 => dS L 0
 | s + 1 => dS L (ch.getD s 0)
theorem Vh {a : Act} {d : Nat} {v : Value} (h : d < a.tmps.size) : slot (a.put (some d) v) d = v := by simp [slot, Act.put, h]
theorem xx {a : Act} {d k : Nat} {v : Value} (h : k ≠ d) : slot (a.put (some d) v) k = slot a k := by
 simp only [slot, Act.put, Array.getD_eq_getD_getElem?]
 rw [Array.getElem?_setIfInBounds_ne (Ne.symm h)]
structure Sees (ops : Array Oper) (L : List Nat) (kl : List PK) (S : List Nat) (a : Act) (w : World) (i : Nat) (b : Act) (p : World) : Prop where
 fr : Fr S w p
 old : ∀ s, s ∉ L -> slot b s = slot a s
 rd : ∀ k v, (qE ops i).contains k = true -> kl[k]? = some (.rd v) -> slot b (dS L k) = v
structure qfQ (e : TypeId) (base : Nat) (L ch : List Nat) (pcs : List (List UInt8)) (kl : List PK) (fi : Nat) (v0 : Value) (xs : List UInt8) (w : World) (dn : Nat -> Bool) (b : Act) (p : World) (s : Nat) (vc : Value) : Prop where
 le : s <= ch.length
 iff : ∀ (j i : Nat), ch[j]? = some i -> (dn i = true ↔ j < s)
 own : qt e base p vc (xs ++ (pcs.take s).flatten)
 mv : qh3 w v0 vc
 z : s = 0 -> vc = v0
 sl : 0 < s -> slot b (qin L ch s) = vc
 d0 : 0 < s -> dn 0 = true
 f0 : dn 0 = true -> slot b (dS L 0) = v0
 fd : dn fi = true -> s = ch.length /\ slot b (dS L fi) = vc
 fn : dn fi = false -> slot b (dS L fi) = v0
 pc : ∀ (i : Nat) ys, kl[i]? = some (PK.pc ys) -> dn i = true -> Pc vc p (slot b (dS L i)) ys
structure AInv (e : TypeId) (base : Nat) (L ch : List Nat) (pcs : List (List UInt8)) (kl : List PK) (fi : Nat) (v0 : Value) (xs : List UInt8) (a : Act) (w : World) (dn : Nat -> Bool) (b : Act) (p : World) : Prop where
 defers : b.defers = a.defers
 size : b.tmps.size = a.tmps.size
 old : ∀ s, s ∉ L -> slot b s = slot a s
 fr : Fr v0.ownBlock.toList w p
 rd : ∀ (i : Nat) v, kl[i]? = some (PK.rd v) -> dn i = true -> slot b (dS L i) = v
 out : ∃ s vc, qfQ e base L ch pcs kl fi v0 xs w dn b p s vc
theorem qcn {α : Type} {l : List α} {i : Nat} {x : α} (h : l[i]? = some x) : i < l.length := (List.getElem?_eq_some_iff.1 h).1
theorem qbL {L ch : List Nat} {s i : Nat} (h : ch[s]? = some i) : qin L ch (s + 1) = dS L i := by
 show dS L (ch.getD s 0) = _
 rw [List.getD_eq_getElem?_getD, h, Option.getD_some]
theorem qfQ.step {e : TypeId} {base : Nat} {L ch : List Nat} {pcs : List (List UInt8)} {kl : List PK} {fi : Nat} {v0 : Value} {xs : List UInt8} {w : World} {dn : Nat -> Bool} {b : Act} {p : World} {s : Nat} {vc : Value}
  (h : qfQ e base L ch pcs kl fi v0 xs w dn b p s vc) {i : Nat} {v : Value} {p' : World} (hne : ∀ k, k < L.length -> k ≠ i -> dS L k ≠ dS L i) (hsz : dS L i < b.tmps.size) (hf : Fr [] p p') (hl : kl.length = L.length) (hfi : fi < L.length)
  (hcl : ∀ (j k : Nat), ch[j]? = some k -> k < L.length /\ k ≠ i) (h0 : i ≠ 0) (hi : i ≠ fi) (hpc : ∀ ys, kl[i]? = some (PK.pc ys) -> Pc vc p' v ys) : qfQ e base L ch pcs kl fi v0 xs w (ur dn i) (b.put (some (dS L i)) v) p' s vc := by
 have h0l : 0 < L.length := by omega
 refine ⟨h.le, fun j k hj => ?_, h.own.keep hf Y85, h.mv, h.z, fun hs => ?_, fun hs => ?_, fun hd => ?_, fun hd => ?_, fun hd => ?_, fun k ys hk hd => ?_⟩
 ·rw [also_ne dn (hcl j k hj).2]; exact h.iff j k hj
 ·rw [xx ?_]
  ·exact h.sl hs
  ·obtain ⟨s', rfl⟩ : ∃ s', s = s' + 1 := ⟨s - 1, by omega⟩
   have hs' := List.getElem?_eq_getElem (show s' < ch.length by have := h.le; omega)
   rw [qbL hs']
   exact hne _ (hcl _ _ hs').1 (hcl _ _ hs').2
 ·rw [also_ne dn (Ne.symm h0)]; exact h.d0 hs
 ·rw [also_ne dn (Ne.symm h0)] at hd
  rw [xx (hne 0 h0l (Ne.symm h0))]; exact h.f0 hd
 ·rw [also_ne dn (Ne.symm hi)] at hd
  rw [xx (hne fi hfi (Ne.symm hi))]; exact h.fd hd
 ·rw [also_ne dn (Ne.symm hi)] at hd
  rw [xx (hne fi hfi (Ne.symm hi))]; exact h.fn hd
 ·by_cases hki : k = i
  ·subst hki
   rw [Vh hsz]; exact hpc ys hk
  ·rw [also_ne dn hki] at hd
   rw [xx (hne k (by have := qcn hk; omega) hki)]
   exact (h.pc k ys hk hd).keep hf
theorem Xl (b : Act) : ∀ (L : List Nat) (a : Act), b.tmps.size = a.tmps.size -> (L.foldl (fun x d => x.put (some d) (slot b d)) a).defers = a.defers /\ (L.foldl (fun x d => x.put (some d) (slot b d)) a).tmps.size = a.tmps.size /\
  ∀ s, slot (L.foldl (fun x d => x.put (some d) (slot b d)) a) s = if s ∈ L then slot b s else slot a s
 | [], a, _ => ⟨rfl, rfl, fun s => by simp⟩
 | d :: L, a, hs => by
  have hs' : (a.put (some d) (slot b d)).tmps.size = a.tmps.size := by simp [Act.put]
  obtain ⟨h1, h2, h3⟩ := Xl b L (a.put (some d) (slot b d)) (by rw [hs']; exact hs)
  refine ⟨h1, h2.trans hs', fun s => ?_⟩
  simp only [List.foldl_cons]
  rw [h3 s]
  by_cases hL : s ∈ L
  ·simp [hL]
  ·rw [if_neg hL]
   by_cases hd : s = d
   ·subst hd
    rw [if_pos Y85]
    by_cases hlt : s < a.tmps.size
    ·exact Vh hlt
    ·have e1 : slot b s = undef := by simp only [slot, Array.getD_eq_getD_getElem?]; rw [Array.getElem?_eq_none Y54]; rfl
     have e2 : slot (a.put (some s) (slot b s)) s = undef := by simp only [slot, Array.getD_eq_getD_getElem?]; rw [Array.getElem?_eq_none (by simp [Act.put]; omega)]; rfl
     rw [e2, e1]
   ·rw [xx hd, if_neg (by simp [hd, hL])]
theorem Jd (b a : Act) (L : List Nat) (hd : b.defers = a.defers) (hs : b.tmps.size = a.tmps.size) (h : ∀ s, s ∉ L -> slot b s = slot a s) : b = L.foldl (fun x d => x.put (some d) (slot b d)) a := by
 obtain ⟨h1, h2, h3⟩ := Xl b L a hs
 generalize hc : L.foldl (fun x d => x.put (some d) (slot b d)) a = c at h1 h2 h3 ⊢
 have hts : b.tmps = c.tmps := by
  refine Array.ext (hs.trans h2.symm) fun i h4 h5 => ?_
  have hi : slot b i = slot c i := by
   rw [h3 i]
   by_cases hL : i ∈ L
   ·rw [if_pos hL]
   ·rw [if_neg hL]; exact h i hL
  simpa [slot, h4, h5] using hi
 cases b
 cases c
 simp only [Act.mk.injEq]
 exact ⟨hts, hd.trans h1.symm⟩
end Go.Bl
namespace Go.Bl
open Go.RowKit
theorem Lp (a : Act) (n : Nat) (hs : a.tmps.size = n) (hd : a.defers = []) : a = ⟨((List.range n).map (slot a)).toArray, []⟩ := by
 obtain ⟨t, d⟩ := a
 simp only at hs hd
 subst hd
 simp only [Act.mk.injEq, and_true]
 refine Array.ext (by simp [hs]) fun i h1 h2 => ?_
 simp [slot, h1]
theorem qdr (b a : Act) (L : List Nat) (hd : b.defers = a.defers) (hs : b.tmps.size = a.tmps.size) (h : ∀ s, s ∉ L -> slot b s = slot a s) : ∃ f : Nat -> Value, b = L.foldl (fun x d => x.put (some d) (f d)) a := ⟨slot b, Jd b a L hd hs h⟩
end Go.Bl
namespace Go.Proofs.YtdloaifdpajcjaaGreatDoor
open Go.RowKit Go.Bl
def uF : Code -> Option Nat
 | .region i _ _ => some i
 | .loop c => uF c
 | .seq a b => match uF a with
  | some i => some i
  | none => uF b
 | .block _ c => uF c
 | .scope c => uF c
 | .cond _ a b => match uF a with
  | some i => some i
  | none => uF b
 | _ => none
def zJ (k : Nat) : Code -> Option Code
 | .loop c => if uF c = some k then some c else zJ k c
 | .seq a b => match zJ k a with
  | some c => some c
  | none => zJ k b
 | .block _ c => zJ k c
 | .scope c => zJ k c
 | .cond _ a b => match zJ k a with
  | some c => some c
  | none => zJ k b
 | _ => none
def kN (v : Value) : Nat := match v with | .int _ i => i.toNat | _ => 0
theorem evx (b : Go.Act) : ∃ ρ, b.eval = ρ /\ ∀ v, ρ (.const v) = v := ⟨_, rfl, fun _ => rfl⟩
end Go.Proofs.YtdloaifdpajcjaaGreatDoor
