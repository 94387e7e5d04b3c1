import Derived.Test.YtnafknkchbfpaaaGreatDoorGA
namespace Go.Bl
set_option linter.unusedVariables false
inductive xy where
 | val
 | mem
 | call
 | tail
 deriving DecidableEq
def qA (ops : Array Oper) (i : Nat) : Option Tmp := (ops[i]?).bind (·.dst)
def qd (a : Act) (t : Nat) : Value := a.tmps.getD t undef
def qdz (ops : Array Oper) (i : Nat) : List Tmp := match ops[i]? with | some o => o.looksAt ops | none => []
def qF (ops : Array Oper) (i : Nat) : List Nat := match ops[i]? with | some o => (o.after.toList.filter (Region.binds .any)).map (·.on) | none => []
def L9 (P : Program) (Kv : Value -> World -> Prop) : Result Next -> Prop
 | .ok (.value v) w' => Kv v w'
 | .ok .skip w' => Kv undef w'
 | .ok (.enter f args) w' => Calls P f args w' fun
   | .returned v, w'' => Kv v w''
   | _, _ => False
 | .ok (.row row args) w' => Rows P row args w' fun v w'' => Kv v w''
 | _ => False
theorem WC {P : Program} {K K' : Value -> World -> Prop} (h : ∀ v w, K v w -> K' v w) : ∀ {r : Result Next}, L9 P K r -> L9 P K' r
 | .ok (.value v) w', hr => h _ _ hr
 | .ok .skip w', hr => h _ _ hr
 | .ok (.enter f args) w', hr => Calls.mono hr fun e w he => by cases e <;> first | exact h _ _ he | exact he
 | .ok (.row row args) w', hr => Rows.mono hr fun v w he => h _ _ he
def opV (P : Program) (ops : Array Oper) (i : Nat) (a : Act) (u : World) (Kv : Value -> World -> Prop) : Prop :=
 match ops[i]? with
 | none => False
 | some o => if Region.wanted o (yielded ops a.tmps) = true then L9 P Kv ((execOp a.eval o).run P u) else Kv undef u
def qdB (P : Program) (ops : Array Oper) (i : Nat) (a : Act) (u : World) : Option (Value × World) :=
  match ops[i]? with
  | none => none
  | some o => if Region.wanted o (yielded ops a.tmps) = true then
      (match (execOp a.eval o).run P u with
       | .ok (.value v) p => some (v, p)
       | .ok .skip p => some (undef, p)
       | _ => none)
    else some (undef, u)
theorem jf {P : Program} {ops : Array Oper} {i : Nat} {a : Act} {u : World} {K K' : Value -> World -> Prop} (h : ∀ v w, K v w -> K' v w)
  (hh : opV P ops i a u K) : opV P ops i a u K' := by
 unfold opV at *
 split
 ·simp_all
 ·rename_i o ho
  simp only [ho] at hh
  split
  ·rename_i hw; simp only [hw, if_true] at hh; exact WC h hh
  ·rename_i hw; simp only [hw] at hh; exact h _ _ hh
theorem VO {P : Program} {ops : Array Oper} {Q : Exit -> Act -> World -> Prop} {i : Nat} {a : Act} {w : World} {K : Act -> World -> Prop} {Kv : Value -> World -> Prop}
  (hh : opV P ops i a w Kv) (hK : ∀ v p, Kv v p -> K (a.put (qA ops i) v) p) : wpOp P ops Q i K a w := by
 unfold opV at hh
 unfold wpOp
 split at hh
 ·exact hh.elim
 ·rename_i o ho
  have hd : qA ops i = o.dst := by simp [qA, ho]
  rw [hd] at hK
  simp only [ho]
  split
  ·rename_i hw
   simp only [hw, if_true] at hh
   refine .inl ?_
   unfold Oper.wp
   generalize (execOp a.eval o).run P w = r at *
   cases r with
   | ok n w' =>
    cases n <;> simp only [Oper.upon, L9] at hh ⊢
    case value v => exact hK _ _ hh
    case skip => exact hK _ _ hh
    case enter f args => exact Calls.mono hh fun e w he => by cases e <;> first | exact hK _ _ he | exact he.elim
    case row row args => exact Rows.mono hh fun v w he => hK _ _ he
   | halt x w' => exact hh.elim
  ·rename_i hw
   simp only [hw] at hh
   exact hK _ _ hh
section
variable {P : Program} {ops : Array Oper} (hns : Region.noSelect ops = true)
include hns
end
theorem qt {a : Act} {d : Tmp} {v : Value} (h : d < a.tmps.size) : qd (a.put (some d) v) d = v := by
 simp [qd, Act.put, h]
theorem jo {a : Act} {d : Option Tmp} {t : Nat} {v : Value} (h : d ≠ some t) : qd (a.put d v) t = qd a t := by
 cases d with
 | none => rfl
 | some d =>
  have hne : d ≠ t := fun e => h (by rw [e])
  simp [qd, Act.put, Array.getElem?_setIfInBounds_ne hne]
theorem XK (a : Act) (d : Option Tmp) (v : Value) : (a.put d v).defers = a.defers := by cases d <;> rfl
section
variable (P : Program) (ops : Array Oper) (Q : Exit -> Act -> World -> Prop) (RF RC : World -> World -> Prop) (w0 : World)
def G (dn : Nat -> Bool) (a : Act) (w : World) : List (xy × Nat) -> Act -> World -> Prop
 | [], ac, wc => ∀ w', RF wc w' -> Q .normal ac w'
 | (.val, i) :: r, ac, wc => ∃ v, (∀ u, RC w0 u -> qdB P ops i ac u = some (v, u)) /\ (dn i = true -> ∀ d, qA ops i = some d -> qd a d = v) /\ G dn a w r (ac.put (qA ops i) v) wc
 | (.mem, i) :: r, ac, wc =>
  (dn i = true -> ∃ v p, (∀ d, qA ops i = some d -> qd a d = v) /\ RC p w /\ ∀ w', RF wc w' -> RC p w' -> G dn a w r (ac.put (qA ops i) v) w') /\
  (dn i = false -> ∀ u, RC w0 u -> ∃ v p, qdB P ops i ac u = some (v, p) /\ RF u p /\ ∀ w', RF wc w' -> RC p w' -> G dn a w r (ac.put (qA ops i) v) w')
 | (.call, i) :: r, ac, wc => dn i = false /\ ∀ u, RF wc u -> opV P ops i ac u fun v p => RC u p /\ G dn a w r (ac.put (qA ops i) v) p
 | (.tail, i) :: r, ac, wc => dn i = false /\ ∀ u, RF wc u -> opV P ops i ac u fun v p => G dn a w r (ac.put (qA ops i) v) p
end
section
variable {P : Program} {ops : Array Oper} {Q : Exit -> Act -> World -> Prop} {RF RC : World -> World -> Prop} {w0 : World}
variable (hF : ∀ x, RF x x) (hFF : ∀ x y z, RF x y -> RF y z -> RF x z) (hC : ∀ x, RC x x) (hCC : ∀ x y z, RC x y -> RC y z -> RC x z) (hFC : ∀ x y, RF x y -> RC x y)
variable (hns : Region.noSelect ops = true)
include hF in
include hF hFF hC hCC hFC hns in
include hC hCC hFC hns in
structure Static (ops : Array Oper) (an : Nat -> Nat -> Bool) (sz : Nat) : Prop where
 lt : ∀ i, i < ops.size -> ∀ k ∈ qF ops i, k < i
 step : ∀ i j, i < ops.size -> an i j = true -> ∃ k ∈ qF ops i, j = k ∨ an k j = true
 apart : ∀ i j d, i < ops.size -> j < ops.size -> i ≠ j -> qA ops j = some d -> qA ops i ≠ some d /\ (d ∈ qdz ops i -> an i j = true ∨ an j i = true)
 bound : ∀ i d, qA ops i = some d -> d < sz
def Ord (ops : Array Oper) (an : Nat -> Nat -> Bool) : List (xy × Nat) -> List Nat -> Prop
 | [], _ => True
 | (k, i) :: r, done => i ∉ done /\ i < ops.size /\ (∀ j ∈ qF ops i, j ∈ done) /\ ((k = .call ∨ k = .tail) -> ∀ j ∈ done, an i j = true) /\ (k = .tail -> ∀ s ∈ r, s.1 = .tail) /\ Ord ops an r (i :: done)
theorem Ord.split {an : Nat -> Nat -> Bool} : ∀ {π1 : List (xy × Nat)} {rest : List (xy × Nat)} {done : List Nat}, Ord ops an (π1 ++ rest) done ->
  Ord ops an rest ((π1.map (·.2)).reverse ++ done)
 | [], _, _, h => by simpa using h
 | (k, i) :: π1, rest, done, h => by
  have := Ord.split (π1 := π1) (rest := rest) (done := i :: done) h.2.2.2.2.2
  simpa using this
theorem Ord.lt {an : Nat -> Nat -> Bool} : ∀ {π : List (xy × Nat)} {done : List Nat}, Ord ops an π done -> ∀ s ∈ π, s.2 < ops.size
 | [], _, _, s, hs => by cases hs
 | (k, i) :: r, done, h, s, hs => by
  rcases List.mem_cons.1 hs with rfl | hs
  ·exact h.2.1
  ·exact Ord.lt h.2.2.2.2.2 s hs
def jm (listed : Array Bool) (i : Nat) : Bool := listed.getD i false
theorem yZ {listed : Array Bool} {i : Nat} (h : i < listed.size) : jm (listed.setIfInBounds i true) i = true := by simp [jm, h]
theorem vx {listed : Array Bool} {i j : Nat} (h : j ≠ i) : jm (listed.setIfInBounds i true) j = jm listed j :=
 getD_set_ne false (Ne.symm h)
theorem Zx {listed : Array Bool} {i : Nat} (hi : jm listed i = false) (hl : i < listed.size) :
  ∀ (π : List (xy × Nat)), ((π.filter fun s => !jm (listed.setIfInBounds i true) s.2).length <= (π.filter fun s => !jm listed s.2).length) /\
   ((∃ s ∈ π, s.2 = i) -> (π.filter fun s => !jm (listed.setIfInBounds i true) s.2).length + 1 <= (π.filter fun s => !jm listed s.2).length)
 | [] => ⟨by simp, fun ⟨s, hs, _⟩ => by cases hs⟩
 | s :: π => by
  obtain ⟨h1, h2⟩ := Zx hi hl π
  by_cases hs : s.2 = i
  ·have e1 : jm (listed.setIfInBounds i true) s.2 = true := by rw [hs]; exact yZ hl
   have e2 : jm listed s.2 = false := by rw [hs]; exact hi
   simp only [List.filter_cons, e1, e2]
   exact ⟨by simp; omega, fun _ => by simp; omega⟩
  ·have e1 := vx (listed := listed) hs
   simp only [List.filter_cons, e1]
   refine ⟨by (split <;> (try simp only [List.length_cons])) <;> omega, fun ⟨s', hm, hs'⟩ => ?_⟩
   rcases List.mem_cons.1 hm with rfl | hm
   ·exact absurd hs' hs
   ·have := h2 ⟨s', hm, hs'⟩
    (split <;> (try simp only [List.length_cons])) <;> omega
theorem Ord.closed {an : Nat -> Nat -> Bool} : ∀ {π1 : List (xy × Nat)} {rest : List (xy × Nat)} {done : List Nat}, Ord ops an (π1 ++ rest) done ->
  (∀ j ∈ done, j < ops.size /\ ∀ k ∈ qF ops j, k ∈ done) -> ∀ j ∈ (π1.map (·.2)).reverse ++ done, j < ops.size /\ ∀ k ∈ qF ops j, k ∈ (π1.map (·.2)).reverse ++ done
 | [], _, _, _, h => by simpa using h
 | (k, i) :: π1, rest, done, hO, h => by
  have h' : ∀ j ∈ i :: done, j < ops.size /\ ∀ k ∈ qF ops j, k ∈ i :: done := by
   intro j hj
   rcases List.mem_cons.1 hj with rfl | hj
   ·exact ⟨hO.2.1, fun k hk => List.mem_cons_of_mem _ (hO.2.2.1 k hk)⟩
   ·exact ⟨(h j hj).1, fun k hk => List.mem_cons_of_mem _ ((h j hj).2 k hk)⟩
  have := Ord.closed (π1 := π1) (rest := rest) hO.2.2.2.2.2 h'
  simpa using this
end
section
variable {P : Program} {ops : Array Oper} {Q : Exit -> Act -> World -> Prop} {RF RC : World -> World -> Prop} {w0 : World}
variable (hF : ∀ x, RF x x) (hFF : ∀ x y z, RF x y -> RF y z -> RF x z) (hC : ∀ x, RC x x) (hCC : ∀ x y z, RC x y -> RC y z -> RC x z) (hFC : ∀ x y, RF x y -> RC x y)
variable (hns : Region.noSelect ops = true)
include hF hFF hC hCC hFC hns in
end
section
variable {P : Program} {ops : Array Oper}
theorem yw {listed : Array Bool} {i : Nat} (hz : listed.size = ops.size) (hi : i < ops.size) : i ∈ Region.ready .any ops listed ↔ (jm listed i = false /\ ∀ k ∈ qF ops i, jm listed k = true) := by
 have hoi : ops[i]? = some (ops[i]) := by simp [hi]
 have hlt : i < listed.size := by omega
 rw [mem_ready]
 constructor
 ·rintro ⟨h1, o, ho, h2⟩
  refine ⟨by simp only [jm, Array.getD, hlt, dif_pos] at h1 ⊢; exact h1, fun k hk => ?_⟩
  simp only [qF, ho, List.mem_map, List.mem_filter] at hk
  obtain ⟨e, ⟨he, hb⟩, rfl⟩ := hk
  exact h2 e (by simpa using he) hb
 ·rintro ⟨h1, h2⟩
  refine ⟨by simp only [jm, Array.getD, hlt, dif_pos] at h1 ⊢; exact h1, _, hoi, fun e he hb => ?_⟩
  refine h2 e.on ?_
  simp only [qF, hoi, List.mem_map, List.mem_filter]
  exact ⟨e, ⟨by simpa using he, hb⟩, rfl⟩
theorem Jv {listed : Array Bool} {i : Nat} (h : i ∈ Region.ready .any ops listed) : i < ops.size := by
 obtain ⟨_, o, ho, _⟩ := mem_ready.1 h
 exact (Array.getElem?_eq_some_iff.1 ho).1
end
end Go.Bl
namespace Go.Bl
open Go.RowKit
theorem qW {P : Program} {ops : Array Oper} {K : Act -> World -> Prop} {i : Nat} {a : Act} {u : World} (o : Oper) (ho : ops[i]? = some o)
  (h : wpList P ops (fun e a' w' => e = .normal /\ a'.defers = a.defers /\ K a' w') [o] a u) : opV P ops i a u fun v p => K (a.put (qA ops i) v) p := by
 have hd : qA ops i = o.dst := by simp [qA, ho]
 rw [hd]
 unfold opV
 simp only [ho]
 unfold wpList at h
 by_cases hw : Region.wanted o (yielded ops a.tmps) = true
 ·rw [if_pos hw] at h ⊢
  rcases h with h | ⟨_, h⟩
  ·unfold Oper.wp at h
   revert h
   generalize (execOp a.eval o).run P u = r
   intro h
   cases r with
   | ok n w' =>
    cases n with
    | value v' => exact h.2.2
    | skip => exact h.2.2
    | enter f args =>
     refine Calls.mono h fun e w'' he => ?_
     cases e with
     | returned v => exact he.2.2
     | panicked c => cases he.1
     | outgrown =>
      obtain ⟨_, _, h⟩ := he
      cases h.1
    | row r args => exact Rows.mono h fun v w'' he => he.2.2
    | defer d =>
     have := h.2.1
     rw [XK] at this
     simp at this
    | _ => exact h.elim
   | halt x w' =>
    cases x with
    | panic v => cases h.1
    | _ => exact h.elim
  ·obtain ⟨_, _, h⟩ := h
   cases h.1
 ·rw [if_neg hw] at h ⊢
  exact h.2.2
theorem Qd {P : Program} {w : World} {ops : Array Oper} {rest : List Oper} {o : Oper} {a : Act} {Q : Exit -> Act -> World -> Prop} {t te : TypeId} {cur : Array Value} {g off : Nat} (p x : Operand) (hgd : o.guard = none)
  (ho : o.op = .store t p x) (c' : Array Value) (hp : a.eval p = .pointer (some ⟨g, off, none⟩)) (hx : a.eval x = .agg c') (hi : (P.info? t).map (·.size) = some c'.size) (hb : At w g (.cells cur te (0, 0))) (hsz : off + c'.size <= cur.size) (h1 : c'.all (·.oneCell') = true)
  (h : ∀ w', Fr [g] w w' -> At w' g (.cells (cur.toList.take off ++ c'.toList ++ cur.toList.drop (off + c'.size)).toArray te (0, 0)) -> w'.heap.size = w.heap.size -> wpList P ops Q rest (a.put o.dst undef) w') : wpList P ops Q (o :: rest) a w := by
 refine wpList_plain hgd fun K hK => ?_
 have hst := run_storeCells_at P g off te c'.toList 0 cur w hb (by simpa using hsz) (by intro v hv; exact (Array.all_eq_true'.1 h1) v (by simpa using hv))
 simp only [Nat.add_zero, Array.length_toList] at hst
 cases hq : P.info? t with
 | none => simp [hq] at hi
 | some i =>
  have hs : i.size = c'.size := by simpa [hq] using hi
  unfold Oper.wp execOp
  simp only [ho, hp, hx, Instr.storeAt, Instr.sureAddr, Sem.run_bind, Sem.run_pure, Result.andThen_ok]
  have : (storeVar t ⟨g, off, none⟩ (.agg c')).run P w = .ok () (w.setRow g (cur.toList.take off ++ c'.toList ++ cur.toList.drop (off + c'.size)).toArray) := by
   simp [storeVar, sizeOf, typeInfo, hq, Value.cells, hs, hst]
  exact Y68
end Go.Bl
namespace Go.Bl
open Go.RowKit
structure RN (N : Nat) (x y : World) : Prop where
 os : y.os = x.os
 tape : y.tape = x.tape
 output : y.output = x.output
 size : x.heap.size <= y.heap.size
 below : ∀ k, k < N -> k < x.heap.size -> y.heap[k]? = x.heap[k]?
 shape : ∀ (k : Nat) (c : Array Value) (t : TypeId), x.heap[k]? = some (.cells c t (0, 0)) -> ∃ c', c'.size = c.size /\ y.heap[k]? = some (.cells c' t (0, 0))
theorem RN.refl (N : Nat) (x : World) : RN N x x := ⟨rfl, rfl, rfl, Nat.le_refl _, fun _ _ _ => rfl, fun _ c _ h => ⟨c, rfl, h⟩⟩
theorem RN.trans {N : Nat} {x y z : World} (h : RN N x y) (k : RN N y z) : RN N x z :=
 ⟨k.os.trans h.os, k.tape.trans h.tape, k.output.trans h.output, Nat.le_trans h.size k.size, fun i hi hx => (k.below i hi (Nat.lt_of_lt_of_le hx h.size)).trans (h.below i hi hx), fun i c t hc => by
  obtain ⟨c1, h1, h2⟩ := h.shape i c t hc
  obtain ⟨c2, h3, h4⟩ := k.shape i c1 t h2
  exact ⟨c2, h3.trans h1, h4⟩⟩
theorem RN.of_fr {N : Nat} {x y : World} (h : Fr [] x y) : RN N x y :=
 ⟨h.os, h.tape, h.output, h.size, fun k _ hk => h.block k hk qg, fun k c t hc => ⟨c, rfl, h.keep hc qg⟩⟩
theorem RN.at {N : Nat} {x y : World} {b : Nat} {o : Obj} (h : RN N x y) (hb : At x b o) (hN : b < N) : At y b o := (h.below b hN hb.lt).trans hb
theorem RN.cell {x y : World} {b i : Nat} {v : Value} (h : RN x.heap.size x y) (hc : x.cell? ⟨b, i, none⟩ = some v) : y.cell? ⟨b, i, none⟩ = some v := by
 unfold World.cell? at hc ⊢
 rcases Nat.lt_or_ge b x.heap.size with hb | hb
 ·rw [h.below b hb hb]; exact hc
 ·rw [Array.getElem?_eq_none hb] at hc; simp at hc
structure qeN (RC : World -> World -> Prop) (w0 : World) where
 w : World
 fr : RC w0 w
instance (N : Nat) (w0 : World) : Nonempty (qeN (RN N) w0) := ⟨⟨w0, RN.refl _ _⟩⟩
end Go.Bl
namespace Go.Bl
open Go.RowKit
theorem RN.fr {x y : World} (h : RN x.heap.size x y) : Fr [] x y := ⟨h.os, h.tape, h.output, h.size, fun k hk _ => h.below k hk hk⟩
def uD (dn : Nat -> Bool) (i : Nat) (k : Nat) : Bool := dn k || decide (k = i)
theorem jH (dn : Nat -> Bool) (i : Nat) : uD dn i i = true := by simp [uD]
theorem qk (dn : Nat -> Bool) {i k : Nat} (h : k ≠ i) : uD dn i k = dn k := by simp [uD, h]
theorem zF {P : Program} {ops : List Oper} {Q : Exit -> Act -> World -> Prop} {id : Nat} {a : Act} {w : World} (I : (Nat -> Bool) -> Act -> World -> Prop) (hm : P.follows .mixedOrders = true)
  (hlt : ((List.range ops.toArray.size).all fun i => (qF ops.toArray i).all fun k => decide (k < i)) = true)
  (h0 : ∀ w1 : World, Fr [] w w1 -> I (fun _ => false) a w1)
  (step : ∀ i, i < ops.toArray.size -> ∀ (dn : Nat -> Bool) (a : Act) (w : World), dn i = false -> (∀ k, (qF ops.toArray i).contains k = true -> dn k = true) -> I dn a w ->
   opV P ops.toArray i a w fun v p => I (uD dn i) (a.put (qA ops.toArray i) v) p)
  (fin : ∀ (dn : Nat -> Bool) (a : Act) (w : World), (∀ i, i < ops.toArray.size -> dn i = true) -> I dn a w -> Q .normal a w) : (Code.region id ops.toArray true).wp P Q a w := by
 obtain ⟨A, hA⟩ := exq (ops.toArray)
 rw [hA] at hlt step fin ⊢
 clear hA
 have lt : ∀ i, i < A.size -> ∀ k ∈ qF A i, k < i := fun i hi k hk => of_decide_eq_true (List.all_eq_true.1 (List.all_eq_true.1 hlt i (List.mem_range.2 hi)) k hk)
 have main : ∀ (fuel : Nat) (listed : Array Bool) (dn : Nat -> Bool) (a : Act) (w : World), listed.size = A.size -> (∀ i, i < A.size -> jm listed i = dn i) ->
   (((List.range A.size).map fun i => (xy.val, i)).filter fun s => !jm listed s.2).length <= fuel -> I dn a w -> wpAny P .any A Q fuel listed a w := by
  intro fuel
  have nil : ∀ (listed : Array Bool), listed.size = A.size -> Region.ready .any A listed = [] -> ∀ i, i < A.size -> jm listed i = true := by
   intro listed hz hr i
   induction i using Nat.strongRecOn with
   | _ i ih =>
    intro hi
    cases hd : jm listed i with
    | true => rfl
    | false =>
     exfalso
     exact Y83
  induction fuel with
  | zero =>
   intro listed dn a w hz hd hc hI
   have hall : ∀ i, i < A.size -> jm listed i = true := by
    intro i hi
    cases hx : jm listed i with
    | true => rfl
    | false =>
     exfalso
     have : (xy.val, i) ∈ ((List.range A.size).map fun i => (xy.val, i)).filter fun s => !jm listed s.2 := by
      rw [List.mem_filter]
      exact ⟨List.mem_map.2 ⟨i, List.mem_range.2 hi, rfl⟩, by simp [hx]⟩
     have := List.length_pos_of_mem this
     omega
   exact Y51
  | succ fuel ih =>
   intro listed dn a w hz hd hc hI
   refine ⟨fun hr => fin dn a w (fun i hi => by rw [<- hd i hi]; exact nil listed hz hr i hi) hI, fun i hi => ?_⟩
   have hl := Jv hi
   obtain ⟨q1, q2⟩ := (yw hz hl).1 hi
   refine VO (step i hl dn a w (by rw [<- hd i hl]; exact q1) (fun k hk => ?_) hI) fun v p hp => ?_
   ·have hk' : k ∈ qF A i := by simpa using hk
    rw [<- hd k (by have := lt i hl k hk'; omega)]
    exact q2 k hk'
   ·refine ih (listed.setIfInBounds i true) (uD dn i) _ p (by simpa using hz) (fun k hk => ?_) ?_ hp
    ·by_cases hki : k = i
     ·subst hki
      rw [yZ Y95, jH]
     ·rw [vx hki, qk dn hki]
      exact hd k hk
    ·exact Y76
 refine wp_region_any hm ?_
 exact Y40
theorem yn {P : Program} {ops : Array Oper} {K : Value -> World -> Prop} {i : Nat} {a : Act} {u p : World} {v : Value} (o : Oper) (ho : ops[i]? = some o) (hg : o.guard = none) (hr : (execOp a.eval o).run P u = .ok (.value v) p) (h : K v p) : opV P ops i a u K := by
 unfold opV
 simp only [ho, Region.wanted, hg, if_true, hr]
 exact h
end Go.Bl
namespace Go.Bl
open Go.RowKit
def ZH (w : World) (v v' : Value) : Prop := v'.ownBlock = v.ownBlock ∨ ∀ g, v'.ownBlock = some g -> w.heap.size <= g
theorem QM {P : Program} {w : World} {A : Nat -> Prop} (base : Nat) (t ty e : TypeId) (i : TypeInfo) (z : Value) (size bytes : Nat) (ht : P.underlying t = some (.slice e)) (hi : P.info? e = some i) (hz : i.zero = some z)
  (hsize : i.size = size) (hby : i.bytes = bytes) (hzs : z.cells.size = size) (hsz : 0 < size)
  (v : Value) (n : Nat) (xs : List Value) (hown : w.ownsRow base e size v n xs)
  (a : Option Addr) (m c : Nat) (news : List Value) (hl : news.length = m * size) (hnews : Row A w a news) (h1 : ∀ u ∈ news, u.oneCell' = true)
  (h63 : n + m <= maxLen) (hbytes : (n + m) * bytes <= 140737488355328) (hbase : base <= w.heap.size) {v' : Value} {w' : World}
  (hr : (Builtin.append_ #[t, t] ty #[v, .slice a m c]).run P w = .ok v' w') : ZH w v v' := by
 have same : ∀ {x : Value} {y : World}, (Builtin.append_ #[t, t] ty #[v, .slice a m c]).run P w = .ok x y -> v' = x := fun h => by rw [hr] at h; cases h; rfl
 rcases hown.2 with ⟨rfl, rfl⟩ | ⟨g, cap, cur, rfl, hbg, hg, hnc, hcm, hcs, htake⟩
 ·obtain ⟨x, y, h, ho, -⟩ := zS (P := P) (w := w) (A := A) w.heap.size t ty e i z size bytes ht hi hz hsize hby hzs hsz (.slice none 0 0) 0 xs ⟨hown.1, .inl ⟨rfl, rfl⟩⟩ a m c news hl hnews h1 h63 hbytes (Nat.le_refl _)
  rw [same h]
  exact .inr fun g hg => (ho.lt g hg).1
 ·cases a with
  | none =>
   obtain ⟨x, y, h, -, -⟩ := zS (P := P) (w := w) (A := A) base t ty e i z size bytes ht hi hz hsize hby hzs hsz _ n xs hown none m c news hl hnews h1 h63 hbytes hbase
   have hn : news = [] := by
    rcases hnews with h | ⟨b, off, c, e, fz, h, _⟩
    ·exact h
    ·cases h
   subst hn
   have hm : m = 0 := by
    simp only [List.length_nil] at hl
    rcases Nat.eq_zero_or_pos m with h | h
    ·exact h
    ·have := Nat.mul_pos h hsz; omega
   subst hm
   have h0 : (Builtin.append_ #[t, t] ty #[.slice (some ⟨g, 0, none⟩) n cap, .slice none 0 c]).run P w = .ok (.slice (some ⟨g, 0, none⟩) n cap) w := by
    simp [Builtin.append_, run_underlying ht, sizeOf, typeInfo, hi, Builtin.lenOf, Builtin.firstCells, hnc, storeCells]
   rw [same h0]
   exact .inl rfl
  | some ad =>
   have hcells : ∀ j u, news[j]? = some u -> w.cell? (ad.add j) = some u := fun j u hj => by
    have hlt : j < news.length := by
     rcases Nat.lt_or_ge j news.length with h | h
     ·exact h
     ·rw [List.getElem?_eq_none h] at hj; cases hj
    rw [hnews.cell j hlt, hj]
   subst hsize
   subst hby
   by_cases hroom : n + m <= cap
   ·have hfit : n * i.size + news.length <= cur.size := by rw [hl, hcs, <- Nat.add_mul]; exact Nat.mul_le_mul_right _ hroom
    rw [same (run_append_room (P := P) w t ty e i ht hi g n cap cur hg ad m c news hl hcells h1 hroom hfit)]
    exact .inl rfl
   ·have holds : ∀ j u, xs[j]? = some u -> w.cell? ((⟨g, 0, none⟩ : Addr).add j) = some u := hown.cells (g := g) rfl
    rw [same (run_append_grow (P := P) w t ty e i z ht hi hz ⟨g, 0, none⟩ n cap xs hown.1 holds ad m c news hl hcells Y95 (by simp only [maxLen] at h63; omega) (growslice_fits Y95 hbytes))]
    exact .inr fun k hk => by simp [Value.ownBlock] at hk; omega
theorem Zp {P : Program} {ops : Array Oper} {k : Nat} {w : World} {o : Oper} {a : Act} {K : Value -> World -> Prop} {A : Nat -> Prop} {t e : TypeId} (hk : ops[k]? = some o) (hgd : o.guard = none)
  (ht : P.underlying t = some (.slice e)) (hinfo : (P.info? e).map (fun i => (i.zero, i.size, i.bytes)) = some (some (.int .u8 0), 1, 1)) (s x : Operand)
  (ho : o.op = .call { callee := .builtin .append, args := #[s, x], argTypes := #[t, t] })
  {base : Nat} {v u : Value} {xs ys : List UInt8} (hs : a.eval s = v) (hx : a.eval x = u) (hown : qi e base w v xs) (hb : Bs A w u ys)
  (hlen : xs.length + ys.length <= 140737488355328) (hbase : base <= w.heap.size)
  (h : ∀ v' w', qi e base w' v' (xs ++ ys) -> w.grownBy w' v.ownBlock -> ZH w v v' -> K v' w') : opV P ops k a w K := by
 obtain ⟨i, hi, hz, hsz, hby⟩ := qO hinfo
 obtain ⟨ad, cap, rfl, h2, h3, h4⟩ := hb
 obtain ⟨v', w', hr, h5, h6⟩ := zS (P := P) (w := w) base t o.type e i (.int .u8 0) 1 1 ht hi hz hsz hby rfl qe v xs.length _ hown ad ys.length cap (ys.map u8v) qg h4 (jN _) X9 Y95 hbase
 have hmv := QM (P := P) (w := w) base t o.type e i (.int .u8 0) 1 1 ht hi hz hsz hby rfl qe v xs.length _ hown ad ys.length cap (ys.map u8v) qg h4 (jN _) X9 Y95 hbase hr
 refine yn (v := v') (p := w') o hk hgd ?_ (h v' w' ?_ h6 hmv)
 ·unfold execOp
  simp only [ho, resolve, invoke, builtin, Sem.run_bind, Sem.run_pure, Result.andThen_ok, List.map_toArray, List.map_cons, List.map_nil, hs, hx, hr]
 ·unfold qi
  rw [List.length_append, List.map_append]
  exact h5
def Pc (v : Value) (w : World) (u : Value) (ys : List UInt8) : Prop := Bs (fun b => v.ownBlock = some b) w u ys
theorem Pc.keep {v u : Value} {w w' : World} {ys : List UInt8} (h : Pc v w u ys) (hf : Fr [] w w') : Pc v w' u ys := Bs.keep h hf qg
theorem Pc.moved {v v' u : Value} {w w' : World} {ys : List UInt8} (h : Pc v w u ys) (hg : w.grownBy w' v.ownBlock) (hm : ZH w v v') : Pc v' w' u ys :=
 Bs.mono h (Fr.grown (S := v.ownBlock.toList) hg fun k hk => by simp [hk]) qg fun b hb => by
  rcases hm with e | h
  ·exact .inl (e ▸ hb)
  ·exact .inr (h b hb)
theorem Pc.new {e : TypeId} {base : Nat} {v u : Value} {w p : World} {xs ys : List UInt8} (hown : qi e base w v xs) (h : qi e w.heap.size p u ys) : Pc v p u ys :=
 h.bs fun b hb => (hown.lt b hb).2
theorem qi.grown {e : TypeId} {base : Nat} {w0 w w' : World} {v : Value} {xs : List UInt8} (hown : qi e base w v xs) (h : Fr [] w0 w) (hg : w.grownBy w' v.ownBlock) (hb : w0.heap.size <= base) : Fr [] w0 w' := qi.fr hown h hg hb
inductive PK where
 | mv
 | rd (v : Value)
 | pc (ys : List UInt8)
 | ap (j q : Nat) (ys : List UInt8)
 | fin
def PK.isAp : Option PK -> Bool
 | some (.ap _ _ _) => true
 | _ => false
def qai (f : Nat -> PK -> Prop) : Nat -> List PK -> Prop
 | _, [] => True
 | i, k :: l => f i k /\ qai f (i + 1) l
theorem ZW {f : Nat -> PK -> Prop} : ∀ (l : List PK) (i0 j : Nat) (k : PK), qai f i0 l -> l[j]? = some k -> f (i0 + j) k
 | [], _, _, _, _, h => by simp at h
 | x :: l, i0, 0, k, h, hk => by simp at hk; subst hk; exact h.1
 | x :: l, i0, j + 1, k, h, hk => by
  have := ZW l (i0 + 1) j k h.2 (by simpa using hk)
  rwa [show i0 + 1 + j = i0 + (j + 1) by omega] at this
def dS (L : List Nat) (i : Nat) : Nat := L.getD i 0
def WE (L ch : List Nat) : Nat -> Nat
 | 0 => dS L 0
 | s + 1 => dS L (ch.getD s 0)
theorem z8 {a : Act} {d : Nat} {v : Value} (h : d < a.tmps.size) : qd (a.put (some d) v) d = v := by simp [qd, Act.put, h]
theorem jK {a : Act} {d k : Nat} {v : Value} (h : k ≠ d) : qd (a.put (some d) v) k = qd a k := by
 simp only [qd, Act.put, Array.getD_eq_getD_getElem?]
 rw [Array.getElem?_setIfInBounds_ne (Ne.symm h)]
structure qdr (ops : Array Oper) (L : List Nat) (kl : List PK) (S : List Nat) (a : Act) (w : World) (i : Nat) (b : Act) (p : World) : Prop where
 fr : Fr S w p
 old : ∀ s, s ∉ L -> qd b s = qd a s
 rd : ∀ k v, (qF ops i).contains k = true -> kl[k]? = some (.rd v) -> qd b (dS L k) = v
def Lv (P : Program) (ops : Array Oper) (t : TypeId) (L ch : List Nat) (pcs : List (List UInt8)) (kl : List PK) (fi : Nat) (S : List Nat) (a : Act) (w : World) (i : Nat) : PK -> Prop
 | .mv => i = 0 /\ ∃ o, ops[i]? = some o /\ o.guard = none /\ o.op = .move (.tmp (dS L fi))
 | .fin => i = fi /\ ∃ o, ops[i]? = some o /\ o.guard = none /\ o.op = .assign (.tmp (WE L ch ch.length)) /\ ∃ i', ch[ch.length - 1]? = some i' /\ (qF ops i).contains i' = true
 | .rd v => i ≠ 0 /\ i ≠ fi /\ ∀ b p, qdr ops L kl S a w i b p -> ∃ o, ops[i]? = some o /\ o.guard = none /\ (execOp b.eval o).run P p = .ok (.value v) p
 | .pc ys => i ≠ 0 /\ i ≠ fi /\ ∀ b p, qdr ops L kl S a w i b p -> opV P ops i b p fun u p' => Fr [] p p' /\ Bs (fun g => g < p.heap.size) p' u ys
 | .ap j q ys => i ≠ 0 /\ i ≠ fi /\ ch[j]? = some i /\ pcs[j]? = some ys /\ (qF ops i).contains q = true /\ kl[q]? = some (.pc ys) /\ (j = 0 /\ (qF ops i).contains 0 = true ∨ ∃ i', ch[j - 1]? = some i' /\ (qF ops i).contains i' = true) /\
   ∃ o, ops[i]? = some o /\ o.guard = none /\ o.op = .call { callee := .builtin .append, args := #[.tmp (WE L ch j), .tmp (dS L q)], argTypes := #[t, t] }
structure qck (e : TypeId) (base : Nat) (L ch : List Nat) (pcs : List (List UInt8)) (kl : List PK) (fi : Nat) (v0 : Value) (xs : List UInt8) (w : World) (dn : Nat -> Bool) (b : Act) (p : World) (s : Nat) (vc : Value) : Prop where
 le : s <= ch.length
 iff : ∀ (j i : Nat), ch[j]? = some i -> (dn i = true ↔ j < s)
 own : qi e base p vc (xs ++ (pcs.take s).flatten)
 mv : ZH w v0 vc
 z : s = 0 -> vc = v0
 sl : 0 < s -> qd b (WE L ch s) = vc
 d0 : 0 < s -> dn 0 = true
 f0 : dn 0 = true -> qd b (dS L 0) = v0
 fd : dn fi = true -> s = ch.length /\ qd b (dS L fi) = vc
 fn : dn fi = false -> qd b (dS L fi) = v0
 pc : ∀ (i : Nat) ys, kl[i]? = some (PK.pc ys) -> dn i = true -> Pc vc p (qd b (dS L i)) ys
structure qer (e : TypeId) (base : Nat) (L ch : List Nat) (pcs : List (List UInt8)) (kl : List PK) (fi : Nat) (v0 : Value) (xs : List UInt8) (a : Act) (w : World) (dn : Nat -> Bool) (b : Act) (p : World) : Prop where
 defers : b.defers = a.defers
 size : b.tmps.size = a.tmps.size
 old : ∀ s, s ∉ L -> qd b s = qd a s
 fr : Fr v0.ownBlock.toList w p
 rd : ∀ (i : Nat) v, kl[i]? = some (PK.rd v) -> dn i = true -> qd b (dS L i) = v
 out : ∃ s vc, qck e base L ch pcs kl fi v0 xs w dn b p s vc
theorem qdf {L : List Nat} (hn : L.Nodup) {i j : Nat} (hi : i < L.length) (hj : j < L.length) (h : dS L i = dS L j) : i = j := by
 simp only [dS, List.getD_eq_getElem?_getD, List.getElem?_eq_getElem hi, List.getElem?_eq_getElem hj, Option.getD_some] at h
 exact (List.getElem?_inj hi hn).1 (by rw [List.getElem?_eq_getElem hi, List.getElem?_eq_getElem hj, h])
theorem LF {L : List Nat} {i : Nat} (hi : i < L.length) : dS L i ∈ L := by
 simp only [dS, List.getD_eq_getElem?_getD, List.getElem?_eq_getElem hi, Option.getD_some]
 exact List.getElem_mem hi
theorem uL {α : Type} {l : List α} {i : Nat} {x : α} (h : l[i]? = some x) : i < l.length := (List.getElem?_eq_some_iff.1 h).1
theorem qby (l : List (List UInt8)) : ∀ s, (l.take s).flatten.length <= l.flatten.length := by
 intro s
 conv => rhs; rw [<- List.take_append_drop s l, List.flatten_append, List.length_append]
 omega
theorem QJ {L ch : List Nat} {s i : Nat} (h : ch[s]? = some i) : WE L ch (s + 1) = dS L i := by
 show dS L (ch.getD s 0) = _
 rw [List.getD_eq_getElem?_getD, h, Option.getD_some]
theorem qck.step {e : TypeId} {base : Nat} {L ch : List Nat} {pcs : List (List UInt8)} {kl : List PK} {fi : Nat} {v0 : Value} {xs : List UInt8} {w : World} {dn : Nat -> Bool} {b : Act} {p : World} {s : Nat} {vc : Value}
  (h : qck e base L ch pcs kl fi v0 xs w dn b p s vc) {i : Nat} {v : Value} {p' : World} (hne : ∀ k, k < L.length -> k ≠ i -> dS L k ≠ dS L i) (hsz : dS L i < b.tmps.size) (hf : Fr [] p p') (hl : kl.length = L.length) (hfi : fi < L.length)
  (hcl : ∀ (j k : Nat), ch[j]? = some k -> k < L.length /\ k ≠ i) (h0 : i ≠ 0) (hi : i ≠ fi) (hpc : ∀ ys, kl[i]? = some (PK.pc ys) -> Pc vc p' v ys) : qck e base L ch pcs kl fi v0 xs w (uD dn i) (b.put (some (dS L i)) v) p' s vc := by
 have h0l : 0 < L.length := by omega
 refine ⟨h.le, fun j k hj => ?_, h.own.keep hf qg, h.mv, h.z, fun hs => ?_, fun hs => ?_, fun hd => ?_, fun hd => ?_, fun hd => ?_, fun k ys hk hd => ?_⟩
 ·rw [qk dn (hcl j k hj).2]; exact h.iff j k hj
 ·rw [jK ?_]
  ·exact h.sl hs
  ·obtain ⟨s', rfl⟩ : ∃ s', s = s' + 1 := ⟨s - 1, by omega⟩
   have hs' := List.getElem?_eq_getElem (show s' < ch.length by have := h.le; omega)
   rw [QJ hs']
   exact hne _ (hcl _ _ hs').1 (hcl _ _ hs').2
 ·rw [qk dn (Ne.symm h0)]; exact h.d0 hs
 ·rw [qk dn (Ne.symm h0)] at hd
  rw [jK (hne 0 h0l (Ne.symm h0))]; exact h.f0 hd
 ·rw [qk dn (Ne.symm hi)] at hd
  rw [jK (hne fi hfi (Ne.symm hi))]; exact h.fd hd
 ·rw [qk dn (Ne.symm hi)] at hd
  rw [jK (hne fi hfi (Ne.symm hi))]; exact h.fn hd
 ·by_cases hki : k = i
  ·subst hki
   rw [z8 hsz]; exact hpc ys hk
  ·rw [qk dn hki] at hd
   rw [jK (hne k (by have := uL hk; omega) hki)]
   exact (h.pc k ys hk hd).keep hf
theorem Zq {P : Program} {ops : List Oper} {Q : Exit -> Act -> World -> Prop} {id : Nat} {a : Act} {w : World} {t e : TypeId} (hm : P.follows .mixedOrders = true)
  (hlt : ((List.range ops.toArray.size).all fun i => (qF ops.toArray i).all fun k => decide (k < i)) = true)
  (ht : P.underlying t = some (.slice e)) (hinfo : (P.info? e).map (fun i => (i.zero, i.size, i.bytes)) = some (some (.int .u8 0), 1, 1))
  (L ch : List Nat) (pcs : List (List UInt8)) (kl : List PK) (fi : Nat) (base : Nat) (v0 : Value) (xs : List UInt8)
  (hL : (List.range ops.toArray.size).map (qA ops.toArray) = L.map some) (hnd : L.Nodup) (hLs : L.all (fun d => decide (d < a.tmps.size)) = true)
  (hkl : kl.length = ops.toArray.size) (hch : ch.all (fun i => PK.isAp kl[i]?) = true) (hcn : ch.Nodup) (hcp : 0 < ch.length) (hfi : fi < ops.toArray.size) (hfz : fi ≠ 0)
  (hv0 : qd a (dS L fi) = v0) (hown : qi e base w v0 xs) (hbase : base <= w.heap.size) (hlen : xs.length + pcs.flatten.length <= 140737488355328) (hpl : pcs.length = ch.length)
  (hk : qai (Lv P ops.toArray t L ch pcs kl fi v0.ownBlock.toList a w) 0 kl)
  (hQ : ∀ (b : Act) (p : World), b.defers = a.defers -> b.tmps.size = a.tmps.size -> (∀ s, s ∉ L -> qd b s = qd a s) -> qi e base p (qd b (dS L fi)) (xs ++ pcs.flatten) -> Fr v0.ownBlock.toList w p -> ZH w v0 (qd b (dS L fi)) ->
   (∀ (i : Nat) v, kl[i]? = some (PK.rd v) -> qd b (dS L i) = v) -> Q .normal b p) : (Code.region id ops.toArray true).wp P Q a w := by
 have hLl : L.length = ops.toArray.size := by have := congrArg List.length hL; simpa using this.symm
 have hdst : ∀ i, i < ops.toArray.size -> qA ops.toArray i = some (dS L i) := by
  intro i hi
  have h := congrArg (fun l : List (Option Tmp) => l[i]?) hL
  simp only [List.getElem?_map, List.getElem?_range hi, Option.map_some] at h
  have hi' : i < L.length := by omega
  rw [List.getElem?_eq_getElem hi'] at h
  simp only [Option.map_some, Option.some.injEq] at h
  rw [h, dS, List.getD_eq_getElem?_getD, List.getElem?_eq_getElem hi', Option.getD_some]
 have hlts : ∀ i, i < ops.toArray.size -> dS L i < a.tmps.size := fun i hi => of_decide_eq_true (List.all_eq_true.1 hLs _ (LF Y95))
 have hap : ∀ (j i : Nat), ch[j]? = some i -> ∃ j' q ys, kl[i]? = some (PK.ap j' q ys) := by
  intro j i hj
  have h := List.all_eq_true.1 hch i (List.mem_of_getElem? hj)
  cases hx : kl[i]? with
  | none => simp [hx, PK.isAp] at h
  | some k =>
   cases k with
   | ap j' q ys => exact ⟨_, _, _, rfl⟩
   | _ => simp [hx, PK.isAp] at h
 have hkind : ∀ (i : Nat) k, kl[i]? = some k -> Lv P ops.toArray t L ch pcs kl fi v0.ownBlock.toList a w i k := fun i k hi => by
  have := ZW kl 0 i k hk hi
  rwa [Nat.zero_add] at this
 refine zF (qer e base L ch pcs kl fi v0 xs a w) hm hlt ?_ ?_ ?_
 ·intro w1 hw1
  refine ⟨rfl, rfl, fun _ _ => rfl, hw1.weak, (fun _ _ _ h => by cases h), 0, v0, Nat.zero_le _, fun j i _ => ⟨fun h => by (cases h), fun h => by omega⟩, by simpa using hown.keep hw1 qg, .inl rfl, fun _ => rfl, fun h => by omega, fun h => by omega, (fun h => by cases h), (fun h => by cases h), fun _ => hv0, (fun _ _ _ h => by cases h)⟩
 ·intro i hi dn b p hdn haft ⟨h1, h2, h3, h4, h5, s, vc, O⟩
  obtain ⟨k, hki⟩ : ∃ k, kl[i]? = some k := ⟨_, List.getElem?_eq_getElem Y95⟩
  have hok := hkind i k hki
  have hsee : qdr ops.toArray L kl v0.ownBlock.toList a w i b p := ⟨h4, h3, fun k v hc hv => h5 k v hv (haft k hc)⟩
  have hsz : dS L i < b.tmps.size := by rw [h2]; exact hlts i hi
  have hold : ∀ v, ∀ s, s ∉ L -> qd (b.put (some (dS L i)) v) s = qd a s := fun v s hs => by
   have hne : s ≠ dS L i := by rintro rfl; exact hs (LF Y95)
   rw [jK hne]; exact h3 s hs
  have hsz2 : ∀ v, (b.put (some (dS L i)) v).tmps.size = a.tmps.size := fun v => by simp [Act.put, h2]
  have hne : ∀ k, k < L.length -> k ≠ i -> dS L k ≠ dS L i := fun k hk hne h => hne (qdf hnd Y95 Y95 h)
  have hnap : PK.isAp (some k) = false -> ∀ (j k' : Nat), ch[j]? = some k' -> k' < L.length /\ k' ≠ i := fun hk j k' hj => by
   obtain ⟨_, _, _, hq⟩ := hap j _ hj
   refine ⟨by have := uL hq; omega, ?_⟩
   rintro rfl
   rw [hki] at hq; cases hq; cases hk
  have hrd : ∀ v, (∀ v', k = PK.rd v' -> v = v') -> ∀ (k' : Nat) v', kl[k']? = some (PK.rd v') -> uD dn i k' = true -> qd (b.put (some (dS L i)) v) (dS L k') = v' := by
   intro v hv k' v' hk' hd
   by_cases hki' : k' = i
   ·subst hki'
    rw [hki] at hk'; cases hk'
    rw [z8 hsz]; exact hv v' rfl
   ·rw [jK (hne k' qbV hki')]
    exact h5 k' v' hk' (by rwa [qk dn hki'] at hd)
  rw [hdst i hi]
  cases k with
  | rd v =>
   obtain ⟨n0, nf, hok⟩ := hok
   obtain ⟨o, ho1, ho2, ho3⟩ := hok b p hsee
   exact yn (v := v) (p := p) o ho1 ho2 ho3 ⟨h1, hsz2 v, hold v, h4, hrd v (fun v' h => by cases h; rfl), s, vc, O.step hne hsz (Fr.refl _ _) Y95 Y95 (hnap rfl) n0 nf fun ys h => by rw [hki] at h; cases h⟩
  | pc ys =>
   obtain ⟨n0, nf, hok⟩ := hok
   refine jf (fun v p' hv => ?_) (hok b p hsee)
   obtain ⟨hf, hb⟩ := hv
   exact ⟨h1, hsz2 v, hold v, h4.trans hf.weak, hrd v (fun v' h => by cases h), s, vc, O.step hne hsz hf Y95 Y95 (hnap rfl) n0 nf fun ys' h => by
    rw [hki] at h; cases h
    exact hb.mono (Fr.refl [] p') qg fun g hg => .inl (O.own.lt g hg).2⟩
  | mv =>
   obtain ⟨rfl, o, o1, o2, o3⟩ := hok
   have hs : s = 0 := by
    rcases Nat.eq_zero_or_pos s with h | h
    ·exact h
    ·have := O.d0 h; rw [hdn] at this; cases this
   subst hs
   have hfn : dn fi = false := by
    cases h : dn fi with
    | false => rfl
    | true => have := (O.fd h).1; omega
   have hv := O.fn hfn
   refine yn (v := v0) (p := p) o o1 o2 ?_ ⟨h1, hsz2 v0, hold v0, h4, hrd v0 (fun v' h => by cases h), 0, vc, Nat.zero_le _, ?_, O.own, O.mv, O.z, fun h => by omega, fun h => by omega, fun _ => z8 hsz, ?_, ?_, ?_⟩
   ·unfold execOp
    simp only [o3, Sem.run_bind, Sem.run_pure, Result.andThen_ok]
    exact congrArg (fun v => Result.ok (Next.value v) p) hv
   ·intro j k hj
    rw [qk dn (hnap rfl j k hj).2]; exact O.iff j k hj
   ·intro hd
    rw [qk dn hfz, hfn] at hd; cases hd
   ·intro _
    rw [jK (hne fi Y95 hfz)]; exact hv
   ·intro k ys hk' hd
    have hk0 : k ≠ 0 := by rintro rfl; rw [hki] at hk'; cases hk'
    rw [qk dn hk0] at hd
    rw [jK (hne k qbV hk0)]
    exact O.pc k ys hk' hd
  | fin =>
   obtain ⟨rfl, o, o1, o2, o3, i', c1, c2⟩ := hok
   have hs : s = ch.length := by
    have := (O.iff _ i' c1).1 (haft i' c2)
    have := O.le
    omega
   have hsl := O.sl Y95
   have hi0 : i ≠ 0 := by
    rintro rfl
    have := O.d0 Y95
    exact Y65
   subst hs
   refine yn (v := vc) (p := p) o o1 o2 ?_ ⟨h1, hsz2 vc, hold vc, h4, hrd vc (fun v' h => by cases h), ch.length, vc, Nat.le_refl _, ?_, O.own, O.mv, O.z, fun h => ?_, fun h => ?_, fun hd => ?_, fun _ => ⟨rfl, z8 hsz⟩, fun hd => ?_, ?_⟩
   ·unfold execOp
    simp only [o3, Sem.run_bind, Sem.run_pure, Result.andThen_ok]
    exact congrArg (fun v => Result.ok (Next.value v) p) hsl
   ·intro j k hj
    rw [qk dn (hnap rfl j k hj).2]; exact O.iff j k hj
   ·obtain ⟨s', hs'⟩ : ∃ s', ch.length = s' + 1 := ⟨ch.length - 1, by omega⟩
    have hg := List.getElem?_eq_getElem (show s' < ch.length by omega)
    rw [hs'] at hsl ⊢
    rw [QJ hg] at hsl ⊢
    rw [jK (hne _ (hnap rfl _ _ hg).1 (hnap rfl _ _ hg).2)]; exact hsl
   ·rw [qk dn (Ne.symm hi0)]; exact O.d0 h
   ·rw [qk dn (Ne.symm hi0)] at hd
    rw [jK (hne 0 Y95 (Ne.symm hi0))]; exact O.f0 hd
   ·rw [jH] at hd; cases hd
   ·intro k ys hk' hd
    have hk0 : k ≠ i := by rintro rfl; rw [hki] at hk'; cases hk'
    rw [qk dn hk0] at hd
    rw [jK (hne k qbV hk0)]
    exact O.pc k ys hk' hd
  | ap j q ys =>
   obtain ⟨n0, nf, c1, c2, c3, c4, c5, o, o1, o2, o3⟩ := hok
   have hsj : s = j := by
    have h0 : ¬ j < s := fun h => by
     have := (O.iff j i c1).2 h
     exact Y65
    rcases c5 with ⟨rfl, -⟩ | ⟨i', hi', hc'⟩
    ·omega
    ·have := (O.iff _ i' hi').1 (haft i' hc')
     omega
   subst hsj
   have hjl := uL c1
   have hsl : qd b (WE L ch s) = vc := by
    rcases Nat.eq_zero_or_pos s with h | h
    ·subst h
     rw [O.z rfl]
     rcases c5 with ⟨-, h⟩ | ⟨i', hi', hc'⟩
     ·exact O.f0 (haft 0 h)
     ·have := (O.iff _ i' hi').1 (haft i' hc')
      omega
    ·exact O.sl h
   have hd0 : dn 0 = true := by
    rcases c5 with ⟨-, h⟩ | ⟨i', hi', hc'⟩
    ·exact haft 0 h
    ·exact O.d0 (by have := (O.iff _ i' hi').1 (haft i' hc'); omega)
   have hfn : dn fi = false := by
    cases h : dn fi with
    | false => rfl
    | true => have := (O.fd h).1; omega
   have hpc := O.pc q ys c4 (haft q c3)
   refine Zp o1 o2 ht hinfo (.tmp (WE L ch s)) (.tmp (dS L q)) o3 (A := fun b => vc.ownBlock = some b) (base := base) (v := vc) (u := qd b (dS L q)) hsl rfl O.own hpc ?_ (by have := h4.size; omega) ?_
   ·have hf := qby pcs (s + 1)
    rw [List.take_add_one, c2] at hf
    simp only [Option.toList_some, List.flatten_append, List.flatten_cons, List.flatten_nil, List.append_nil, List.length_append] at hf ⊢
    omega
   ·intro v' p' ho' hg hmv'
    have hfr : Fr v0.ownBlock.toList w p' := h4.then (Fr.grown (S := vc.ownBlock.toList) hg fun k hk => by simp [hk]) fun x hx => by
     have hx' : vc.ownBlock = some x := by simpa using hx
     rcases O.mv with e | h
     ·exact .inl (by simpa using e ▸ hx')
     ·exact .inr (h x hx')
    have hmv2 : ZH w v0 v' := by
     rcases hmv' with e | h
     ·rcases O.mv with e' | h'
      ·exact .inl (e.trans e')
      ·exact .inr fun g hg => h' g (e ▸ hg)
     ·exact .inr fun g hg => by have := h g hg; have := h4.size; omega
    refine ⟨h1, hsz2 v', hold v', hfr, hrd v' (fun v2 h => by cases h), s + 1, v', hjl, ?_, ?_, hmv2, fun h => by omega, fun _ => ?_, fun _ => ?_, fun _ => ?_, fun hd => ?_, fun _ => ?_, ?_⟩
    ·intro j2 k hj
     by_cases hki' : k = i
     ·subst hki'
      have : j2 = s := (List.getElem?_inj (uL hj) hcn).1 (hj.trans c1.symm)
      subst this
      simp [jH]
     ·rw [qk dn hki', O.iff j2 k hj]
      exact Y54
    ·rw [List.take_add_one, c2]
     simp only [Option.toList_some, List.flatten_append, List.flatten_cons, List.flatten_nil, List.append_nil]
     rw [<- List.append_assoc]
     exact ho'
    ·rw [QJ c1]
     exact z8 hsz
    ·rw [qk dn (Ne.symm n0)]; exact hd0
    ·rw [jK (hne 0 Y95 (Ne.symm n0))]; exact O.f0 hd0
    ·rw [qk dn (Ne.symm nf), hfn] at hd; cases hd
    ·rw [jK (hne fi Y95 (Ne.symm nf))]; exact O.fn hfn
    ·intro k zs hk' hd
     have hne' : k ≠ i := by rintro rfl; rw [hki] at hk'; cases hk'
     rw [jK (hne k qbV hne')]
     exact (O.pc k zs hk' (by rwa [qk dn hne'] at hd)).moved hg hmv'
 ·intro dn b p hall ⟨h1, h2, h3, h4, h5, s, vc, O⟩
  obtain ⟨hs, hsl⟩ := O.fd (hall fi hfi)
  subst hs
  have ho := O.own
  rw [List.take_of_length_le Y95] at ho
  exact hQ b p h1 h2 h3 (by rw [hsl]; exact ho) h4 (by rw [hsl]; exact O.mv) fun i v hi => h5 i v hi (hall i (by have := uL hi; omega))
theorem ZS (b : Act) : ∀ (L : List Nat) (a : Act), b.tmps.size = a.tmps.size -> (L.foldl (fun x d => x.put (some d) (qd b d)) a).defers = a.defers /\ (L.foldl (fun x d => x.put (some d) (qd b d)) a).tmps.size = a.tmps.size /\
  ∀ s, qd (L.foldl (fun x d => x.put (some d) (qd b d)) a) s = if s ∈ L then qd b s else qd a s
 | [], a, _ => ⟨rfl, rfl, fun s => by simp⟩
 | d :: L, a, hs => by
  have hs' : (a.put (some d) (qd b d)).tmps.size = a.tmps.size := by simp [Act.put]
  obtain ⟨h1, h2, h3⟩ := ZS b L (a.put (some d) (qd b d)) (by rw [hs']; exact hs)
  refine ⟨h1, h2.trans hs', fun s => ?_⟩
  simp only [List.foldl_cons]
  rw [h3 s]
  by_cases hL : s ∈ L
  ·simp [hL]
  ·rw [if_neg hL]
   by_cases hd : s = d
   ·subst hd
    rw [if_pos qg]
    by_cases hlt : s < a.tmps.size
    ·exact z8 hlt
    ·have e1 : qd b s = undef := by simp only [qd, Array.getD_eq_getD_getElem?]; rw [Array.getElem?_eq_none Y95]; rfl
     have e2 : qd (a.put (some s) (qd b s)) s = undef := by simp only [qd, Array.getD_eq_getD_getElem?]; rw [Array.getElem?_eq_none (by simp [Act.put]; omega)]; rfl
     rw [e2, e1]
   ·rw [jK hd, if_neg (by simp [hd, hL])]
theorem vS (b a : Act) (L : List Nat) (hd : b.defers = a.defers) (hs : b.tmps.size = a.tmps.size) (h : ∀ s, s ∉ L -> qd b s = qd a s) : b = L.foldl (fun x d => x.put (some d) (qd b d)) a := by
 obtain ⟨h1, h2, h3⟩ := ZS b L a hs
 generalize hc : L.foldl (fun x d => x.put (some d) (qd b d)) a = c at h1 h2 h3 ⊢
 have hts : b.tmps = c.tmps := by
  refine Array.ext (hs.trans h2.symm) fun i h4 h5 => ?_
  have hi : qd b i = qd c i := by
   rw [h3 i]
   by_cases hL : i ∈ L
   ·rw [if_pos hL]
   ·rw [if_neg hL]; exact h i hL
  simpa [qd, h4, h5] using hi
 cases b
 cases c
 simp only [Act.mk.injEq]
 exact ⟨hts, hd.trans h1.symm⟩
end Go.Bl
namespace Go.Bl
open Go.RowKit
inductive CK where
 | rd (v : Value) (mx : Nat)
 | st (j : Nat)
def CK.isSt : Option CK -> Bool
 | some (.st _) => true
 | _ => false
def Xq (f : Nat -> CK -> Prop) : Nat -> List CK -> Prop
 | _, [] => True
 | i, k :: l => f i k /\ Xq f (i + 1) l
theorem JD {f : Nat -> CK -> Prop} : ∀ (l : List CK) (i0 j : Nat) (k : CK), Xq f i0 l -> l[j]? = some k -> f (i0 + j) k
 | [], _, _, _, _, h => by simp at h
 | x :: l, i0, 0, k, h, hk => by simp at hk; subst hk; exact h.1
 | x :: l, i0, j + 1, k, h, hk => by
  have := JD l (i0 + 1) j k h.2 (by simpa using hk)
  rwa [show i0 + 1 + j = i0 + (j + 1) by omega] at this
theorem uY {a : Act} {d : Nat} {v : Value} (h : d < a.tmps.size) : qd (a.put (some d) v) d = v := by simp [qd, Act.put, h]
theorem x8 {a : Act} {d k : Nat} {v : Value} (h : k ≠ d) : qd (a.put (some d) v) k = qd a k := by
 simp only [qd, Act.put, Array.getD_eq_getD_getElem?]
 rw [Array.getElem?_setIfInBounds_ne (Ne.symm h)]
structure JV (ops : Array Oper) (D : List (Option Nat)) (kl : List CK) (cv : Nat -> Value) (a : Act) (i : Nat) (b : Act) : Prop where
 old : ∀ s, some s ∉ D -> qd b s = qd a s
 rd : ∀ k v mx d, (qF ops i).contains k = true -> kl[k]? = some (.rd v mx) -> D[k]? = some (some d) -> qd b d = v
 st : ∀ k j d, (qF ops i).contains k = true -> kl[k]? = some (.st j) -> D[k]? = some (some d) -> qd b d = cv j
theorem JV.er {ops : Array Oper} {D : List (Option Nat)} {kl : List CK} {cv : Nat -> Value} {a : Act} {i : Nat} {b : Act} (h : JV ops D kl cv a i b) (k d : Nat) {v : Value} {mx : Nat} (c : (qF ops i).contains k = true) (hk : kl[k]? = some (.rd v mx)) (hd : D[k]? = some (some d)) : b.eval (.tmp d) = v := h.rd k v mx d c hk hd
theorem JV.eo {ops : Array Oper} {D : List (Option Nat)} {kl : List CK} {cv : Nat -> Value} {a : Act} {i : Nat} {b : Act} (h : JV ops D kl cv a i b) {k : Nat} {v : Value} (hd : some k ∉ D) (hv : qd a k = v) : b.eval (.tmp k) = v := (h.old k hd).trans hv
def YZ (P : Program) (ops : Array Oper) (D : List (Option Nat)) (ch : List Nat) (kl : List CK) (cv : Nat -> Value) (St : Nat -> World -> Prop) (a : Act) (i : Nat) : CK -> Prop
 | .rd v mx => (∃ d, D[i]? = some (some d)) /\ (mx = ch.length ∨ ∃ i', ch[mx]? = some i' /\ (qF ops i').contains i = true) /\ ∀ b p s, s <= mx -> St s p -> JV ops D kl cv a i b -> ∃ o, ops[i]? = some o /\ o.guard = none /\ (execOp b.eval o).run P p = .ok (.value v) p
 | .st j => ch[j]? = some i /\ (j = 0 ∨ ∃ i', ch[j - 1]? = some i' /\ (qF ops i).contains i' = true) /\ ∀ b p, St j p -> JV ops D kl cv a i b -> opV P ops i b p fun v p' => St (j + 1) p' /\ (D[i]? = some none ∨ v = cv j)
structure qeI (ops : Array Oper) (D : List (Option Nat)) (ch : List Nat) (kl : List CK) (cv : Nat -> Value) (St : Nat -> World -> Prop) (a : Act) (dn : Nat -> Bool) (b : Act) (p : World) : Prop where
 defers : b.defers = a.defers
 size : b.tmps.size = a.tmps.size
 old : ∀ s, some s ∉ D -> qd b s = qd a s
 rd : ∀ (k : Nat) v mx d, kl[k]? = some (CK.rd v mx) -> dn k = true -> D[k]? = some (some d) -> qd b d = v
 out : ∃ s, s <= ch.length /\ (∀ (j i : Nat), ch[j]? = some i -> (dn i = true ↔ j < s)) /\ St s p
 cl : ∀ i k, dn i = true -> (qF ops i).contains k = true -> dn k = true
 st : ∀ (k j : Nat) d, kl[k]? = some (CK.st j) -> dn k = true -> D[k]? = some (some d) -> qd b d = cv j
def QS : List (Option Nat) -> Bool
 | [] => true
 | none :: l => QS l
 | some d :: l => !l.contains (some d) && QS l
theorem QL : ∀ (l : List (Option Nat)) (i j d : Nat), QS l = true -> l[i]? = some (some d) -> l[j]? = some (some d) -> i = j
 | [], i, j, d, _, h, _ => by simp at h
 | x :: l, i, j, d, hn, hi, hj => by
  have ht : QS l = true := by
   cases x with
   | none => exact hn
   | some e => simp only [QS, Bool.and_eq_true] at hn; exact hn.2
  have hx : ∀ k, x = some d -> l[k]? = some (some d) -> False := fun k he hk => by
   subst he
   simp only [QS, Bool.and_eq_true, Bool.not_eq_true', List.contains_eq_mem, decide_eq_false_iff_not] at hn
   exact hn.1 (List.mem_of_getElem? hk)
  cases i with
  | zero =>
   cases j with
   | zero => rfl
   | succ j => exact (hx j (by simpa using hi) Ui).elim
  | succ i =>
   cases j with
   | zero => exact (hx i Ui (by simpa using hi)).elim
   | succ j => rw [QL l i j d ht (by simpa using hi) Ui]
theorem ug {α : Type} {l : List α} {i : Nat} {x : α} (h : l[i]? = some x) : i < l.length := (List.getElem?_eq_some_iff.1 h).1
theorem jR {P : Program} {ops : List Oper} {Q : Exit -> Act -> World -> Prop} {id : Nat} {a : Act} {w : World} (hm : P.follows .mixedOrders = true)
  (hlt : ((List.range ops.toArray.size).all fun i => (qF ops.toArray i).all fun k => decide (k < i)) = true)
  (D : List (Option Nat)) (ch : List Nat) (kl : List CK) (cv : Nat -> Value) (St : Nat -> World -> Prop)
  (hD : (List.range ops.toArray.size).map (qA ops.toArray) = D) (hnd : QS D = true) (hDs : D.all (fun d => match d with | some d => decide (d < a.tmps.size) | none => true) = true)
  (hkl : kl.length = ops.toArray.size) (hch : ch.all (fun i => CK.isSt kl[i]?) = true) (hcn : ch.Nodup)
  (h0 : ∀ w1, Fr [] w w1 -> St 0 w1)
  (hk : Xq (YZ P ops.toArray D ch kl cv St a) 0 kl)
  (hQ : ∀ (b : Act) (p : World), b.defers = a.defers -> b.tmps.size = a.tmps.size -> (∀ s, some s ∉ D -> qd b s = qd a s) -> St ch.length p -> (∀ (k : Nat) v mx d, kl[k]? = some (CK.rd v mx) -> D[k]? = some (some d) -> qd b d = v) -> Q .normal b p) :
  (Code.region id ops.toArray true).wp P Q a w := by
 have hDl : D.length = ops.toArray.size := by have := congrArg List.length hD; simpa using this.symm
 have hdst : ∀ i, i < ops.toArray.size -> D[i]? = some (qA ops.toArray i) := by
  exact Y25
 have hst : ∀ (j i : Nat), ch[j]? = some i -> ∃ j', kl[i]? = some (CK.st j') := by
  intro j i hj
  have h := List.all_eq_true.1 hch i (List.mem_of_getElem? hj)
  cases hx : kl[i]? with
  | none => simp [hx, CK.isSt] at h
  | some k =>
   cases k with
   | rd v mx => simp [hx, CK.isSt] at h
   | st j' => exact ⟨_, rfl⟩
 have hkind : ∀ (i : Nat) k, kl[i]? = some k -> YZ P ops.toArray D ch kl cv St a i k := fun i k hi => by
  have := JD kl 0 i k hk hi
  rwa [Nat.zero_add] at this
 have hslot : ∀ i d, D[i]? = some (some d) -> d < a.tmps.size := fun i d h => by
  have := List.all_eq_true.1 hDs (some d) (List.mem_of_getElem? h)
  exact of_decide_eq_true this
 refine zF (qeI ops.toArray D ch kl cv St a) hm hlt ?_ ?_ ?_
 ·intro w1 hw1
  exact ⟨rfl, rfl, fun _ _ => rfl, (fun _ _ _ _ _ h => by cases h), ⟨0, Nat.zero_le _, fun j i _ => ⟨fun h => by (cases h), fun h => by omega⟩, h0 w1 hw1⟩, (fun _ _ h => by cases h), (fun _ _ _ _ h => by cases h)⟩
 ·intro i hi dn b p hdn haft ⟨h1, h2, h3, h4, ⟨s, hsl, hiff, hS⟩, hcl, h5⟩
  have hcl2 : ∀ x k, uD dn i x = true -> (qF ops.toArray x).contains k = true -> uD dn i k = true := fun x k hx hk => by
   by_cases hki : k = i
   ·subst hki; exact jH dn k
   ·rw [qk dn hki]
    by_cases hxi : x = i
    ·subst hxi; exact haft k hk
    ·rw [qk dn hxi] at hx; exact hcl x k hx hk
  obtain ⟨k, hki⟩ : ∃ k, kl[i]? = some k := ⟨_, List.getElem?_eq_getElem Y95⟩
  have hok := hkind i k hki
  have hsee : JV ops.toArray D kl cv a i b := ⟨h3, fun k v mx d hc hv hd => h4 k v mx d hv (haft k hc) hd, fun k j d hc hv hd => h5 k j d hv (haft k hc) hd⟩
  have hDi := hdst i hi
  have hsz2 : ∀ v, (b.put (qA ops.toArray i) v).tmps.size = a.tmps.size := fun v => by
   cases qA ops.toArray i <;> simp [Act.put, h2]
  have hdf : ∀ v, (b.put (qA ops.toArray i) v).defers = a.defers := fun v => by
   cases qA ops.toArray i <;> exact h1
  have hoth : ∀ v s, some s ≠ qA ops.toArray i -> qd (b.put (qA ops.toArray i) v) s = qd b s := fun v s hs => by
   cases hd : qA ops.toArray i with
   | none => rfl
   | some d => exact x8 (fun e => hs (by rw [hd, e]))
  have hold : ∀ v s, some s ∉ D -> qd (b.put (qA ops.toArray i) v) s = qd a s := fun v s hs => by
   rw [hoth v s (fun e => hs qcm)]; exact h3 s hs
  have hneD : ∀ k d, k ≠ i -> D[k]? = some (some d) -> some d ≠ qA ops.toArray i := fun k d hne hd e => hne (QL D k i d hnd hd (by rw [hDi, e]))
  cases k with
  | rd v mx =>
   obtain ⟨⟨d, hd⟩, c2, c3⟩ := hok
   have hdd : qA ops.toArray i = some d := by rw [hDi] at hd; exact Option.some.inj hd
   have hsm : s <= mx := by
    rcases c2 with rfl | ⟨i', hi', hc'⟩
    ·exact hsl
    ·rcases Nat.lt_or_ge mx s with h | h
     ·exfalso
      have hdi := (hiff mx i' hi').2 h
      have := hcl i' i hdi hc'
      exact Y65
     ·exact h
   obtain ⟨o, ho1, ho2, ho3⟩ := c3 b p s hsm hS hsee
   refine yn (v := v) (p := p) o ho1 ho2 ho3 ⟨hdf v, hsz2 v, hold v, ?_, ⟨s, hsl, ?_, hS⟩, hcl2, ?_⟩
   ·intro k v' mx' d' hk' hdk hd'
    by_cases hki' : k = i
    ·exact Y47
    ·rw [hoth v d' (hneD k d' hki' hd')]
     exact h4 k v' mx' d' hk' Xn hd'
   ·intro j k hj
    have hne : k ≠ i := by
     rintro rfl
     obtain ⟨_, hq⟩ := hst j _ hj
     rw [hki] at hq; cases hq
    rw [qk dn hne]; exact hiff j k hj
   ·exact Y77
  | st j =>
   obtain ⟨c1, c2, c3⟩ := hok
   have hsj : s = j := by
    have h0 : ¬ j < s := fun h => by
     have := (hiff j i c1).2 h
     exact Y65
    rcases c2 with rfl | ⟨i', hi', hc'⟩
    ·omega
    ·have := (hiff _ i' hi').1 (haft i' hc')
     omega
   subst hsj
   refine jf (fun v p' hv => ?_) (c3 b p hS hsee)
   obtain ⟨hS', hvv⟩ := hv
   refine ⟨hdf v, hsz2 v, hold v, ?_, ⟨s + 1, ug c1, ?_, hS'⟩, hcl2, ?_⟩
   ·intro k v' mx' d' hk' hdk hd'
    have hne : k ≠ i := by rintro rfl; rw [hki] at hk'; cases hk'
    rw [hoth v d' (hneD k d' hne hd')]
    exact h4 k v' mx' d' hk' Up hd'
   ·intro j2 k hj
    by_cases hki' : k = i
    ·exact Y55
    ·rw [qk dn hki', hiff j2 k hj]
     exact Y54
   ·intro k j d' hk' hdk hd'
    by_cases hki' : k = i
    ·subst hki'
     rw [hki] at hk'; cases hk'
     have hdd : qA ops.toArray k = some d' := by rw [hDi] at hd'; exact Option.some.inj hd'
     rw [hdd]
     rw [uY (by rw [h2]; exact hslot _ _ hd')]
     rcases hvv with h | h
     ·rw [hd'] at h; cases h
     ·exact h
    ·rw [hoth v d' (hneD k d' hki' hd')]
     exact h5 k j d' hk' Xn hd'
 ·intro dn b p hall ⟨h1, h2, h3, h4, ⟨s, hsl, hiff, hS⟩, hcl, h5⟩
  have hs : s = ch.length := by
   rcases Nat.lt_or_ge s ch.length with h | h
   ·exfalso
    have hj := List.getElem?_eq_getElem h
    obtain ⟨_, hq⟩ := hst s _ hj
    have := (hiff s _ hj).1 (hall _ (by have := ug hq; omega))
    omega
   ·omega
  subst hs
  exact hQ b p h1 h2 h3 hS fun k v mx d hv hd => h4 k v mx d hv (hall k (by have := ug hv; omega)) hd
end Go.Bl
namespace Go.Bl
open Go.RowKit
theorem j6 (a : Act) (n : Nat) (hs : a.tmps.size = n) (hd : a.defers = []) : a = ⟨((List.range n).map (qd a)).toArray, []⟩ := by
 obtain ⟨t, d⟩ := a
 simp only at hs hd
 subst hd
 simp only [Act.mk.injEq, and_true]
 refine Array.ext (by simp [hs]) fun i h1 h2 => ?_
 simp [qd, h1]
theorem ZJ (b a : Act) (L : List Nat) (hd : b.defers = a.defers) (hs : b.tmps.size = a.tmps.size) (h : ∀ s, s ∉ L -> qd b s = qd a s) : ∃ f : Nat -> Value, b = L.foldl (fun x d => x.put (some d) (f d)) a := ⟨qd b, vS b a L hd hs h⟩
end Go.Bl
namespace Go.Proofs.YtnafknkchbfpaaaGreatDoor
open Go.RowKit Go.Bl
set_option linter.unusedVariables false
def uq : Code -> Option Nat
 | .region i _ _ => some i
 | .loop c => uq c
 | .seq a b => match uq a with
  | some i => some i
  | none => uq b
 | .block _ c => uq c
 | .scope c => uq c
 | .cond _ a b => match uq a with
  | some i => some i
  | none => uq b
 | _ => none
def jq (k : Nat) : Code -> Option Code
 | .loop c => if uq c = some k then some c else jq k c
 | .seq a b => match jq k a with
  | some c => some c
  | none => jq k b
 | .block _ c => jq k c
 | .scope c => jq k c
 | .cond _ a b => match jq k a with
  | some c => some c
  | none => jq k b
 | _ => none
def kN (v : Value) : Nat := match v with | .int _ i => i.toNat | _ => 0
theorem evx (b : Go.Act) : ∃ ρ, b.eval = ρ /\ ∀ v, ρ (.const v) = v := ⟨_, rfl, fun _ => rfl⟩
end Go.Proofs.YtnafknkchbfpaaaGreatDoor
namespace Go.Bl
open Go.RowKit
inductive GK where
 | rd (v : Value) (mx : Nat)
 | st (j : Nat)
 | gh (j : Nat)
 | mv (j : Nat)
def GK.isSt : Option GK -> Bool
 | some (.st _) => true
 | some (.gh _) => true
 | _ => false
def Yd (f : Nat -> GK -> Prop) : Nat -> List GK -> Prop
 | _, [] => True
 | i, k :: l => f i k /\ Yd f (i + 1) l
theorem J1 {f : Nat -> GK -> Prop} : ∀ (l : List GK) (i0 j : Nat) (k : GK), Yd f i0 l -> l[j]? = some k -> f (i0 + j) k
 | [], _, _, _, _, h => by simp at h
 | x :: l, i0, 0, k, h, hk => by simp at hk; subst hk; exact h.1
 | x :: l, i0, j + 1, k, h, hk => by
  have := J1 l (i0 + 1) j k h.2 (by simpa using hk)
  rwa [show i0 + 1 + j = i0 + (j + 1) by omega] at this
def upd (g : Nat -> Value) (j : Nat) (v : Value) : Nat -> Value := fun k => if k = j then v else g k
theorem qaY (g : Nat -> Value) (j : Nat) (v : Value) : upd g j v j = v := by simp [upd]
theorem qaC (g : Nat -> Value) {j k : Nat} (v : Value) (h : k ≠ j) : upd g j v k = g k := by simp [upd, h]
theorem qbp {P : Program} {ops : Array Oper} {K : Value -> World -> Prop} {i : Nat} {a : Act} {u : World} (o : Oper) (ho : ops[i]? = some o) (hg : Region.wanted o (yielded ops a.tmps) = false) (h : K undef u) : opV P ops i a u K := by
 unfold opV
 simp only [ho, hg]
 exact h
theorem VS {P : Program} {ops : Array Oper} {K : Value -> World -> Prop} {i : Nat} {a : Act} {u p : World} {v : Value} (o : Oper) (ho : ops[i]? = some o) (hg : Region.wanted o (yielded ops a.tmps) = true) (hr : (execOp a.eval o).run P u = .ok (.value v) p) (h : K v p) : opV P ops i a u K := by
 unfold opV
 simp only [ho, hg, if_true, hr]
 exact h
theorem qq {o : Oper} {y : Nat -> Option Bool} (hg : o.guard = none) : Region.wanted o y = true := by simp [Region.wanted, hg]
theorem um {ops : Array Oper} {o : Oper} {b : Act} (j : Nat) (t : Bool) (d : Nat) (hg : o.guard = some (j, t)) (hd : (ops[j]?).bind (·.dst) = some d) (hl : d < b.tmps.size) (hs : qd b d = .bool t) : Region.wanted o (yielded ops b.tmps) = true := by
 have h : b.tmps[d]? = some (.bool t) := by
  rw [Array.getElem?_eq_getElem hl]
  have : qd b d = b.tmps[d] := by simp [qd, hl]
  rw [<- this, hs]
 simp [Region.wanted, hg, yielded, hd, h]
theorem qG {P : Program} {ops : Array Oper} {i : Nat} {b : Act} {p : World} {K : Value -> World -> Prop} (o : Oper) (ho : ops[i]? = some o) (hg : Region.wanted o (yielded ops b.tmps) = true) (f : FuncId) (ags : Array Operand) (ts : Array TypeId)
  (hop : o.op = .call { callee := .value (.func f), args := ags, argTypes := ts }) (vs : Array Value) (hv : ags.map b.eval = vs) (hc : (callFunc f vs).run P p = .ok (.enter f vs) p) (H : Calls P f vs p fun e w' => ∃ v, e = .returned v /\ K v w') : opV P ops i b p K := by
 have hf : b.eval (.func f) = .func (.func f) #[] #[] := rfl
 unfold opV
 simp only [ho, hg, if_true]
 obtain ⟨ρ, hρ⟩ := exq (b.eval)
 rw [hρ] at hv hf ⊢
 have hr : (execOp ρ o).run P p = .ok (.enter f vs) p := by
  unfold execOp
  simp [hop, resolve, invoke, go_sem, hf, hv, hc]
 rw [hr]
 refine H.mono ?_
 rintro e p' ⟨v, rfl, hk⟩
 exact hk
def js (ops : Array Oper) : Nat -> Nat -> Nat -> Bool
 | 0, _, _ => false
 | n + 1, i, k => (qF ops i).any fun m => m == k || js ops n m k
theorem jS {ops : Array Oper} {dn : Nat -> Bool} (hcl : ∀ x k, dn x = true -> (qF ops x).contains k = true -> dn k = true) : ∀ (n i k : Nat), (∀ m, (qF ops i).contains m = true -> dn m = true) -> js ops n i k = true -> dn k = true
 | 0, _, _, _, h => by simp [js] at h
 | n + 1, i, k, h1, h2 => by
  obtain ⟨m, hm, h3⟩ := List.any_eq_true.1 h2
  have hm' : dn m = true := h1 m vd
  simp only [Bool.or_eq_true, beq_iff_eq] at h3
  rcases h3 with rfl | h3
  ·exact hm'
  ·exact jS hcl n m k (fun x hx => hcl m x hm' hx) h3
structure Qj (ops : Array Oper) (D : List (Option Nat)) (kl : List GK) (cv g : Nat -> Value) (a : Act) (i : Nat) (b : Act) : Prop where
 size : b.tmps.size = a.tmps.size
 old : ∀ s, some s ∉ D -> qd b s = qd a s
 rd : ∀ k v mx d, (qF ops i).contains k = true -> kl[k]? = some (.rd v mx) -> D[k]? = some (some d) -> qd b d = v
 st : ∀ k j d, (qF ops i).contains k = true -> kl[k]? = some (.st j) -> D[k]? = some (some d) -> qd b d = cv j
 gh : ∀ k j d, (qF ops i).contains k = true -> kl[k]? = some (.gh j) -> D[k]? = some (some d) -> qd b d = g j
 mv : ∀ k j d, (qF ops i).contains k = true -> kl[k]? = some (.mv j) -> D[k]? = some (some d) -> qd b d = g j
 un : ∀ m d, js ops 6 m i = true -> D[m]? = some (some d) -> qd b d = qd a d
theorem Qj.er {ops : Array Oper} {D : List (Option Nat)} {kl : List GK} {cv g : Nat -> Value} {a : Act} {i : Nat} {b : Act} (h : Qj ops D kl cv g a i b) (k d : Nat) {v : Value} {mx : Nat} (c : (qF ops i).contains k = true) (hk : kl[k]? = some (.rd v mx)) (hd : D[k]? = some (some d)) : b.eval (.tmp d) = v := h.rd k v mx d c hk hd
theorem Qj.eo {ops : Array Oper} {D : List (Option Nat)} {kl : List GK} {cv g : Nat -> Value} {a : Act} {i : Nat} {b : Act} (h : Qj ops D kl cv g a i b) {k : Nat} {v : Value} (hd : some k ∉ D) (hv : qd a k = v) : b.eval (.tmp k) = v := (h.old k hd).trans hv
theorem gw0 {P : Program} {ops : Array Oper} {i : Nat} {b : Act} {p : World} {v : Value} {o : Oper} (ho : ops[i]? = some o) (hg : o.guard = none) (hr : (execOp b.eval o).run P p = .ok (.value v) p) : ∃ o, ops[i]? = some o /\ ((Region.wanted o (yielded ops b.tmps) = true /\ (execOp b.eval o).run P p = .ok (.value v) p) ∨ (Region.wanted o (yielded ops b.tmps) = false /\ v = undef)) := ⟨o, ho, .inl ⟨qq hg, hr⟩⟩
def Wf (P : Program) (ops : Array Oper) (D : List (Option Nat)) (ch : List Nat) (kl : List GK) (cv : Nat -> Value) (St : Nat -> (Nat -> Value) -> World -> Prop) (a : Act) (i : Nat) : GK -> Prop
 | .rd v mx => (∃ d, D[i]? = some (some d)) /\ (mx = ch.length ∨ ∃ i', ch[mx]? = some i' /\ js ops 6 i' i = true) /\ ∀ b p s g, s <= mx -> (∀ j i', ch[j]? = some i' -> (qF ops i).contains i' = true -> j < s) -> St s g p -> Qj ops D kl cv g a i b -> ∃ o, ops[i]? = some o /\ ((Region.wanted o (yielded ops b.tmps) = true /\ (execOp b.eval o).run P p = .ok (.value v) p) ∨ (Region.wanted o (yielded ops b.tmps) = false /\ v = undef))
 | .st j => ch[j]? = some i /\ (j = 0 ∨ ∃ i', ch[j - 1]? = some i' /\ js ops 6 i i' = true) /\ ∀ b p g, St j g p -> Qj ops D kl cv g a i b -> opV P ops i b p fun v p' => St (j + 1) g p' /\ (D[i]? = some none ∨ v = cv j)
 | .gh j => ch[j]? = some i /\ (j = 0 ∨ ∃ i', ch[j - 1]? = some i' /\ js ops 6 i i' = true) /\ ∀ b p g, St j g p -> Qj ops D kl cv g a i b -> opV P ops i b p fun v p' => St (j + 1) (upd g j v) p'
 | .mv j => (∃ d, D[i]? = some (some d)) /\ (∃ i', ch[j]? = some i' /\ js ops 6 i i' = true) /\ ∀ b p s g, (∀ j i', ch[j]? = some i' -> (qF ops i).contains i' = true -> j < s) -> St s g p -> Qj ops D kl cv g a i b -> ∃ o, ops[i]? = some o /\ Region.wanted o (yielded ops b.tmps) = true /\ (execOp b.eval o).run P p = .ok (.value (g j)) p
structure qdH (ops : Array Oper) (D : List (Option Nat)) (ch : List Nat) (kl : List GK) (cv : Nat -> Value) (St : Nat -> (Nat -> Value) -> World -> Prop) (a : Act) (dn : Nat -> Bool) (b : Act) (p : World) : Prop where
 defers : b.defers = a.defers
 size : b.tmps.size = a.tmps.size
 old : ∀ s, some s ∉ D -> qd b s = qd a s
 rd : ∀ (k : Nat) v mx d, kl[k]? = some (GK.rd v mx) -> dn k = true -> D[k]? = some (some d) -> qd b d = v
 out : ∃ s g, s <= ch.length /\ (∀ (j i : Nat), ch[j]? = some i -> (dn i = true ↔ j < s)) /\ St s g p /\ (∀ (k j : Nat) d, kl[k]? = some (GK.gh j) -> dn k = true -> D[k]? = some (some d) -> qd b d = g j) /\ (∀ (k j : Nat), kl[k]? = some (GK.mv j) -> dn k = true -> j < s) /\ ∀ (k j : Nat) d, kl[k]? = some (GK.mv j) -> dn k = true -> D[k]? = some (some d) -> qd b d = g j
 cl : ∀ i k, dn i = true -> (qF ops i).contains k = true -> dn k = true
 st : ∀ (k j : Nat) d, kl[k]? = some (GK.st j) -> dn k = true -> D[k]? = some (some d) -> qd b d = cv j
 un : ∀ (m : Nat) d, D[m]? = some (some d) -> dn m = false -> qd b d = qd a d
theorem qU {P : Program} {ops : List Oper} {Q : Exit -> Act -> World -> Prop} {id : Nat} {a : Act} {w : World} (hm : P.follows .mixedOrders = true)
  (hlt : ((List.range ops.toArray.size).all fun i => (qF ops.toArray i).all fun k => decide (k < i)) = true)
  (D : List (Option Nat)) (ch : List Nat) (kl : List GK) (cv : Nat -> Value) (St : Nat -> (Nat -> Value) -> World -> Prop)
  (hD : (List.range ops.toArray.size).map (qA ops.toArray) = D) (hnd : QS D = true) (hDs : D.all (fun d => match d with | some d => decide (d < a.tmps.size) | none => true) = true)
  (hkl : kl.length = ops.toArray.size) (hch : ch.all (fun i => GK.isSt kl[i]?) = true) (hcn : ch.Nodup)
  (h0 : ∀ w1, Fr [] w w1 -> ∃ g, St 0 g w1)
  (hk : Yd (Wf P ops.toArray D ch kl cv St a) 0 kl)
  (hQ : ∀ (b : Act) (p : World), b.defers = a.defers -> b.tmps.size = a.tmps.size -> (∀ s, some s ∉ D -> qd b s = qd a s) -> (∃ g, St ch.length g p /\ ∀ (k j : Nat) d, (kl[k]? = some (GK.gh j) ∨ kl[k]? = some (GK.mv j)) -> D[k]? = some (some d) -> qd b d = g j) -> (∀ (k : Nat) v mx d, kl[k]? = some (GK.rd v mx) -> D[k]? = some (some d) -> qd b d = v) -> Q .normal b p) :
  (Code.region id ops.toArray true).wp P Q a w := by
 have hDl : D.length = ops.toArray.size := by have := congrArg List.length hD; simpa using this.symm
 have hdst : ∀ i, i < ops.toArray.size -> D[i]? = some (qA ops.toArray i) := by
  exact Y25
 have hst : ∀ (j i : Nat), ch[j]? = some i -> ∃ j', kl[i]? = some (GK.st j') ∨ kl[i]? = some (GK.gh j') := by
  intro j i hj
  have h := List.all_eq_true.1 hch i (List.mem_of_getElem? hj)
  cases hx : kl[i]? with
  | none => simp [hx, GK.isSt] at h
  | some k =>
   cases k with
   | rd v mx => simp [hx, GK.isSt] at h
   | mv j' => simp [hx, GK.isSt] at h
   | st j' => exact ⟨_, .inl rfl⟩
   | gh j' => exact ⟨_, .inr rfl⟩
 have hkind : ∀ (i : Nat) k, kl[i]? = some k -> Wf P ops.toArray D ch kl cv St a i k := fun i k hi => by
  have := J1 kl 0 i k hk hi
  rwa [Nat.zero_add] at this
 have hslot : ∀ i d, D[i]? = some (some d) -> d < a.tmps.size := fun i d h => by
  have := List.all_eq_true.1 hDs (some d) (List.mem_of_getElem? h)
  exact of_decide_eq_true this
 refine zF (qdH ops.toArray D ch kl cv St a) hm hlt ?_ ?_ ?_
 ·intro w1 hw1
  obtain ⟨g, hg⟩ := h0 w1 hw1
  exact ⟨rfl, rfl, fun _ _ => rfl, (fun _ _ _ _ _ h => by cases h), ⟨0, g, Nat.zero_le _, fun j i _ => ⟨fun h => by (cases h), fun h => by omega⟩, hg, (fun _ _ _ _ h => by cases h), (fun _ _ _ h => by cases h), fun _ _ _ _ h => by cases h⟩, (fun _ _ h => by cases h), (fun _ _ _ _ h => by cases h), fun _ _ _ _ => rfl⟩
 ·intro i hi dn b p hdn haft ⟨h1, h2, h3, h4, ⟨s, g, hsl, hiff, hS, h6, h7, h8⟩, hcl, h5, hun⟩
  have hcl2 : ∀ x k, uD dn i x = true -> (qF ops.toArray x).contains k = true -> uD dn i k = true := fun x k hx hk => by
   by_cases hki : k = i
   ·subst hki; exact jH dn k
   ·rw [qk dn hki]
    by_cases hxi : x = i
    ·subst hxi; exact haft k hk
    ·rw [qk dn hxi] at hx; exact hcl x k hx hk
  obtain ⟨k, hki⟩ : ∃ k, kl[i]? = some k := ⟨_, List.getElem?_eq_getElem Y95⟩
  have hok := hkind i k hki
  have hsee : Qj ops.toArray D kl cv g a i b := ⟨h2, h3, fun k v mx d hc hv hd => h4 k v mx d hv (haft k hc) hd, fun k j d hc hv hd => h5 k j d hv (haft k hc) hd, fun k j d hc hv hd => h6 k j d hv (haft k hc) hd, fun k j d hc hv hd => h8 k j d hv (haft k hc) hd, fun m d hr hd => hun m d hd (by
   cases hm : dn m with
   | false => rfl
   | true => rw [<- hdn]; exact (jS hcl 6 m i (fun x hx => hcl m x hm hx) hr).symm)⟩
  have hDi := hdst i hi
  have hsz2 : ∀ v, (b.put (qA ops.toArray i) v).tmps.size = a.tmps.size := fun v => by
   cases qA ops.toArray i <;> simp [Act.put, h2]
  have hdf : ∀ v, (b.put (qA ops.toArray i) v).defers = a.defers := fun v => by
   cases qA ops.toArray i <;> exact h1
  have hoth : ∀ v s, some s ≠ qA ops.toArray i -> qd (b.put (qA ops.toArray i) v) s = qd b s := fun v s hs => by
   cases hd : qA ops.toArray i with
   | none => rfl
   | some d => exact x8 (fun e => hs (by rw [hd, e]))
  have hold : ∀ v s, some s ∉ D -> qd (b.put (qA ops.toArray i) v) s = qd a s := fun v s hs => by
   rw [hoth v s (fun e => hs qcm)]; exact h3 s hs
  have hneD : ∀ k d, k ≠ i -> D[k]? = some (some d) -> some d ≠ qA ops.toArray i := fun k d hne hd e => hne (QL D k i d hnd hd (by rw [hDi, e]))
  have hun2 : ∀ v (m : Nat) d, D[m]? = some (some d) -> uD dn i m = false -> qd (b.put (qA ops.toArray i) v) d = qd a d := fun v m d hd hm => by
   have hne : m ≠ i := by rintro rfl; rw [jH] at hm; cases hm
   rw [qk dn hne] at hm
   rw [hoth v d (hneD m d hne hd)]
   exact hun m d hd hm
  have hrd' : ∀ v, (∀ v' mx', kl[i]? ≠ some (GK.rd v' mx')) -> ∀ (k : Nat) v' mx' d', kl[k]? = some (GK.rd v' mx') -> uD dn i k = true -> D[k]? = some (some d') -> qd (b.put (qA ops.toArray i) v) d' = v' := fun v hn k v' mx' d' hk' hdk hd' => by
   have hne : k ≠ i := by rintro rfl; exact hn _ _ hk'
   rw [hoth v d' (hneD k d' hne hd')]
   exact h4 k v' mx' d' hk' Up hd'
  cases k with
  | rd v mx =>
   obtain ⟨⟨d, hd⟩, c2, c3⟩ := hok
   have hdd : qA ops.toArray i = some d := by rw [hDi] at hd; exact Option.some.inj hd
   have hsm : s <= mx := by
    rcases c2 with rfl | ⟨i', hi', hc'⟩
    ·exact hsl
    ·rcases Nat.lt_or_ge mx s with h | h
     ·exfalso
      have hdi := (hiff mx i' hi').2 h
      have := jS hcl 6 i' i (fun m hm => hcl i' m hdi hm) hc'
      exact Y65
     ·exact h
   obtain ⟨o, ho1, ho23⟩ := c3 b p s g hsm (fun j i' hj hc => (hiff j i' hj).1 (haft i' hc)) hS hsee
   have hni : ∀ (k j : Nat), kl[k]? = some (GK.gh j) ∨ kl[k]? = some (GK.st j) -> k ≠ i := by
    rintro k j h rfl
    rw [hki] at h
    rcases h with h | h <;> cases h
   have hnm : ∀ (k j : Nat), kl[k]? = some (GK.mv j) -> k ≠ i := by
    rintro k j h rfl
    rw [hki] at h
    cases h
   suffices hres : qdH ops.toArray D ch kl cv St a (uD dn i) (b.put (qA ops.toArray i) v) p by
    rcases ho23 with ⟨ho2, ho3⟩ | ⟨ho2, rfl⟩
    ·exact VS (v := v) (p := p) o ho1 ho2 ho3 hres
    ·exact qbp o ho1 ho2 hres
   refine ⟨hdf v, hsz2 v, hold v, ?_, ⟨s, g, hsl, ?_, hS, ?_, ?_, ?_⟩, hcl2, ?_, hun2 _⟩
   ·intro k v' mx' d' hk' hdk hd'
    by_cases hki' : k = i
    ·exact Y47
    ·rw [hoth v d' (hneD k d' hki' hd')]
     exact h4 k v' mx' d' hk' Xn hd'
   ·intro j k hj
    have hne : k ≠ i := by
     obtain ⟨_, hq⟩ := hst j _ hj
     exact hni k _ hq.symm
    rw [qk dn hne]; exact hiff j k hj
   ·intro k j d' hk' hdk hd'
    have hne := hni k j (.inl hk')
    rw [hoth v d' (hneD k d' hne hd')]
    exact h6 k j d' hk' Up hd'
   ·intro k j hk' hdk
    exact h7 k j hk' (by rwa [qk dn (hnm k j hk')] at hdk)
   ·intro k j d' hk' hdk hd'
    have hne := hnm k j hk'
    rw [hoth v d' (hneD k d' hne hd')]
    exact h8 k j d' hk' Up hd'
   ·intro k j d' hk' hdk hd'
    have hne := hni k j (.inr hk')
    rw [hoth v d' (hneD k d' hne hd')]
    exact h5 k j d' hk' Up hd'
  | st j =>
   obtain ⟨c1, c2, c3⟩ := hok
   have hsj : s = j := by
    have h0 : ¬ j < s := fun h => by
     have := (hiff j i c1).2 h
     exact Y65
    rcases c2 with rfl | ⟨i', hi', hc'⟩
    ·omega
    ·have := (hiff _ i' hi').1 (jS hcl 6 i i' haft hc')
     omega
   subst hsj
   refine jf (fun v p' hv => ?_) (c3 b p g hS hsee)
   obtain ⟨hS', hvv⟩ := hv
   refine ⟨hdf v, hsz2 v, hold v, hrd' v (fun v' mx' h => by rw [hki] at h; cases h), ⟨s + 1, g, ug c1, ?_, hS', ?_, ?_, ?_⟩, hcl2, ?_, hun2 _⟩
   ·intro j2 k hj
    by_cases hki' : k = i
    ·exact Y55
    ·rw [qk dn hki', hiff j2 k hj]
     exact Y54
   ·intro k j d' hk' hdk hd'
    have hne : k ≠ i := by rintro rfl; rw [hki] at hk'; cases hk'
    rw [hoth v d' (hneD k d' hne hd')]
    exact h6 k j d' hk' Up hd'
   ·exact Y93
   ·intro k j d' hk' hdk hd'
    have hne : k ≠ i := by rintro rfl; rw [hki] at hk'; cases hk'
    rw [hoth v d' (hneD k d' hne hd')]
    exact h8 k j d' hk' Up hd'
   ·intro k j d' hk' hdk hd'
    by_cases hki' : k = i
    ·subst hki'
     rw [hki] at hk'; cases hk'
     have hdd : qA ops.toArray k = some d' := by rw [hDi] at hd'; exact Option.some.inj hd'
     rw [hdd]
     rw [uY (by rw [h2]; exact hslot _ _ hd')]
     rcases hvv with h | h
     ·rw [hd'] at h; cases h
     ·exact h
    ·rw [hoth v d' (hneD k d' hki' hd')]
     exact h5 k j d' hk' Xn hd'
  | gh j =>
   obtain ⟨c1, c2, c3⟩ := hok
   have hsj : s = j := by
    have h0 : ¬ j < s := fun h => by
     have := (hiff j i c1).2 h
     exact Y65
    rcases c2 with rfl | ⟨i', hi', hc'⟩
    ·omega
    ·have := (hiff _ i' hi').1 (jS hcl 6 i i' haft hc')
     omega
   subst hsj
   refine jf (fun v p' hS' => ?_) (c3 b p g hS hsee)
   refine ⟨hdf v, hsz2 v, hold v, hrd' v (fun v' mx' h => by rw [hki] at h; cases h), ⟨s + 1, upd g s v, ug c1, ?_, hS', ?_, ?_, ?_⟩, hcl2, ?_, hun2 _⟩
   ·intro j2 k hj
    by_cases hki' : k = i
    ·exact Y55
    ·rw [qk dn hki', hiff j2 k hj]
     exact Y54
   ·intro k j d' hk' hdk hd'
    by_cases hki' : k = i
    ·subst hki'
     rw [hki] at hk'; cases hk'
     have hdd : qA ops.toArray k = some d' := by rw [hDi] at hd'; exact Option.some.inj hd'
     rw [hdd, uY (by rw [h2]; exact hslot _ _ hd'), qaY]
    ·have hjs : j ≠ s := by
      rintro rfl
      have := (hkind k _ hk').1
      rw [c1] at this
      cases this
      exact hki' rfl
     rw [hoth v d' (hneD k d' hki' hd'), qaC g v hjs]
     exact h6 k j d' hk' Xn hd'
   ·exact Y93
   ·intro k j d' hk' hdk hd'
    have hne : k ≠ i := by rintro rfl; rw [hki] at hk'; cases hk'
    have hdk' : dn k = true := by rwa [qk dn hne] at hdk
    have hlt := h7 k j hk' hdk'
    rw [hoth v d' (hneD k d' hne hd'), qaC g v Y95]
    exact h8 k j d' hk' hdk' hd'
   ·exact Y77
  | mv j =>
   obtain ⟨⟨d, hd⟩, ⟨i', hi', hr'⟩, c3⟩ := hok
   have hdd : qA ops.toArray i = some d := by rw [hDi] at hd; exact Option.some.inj hd
   have hjs : j < s := (hiff j i' hi').1 (jS hcl 6 i i' haft hr')
   obtain ⟨o, ho1, ho2, ho3⟩ := c3 b p s g (fun j i' hj hc => (hiff j i' hj).1 (haft i' hc)) hS hsee
   have hni : ∀ (k j : Nat), kl[k]? = some (GK.gh j) ∨ kl[k]? = some (GK.st j) -> k ≠ i := by
    rintro k j h rfl
    rw [hki] at h
    rcases h with h | h <;> cases h
   refine VS (v := g j) (p := p) o ho1 ho2 ho3 ⟨hdf _, hsz2 _, hold _, hrd' _ (fun v' mx' h => by rw [hki] at h; cases h), ⟨s, g, hsl, ?_, hS, ?_, ?_, ?_⟩, hcl2, ?_, hun2 _⟩
   ·intro j2 k hj
    have hne : k ≠ i := by
     obtain ⟨_, hq⟩ := hst j2 _ hj
     exact hni k _ hq.symm
    rw [qk dn hne]; exact hiff j2 k hj
   ·intro k j2 d' hk' hdk hd'
    have hne := hni k j2 (.inl hk')
    rw [hoth _ d' (hneD k d' hne hd')]
    exact h6 k j2 d' hk' Up hd'
   ·intro k j2 hk' hdk
    by_cases hki' : k = i
    ·subst hki'
     rw [hki] at hk'; cases hk'
     exact hjs
    ·exact h7 k j2 hk' Xn
   ·intro k j2 d' hk' hdk hd'
    by_cases hki' : k = i
    ·exact Y47
    ·rw [hoth _ d' (hneD k d' hki' hd')]
     exact h8 k j2 d' hk' Xn hd'
   ·intro k j2 d' hk' hdk hd'
    have hne := hni k j2 (.inr hk')
    rw [hoth _ d' (hneD k d' hne hd')]
    exact h5 k j2 d' hk' Up hd'
 ·intro dn b p hall ⟨h1, h2, h3, h4, ⟨s, g, hsl, hiff, hS, h6, h7, h8⟩, hcl, h5, hun⟩
  have hs : s = ch.length := by
   rcases Nat.lt_or_ge s ch.length with h | h
   ·exfalso
    have hj := List.getElem?_eq_getElem h
    obtain ⟨_, hq⟩ := hst s _ hj
    have hlt : ch[s] < kl.length := by rcases hq with hq | hq <;> exact ug hq
    have := (hiff s _ hj).1 (hall _ Y95)
    omega
   ·omega
  subst hs
  exact hQ b p h1 h2 h3 ⟨g, hS, fun k j d hv hd => by
   rcases hv with hv | hv
   ·exact h6 k j d hv (hall k (by have := ug hv; omega)) hd
   ·exact h8 k j d hv (hall k (by have := ug hv; omega)) hd⟩ fun k v mx d hv hd => h4 k v mx d hv (hall k (by have := ug hv; omega)) hd
end Go.Bl
