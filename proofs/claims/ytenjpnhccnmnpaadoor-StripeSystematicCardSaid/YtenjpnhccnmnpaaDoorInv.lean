/-
  A law on the model: a region that draws its order, by what holds of every set of operations that may be done.
-/
import Derived.Test.YtenjpnhccnmnpaaDoorPr
namespace Go.Bl
open Go.RowKit
set_option linter.unusedVariables false

theorem RN.fr {x y : World} (h : RN x.heap.size x y) : Fr [] x y := ⟨h.os, h.tape, h.output, h.size, fun k hk _ => h.below k hk hk⟩

/-- the operations of dn and i -/
def also (dn : Nat → Bool) (i : Nat) (k : Nat) : Bool := dn k || decide (k = i)
theorem also_self (dn : Nat → Bool) (i : Nat) : also dn i i = true := by simp [also]
theorem also_ne (dn : Nat → Bool) {i k : Nat} (h : k ≠ i) : also dn i k = dn k := by simp [also, h]

theorem wp_region_inv {P : Program} {ops : List Oper} {Q : Exit → Act → World → Prop} {id : Nat} {a : Act} {w : World} (I : (Nat → Bool) → Act → World → Prop) (hm : P.follows .mixedOrders = true)
    (hlt : ((List.range ops.toArray.size).all fun i => (afters ops.toArray i).all fun k => decide (k < i)) = true)
    (h0 : ∀ w1 : World, Fr [] w w1 → I (fun _ => false) a w1)
    (step : ∀ i, i < ops.toArray.size → ∀ (dn : Nat → Bool) (a : Act) (w : World), dn i = false → (∀ k, (afters ops.toArray i).contains k = true → dn k = true) → I dn a w →
      opV P ops.toArray i a w fun v p => I (also dn i) (a.put (dstOf ops.toArray i) v) p)
    (fin : ∀ (dn : Nat → Bool) (a : Act) (w : World), (∀ i, i < ops.toArray.size → dn i = true) → I dn a w → Q .normal a w) : (Code.region id ops.toArray true).wp P Q a w := by
  obtain ⟨A, hA⟩ : ∃ A, ops.toArray = A := ⟨_, rfl⟩
  rw [hA] at hlt step fin ⊢
  clear hA
  have lt : ∀ i, i < A.size → ∀ k ∈ afters A i, k < i := fun i hi k hk => of_decide_eq_true (List.all_eq_true.1 (List.all_eq_true.1 hlt i (List.mem_range.2 hi)) k hk)
  have main : ∀ (fuel : Nat) (listed : Array Bool) (dn : Nat → Bool) (a : Act) (w : World), listed.size = A.size → (∀ i, i < A.size → isDone listed i = dn i) →
      (((List.range A.size).map fun i => (Kind.val, i)).filter fun s => !isDone listed s.2).length ≤ fuel → I dn a w → wpAny P .any A Q fuel listed a w := by
    intro fuel
    have nil : ∀ (listed : Array Bool), listed.size = A.size → Region.ready .any A listed = [] → ∀ i, i < A.size → isDone listed i = true := by
      intro listed hz hr i
      induction i using Nat.strongRecOn with
      | _ i ih =>
        intro hi
        cases hd : isDone listed i with
        | true => rfl
        | false =>
          exfalso
          have : i ∈ Region.ready .any A listed := (ready_iff hz hi).2 ⟨hd, fun k hk => ih k (lt i hi k hk) (by have := lt i hi k hk; omega)⟩
          rw [hr] at this
          cases this
    induction fuel with
    | zero =>
      intro listed dn a w hz hd hc hI
      have hall : ∀ i, i < A.size → isDone listed i = true := by
        intro i hi
        cases hx : isDone listed i with
        | true => rfl
        | false =>
          exfalso
          have : (Kind.val, i) ∈ ((List.range A.size).map fun i => (Kind.val, i)).filter fun s => !isDone listed s.2 := by
            rw [List.mem_filter]
            exact ⟨List.mem_map.2 ⟨i, List.mem_range.2 hi, rfl⟩, by simp [hx]⟩
          have := List.length_pos_of_mem this
          omega
      refine ⟨?_, fin dn a w (fun i hi => by rw [← hd i hi]; exact hall i hi) hI⟩
      rw [List.eq_nil_iff_forall_not_mem]
      intro i hi
      have hl := ready_lt hi
      have := ((ready_iff hz hl).1 hi).1
      rw [hall i hl] at this
      cases this
    | succ fuel ih =>
      intro listed dn a w hz hd hc hI
      refine ⟨fun hr => fin dn a w (fun i hi => by rw [← hd i hi]; exact nil listed hz hr i hi) hI, fun i hi => ?_⟩
      have hl := ready_lt hi
      obtain ⟨q1, q2⟩ := (ready_iff hz hl).1 hi
      refine wpOp_of_opV (step i hl dn a w (by rw [← hd i hl]; exact q1) (fun k hk => ?_) hI) fun v p hp => ?_
      · have hk' : k ∈ afters A i := by simpa using hk
        rw [← hd k (by have := lt i hl k hk'; omega)]
        exact q2 k hk'
      · refine ih (listed.setIfInBounds i true) (also dn i) _ p (by simpa using hz) (fun k hk => ?_) ?_ hp
        · by_cases hki : k = i
          · subst hki
            rw [isDone_set (by omega), also_self]
          · rw [isDone_set_ne hki, also_ne dn hki]
            exact hd k hk
        · have := (count_set (listed := listed) q1 (by omega) ((List.range A.size).map fun i => (Kind.val, i))).2 ⟨(Kind.val, i), List.mem_map.2 ⟨i, List.mem_range.2 hl, rfl⟩, rfl⟩
          omega
  refine wp_region_any hm ?_
  refine main _ _ (fun _ => false) _ _ (by simp) (fun i hi => by simp [isDone, Array.getD, hi]) ?_ (h0 _ (Fr.of_heap rfl rfl rfl rfl))
  have := List.length_filter_le (fun s : Kind × Nat => !isDone (Array.replicate A.size false) s.2) ((List.range A.size).map fun i => (Kind.val, i))
  simpa using this
/-- an operation by its own run -/
theorem opV_run {P : Program} {ops : Array Oper} {K : Value → World → Prop} {i : Nat} {a : Act} {u p : World} {v : Value} (o : Oper) (ho : ops[i]? = some o) (hg : o.guard = none) (hr : (execOp a.eval o).run P u = .ok (.value v) p) (h : K v p) : opV P ops i a u K := by
  unfold opV
  simp only [ho, Region.wanted, hg, if_true, hr]
  exact h
end Go.Bl
