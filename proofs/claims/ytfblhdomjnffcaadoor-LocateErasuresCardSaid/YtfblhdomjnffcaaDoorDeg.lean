/-
  Layer 2: a polynomial's degree: slices.Backward and the loop over it.
-/
import Derived.Test.YtfblhdomjnffcaaDoorGD
import Derived.RangeFuncBox
import Derived.RangeFuncLeaves
import Derived.Shelf.Abstract
import Derived.WalkKit
import Derived.OwnWalkIn
import Derived.TacticsInMore
import Derived.LoopNIn
import Derived.LoopIn
namespace Go.Proofs.YtfblhdomjnffcaaDoor
open Go.RowKit Go.Bl Go.Shelf
set_option linter.unusedVariables false
attribute [local go_sem] Oper.semAt_some

def bupto {α : Type} (f : Nat → α) (k : Nat) : List α := (List.range k).map f
theorem bupto_succ {α : Type} (f : Nat → α) (k : Nat) : bupto f (k + 1) = bupto f k ++ [f k] := by simp [bupto, List.range_succ]
theorem bupto_length {α : Type} (f : Nat → α) (k : Nat) : (bupto f k).length = k := by simp [bupto]

/-- what comes in round j, from the end on -/
def bwF (zs : List UInt8) (j : Nat) : Nat × Nat := (zs.length - 1 - j, (zs.getD (zs.length - 1 - j) 0).toNat)

set_option maxRecDepth 100000 in
set_option maxHeartbeats 2000000 in
theorem bwd1_in (Fe : Fence) (n : Nat) (hF1 : Fe.fn 97) (hro : Fe.round = none) (hn : 1 ≤ n) (l Bs n₀ b off len cap : Nat) (zs : List UInt8) (hlen : zs.length = len) (hreach : len ≤ 1000000) (hb : b < n₀) (J Jx : List (Nat × Nat) → World → Prop)
    (hY : ∀ pre x W, J pre W → pre.length < len → YieldAt Fe (n - 1) Tryd.prog l #[.int .i64 (x.1 : Int), .int .u8 (x.2 : Int)] W fun e W' =>
      (e = .returned (.bool true) ∧ J (pre ++ [x]) W' ∧ Below n₀ W W') ∨ (e = .returned (.bool false) ∧ Jx (pre ++ [x]) W'))
    (W : World) (hBs : W.cell? ⟨Bs, 0, none⟩ = some (.slice (some ⟨b, off, none⟩) len cap)) (hc : ∀ j, j < len → W.cell? ⟨b, off + j, none⟩ = some (.int .u8 ((zs.getD j 0).toNat : Int))) (h0 : J [] W) (hBn : Bs < n₀) :
    CallsIn Fe n Tryd.prog 97 #[.func (.yield l) #[] #[], .pointer (some ⟨Bs, 0, none⟩)] W fun e W' => (∃ v, e = .returned v) ∧
      ((∃ ys, ys = bupto (bwF zs) len ∧ J ys W') ∨ (∃ pre, (∃ k, k ≤ len ∧ pre = bupto (bwF zs) k) ∧ Jx pre W')) := by
  refine callsIn_of_wp Tryd.func97 rfl hF1 ?_ hro
  simp only [Tryd.ntmps97, List.size_toArray, List.length_cons, List.length_nil, Nat.reduceAdd, Nat.reduceSub, Array.replicate_succ, Array.replicate_zero, List.push_toArray, List.append_toArray, List.nil_append, List.cons_append]
  gi_wp2
  gi_loopw [3] (fun i wr => ∃ k : Nat, k ≤ len ∧ i = .int .i64 ((k : Int) - 1) ∧ J (bupto (bwF zs) (len - k)) wr ∧ Below n₀ W wr)
    (fun i _ => (intOf i + 1).toNat)
  case atStart => exact ⟨len, Nat.le_refl _, by go_num, by rw [Nat.sub_self]; exact h0, Below.refl _ _⟩
  case round =>
    obtain ⟨k, hk, rfl, hJs, hnx⟩ := hrel
    have hBs' := (hnx.cell (p := ⟨Bs, 0, none⟩) hBn).trans hBs
    cases k with
    | zero =>
      rw [Nat.sub_zero] at hJs
      gi_wp2
      go_end0
      exact ⟨⟨_, rfl⟩, .inl ⟨_, rfl, hJs⟩⟩
    | succ k =>
      have hx : bwF zs (len - (k + 1)) = (k, (zs.getD k 0).toNat) := by
        unfold bwF
        rw [hlen, show len - 1 - (len - (k + 1)) = k by omega]
      have hcx : wr.cell? ⟨b, off + k, none⟩ = some (.int .u8 ((zs.getD k 0).toNat : Int)) := (hnx.cell (p := ⟨b, off + k, none⟩) hb).trans (hc k (by omega))
      have hji : ((k + 1 : Nat) : Int) - 1 = k := by omega
      rw [hji]
      obtain ⟨z, hz⟩ : ∃ z, (zs.getD k 0).toNat = z := ⟨_, rfl⟩
      rw [hz] at hx hcx
      obtain ⟨fn, tmps, assign, body, hy, hR⟩ := hY _ (k, z) wr hJs (by rw [bupto_length]; omega)
      dsimp only at hy
      have hst := bupto_succ (bwF zs) (len - (k + 1))
      rw [hx, show len - (k + 1) + 1 = len - k by omega] at hst
      gi_wp2
      refine hR.mono ?_
      rintro e W3 (⟨rfl, hJ3, hk3⟩ | ⟨rfl, hJx3⟩)
      · gi_wp2
        go_roundw
        case rel => exact ⟨k, by omega, rfl, by rw [hst]; exact hJ3, hnx.trans hk3⟩
        case measure => simp [intOf]
      · gi_wp2
        refine bodyPost_ret (results_none rfl _ _ _) rfl ?_
        exact ⟨⟨_, rfl⟩, .inr ⟨_, ⟨len - k, by omega, hst.symm⟩, hJx3⟩⟩
set_option maxRecDepth 100000 in
set_option maxHeartbeats 1000000 in
theorem bwd1_nil_in (Fe : Fence) (n : Nat) (hF1 : Fe.fn 97) (hro : Fe.round = none) (l Bs : Nat) (J : List (Nat × Nat) → World → Prop) (W : World) (hBs : W.cell? ⟨Bs, 0, none⟩ = some (.slice none 0 0)) (h0 : J [] W) :
    CallsIn Fe n Tryd.prog 97 #[.func (.yield l) #[] #[], .pointer (some ⟨Bs, 0, none⟩)] W fun e W' => (∃ v, e = .returned v) ∧ J [] W' := by
  refine callsIn_of_wp Tryd.func97 rfl hF1 ?_ hro
  simp only [Tryd.ntmps97, List.size_toArray, List.length_cons, List.length_nil, Nat.reduceAdd, Nat.reduceSub, Array.replicate_succ, Array.replicate_zero, List.push_toArray, List.append_toArray, List.nil_append, List.cons_append]
  gi_wp2
  gi_loopw [3] (fun i wr => i = .int .i64 (-1) ∧ J [] wr) (fun _ _ => 0)
  case atStart => exact ⟨rfl, h0⟩
  case round =>
    obtain ⟨rfl, hJs⟩ := hrel
    gi_wp2
    go_end0
    exact ⟨⟨_, rfl⟩, hJs⟩

set_option maxHeartbeats 1000000 in
theorem bwd_in (Fe : Fence) (n : Nat) (hF0 : Fe.fn 68) (hro : Fe.round = none) (a : Option Addr) (len cap : Nat) (w : World) :
    CallsIn Fe n Tryd.prog 68 #[.slice a len cap] w fun e w' => e = .returned (.func (.func 97) #[] #[.pointer (some ⟨w.heap.size, 0, none⟩)]) ∧ w' = w.alloc (.cells #[.slice a len cap] 22) := by
  refine callsIn_of_wp Tryd.func68 rfl hF0 ?_ hro
  simp only [Tryd.ntmps68, List.size_toArray, List.length_cons, List.length_nil, Nat.reduceAdd, Nat.reduceSub, Array.replicate_succ, Array.replicate_zero, List.push_toArray, List.append_toArray, List.nil_append, List.cons_append]
  gi_wp2
  go_ret
  exact ⟨rfl, rfl⟩

/-- the slice value sv holds the bytes zs in a block below n₀, or it is nil -/
def BwI (n₀ : Nat) (W : World) (sv : Value) (zs : List UInt8) : Prop :=
  (sv = .slice none 0 0 ∧ zs = []) ∨ ∃ b off cap, sv = .slice (some ⟨b, off, none⟩) zs.length cap ∧ b < n₀ ∧ ∀ j, j < zs.length → W.cell? ⟨b, off + j, none⟩ = some (.int .u8 ((zs.getD j 0).toNat : Int))
theorem BwI.below {n₀ : Nat} {A B : World} (h : Below n₀ A B) {sv : Value} {zs : List UInt8} : BwI n₀ A sv zs → BwI n₀ B sv zs
  | .inl e => .inl e
  | .inr ⟨b, off, cap, e, hb, hc⟩ => .inr ⟨b, off, cap, e, hb, fun j hj => (h.cell (p := ⟨b, off + j, none⟩) hb).trans (hc j hj)⟩
theorem bwd_stops (Fe : Fence) (n : Nat) (hF1 : Fe.fn 97) (hro : Fe.round = none) (hn : 1 ≤ n) (Bs n₀ : Nat) (sv : Value) (zs : List UInt8) (hreach : zs.length ≤ 1000000) (w : World) (hBs : Bs < w.heap.size) (hB0 : Bs < n₀) (hn₀ : n₀ ≤ w.heap.size)
    (hc : w.cell? ⟨Bs, 0, none⟩ = some sv) (hI : BwI n₀ w sv zs) :
    SeqStopsK Fe n Tryd.prog 97 #[.pointer (some ⟨Bs, 0, none⟩)] (fun x : Nat × Nat => #[Value.int .i64 (x.1 : Int), Value.int .u8 (x.2 : Int)]) (Below n₀) (fun ys => ys = bupto (bwF zs) zs.length)
      (fun pre => ∃ k, k ≤ zs.length ∧ pre = bupto (bwF zs) k) zs.length w := fun l J Jx W hW _ _ hY h0 => by
  have hc' := (hW.cell (p := ⟨Bs, 0, none⟩) hBs).trans hc
  rcases hI.below (hW.mono hn₀) with ⟨rfl, rfl⟩ | ⟨b, off, cap, rfl, hb, hcs⟩
  · exact (bwd1_nil_in Fe n hF1 hro l Bs J W hc' h0).mono fun e W' ⟨he, hj⟩ => ⟨he, .inl ⟨_, rfl, hj⟩⟩
  · exact bwd1_in Fe n hF1 hro hn l Bs n₀ b off zs.length cap zs rfl hreach hb J Jx hY W hc' hcs h0 hB0
end Go.Proofs.YtfblhdomjnffcaaDoor
