/-
  Layer 31: the document's cursor, by what is left.
-/
import Derived.Test.YtbohmnblegljkaaCur
namespace Go.Proofs.Ytbohmnblegljkaa
open Go.RowKit Go.Bl
set_option linter.unusedVariables false

/-- a cursor over xs, before ys -/
def CuR (A : Nat → Prop) (w : World) (rb : Nat) (v : Value) (xs ys : List UInt8) : Prop := ∃ K, Cu A w rb v xs K ∧ xs.drop K = ys
theorem CuR.keep {A : Nat → Prop} {w w' : World} {rb : Nat} {v : Value} {xs ys : List UInt8} {S : List Nat} (h : CuR A w rb v xs ys) (hf : Fr S w w') (hS : ∀ b ∈ S, A b) (hn : rb ∉ S) : CuR A w' rb v xs ys := by
  obtain ⟨K, h1, h2⟩ := h
  exact ⟨K, h1.keep hf hS hn, h2⟩
theorem CuR.lt {A : Nat → Prop} {w : World} {rb : Nat} {v : Value} {xs ys : List UInt8} (h : CuR A w rb v xs ys) : rb < w.heap.size := by
  obtain ⟨K, h1, h2⟩ := h
  exact h1.2.1.lt
theorem drop_most (xs : List UInt8) (K n : Nat) : xs.drop (K + most xs K n) = (xs.drop K).drop n := by
  rw [List.drop_drop]
  unfold most
  rcases Nat.le_total n (xs.length - K) with h | h
  · rw [Nat.min_eq_left h]
  · rw [Nat.min_eq_right h, List.drop_of_length_le (by omega), List.drop_of_length_le (by omega)]

theorem cnum_nb (A : Nat → Prop) (w : World) (rb : Nat) (v : Value) (xs ys : List UInt8) (k j : Nat) (hc : CuR A w rb v xs (ys.drop j)) (hk : 1 ≤ k) (hk' : k ≤ 2) (hx : xs.length ≤ 1000000) :
    Calls Try.prog 16 #[.pointer (some ⟨rb, 0, none⟩), .int .i64 k] w fun e w' => e = .returned (.int .i64 (nb k (ys.drop j))) ∧ CuR A w' rb v xs (ys.drop (j + k)) ∧ Fr [rb] w w' := by
  obtain ⟨K, h1, h2⟩ := hc
  have hb := nb_lt k (ys.drop j) hk'
  have hw : wrap64 (nb k (ys.drop j)) = (nb k (ys.drop j) : Int) := by unfold wrap64; omega
  refine (cnum_any A w rb v xs K k h1 hk (by omega) hx).mono ?_
  rintro e w' ⟨rfl, h3, h4⟩
  rw [h2, hw]
  exact ⟨rfl, ⟨_, h3, by rw [drop_most, h2, List.drop_drop]⟩, h4⟩
theorem cnum_8 (A : Nat → Prop) (w : World) (rb : Nat) (v : Value) (xs ys : List UInt8) (j : Nat) (hc : CuR A w rb v xs (ys.drop j)) (hx : xs.length ≤ 1000000) :
    Calls Try.prog 16 #[.pointer (some ⟨rb, 0, none⟩), .int .i64 8] w fun e w' => e = .returned (.int .i64 (wrap64 (nb 8 (ys.drop j)))) ∧ CuR A w' rb v xs (ys.drop (j + 8)) ∧ Fr [rb] w w' := by
  obtain ⟨K, h1, h2⟩ := hc
  refine (cnum_any A w rb v xs K 8 h1 (by omega) (by omega) hx).mono ?_
  rintro e w' ⟨rfl, h3, h4⟩
  rw [h2]
  exact ⟨rfl, ⟨_, h3, by rw [drop_most, h2, List.drop_drop]⟩, h4⟩
theorem ctake_nb (A : Nat → Prop) (w : World) (rb : Nat) (v : Value) (xs ys : List UInt8) (k j : Nat) (hc : CuR A w rb v xs (ys.drop j)) (hk : k ≤ 65536) (hx : xs.length ≤ 1000000) :
    Calls Try.prog 17 #[.pointer (some ⟨rb, 0, none⟩), .int .i64 k] w fun e w' => ∃ u, e = .returned u ∧ OwnB 5 w.heap.size w' u ((ys.drop j).take k) ∧ CuR A w' rb v xs (ys.drop (j + k)) ∧ Fr [rb] w w' := by
  obtain ⟨K, h1, h2⟩ := hc
  refine (ctake_any A w rb v xs K k h1 hk hx).mono ?_
  rintro e w' ⟨u, rfl, h0, h3, h4⟩
  rw [h2] at h0
  exact ⟨u, rfl, h0, ⟨_, h3, by rw [drop_most, h2, List.drop_drop]⟩, h4⟩
theorem nb8_back (ys : List UInt8) : IntKind.u64.wrap (wrap64 (nb 8 ys)) = (nb 8 ys : Int) := by
  have h1 := num8_lt 8 (padTo 8 ys) (padTo_length 8 ys)
  have h3 : (256 : Nat) ^ 8 = 18446744073709551616 := by decide
  unfold nb
  rw [IntKind.wrap_u64]
  unfold wrap64
  omega
end Go.Proofs.Ytbohmnblegljkaa
