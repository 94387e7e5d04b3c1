/-
  Layer 31: script.Same.
-/
import Derived.Test.YtbohmnblegljkaaSsm
import Derived.Test.YtbohmnblegljkaaSame
import Derived.Laws.StructEq
namespace Go.Proofs.Ytbohmnblegljkaa
open Go.RowKit Go.Bl
set_option linter.unusedVariables false

theorem bytes_ne {xs ys : List UInt8} (h : xs ≠ ys) : (⟨xs.toArray⟩ : ByteArray) ≠ ⟨ys.toArray⟩ := by
  intro e
  have := congrArg (·.data.toList) e
  exact h (by simpa using this)
theorem ba_no {a b : ByteArray} (h : a ≠ b) : (a == b) = false := by
  cases hh : a == b with
  | false => rfl
  | true =>
    obtain ⟨x⟩ := a
    obtain ⟨y⟩ := b
    have h2 : (x == y) = true := hh
    exact absurd (by rw [beq_iff_eq.1 h2]) h
theorem ba_yes {a b : ByteArray} (h : a = b) : (a == b) = true := by
  subst h
  obtain ⟨x⟩ := a
  show (x == x) = true
  simp
theorem tl_no {a b : ByteArray} (h : a ≠ b) : (a.toList == b.toList) = false := by
  have := ba_no h
  simpa [beq_toListBytes] using this
theorem tl_yes {a b : ByteArray} (h : a = b) : (a.toList == b.toList) = true := by
  subst h
  simp
theorem beq_yes (A : Nat → Prop) (w : World) (u v : Value) (xs : List UInt8) (h1 : Bs A w u xs) (h2 : Bs A w v xs) :
    Calls Try.prog 18 #[u, v] w fun e w' => e = .returned (.bool true) ∧ Fr [] w w' := by
  have H1 := Lib.hid h1
  have H2 := Lib.hid h2
  obtain ⟨o1, n1, c1, rfl⟩ := bs_shape h1
  obtain ⟨o2, n2, c2, rfl⟩ := bs_shape h2
  clear h1 h2
  go_enter Try.func18, Try.ntmps18
  go_wp2_with (first | (refine wpl_str (src := 22) (dst := 9) Try.underlying22 Try.underlying5 Try.underlying9 (.tmp 5) rfl rfl rfl H1.out ?_) | (refine wpl_str (src := 22) (dst := 9) Try.underlying22 Try.underlying5 Try.underlying9 (.tmp 7) rfl rfl rfl H2.out ?_))
  go_ret
  exact ⟨rfl, Fr.refl _ _⟩
theorem beq_no (A : Nat → Prop) (w : World) (u v : Value) (xs ys : List UInt8) (h1 : Bs A w u xs) (h2 : Bs A w v ys) (hne : xs ≠ ys) :
    Calls Try.prog 18 #[u, v] w fun e w' => e = .returned (.bool false) ∧ Fr [] w w' := by
  have H1 := Lib.hid h1
  have H2 := Lib.hid h2
  obtain ⟨o1, n1, c1, rfl⟩ := bs_shape h1
  obtain ⟨o2, n2, c2, rfl⟩ := bs_shape h2
  have hb : (xs == ys) = false := by rw [beq_eq_false_iff_ne]; exact hne
  clear h1 h2
  go_enter Try.func18, Try.ntmps18
  go_wp2_with (first | (refine wpl_str (src := 22) (dst := 9) Try.underlying22 Try.underlying5 Try.underlying9 (.tmp 5) rfl rfl rfl H1.out ?_) | (refine wpl_str (src := 22) (dst := 9) Try.underlying22 Try.underlying5 Try.underlying9 (.tmp 7) rfl rfl rfl H2.out ?_))
  go_ret
  exact ⟨rfl, Fr.refl _ _⟩
end Go.Proofs.Ytbohmnblegljkaa
