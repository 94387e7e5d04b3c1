/-
  The chapter's example: alive of law 31.
-/
import Derived.Test.YtbohmnblegljkaaOf
namespace Go.Proofs.Ytbohmnblegljkaa
open Go.RowKit Go.Bl
set_option linter.unusedVariables false

theorem acts_example : acts [2, 0, 3] = [⟨2, 3, 0, 0, 0, ⟨#[]⟩, [], 0, 0, 0, 0, 0, 0, 0, 0, 0⟩] := by
  have h1 : nb 1 [2, 0, 3] = 2 := by decide
  have h2 : rdAct [2, 0, 3] = (⟨2, 3, 0, 0, 0, ⟨#[]⟩, [], 0, 0, 0, 0, 0, 0, 0, 0, 0⟩, 8) := by
    unfold rdAct
    rw [h1, if_neg (by decide), if_neg (by decide), if_neg (by decide)]
    unfold baseA
    rw [h1]
    rfl
  rw [acts_cons _ (by simp), h2]
  simp [acts_nil]

set_option maxRecDepth 100000 in
set_option maxHeartbeats 4000000 in
theorem alive31_any (w : World) : Calls Try.prog 5 #[] w fun e w' => e = .returned (.bool true) ∧ Fr [] w w' := by
  have hb : Bs (fun _ => False) (w.alloc (.cells #[.int .u8 2, .int .u8 0, .int .u8 3] 5)) (.slice (some ⟨w.heap.size, 0, none⟩) 3 3) [2, 0, 3] :=
    ⟨_, 3, rfl, by simp, by simp [maxLen], Row.of_block (heap_alloc_at rfl) (by simp)⟩
  have HD := Lib.hid (decode_any (fun _ => False) _ _ _ hb (by simp))
  clear hb
  go_enter Try.func5, Try.ntmps5
  go_wp2_with fail
  refine HD.out.mono ?_
  rintro e w1 ⟨u, l, rfl, ho, he, hf⟩
  rw [acts_example] at he
  have HF := Lib.hid ((Fr.alloc (S := []) w _).trans hf)
  obtain ⟨x, rfl⟩ : ∃ x, l = [x] := by
    cases l with
    | nil => simp at he
    | cons x r => cases r with
      | nil => exact ⟨x, rfl⟩
      | cons y r => simp at he
  have hx : x.1 = ⟨2, 3, 0, 0, 0, ⟨#[]⟩, [], 0, 0, 0, 0, 0, 0, 0, 0, 0⟩ := by simpa using he
  obtain ⟨a, cap, rfl, g1, g2, g3⟩ := (ho.rd (A := fun _ => False) (by simp)).shape
  obtain ⟨b, off, rfl, -, hc⟩ := g3 (by simp)
  have q0 := hc 0 x rfl 0 (.int .i64 2) (by simp [avC, actC, hx])
  have q1 := hc 0 x rfl 1 (.int .i64 3) (by simp [avC, actC, hx])
  simp only [Nat.zero_mul, Nat.add_zero] at q0 q1
  simp only [List.length_singleton] at g1 ⊢
  unfold maxLen at g2
  clear g3 hc he hx ho hf HD
  go_wp2
  go_ret
  exact ⟨rfl, HF.out⟩

end Go.Proofs.Ytbohmnblegljkaa
