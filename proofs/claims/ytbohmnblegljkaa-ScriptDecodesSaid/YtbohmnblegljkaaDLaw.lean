/-
  The law ScriptDecodes: the walk.
-/
import Derived.Test.YtbohmnblegljkaaSame
import Derived.Test.YtbohmnblegljkaaRDec7
namespace Go.Proofs.Ytbohmnblegljkaa
open Go.RowKit Go.Bl
set_option linter.unusedVariables false

theorem acts_example : acts [2, 0, 3] = [⟨2, 3, 0, 0, 0, ⟨#[]⟩, [], 0, 0, 0, 0, 0, 0, 0, 0, 0⟩] := by
  have h1 : nb 1 [2, 0, 3] = 2 := by decide
  have h2 : rdAct [2, 0, 3] = (⟨2, 3, 0, 0, 0, ⟨#[]⟩, [], 0, 0, 0, 0, 0, 0, 0, 0, 0⟩, 8) := by
    unfold rdAct
    rw [h1, if_neg (by decide), if_neg (by decide), if_neg (by decide)]
    unfold baseA
    rw [h1]
    rfl
  rw [acts_cons _ (by simp), h2]
  simp [acts_nil]

set_option maxRecDepth 100000 in
set_option maxHeartbeats 4000000 in
theorem alive31_any (w : World) : Calls Try.prog 5 #[] w fun e w' => e = .returned (.bool true) ∧ Fr [] w w' := by
  have hb : Bs (fun _ => False) (w.alloc (.cells #[.int .u8 2, .int .u8 0, .int .u8 3] 5)) (.slice (some ⟨w.heap.size, 0, none⟩) 3 3) [2, 0, 3] :=
    ⟨_, 3, rfl, by simp, by simp [maxLen], Row.of_block (heap_alloc_at rfl) (by simp)⟩
  have HD := Lib.hid (decode_any (fun _ => False) _ _ _ hb (by simp))
  clear hb
  go_enter Try.func5, Try.ntmps5
  go_wp2_with fail
  refine HD.out.mono ?_
  rintro e w1 ⟨u, l, rfl, ho, he, hf⟩
  rw [acts_example] at he
  have HF := Lib.hid ((Fr.alloc (S := []) w _).trans hf)
  obtain ⟨x, rfl⟩ : ∃ x, l = [x] := by
    cases l with
    | nil => simp at he
    | cons x r => cases r with
      | nil => exact ⟨x, rfl⟩
      | cons y r => simp at he
  have hx : x.1 = ⟨2, 3, 0, 0, 0, ⟨#[]⟩, [], 0, 0, 0, 0, 0, 0, 0, 0, 0⟩ := by simpa using he
  obtain ⟨a, cap, rfl, g1, g2, g3⟩ := (ho.rd (A := fun _ => False) (by simp)).shape
  obtain ⟨b, off, rfl, -, hc⟩ := g3 (by simp)
  have q0 := hc 0 x rfl 0 (.int .i64 2) (by simp [avC, actC, hx])
  have q1 := hc 0 x rfl 1 (.int .i64 3) (by simp [avC, actC, hx])
  simp only [Nat.zero_mul, Nat.add_zero] at q0 q1
  simp only [List.length_singleton] at g1 ⊢
  unfold maxLen at g2
  clear g3 hc he hx ho hf HD
  go_wp2
  go_ret
  exact ⟨rfl, HF.out⟩

set_option maxRecDepth 100000 in
set_option maxHeartbeats 4000000 in
theorem scriptDecodes_walk (W : World) (v : Value) (xs : List UInt8) (hb : Bs (fun _ => False) W v xs) :
    Calls Try.prog 3 #[v] W fun e w' => e = .returned (.bool true) ∧ Fr [] W w' := by
  obtain ⟨va, vc, rfl, h2, h3, -⟩ := id hb
  unfold maxLen at h3
  by_cases hx : xs.length ≤ 3000
  · have HB := Lib.hid hb
    obtain ⟨N, hN⟩ : ∃ N, xs.length = N := ⟨_, rfl⟩
    rw [hN] at HB hx h2 ⊢
    have HN := Lib.hid hN
    clear hb hN
    go_enter Try.func3, Try.ntmps3
    go_wp2_with fail
    refine (alive31_any _).mono ?_; rintro e w1 ⟨rfl, f1⟩
    have F1 := Lib.hid f1
    have B1 := Lib.hid (HB.out.keep f1 (by simp))
    clear f1
    go_wp2_with fail
    refine (bytes_any (fun _ => False) _ _ xs B1.out (by have := HN.out; omega)).mono ?_; rintro e w2 ⟨u, rfl, m2, f2⟩
    have M2 := Lib.hid m2
    have F2 := Lib.hid (F1.out.trans f2)
    have B2 := Lib.hid (B1.out.keep f2 (by simp))
    clear m2 f2
    go_wp2_with fail
    refine (decode_any (fun _ => False) _ _ xs (M2.out.bs (by simp)) (by have := HN.out; omega)).mono ?_; rintro e w3 ⟨d, l, rfl, o3, e3, f3⟩
    have M3 := Lib.hid (M2.out.keep0 f3)
    have F3 := Lib.hid (F2.out.trans f3)
    have B3 := Lib.hid (B2.out.keep f3 (by simp))
    have R3 := Lib.hid (o3.rd (A := fun _ => False) (by simp))
    have hl : l.length ≤ 1000000 := by
      have := congrArg List.length e3
      have := acts_len xs
      have := HN.out
      simp at *
      omega
    have E3 := Lib.hid e3
    clear o3 e3 f3
    go_wp2_with fail
    refine (of31_any (fun _ => False) _ _ l R3.out hl).mono ?_; rintro e w4 ⟨q, rfl, o4, f4⟩
    have M4 := Lib.hid (M3.out.keep0 f4)
    have F4 := Lib.hid (F3.out.trans f4)
    have B4 := Lib.hid (B3.out.keep f4 (by simp))
    have R4 := Lib.hid (RdA.of_own (A := fun _ => False) o4 (by simp) (fun x hx => (R3.out.2 x hx).keep f4 (by simp)))
    clear o4 f4
    go_wp2_with fail
    refine (rdecode_any (fun _ => False) _ _ xs B4.out (by have := HN.out; omega)).mono ?_; rintro e w5 ⟨r, k, rfl, o5, e5, f5⟩
    have M5 := Lib.hid (M4.out.keep0 f5)
    have F5 := Lib.hid (F4.out.trans f5)
    have B5 := Lib.hid (B4.out.keep f5 (by simp))
    have R5 := Lib.hid (R4.out.keep f5 (by simp))
    have K5 := Lib.hid (o5.rd (A := fun _ => False) (by simp))
    have E5 := Lib.hid e5
    clear o5 e5 f5
    go_wp2_with fail
    refine (rsame_eq (fun _ => False) _ _ _ l k R5.out K5.out hl (E3.out.trans E5.out.symm)).mono ?_; rintro e w6 ⟨rfl, f6⟩
    have M6 := Lib.hid (M5.out.keep0 f6)
    have F6 := Lib.hid (F5.out.trans f6)
    have B6 := Lib.hid (B5.out.keep f6 (by simp))
    clear f6
    go_wp2_with fail
    refine (kept_any (fun _ => False) _ _ _ _ xs M6.out B6.out (by have := HN.out; omega)).mono ?_; rintro e w7 ⟨rfl, f7⟩
    have F7 := Lib.hid (F6.out.trans f7)
    clear f7
    go_wp2
    go_ret
    exact ⟨rfl, F7.out⟩
  · obtain ⟨N, hN⟩ : ∃ N, xs.length = N := ⟨_, rfl⟩
    rw [hN] at hx h2 ⊢
    clear hb hN
    go_enter Try.func3, Try.ntmps3
    go_wp2_with fail
    refine (alive31_any _).mono ?_; rintro e w1 ⟨rfl, f1⟩
    have F1 := Lib.hid f1
    clear f1
    go_wp2
    go_ret
    exact ⟨rfl, F1.out⟩
end Go.Proofs.Ytbohmnblegljkaa
