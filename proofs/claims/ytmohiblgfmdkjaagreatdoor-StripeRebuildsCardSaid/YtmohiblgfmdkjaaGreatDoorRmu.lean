import Derived.Test.YtmohiblgfmdkjaaGreatDoorGD
import Derived.Test.YtmohiblgfmdkjaaGreatDoorGC
namespace Go.Proofs.YtmohiblgfmdkjaaGreatDoor
open Go.RowKit Go.Bl
set_option linter.unusedVariables false
theorem bit_odd (n j : Nat) : (((n : Int) / 2 ^ j).tmod 2 == 1) = decide (n / 2 ^ j % 2 = 1) := by
  have h : ((n : Int) / 2 ^ j) = ((n / 2 ^ j : Nat) : Int) := by simp
  rw [h, show (2 : Int) = ((2 : Nat) : Int) from rfl, ← Int.ofNat_tmod]
  by_cases hc : n / 2 ^ j % 2 = 1
  · simp [hc]
  · rw [decide_eq_false hc]
    simp only [beq_eq_false_iff_ne]
    omega
theorem xor_up (P x j : Nat) (hP : P < 65536) (hx : x * 2 ^ j < 65536) : bits .xor .i64 (P : Int) (wrap64 ((x : Int) * 2 ^ j)) = ((P ^^^ x * 2 ^ j : Nat) : Int) ∧ P ^^^ x * 2 ^ j < 65536 := by
  have h : ((x : Int) * 2 ^ j) = ((x * 2 ^ j : Nat) : Int) := by simp
  rw [h, show wrap64 ((x * 2 ^ j : Nat) : Int) = ((x * 2 ^ j : Nat) : Int) by unfold wrap64; omega, i64_xor_nat _ _ hP hx]
  exact ⟨rfl, Nat.xor_lt_two_pow (n := 16) hP hx⟩
theorem pow_le8 (x j : Nat) (hx : x < 512) (hj : j < 8) : x * 2 ^ j < 65536 := by
  have h : 2 ^ j ≤ 2 ^ 7 := Nat.pow_le_pow_right (by omega) (by omega)
  calc x * 2 ^ j ≤ x * 2 ^ 7 := Nat.mul_le_mul_left _ h
    _ < 65536 := by omega
set_option maxRecDepth 100000 in
set_option maxHeartbeats 2000000 in
theorem rmul_any (w : World) (a b : UInt8) : Calls Tryz.prog 57 #[u8v a, u8v b] w fun e w' => e = .returned (u8v (gmul a b)) ∧ Fr [] w w' := by
  have HG := Lib.hid (rmul_gmul a b)
  have hna := a.toNat_lt
  have hnb := b.toNat_lt
  have hng := (gmul a b).toNat_lt
  unfold u8v
  obtain ⟨x, hx⟩ : ∃ x, a.toNat = x := ⟨_, rfl⟩
  obtain ⟨y, hy⟩ : ∃ y, b.toNat = y := ⟨_, rfl⟩
  obtain ⟨z, hz⟩ : ∃ z, (gmul a b).toNat = z := ⟨_, rfl⟩
  rw [hx, hy, hz] at HG
  rw [hx] at hna ⊢
  rw [hy] at hnb ⊢
  rw [hz] at hng ⊢
  clear hx hy hz
  go_enter Tryz.func57, Tryz.ntmps57
  go_wp2
  go_loopw [5, 6] (fun p i wr => ∃ (j : Nat) (P : Nat), j ≤ 8 ∧ i = .int .i64 j ∧ p = .int .i64 P ∧ P < 65536 ∧ Hid (P = rm1 x y j) ∧ wr = w) (fun _ i _ => 8 - (intOf i).toNat)
  case atStart => exact ⟨0, 0, by omega, rfl, rfl, by omega, Lib.hid rfl, rfl⟩
  case round =>
    obtain ⟨j, P, hj, rfl, rfl, hP, HP, rfl⟩ := hrel
    by_cases hjn : j < 8
    · have HX := Lib.hid (xor_up P x j hP (pow_le8 x j (by omega) hjn))
      by_cases hc : y / 2 ^ j % 2 = 1
      · have hb : (((y : Int) / 2 ^ j).tmod 2 == 1) = true := by rw [bit_odd]; exact decide_eq_true hc
        have HP' := Lib.hid (show P ^^^ x * 2 ^ j = rm1 x y (j + 1) by
          show _ = if y / 2 ^ j % 2 = 1 then rm1 x y j ^^^ x * 2 ^ j else rm1 x y j
          rw [if_pos hc, ← HP.out])
        clear hc HP
        go_wp2
        rw [HX.out.1]
        constructor
        · exact ⟨j + 1, P ^^^ x * 2 ^ j, by omega, by go_num, rfl, HX.out.2, HP', trivial⟩
        · simp [intOf]; omega
      · have hb : (((y : Int) / 2 ^ j).tmod 2 == 1) = false := by rw [bit_odd]; exact decide_eq_false hc
        have HP' := Lib.hid (show P = rm1 x y (j + 1) by
          show _ = if y / 2 ^ j % 2 = 1 then rm1 x y j ^^^ x * 2 ^ j else rm1 x y j
          rw [if_neg hc, ← HP.out])
        clear hc HP
        go_wp2
        constructor
        · exact ⟨j + 1, P, by omega, by go_num, rfl, hP, HP', trivial⟩
        · simp [intOf]; omega
    · obtain rfl : j = 8 := by omega
      go_wp2
      go_loopw [5, 7] (fun p i wr2 => ∃ (k m : Nat) (R : Nat), k + m = 14 ∧ 7 ≤ m ∧ i = .int .i64 m ∧ p = .int .i64 R ∧ R < 65536 ∧ Hid (R = rm2 P k) ∧ wr2 = wr) (fun _ i _ => (intOf i).toNat)
      case atStart => exact ⟨0, 14, P, by omega, by omega, rfl, rfl, hP, Lib.hid rfl, rfl⟩
      case round =>
        obtain ⟨k, m, R, hk, hm, rfl, rfl, hR, HR, rfl⟩ := hrel
        by_cases hmn : 8 ≤ m
        · have HX := Lib.hid (xor_up R 285 (m - 8) hR (pow_le8 285 (m - 8) (by omega) (by omega)))
          by_cases hc : R / 2 ^ m % 2 = 1
          · have hb : (((R : Int) / 2 ^ m).tmod 2 == 1) = true := by rw [bit_odd]; exact decide_eq_true hc
            have HP' := Lib.hid (show R ^^^ 285 * 2 ^ (m - 8) = rm2 P (k + 1) by
              show _ = if rm2 P k / 2 ^ (14 - k) % 2 = 1 then rm2 P k ^^^ 285 * 2 ^ (6 - k) else rm2 P k
              rw [← HR.out, show 14 - k = m by omega, show 6 - k = m - 8 by omega, if_pos hc])
            clear hc HR
            go_wp2
            have e : bits .xor .i64 (R : Int) (wrap64 (285 * 2 ^ (m - 8))) = ((R ^^^ 285 * 2 ^ (m - 8) : Nat) : Int) := HX.out.1
            rw [e]
            constructor
            · exact ⟨k + 1, m - 1, _, by omega, by omega, by go_num, rfl, HX.out.2, HP', trivial⟩
            · simp [intOf]; omega
          · have hb : (((R : Int) / 2 ^ m).tmod 2 == 1) = false := by rw [bit_odd]; exact decide_eq_false hc
            have HP' := Lib.hid (show R = rm2 P (k + 1) by
              show _ = if rm2 P k / 2 ^ (14 - k) % 2 = 1 then rm2 P k ^^^ 285 * 2 ^ (6 - k) else rm2 P k
              rw [← HR.out, show 14 - k = m by omega, show 6 - k = m - 8 by omega, if_neg hc])
            clear hc HR
            go_wp2
            constructor
            · exact ⟨k + 1, m - 1, R, by omega, by omega, by go_num, rfl, hR, HP', trivial⟩
            · simp [intOf]; omega
        · obtain rfl : m = 7 := by omega
          obtain rfl : k = 7 := by omega
          have HE := Lib.hid (show R = z by rw [← HG.out, HR.out, HP.out]; rfl)
          go_wp2
          go_ret
          refine ⟨?_, Fr.refl _ _⟩
          refine congrArg (fun q => Ending.returned (.int .u8 q)) ?_
          have := HE.out
          omega
end Go.Proofs.YtmohiblgfmdkjaaGreatDoor
