import Derived.Test.YtmohiblgfmdkjaaGreatDoorRmu
import Derived.Test.YtmohiblgfmdkjaaGreatDoorJM
import Derived.Test.YtmohiblgfmdkjaaGreatDoorGF
import Derived.Test.YtmohiblgfmdkjaaGreatDoorGD
import Derived.Test.YtmohiblgfmdkjaaGreatDoorGC
namespace Go.Proofs.YtmohiblgfmdkjaaGreatDoor
open Go.RowKit Go.Bl
set_option linter.unusedVariables false
set_option maxRecDepth 100000 in
set_option maxHeartbeats 1000000 in
theorem rat_any (A : Nat → Prop) (w : World) (v : Value) (xs : List UInt8) (j : Nat) (hb : Bs A w v xs) (hl : xs.length ≤ 1000000) :
    Calls Tryz.prog 59 #[v, .int .i64 j] w fun e w' => e = .returned (.int .u8 ((cf xs j).toNat : Int)) ∧ Fr [] w w' := by
  have HB := Lib.hid hb
  obtain ⟨a, cap, rfl, h2, h3, -⟩ := hb
  unfold maxLen at h3
  by_cases hj : j < xs.length
  · have hji : ¬ (xs.length : Int) ≤ (j : Int) := by omega
    obtain ⟨b, off, rfl, hc⟩ := bs_cell HB.out j _ (get_cf hj)
    obtain ⟨y, hy⟩ : ∃ y, cf xs j = y := ⟨_, rfl⟩
    rw [hy] at hc ⊢
    obtain ⟨N, hN⟩ : ∃ N, xs.length = N := ⟨_, rfl⟩
    rw [hN] at hj hji h2 ⊢
    clear HB hN hy
    go_enter Tryz.func59, Tryz.ntmps59
    go_wp2
    go_ret
    exact ⟨rfl, Fr.refl _ _⟩
  · rw [cf_ge (by omega)]
    have hji : (xs.length : Int) ≤ (j : Int) := by omega
    go_enter Tryz.func59, Tryz.ntmps59
    go_wp2
    go_ret
    exact ⟨rfl, Fr.refl _ _⟩
set_option maxRecDepth 100000 in
set_option maxHeartbeats 1000000 in
theorem rpow_any (w : World) (a : UInt8) (n : Nat) (hn : n ≤ 1000000) : Calls Tryz.prog 63 #[.int .u8 (a.toNat : Int), .int .i64 n] w fun e w' => e = .returned (.int .u8 ((gpw a n).toNat : Int)) ∧ Fr [] w w' := by
  go_enter Tryz.func63, Tryz.ntmps63
  go_wp2
  go_loopw [1, 5] (fun i x wr => ∃ k m : Nat, k + m = n ∧ i = .int .i64 m ∧ x = .int .u8 ((gpw a k).toNat : Int) ∧ Hid (Fr [] w wr)) (fun i _ _ => (intOf i).toNat)
  case atStart => exact ⟨0, n, by omega, rfl, rfl, Fr.refl _ _⟩
  case round =>
    obtain ⟨k, m, hk, rfl, rfl, HF⟩ := hrel
    by_cases hm : 0 < m
    · have hmi : (0 : Int) < m := by omega
      have HS := Lib.hid (show gmul (gpw a k) a = gpw a (k + 1) from rfl)
      obtain ⟨g, hg⟩ : ∃ g, gpw a k = g := ⟨_, rfl⟩
      rw [hg] at HS ⊢
      have hk2 := hk
      clear hk hg
      go_wp2_with fail
      refine (rmul_any wr g a).mono ?_
      rintro e w2 ⟨rfl, hf⟩
      have HF2 := Lib.hid (HF.out.trans hf)
      clear hf HF
      go_wp2
      go_roundw
      case rel => exact ⟨k + 1, m - 1, by omega, by go_num, by rw [← HS.out]; rfl, HF2⟩
      case measure => simp [intOf]; omega
    · obtain rfl : m = 0 := by omega
      obtain rfl : k = n := by omega
      go_wp2
      go_ret
      exact ⟨rfl, HF.out⟩
theorem gpw_inv (a : UInt8) : gpw a 254 = ginv a := by
  by_cases h : a = 0
  · subst h
    rw [ginv_zero]
    exact gmul_zero _
  · obtain ⟨k, hk, rfl⟩ := gexp_onto a h
    rw [gpw_gexp, ginv_gexp k hk, ← gexp_rest (k * 254), ← gexp_rest (255 - k)]
    congr 1
    omega
set_option maxHeartbeats 400000 in
theorem rinv_any (w : World) (a : UInt8) : Calls Tryz.prog 62 #[.int .u8 (a.toNat : Int)] w fun e w' => e = .returned (.int .u8 ((ginv a).toNat : Int)) ∧ Fr [] w w' := by
  have HP := Lib.hid (rpow_any w a 254 (by omega))
  rw [gpw_inv] at HP
  go_enter Tryz.func62, Tryz.ntmps62
  go_wp2_with fail
  refine HP.out.mono ?_
  rintro e w2 ⟨rfl, hf⟩
  have HF := Lib.hid hf
  clear hf
  go_wp2
  go_ret
  exact ⟨rfl, HF.out⟩
end Go.Proofs.YtmohiblgfmdkjaaGreatDoor
