/-
  Layer 4: the document's Runs answers true of a register that runs.
-/
import Derived.Test.YtfblhdomjnffcaaDoorRnr
import Derived.Test.YtfblhdomjnffcaaDoorGF
namespace Go.Proofs.YtfblhdomjnffcaaDoor
open Go.RowKit Go.Bl
set_option linter.unusedVariables false

def rsum (ps xs : List UInt8) (i m : Nat) : UInt8 := xsum m fun k => gmul (cf ps (k + 1)) (cf xs (i - (k + 1)))
theorem rsum_end {ps xs : List UInt8} {L i : Nat} (h0 : cf ps 0 = 1) (hg : gens (cf xs) (cf ps) L xs.length) (h1 : L ≤ i) (h2 : i < xs.length) : rsum ps xs i L = cf xs i := by
  have h := hg i h1 h2
  unfold disc at h
  rw [xsum_first, h0, one_gmul] at h
  have : cf xs i ^^^ rsum ps xs i L = 0 := h
  exact (UInt8.xor_eq_zero_iff.1 this).symm
set_option maxRecDepth 100000 in
set_option maxHeartbeats 4000000 in
theorem runs_any (w : World) (v p : Value) (xs ps : List UInt8) (L : Nat) (hx : Bs (fun _ => False) w v xs) (hp : Bs (fun _ => False) w p ps) (h0 : cf ps 0 = 1) (h1 : 1 ≤ ps.length) (h2 : ps.length ≤ L + 1) (hL : L ≤ 100) (hxl : xs.length ≤ 100) (hg : gens (cf xs) (cf ps) L xs.length) :
    Calls Tryd.prog 16 #[v, p, .int .i64 L] w fun e w' => e = .returned (.bool true) ∧ Fr [] w w' := by
  have HX := Lib.hid hx
  have HP := Lib.hid hp
  have HEND := Lib.hid (fun i (h1 : L ≤ i) (h2 : i < xs.length) => rsum_end h0 hg h1 h2)
  have HST := Lib.hid (show ∀ i m, rsum ps xs i (m + 1) = rsum ps xs i m ^^^ gmul (cf ps (m + 1)) (cf xs (i - (m + 1))) from fun i m => rfl)
  have HZ := Lib.hid (show ∀ i, rsum ps xs i 0 = 0 from fun i => rfl)
  obtain ⟨xa, xc, rfl, x2, x3, -⟩ := hx
  obtain ⟨pa, pc, rfl, p2, p3, -⟩ := hp
  unfold maxLen at x3 p3
  obtain ⟨pb, po, rfl, hc0⟩ := bs_cell HP.out 0 1 (by rw [get_cf (by omega), h0])
  rw [Nat.add_zero] at hc0
  obtain ⟨SM, hSM⟩ : ∃ f, rsum ps xs = f := ⟨_, rfl⟩
  rw [hSM] at HEND HST HZ
  obtain ⟨N, hN⟩ : ∃ N, xs.length = N := ⟨_, rfl⟩
  obtain ⟨M, hM⟩ : ∃ M, ps.length = M := ⟨_, rfl⟩
  have HN := Lib.hid hN
  have HM := Lib.hid hM
  rw [hN] at HX x2 hxl HEND ⊢
  rw [hM] at HP p2 h1 h2 ⊢
  have hm0 : ¬ (M : Int) = 0 := by omega
  have hm1 : ¬ (L : Int) + 1 < (M : Int) := by omega
  clear hN hM hSM h0 hg
  go_enter Tryd.func16, Tryd.ntmps16
  go_wp2
  go_loopw [7] (fun i wr => ∃ k : Nat, L ≤ k ∧ i = .int .i64 k ∧ Hid (Fr [] w wr)) (fun i _ => N + L + 1 - (intOf i).toNat)
  case atStart => exact ⟨L, Nat.le_refl _, rfl, Lib.hid (Fr.refl _ _)⟩
  case round =>
    clear hc0
    obtain ⟨i, hi, rfl, HF⟩ := hrel
    obtain ⟨wl, rfl⟩ : ∃ wl, wl = wr := ⟨wr, rfl⟩
    by_cases hin : i < N
    · have hini : (i : Int) < N := by omega
      obtain ⟨xb, xo, rfl, hcx⟩ := bs_cell HX.out i (cf xs i) (get_cf (by have := HN.out; omega))
      have HCX := Lib.hid hcx
      clear hcx
      go_wp2
      go_loopw [8, 9] (fun d j wr => ∃ m : Nat, m ≤ L ∧ j = .int .i64 ((m : Int) + 1) ∧ d = .int .u8 ((SM i m).toNat : Int) ∧ Hid (Fr [] w wr)) (fun _ j _ => L + 2 - (intOf j).toNat)
      case atStart => exact ⟨0, Nat.zero_le _, by simp, by rw [HZ.out]; rfl, HF⟩
      case round =>
        clear HF
        obtain ⟨m, hm, rfl, rfl, HF⟩ := hrel
        by_cases hmL : m < L
        · have hmi : (m : Int) + 1 ≤ L := by omega
          have HS1 := Lib.hid (HST.out i m)
          obtain ⟨y, hy⟩ : ∃ y, cf xs (i - (m + 1)) = y := ⟨_, rfl⟩
          rw [hy] at HS1
          obtain ⟨b', o', e, hcy⟩ := bs_cell HX.out (i - (m + 1)) y (by rw [get_cf (by have := HN.out; omega), hy])
          cases e
          obtain ⟨D, hD⟩ : ∃ D, SM i m = D := ⟨_, rfl⟩
          rw [hD] at HS1 ⊢
          have HCY := Lib.hid (cell_mono HF.out hcy)
          clear hy hcy hD
          go_wp2_with fail
          have hj1 : ((m : Int) + 1) = ((m + 1 : Nat) : Int) := by omega
          rw [hj1]
          clear hj1
          refine runs_reg wr _ rfl xb xo N xc M pc i (m + 1) (some ⟨pb, po, none⟩) ps D y (HP.out.keep HF.out (by simp)) (by have := HM.out; omega) (by omega) hin (by omega) HCY.out rfl rfl rfl rfl rfl _ ?_
          intro b p k1 k2 k3 k4 hf
          obtain ⟨f, hb⟩ := putsX b _ _ k1 k2 k3
          have hf8 : f 8 = .int .u8 ((D ^^^ gmul (cf ps (m + 1)) y).toNat : Int) := by
            rw [hb] at k4
            simpa [slot, Go.Act.put] using k4
          have HF2 := Lib.hid (HF.out.trans hf)
          clear k1 k2 k3 k4 hf HF HCY
          subst hb
          simp only [List.foldl_cons, List.foldl_nil, Go.Act.put, List.setIfInBounds_toArray, List.set_cons_succ, List.set_cons_zero, hf8]
          go_wp2
          go_roundw
          case rel => exact ⟨m + 1, by omega, by go_num, by rw [HS1.out], HF2⟩
          case measure => simp [intOf]; omega
        · have hmi : ¬ (m : Int) + 1 ≤ L := by omega
          have HX1 := Lib.hid (show SM i m = cf xs i by rw [show m = L by omega]; exact HEND.out i hi hin)
          rw [HX1.out]
          have hcx := cell_mono HF.out HCX.out
          go_wp2
          go_roundw
          case rel => exact ⟨i + 1, by omega, by go_num, HF⟩
          case measure => simp [intOf]; omega
    · have hini : ¬ (i : Int) < N := by omega
      go_wp2
      go_ret
      exact ⟨rfl, HF.out⟩
end Go.Proofs.YtfblhdomjnffcaaDoor
