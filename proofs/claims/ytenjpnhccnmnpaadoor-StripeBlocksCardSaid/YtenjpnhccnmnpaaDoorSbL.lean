/-
  The law StripeBlocks, walked: all blocks of every file.
-/
import Derived.Test.YtenjpnhccnmnpaaDoorSbR
import Derived.Test.YtenjpnhccnmnpaaDoorBlo2
import Derived.Test.YtenjpnhccnmnpaaDoorRbl
import Derived.Test.YtenjpnhccnmnpaaDoorRsl2
import Derived.Test.YtenjpnhccnmnpaaDoorShb
namespace Go.Proofs.YtenjpnhccnmnpaaDoor
open Go.RowKit Go.Bl
set_option linter.unusedVariables false

theorem sumT_shN (M : Nat) : sumT ((shN M).map fun k : Nat => (k : Int)) = ((M + 32 * (shN M).length : Nat) : Int) := by
  unfold shN
  split
  · simp [sumT]
  · simp [sumT]; omega
theorem blocksL_len (xs : List UInt8) : (blocksL xs).length = nB xs.length + 32 * (shN (nB xs.length)).length := by
  unfold blocksL
  rw [blkGo_len [] _ _ (by rw [shN_sum, dataL_len]; exact Nat.le_refl _), shN_sum]
set_option maxHeartbeats 400000 in
theorem rblocks_bad (w : World) (a : Option Addr) (n cap : Nat) (h : 2000 < n) (hc : n ≤ cap) (hm : cap ≤ maxLen) :
    Calls Tryd.prog 10 #[.slice a n cap] w fun e w' => e = .returned (.tuple #[.slice none 0 0, .int .i64 8]) ∧ Fr [] w w' := by
  have HS := Lib.hid (rshape_bad w (n : Int) (by omega))
  go_enter Tryd.func10, Tryd.ntmps10
  go_wp2_with fail
  refine HS.out.mono ?_
  rintro e w1 ⟨rfl, hf⟩
  have HF := Lib.hid hf
  clear hf
  go_wp2
  go_ret2
  exact ⟨rfl, HF.out⟩

set_option maxRecDepth 100000 in
set_option maxHeartbeats 2000000 in
theorem sbk_any (E : Nat → Addr) (B : Nat) (w : World) (v : Value) (xs : List UInt8) (hE : Errs all20 E B w) (hb : Bs (fun _ => False) w v xs) :
    Calls Tryd.prog 4 #[v] w fun e w' => e = .returned (.bool true) ∧ Fr [] w w' := by
  have HB := Lib.hid hb
  obtain ⟨a, cap, rfl, h2, h3, -⟩ := hb
  unfold maxLen at h3
  by_cases hl : xs.length ≤ 2200
  · obtain ⟨S, hS⟩ : ∃ S, (⟨(padL xs).toArray⟩ : ByteArray) = S := ⟨_, rfl⟩
    have HSS := Lib.hid hS
    obtain ⟨M, hM⟩ : ∃ M, nB xs.length = M := ⟨_, rfl⟩
    have HLEN := Lib.hid (show (blocksL xs).length = M + 32 * (shN M).length by rw [← hM]; exact blocksL_len xs)
    have HNB := Lib.hid (show xs.length ≤ 2000 → sumT (shapeOf (nblk (xs.length : Int))) = ((M + 32 * (shN M).length : Nat) : Int) from fun _ => by rw [nblk_nB, hM, shapeOf_shN, sumT_shN])
    have hM2 : M ≤ 300 := by rw [← hM]; unfold nB; omega
    have hsl := shN_len M
    obtain ⟨N, hN⟩ : ∃ N, xs.length = N := ⟨_, rfl⟩
    rw [hN] at HB h2 hl HNB ⊢
    have HN := Lib.hid hN
    clear hS hM hN
    go_enter Tryd.func4, Tryd.ntmps4
    go_wp2_with fail
    refine (alive06_any w).mono ?_
    rintro e w1 ⟨rfl, hf⟩
    have HF1 := Lib.hid hf
    have HB1 := Lib.hid (HB.out.keep hf (by simp))
    clear hf HB
    go_wp2_with fail
    refine (bytes_any (fun _ => False) w1 _ xs HB1.out (by have := HN.out; omega)).mono ?_
    rintro e w2 ⟨u, rfl, hm, hf⟩
    have HF2 := Lib.hid (HF1.out.trans hf)
    have HB2 := Lib.hid (HB1.out.keep hf (by simp))
    have HM2 := Lib.hid hm
    have HU2 := Lib.hid (hm.bs (A := fun _ => False) (fun _ h => h.elim))
    obtain ⟨ua, uc, rfl, u2, u3, -⟩ := HU2.out
    rw [HN.out] at HU2 HM2 u2 ⊢
    obtain ⟨BB, hBB⟩ : ∃ BB, w1.heap.size = BB := ⟨_, rfl⟩
    rw [hBB] at HM2
    clear hf hm HF1 HB1 hBB
    have fin : ∀ (k rn : Nat) (u4 : Value) (ra : Option Addr) (rc : Nat) (w3 : World), Fr [] w2 w3 → k ≤ 20 → (∀ p, Fr [] w3 p → Calls Tryd.prog 13 #[u4, .slice ra rn rc] p fun e w' => e = .returned (.bool true) ∧ Fr [] p w') →
        ∀ (s : Go.Act) (Q : Exit → Go.Act → World → Prop), s.tmps.size = 68 → slot s 5 = errv E k → slot s 7 = .int .i64 (k : Int) → slot s 4 = u4 → slot s 6 = .slice ra rn rc → slot s 9 = errv E k → slot s 8 = .int .i64 (rn : Int) → slot s 3 = .slice ua N uc → slot s 0 = .slice a N cap →
        (∀ (b : Go.Act) (p : World), b.defers = s.defers → b.tmps.size = 68 → slot b 2 = .bool true → Fr [] w p → Q .normal b p) → Code.wp Tryd.prog sbk_regR Q s w3 := by
      intro k rn u4 ra rc w3 hf hk hs s Q hz h5 h7 h4 h6 h9 h8 h3 h0 hQ
      refine sbk_reg w3 s hz E B k u4 (.slice ua N uc) (.slice a N cap) ra rn rc BB xs S HSS.out ((hE.keep0 HF2.out).keep0 hf) hk hs (HM2.out.keep0 hf) (HB2.out.keep hf (by simp)) (by have := HN.out; omega) h5 h7 h4 h6 h9 h8 h3 h0 Q ?_
      intro b p q1 q2 q3 q4 q5
      exact hQ b p q1 q2 q4 ((HF2.out.trans hf).trans q5)
    have FIN := Lib.hid fin
    clear fin
    by_cases hl2 : N ≤ 2000
    · go_wp2_with fail
      refine (blocks_any w2 _ xs HU2.out (by have := HN.out; omega)).mono ?_
      rintro e w3 ⟨bv, ls, rfl, ho, hbt, hsnd, hf⟩
      have HF3 := Lib.hid hf
      have HR3 := Lib.hid (show RdB (fun _ => False) w3 bv ls from ⟨ho.vs (by simp), fun x hx => (hbt x hx).bs (by simp)⟩)
      have HS3 := Lib.hid hsnd
      have HB3 := Lib.hid (HB2.out.keep hf (by simp))
      clear ho hbt hsnd hf
      go_wp2_with fail
      refine (rblocks_any w3 _ xs HB3.out (by have := HN.out; omega)).mono ?_
      rintro e w4 ⟨rv, ls', rfl, ho, hbt, hsnd, hf⟩
      have HF4 := Lib.hid (HF3.out.trans hf)
      have HR4 := Lib.hid (HR3.out.keep hf (by simp))
      have HQ4 := Lib.hid (show RdB (fun _ => False) w4 rv ls' from ⟨ho.vs (by simp), fun x hx => (hbt x hx).bs (by simp)⟩)
      have HE4 := Lib.hid (show ls.map (·.2) = ls'.map (·.2) by rw [HS3.out, hsnd])
      have HL4 := Lib.hid (show ls'.length = M + 32 * (shN M).length by have h := congrArg List.length hsnd; rw [List.length_map, HLEN.out] at h; exact h)
      have HL3 := Lib.hid (show ls.length = M + 32 * (shN M).length by have h := congrArg List.length HS3.out; rw [List.length_map, HLEN.out] at h; exact h)
      obtain ⟨ra, rc, rfl, r1, r2⟩ := rdb_shape HQ4.out
      clear ho hbt hsnd hf HR3 HS3 HB3 HF3
      go_wp2_with fail
      refine (total_ok w4 (N : Int) (by omega) (by omega)).mono ?_
      rintro e w5 ⟨rfl, hf⟩
      rw [HNB.out hl2, ← HL4.out]
      have HSM := Lib.hid (show ∀ p, Fr [] w5 p → Calls Tryd.prog 13 #[bv, .slice ra ls'.length rc] p fun e w' => e = .returned (.bool true) ∧ Fr [] p w' from fun p hp =>
        slists_any p _ _ ls ls' (HR4.out.keep (hf.trans hp) (by simp)) (HQ4.out.keep (hf.trans hp) (by simp)) HE4.out (by rw [HL3.out]; omega))
      have HF5 := Lib.hid (HF4.out.trans hf)
      clear hf
      go_wp2
      refine FIN.out 0 _ _ _ _ _ HF5.out (by omega) HSM.out _ _ rfl rfl rfl rfl rfl rfl rfl rfl rfl ?_
      intro b p q1 q2 q3 q4
      rw [frame68 b q2 q1, q3]
      go_wp2
      go_ret
      exact ⟨rfl, q4⟩
    · have he8 := errv_pos E 8 (by decide)
      have HE2 := Lib.hid (hE.keep0 HF2.out)
      have HSM : ∀ p, Calls Tryd.prog 13 #[.slice none 0 0, .slice none 0 0] p fun e w' => e = .returned (.bool true) ∧ Fr [] p w' := fun p =>
        slists_any p _ _ [] [] ⟨Vs.nil _ _ _ _ (by simp [maxLen]), fun x hx => by simp at hx⟩ ⟨Vs.nil _ _ _ _ (by simp [maxLen]), fun x hx => by simp at hx⟩ rfl (by simp)
      go_wp2_with fail
      refine (blocks_bad all20 E B w2 HE2.out (by decide) _ _ _ (by omega) u2 u3).mono ?_
      rintro e w3 ⟨rfl, hf⟩
      have HF3 := Lib.hid hf
      have HE3 := Lib.hid (HE2.out.keep0 hf)
      rw [he8]
      clear hf
      go_wp2_with fail
      refine (rblocks_bad w3 _ _ _ (by omega) h2 (by unfold maxLen; omega)).mono ?_
      rintro e w4 ⟨rfl, hf⟩
      have HF4 := Lib.hid (HF3.out.trans hf)
      have HE4 := Lib.hid (HE3.out.keep0 hf)
      clear hf
      go_wp2_with fail
      refine (total_bad all20 E B w4 HE4.out (by decide) (N : Int) (by omega)).mono ?_
      rintro e w5 ⟨rfl, hf⟩
      have HF5 := Lib.hid (HF4.out.trans hf)
      rw [he8]
      clear hf
      go_wp2
      rw [← he8]
      refine FIN.out 8 0 _ none 0 _ HF5.out (by omega) (fun p _ => HSM p) _ _ rfl rfl rfl rfl rfl rfl rfl rfl rfl ?_
      intro b p q1 q2 q3 q4
      rw [frame68 b q2 q1, q3]
      go_wp2
      go_ret
      exact ⟨rfl, q4⟩
  · go_enter Tryd.func4, Tryd.ntmps4
    go_wp2_with fail
    refine (alive06_any w).mono ?_
    rintro e w1 ⟨rfl, hf⟩
    have HF1 := Lib.hid hf
    clear hf
    go_wp2
    go_ret
    exact ⟨rfl, HF1.out⟩
end Go.Proofs.YtenjpnhccnmnpaaDoor
