/-
  The law AheadWays, walked.
-/
import Derived.Test.YtbohmnblegljkaaDoorAhd5
import Derived.Test.YtbohmnblegljkaaDoorLAT
namespace Go.Proofs.YtbohmnblegljkaaDoor
open Go.RowKit Go.Bl
set_option linter.unusedVariables false

def parO (p : Par) : Obj := .cells #[.int .i64 p.size, .int .i64 p.sent, .int .i64 p.spots, .int .i64 p.per, .int .i64 p.pat, .int .i64 p.ret] 36
theorem atPar {w : World} {b : Nat} {p : Par} (h : At w b (parO p)) :
    w.cell? ⟨b, 0, none⟩ = some (.int .i64 p.size) ∧ w.cell? ⟨b, 1, none⟩ = some (.int .i64 p.sent) ∧ w.cell? ⟨b, 2, none⟩ = some (.int .i64 p.spots) ∧ w.cell? ⟨b, 3, none⟩ = some (.int .i64 p.per) ∧ w.cell? ⟨b, 4, none⟩ = some (.int .i64 p.pat) ∧ w.cell? ⟨b, 5, none⟩ = some (.int .i64 p.ret) := par_cells h

set_option maxRecDepth 100000 in
set_option maxHeartbeats 4000000 in
theorem aheadWays_far (E : Nat → Addr) (B : Nat) (w : World) (hE : Errs all20 E B w) (p : Par) (many : Int) (h : 200 < many) (h' : many ≤ 1000) :
    Calls Tryd.prog 6 #[pv p, .int .i64 many] w fun e w' => e = .returned (.bool true) ∧ Fr [] w w' := by
  have HE := Lib.hid hE
  clear hE
  unfold pv
  go_enter Tryd.func6, Tryd.ntmps6
  have G := Lib.hid (Fr.refl [] w)
  go_wp2_with fail
  refine (alive40_any _ E B _ (HE.out.keep0 (by repeat (first | exact Fr.refl _ _ | exact G.out | refine Fr.al ?_ | refine Fr.dn ?_ | refine Fr.dr ?_))) (by decide) (by decide) (by decide)).mono ?_
  rintro e w1 ⟨rfl, hf⟩
  have hf : Fr [] w w1 := Fr.trans (by repeat (first | exact Fr.refl _ _ | refine Fr.al ?_ | refine Fr.dn ?_ | refine Fr.dr ?_)) hf
  replace G := Lib.hid (G.out.trans hf)
  clear hf
  go_wp2
  go_ret
  exact ⟨rfl, (by repeat (first | exact Fr.refl _ _ | exact G.out | refine Fr.al ?_ | refine Fr.dn ?_ | refine Fr.dr ?_))⟩

set_option maxRecDepth 100000 in
set_option maxHeartbeats 4000000 in
theorem aheadWays_bad (E : Nat → Addr) (B : Nat) (w : World) (hE : Errs all20 E B w) (p : Par) (many : Int) (h : many ≤ 200 ∨ 1000 < many) (hw : waysE p many ≠ 0) :
    Calls Tryd.prog 6 #[pv p, .int .i64 many] w fun e w' => e = .returned (.bool true) ∧ Fr [] w w' := by
  have HE := Lib.hid hE
  have HP0 := Lib.hid (show At (w.alloc (parO p)) w.heap.size (parO p) from At.new rfl)
  have HSP := Lib.hid (show spotsV p many = 0 by unfold spotsV; rw [if_pos hw])
  have hcs : (chk p ≠ 0 ∧ waysE p many = chk p ∧ many ≤ 200) ∨ (chk p ≠ 0 ∧ waysE p many = chk p ∧ 1000 < many) ∨ (chk p = 0 ∧ waysE p many = 1 ∧ many < 0) ∨ (chk p = 0 ∧ waysE p many = 1 ∧ 1000 < many) := by
    unfold waysE at hw ⊢
    by_cases hc : chk p = 0
    · rw [if_neg (by simp [hc])] at hw ⊢
      split at hw
      · rename_i h'
        rw [if_pos h']
        omega
      · exact absurd rfl hw
    · rw [if_pos hc]; omega
  have HW := Lib.hid fun w hE => ways_bad all20 E B w hE (by decide) (by decide) (by decide) p many hw
  have HS := Lib.hid fun w hE => spots_any all20 E B w hE (by decide) (by decide) (by decide) p many
  have e6 : chk p ≤ 20 := by unfold chk; split <;> (try split) <;> (try split) <;> decide
  have HR := Lib.hid fun w => rcheck_any w p
  obtain ⟨n, hn⟩ : ∃ n, chk p = n := ⟨_, rfl⟩
  rw [hn] at hcs e6 HR
  clear hE hw hn
  unfold pv at *
  rcases hcs with ⟨c1, c2, c3⟩ | ⟨c1, c2, c3⟩ | ⟨c1, c2, c3⟩ | ⟨c1, c2, c3⟩
  all_goals
    rw [c2] at HW
    have HC2 := Lib.hid c2
    clear c2 h
    first
      | (have hn0 : ((n : Int) != 0) = true := by rw [bne_iff_ne]; omega
         have hn1 : ((n : Int) == 0) = false := by rw [beq_eq_false_iff_ne]; omega)
      | subst c1
    go_enter Tryd.func6, Tryd.ntmps6
    have HE := Lib.hid (HE.out.keep0 (Fr.alloc w (parO p)))
    have G := Lib.hid (show Fr [] w (w.alloc (parO p)) from (by repeat (first | exact Fr.refl _ _ | refine Fr.al ?_ | refine Fr.dn ?_ | refine Fr.dr ?_)))
    go_wp2_with fail
    refine (alive40_any _ E B _ HE.out (by decide) (by decide) (by decide)).mono ?_
    rintro e w1 ⟨rfl, hf⟩
    have hf : Fr [] (w.alloc (parO p)) w1 := Fr.trans (by repeat (first | exact Fr.refl _ _ | refine Fr.al ?_ | refine Fr.dn ?_ | refine Fr.dr ?_)) hf
    replace G := Lib.hid (G.out.trans hf)
    replace HP0 := Lib.hid (HP0.out.keep0 hf)
    replace HE := Lib.hid (HE.out.keep0 hf)
    clear hf
    obtain ⟨k0, k1, k2, k3, k4, k5⟩ := atPar HP0.out
    go_wp2_with fail
    refine (HW.out _ HE.out).mono ?_
    rintro e w2 ⟨ev, rfl, hv, hf⟩
    have hf : Fr [] w1 w2 := Fr.trans (by repeat (first | exact Fr.refl _ _ | refine Fr.al ?_ | refine Fr.dn ?_ | refine Fr.dr ?_)) hf
    replace G := Lib.hid (G.out.trans hf)
    replace HP0 := Lib.hid (HP0.out.keep0 hf)
    replace HE := Lib.hid (HE.out.keep0 hf)
    clear hf k0 k1 k2 k3 k4 k5
    obtain ⟨k0, k1, k2, k3, k4, k5⟩ := atPar HP0.out
    have HV := Lib.hid hv
    clear hv
    go_wp2_with fail
    refine (HR.out _).mono ?_
    rintro e w3 ⟨s, v, rfl, hf⟩
    have hf : Fr [] w2 w3 := Fr.trans (by repeat (first | exact Fr.refl _ _ | refine Fr.al ?_ | refine Fr.dn ?_ | refine Fr.dr ?_)) hf
    replace G := Lib.hid (G.out.trans hf)
    replace HP0 := Lib.hid (HP0.out.keep0 hf)
    replace HE := Lib.hid (HE.out.keep0 hf)
    replace HV := Lib.hid (HV.out.keep0 hf)
    clear hf k0 k1 k2 k3 k4 k5
    obtain ⟨k0, k1, k2, k3, k4, k5⟩ := atPar HP0.out
    go_wp2_with fail
    refine (num_err E B _ ev _ HE.out (by first | decide | exact e6) HV.out).mono ?_
    rintro e w4 ⟨rfl, hf⟩
    have hf : Fr [] w3 w4 := Fr.trans (by repeat (first | exact Fr.refl _ _ | refine Fr.al ?_ | refine Fr.dn ?_ | refine Fr.dr ?_)) hf
    replace G := Lib.hid (G.out.trans hf)
    replace HP0 := Lib.hid (HP0.out.keep0 hf)
    replace HE := Lib.hid (HE.out.keep0 hf)
    replace HV := Lib.hid (HV.out.keep0 hf)
    clear hf k0 k1 k2 k3 k4 k5
    obtain ⟨k0, k1, k2, k3, k4, k5⟩ := atPar HP0.out
    go_wp2_with fail
    refine (HS.out _ HE.out).mono ?_
    rintro e w5 ⟨rfl, hf⟩
    have hf : Fr [] w4 w5 := Fr.trans (by repeat (first | exact Fr.refl _ _ | refine Fr.al ?_ | refine Fr.dn ?_ | refine Fr.dr ?_)) hf
    replace G := Lib.hid (G.out.trans hf)
    replace HP0 := Lib.hid (HP0.out.keep0 hf)
    replace HE := Lib.hid (HE.out.keep0 hf)
    replace HV := Lib.hid (HV.out.keep0 hf)
    clear hf k0 k1 k2 k3 k4 k5
    obtain ⟨k0, k1, k2, k3, k4, k5⟩ := atPar HP0.out
    rw [HSP.out]
    go_wp2
    go_ret
    exact ⟨rfl, (by repeat (first | exact Fr.refl _ _ | exact G.out | refine Fr.al ?_ | refine Fr.dn ?_ | refine Fr.dr ?_))⟩

set_option maxRecDepth 100000 in
set_option maxHeartbeats 4000000 in
theorem aheadWays_ok (E : Nat → Addr) (B : Nat) (w : World) (hE : Errs all20 E B w) (p : Par) (hc : chk p = 0) (n s : Nat) (hn : n ≤ 200) (hsn : p.sent = s) :
    Calls Tryd.prog 6 #[pv p, .int .i64 n] w fun e w' => e = .returned (.bool true) ∧ Fr [] w w' := by
  have HE := Lib.hid hE
  have HP0 := Lib.hid (show At (w.alloc (parO p)) w.heap.size (parO p) from At.new rfl)
  have hw : waysE p n = 0 := by unfold waysE; rw [if_neg (by simp [hc]), if_neg (by omega)]
  have HSP := Lib.hid (show spotsV p n = ones (waysL s n) by unfold spotsV; rw [if_neg (by simp [hw]), hsn, Int.toNat_natCast, Int.toNat_natCast])
  have HW := Lib.hid fun w hE => ways_ok all20 E B w hE (by decide) (by decide) (by decide) p hc n s (by omega) hsn
  have HRW := Lib.hid fun w => rways_ok w p n s (by omega) hsn
  have HR := Lib.hid fun w => rcheck_any w p
  have HS := Lib.hid fun w hE => spots_any all20 E B w hE (by decide) (by decide) (by decide) p n
  rw [hc] at HR
  have hll := waysL_len s n
  have HG := Lib.hid (fun k => waysL_get s n k)
  obtain ⟨l, hL⟩ : ∃ l, waysL s n = l := ⟨_, rfl⟩
  rw [hL] at HW HRW HSP hll HG
  have HLL := Lib.hid hll
  have HSN := Lib.hid hsn
  clear hE hc hw hL hll hsn
  unfold pv at *
  go_enter Tryd.func6, Tryd.ntmps6
  have HE := Lib.hid (HE.out.keep0 (Fr.alloc w (parO p)))
  have G := Lib.hid (show Fr [] w (w.alloc (parO p)) from (by repeat (first | exact Fr.refl _ _ | refine Fr.al ?_ | refine Fr.dn ?_ | refine Fr.dr ?_)))
  go_wp2_with fail
  refine (alive40_any _ E B _ HE.out (by decide) (by decide) (by decide)).mono ?_
  rintro e w1 ⟨rfl, hf⟩
  have hf : Fr [] (w.alloc (parO p)) w1 := Fr.trans (by repeat (first | exact Fr.refl _ _ | refine Fr.al ?_ | refine Fr.dn ?_ | refine Fr.dr ?_)) hf
  replace G := Lib.hid (G.out.trans hf)
  replace HP0 := Lib.hid (HP0.out.keep0 hf)
  replace HE := Lib.hid (HE.out.keep0 hf)
  clear hf
  obtain ⟨k0, k1, k2, k3, k4, k5⟩ := atPar HP0.out
  go_wp2_with fail
  refine (HW.out _ HE.out).mono ?_
  rintro e w2 ⟨v, rfl, hv, hf⟩
  have hf : Fr [] w1 w2 := Fr.trans (by repeat (first | exact Fr.refl _ _ | refine Fr.al ?_ | refine Fr.dn ?_ | refine Fr.dr ?_)) hf
  replace G := Lib.hid (G.out.trans hf)
  replace HP0 := Lib.hid (HP0.out.keep0 hf)
  replace HE := Lib.hid (HE.out.keep0 hf)
  clear hf k0 k1 k2 k3 k4 k5
  obtain ⟨k0, k1, k2, k3, k4, k5⟩ := atPar HP0.out
  have HV := Lib.hid (hv.is (A := fun _ => False) (by simp))
  clear hv
  go_wp2_with fail
  refine (HR.out _).mono ?_
  rintro e w3 ⟨s', v', rfl, hf⟩
  have hf : Fr [] w2 w3 := Fr.trans (by repeat (first | exact Fr.refl _ _ | refine Fr.al ?_ | refine Fr.dn ?_ | refine Fr.dr ?_)) hf
  replace G := Lib.hid (G.out.trans hf)
  replace HP0 := Lib.hid (HP0.out.keep0 hf)
  replace HE := Lib.hid (HE.out.keep0 hf)
  replace HV := Lib.hid (HV.out.keep0 hf)
  clear hf k0 k1 k2 k3 k4 k5
  obtain ⟨k0, k1, k2, k3, k4, k5⟩ := atPar HP0.out
  go_wp2_with fail
  refine (num_nil _).mono ?_
  rintro e w4 ⟨rfl, hf⟩
  have hf : Fr [] w3 w4 := Fr.trans (by repeat (first | exact Fr.refl _ _ | refine Fr.al ?_ | refine Fr.dn ?_ | refine Fr.dr ?_)) hf
  replace G := Lib.hid (G.out.trans hf)
  replace HP0 := Lib.hid (HP0.out.keep0 hf)
  replace HE := Lib.hid (HE.out.keep0 hf)
  replace HV := Lib.hid (HV.out.keep0 hf)
  clear hf k0 k1 k2 k3 k4 k5
  obtain ⟨k0, k1, k2, k3, k4, k5⟩ := atPar HP0.out
  go_wp2_with fail
  refine (HRW.out _).mono ?_
  rintro e w5 ⟨u, rfl, hu, hf⟩
  have hf : Fr [] w4 w5 := Fr.trans (by repeat (first | exact Fr.refl _ _ | refine Fr.al ?_ | refine Fr.dn ?_ | refine Fr.dr ?_)) hf
  replace G := Lib.hid (G.out.trans hf)
  replace HP0 := Lib.hid (HP0.out.keep0 hf)
  replace HE := Lib.hid (HE.out.keep0 hf)
  replace HV := Lib.hid (HV.out.keep0 hf)
  clear hf k0 k1 k2 k3 k4 k5
  obtain ⟨k0, k1, k2, k3, k4, k5⟩ := atPar HP0.out
  have HU := Lib.hid (hu.is (A := fun _ => False) (by simp))
  clear hu
  go_wp2_with fail
  refine (sameInts_any (fun _ => False) _ _ _ l l HV.out HU.out).mono ?_
  rintro e w6 ⟨rfl, hf⟩
  have hf : Fr [] w5 w6 := Fr.trans (by repeat (first | exact Fr.refl _ _ | refine Fr.al ?_ | refine Fr.dn ?_ | refine Fr.dr ?_)) hf
  replace G := Lib.hid (G.out.trans hf)
  replace HP0 := Lib.hid (HP0.out.keep0 hf)
  replace HE := Lib.hid (HE.out.keep0 hf)
  replace HV := Lib.hid (HV.out.keep0 hf)
  clear hf k0 k1 k2 k3 k4 k5
  obtain ⟨k0, k1, k2, k3, k4, k5⟩ := atPar HP0.out
  have hb : (l == l) = true := by simp
  have hv := HV.out
  obtain ⟨a, cap, rfl, h2, h3, hcell⟩ := hv.shape
  rw [HLL.out] at h2 hcell ⊢
  unfold maxLen at h3
  go_wp2
  go_loop [10, 67] (fun t i => ∃ j : Nat, j ≤ n ∧ i = .int .i64 j ∧ t = .int .i64 (ones (l.take j) : Nat)) (fun _ i => n - (intOf i).toNat)
  case atStart => exact ⟨0, Nat.zero_le _, rfl, rfl⟩
  case round =>
    obtain ⟨j, hj, rfl, rfl⟩ := hrel
    have hle := ones_le l j (by have := HLL.out; omega)
    have hjn' := HLL.out
    by_cases hjn : j < n
    · obtain ⟨b1, o1, rfl, -, hcc⟩ := hcell (by omega)
      have g1 := hcc j hjn
      have hst := ones_take l j (by omega)
      have hx := HG.out j hjn
      rw [hx] at g1 hst
      have hs := HSN.out
      obtain ⟨y, HY⟩ : ∃ y, Hid (ones (l.take j) = y) := ⟨_, rfl⟩
      rw [HY.out] at hst hle ⊢
      have hcs : (wayN s j = 2 ∧ (j : Int) % 2 = 1 ∧ (j : Int) / 2 < p.sent) ∨ (wayN s j = 1 ∧ ((j : Int) % 2 = 1 ∧ p.sent ≤ (j : Int) / 2)) ∨ (wayN s j = 1 ∧ (j : Int) % 2 = 0) := by
        unfold wayN
        by_cases h : j % 2 = 1 ∧ j / 2 < s
        · rw [if_pos h]; left; omega
        · rw [if_neg h]; right
          by_cases h' : j % 2 = 1
          · left; omega
          · right; omega
      clear hcc hcell hjn' hx hs
      rcases hcs with ⟨e, c1, c2⟩ | ⟨e, c1, c2⟩ | ⟨e, c1⟩
      all_goals
        rw [e] at g1 hst
        have HST := Lib.hid hst
        first
          | (have c3 : ((j : Int) % 2 == 1) = true := by rw [beq_iff_eq]; omega)
          | (have c3 : ((j : Int) % 2 == 1) = false := by rw [beq_eq_false_iff_ne]; omega)
        clear e hst c1
        go_wp2
        go_round
        case rel => exact ⟨j + 1, by omega, by go_num, by rw [HST.out]; first | rfl | go_num | simp⟩
        case measure => simp [intOf]; omega
    · obtain rfl : j = n := by omega
      have he := Lib.hid (List.take_of_length_le (Nat.le_of_eq hjn'))
      rw [he.out]
      clear hcell hjn' hle
      go_wp2_with fail
      refine (HS.out _ HE.out).mono ?_
      rintro e w7 ⟨rfl, hf⟩
      have hf : Fr [] w6 w7 := Fr.trans (by repeat (first | exact Fr.refl _ _ | refine Fr.al ?_ | refine Fr.dn ?_ | refine Fr.dr ?_)) hf
      replace G := Lib.hid (G.out.trans hf)
      replace HP0 := Lib.hid (HP0.out.keep0 hf)
      replace HE := Lib.hid (HE.out.keep0 hf)
      replace HV := Lib.hid (HV.out.keep0 hf)
      clear hf k0 k1 k2 k3 k4 k5
      obtain ⟨k0, k1, k2, k3, k4, k5⟩ := atPar HP0.out
      rw [HSP.out]
      have hb2 : ((ones l : Int) == (ones l : Int)) = true := by simp
      go_wp2
      go_ret
      exact ⟨rfl, (by repeat (first | exact Fr.refl _ _ | exact G.out | refine Fr.al ?_ | refine Fr.dn ?_ | refine Fr.dr ?_))⟩

theorem aheadWays_walk (E : Nat → Addr) (B : Nat) (w : World) (hE : Errs all20 E B w) (p : Par) (many : Int) :
    Calls Tryd.prog 6 #[pv p, .int .i64 many] w fun e w' => e = .returned (.bool true) ∧ Fr [] w w' := by
  by_cases hf : 200 < many ∧ many ≤ 1000
  · exact aheadWays_far E B w hE p many hf.1 hf.2
  · by_cases hw : waysE p many = 0
    · have hc : chk p = 0 ∧ 0 ≤ many ∧ many ≤ 1000 := by
        unfold waysE at hw
        by_cases hc : chk p = 0
        · rw [if_neg (by simp [hc])] at hw
          refine ⟨hc, ?_⟩
          split at hw
          · cases hw
          · omega
        · rw [if_pos hc] at hw; exact absurd hw hc
      have hs := (chk_zero p hc.1).2.1
      obtain ⟨n, rfl⟩ : ∃ n : Nat, many = n := ⟨many.toNat, by omega⟩
      exact aheadWays_ok E B w hE p hc.1 n p.sent.toNat (by omega) (by omega)
    · exact aheadWays_bad E B w hE p many (by omega) hw
end Go.Proofs.YtbohmnblegljkaaDoor
