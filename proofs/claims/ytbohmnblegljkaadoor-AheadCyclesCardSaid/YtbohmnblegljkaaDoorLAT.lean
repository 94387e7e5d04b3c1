/-
  The law AheadTicks, walked.
-/
import Derived.Test.YtbohmnblegljkaaDoorRchk
namespace Go.Proofs.YtbohmnblegljkaaDoor
open Go.RowKit Go.Bl
set_option linter.unusedVariables false

def p40 : Par := ⟨0, 0, 1, 5, 2, 1⟩
theorem p40_0 : askE p40 0 0 = 0 ∧ askV p40 0 0 = 5 ∧ stopV p40 0 0 = 9 := by decide +kernel
theorem p40_1 : askE p40 0 1 = 0 ∧ askV p40 0 1 = 10 := by decide +kernel

set_option maxHeartbeats 1000000 in
theorem alive40_any (L : List Nat) (E : Nat → Addr) (B : Nat) (w : World) (hE : Errs L E B w) (h1 : 1 ∈ L) (h8 : 8 ∈ L) (h18 : 18 ∈ L) :
    Calls Tryd.prog 15 #[] w fun e w' => e = .returned (.bool true) ∧ Fr [] w w' := by
  have HE := Lib.hid hE
  clear hE
  go_enter Tryd.func15, Tryd.ntmps15
  go_wp2_with fail
  have HF0 := Lib.hid (Fr.alloc (S := []) w (.cells #[.int .i64 0, .int .i64 0, .int .i64 1, .int .i64 5, .int .i64 2, .int .i64 1] 36))
  refine (askAt_any L E B _ (HE.out.keep0 HF0.out) h1 h8 h18 p40 0 0).mono ?_
  rintro e w1 ⟨ev, rfl, hv, hf⟩
  rw [p40_0.1] at hv
  have := hv.nil_iff
  subst this
  clear hv
  rw [p40_0.2.1]
  have hb1 := hf.keep (heap_alloc_new w _) (by simp)
  have HF1 := Lib.hid (HF0.out.trans hf)
  obtain ⟨k0, k1, k2, k3, k4, k5⟩ := par_cells (p := p40) hb1
  simp only [p40] at k0 k1 k2 k3 k4 k5
  clear hf HF0
  go_wp2_with fail
  refine (stopAt_any L E B _ (HE.out.keep0 HF1.out) h1 h8 h18 p40 0 0).mono ?_
  rintro e w2 ⟨ev, rfl, hv, hf⟩
  rw [p40_0.1] at hv
  have := hv.nil_iff
  subst this
  clear hv k0 k1 k2 k3 k4 k5
  rw [p40_0.2.2]
  have hb2 := hf.keep hb1 (by simp)
  have HF2 := Lib.hid (HF1.out.trans hf)
  obtain ⟨k0, k1, k2, k3, k4, k5⟩ := par_cells (p := p40) hb2
  simp only [p40] at k0 k1 k2 k3 k4 k5
  clear hf hb1 HF1
  go_wp2_with fail
  refine (askAt_any L E B _ (HE.out.keep0 HF2.out) h1 h8 h18 p40 0 1).mono ?_
  rintro e w3 ⟨ev, rfl, hv, hf⟩
  rw [p40_1.1] at hv
  have := hv.nil_iff
  subst this
  clear hv k0 k1 k2 k3 k4 k5 hb2
  rw [p40_1.2]
  have HF3 := Lib.hid (HF2.out.trans hf)
  clear hf
  go_wp2
  go_ret
  exact ⟨rfl, HF3.out⟩

theorem asksV_at (p : Par) (from_ k : Int) (h : askE p from_ k = 0) : asksV p from_ (askV p from_ k) = k + 1 ∧ asksV p from_ (askV p from_ k - 1) = k := by
  obtain ⟨h1, h2, h3⟩ := askE_zero p from_ k h
  obtain ⟨h4, h5, h6⟩ := bgn_zero p from_ h1
  have hc := cyc_bd p h4
  have hb := askV_bd p from_ k h
  obtain ⟨a, ha⟩ : ∃ a, askV p from_ k = a := ⟨_, rfl⟩
  obtain ⟨c, hcq⟩ : ∃ c, cyc p = c := ⟨_, rfl⟩
  rw [ha] at hb ⊢
  unfold asksV
  rw [hcq] at hb hc ⊢
  have hkc := Int.mul_nonneg h2 (show (0 : Int) ≤ c by omega)
  constructor
  · rw [if_neg (by simp [h1]; omega)]
    have : a - from_ - p.per = k * c := by omega
    rw [this, Int.mul_ediv_cancel _ (by omega)]
  · by_cases hk : k = 0
    · subst hk
      rw [if_pos (.inr (.inl (by omega)))]
    · have hk1 : c ≤ k * c := by
        have := Int.mul_le_mul_of_nonneg_right (show (1 : Int) ≤ k by omega) (show (0 : Int) ≤ c by omega)
        omega
      rw [if_neg (by simp [h1]; omega)]
      have : a - 1 - from_ - p.per = (c - 1) + (k - 1) * c := by
        have : (k - 1) * c = k * c - c := by rw [Int.sub_mul]; omega
        omega
      rw [this, Int.add_mul_ediv_right _ _ (by omega), Int.ediv_eq_zero_of_lt (by omega) (by omega)]
      omega

set_option maxRecDepth 100000 in
set_option maxHeartbeats 4000000 in
theorem aheadTicks_walk (E : Nat → Addr) (B : Nat) (w : World) (hE : Errs all20 E B w) (p : Par) (from_ k : Int) (hk0 : -9223372036854775808 ≤ k) (hk1 : k ≤ 9223372036854775807) :
    Calls Tryd.prog 4 #[pv p, .int .i64 from_, .int .i64 k] w fun e w' => e = .returned (.bool true) ∧ Fr [] w w' := by
  have m1 : 1 ∈ all20 := by decide
  have m8 : 8 ∈ all20 := by decide
  have m18 : 18 ∈ all20 := by decide
  have HE0 := Lib.hid hE
  clear hE
  unfold pv
  go_enter Tryd.func4, Tryd.ntmps4
  go_wp2_with fail
  have HB := Lib.hid (heap_alloc_new w (.cells #[.int .i64 p.size, .int .i64 p.sent, .int .i64 p.spots, .int .i64 p.per, .int .i64 p.pat, .int .i64 p.ret] 36))
  have G0 := Lib.hid (Fr.refl [] (w.alloc (.cells #[.int .i64 p.size, .int .i64 p.sent, .int .i64 p.spots, .int .i64 p.per, .int .i64 p.pat, .int .i64 p.ret] 36)))
  have HE := Lib.hid (HE0.out.keep0 (Fr.alloc w (.cells #[.int .i64 p.size, .int .i64 p.sent, .int .i64 p.spots, .int .i64 p.per, .int .i64 p.pat, .int .i64 p.ret] 36)))
  have HA := Lib.hid (Fr.alloc (S := []) w (.cells #[.int .i64 p.size, .int .i64 p.sent, .int .i64 p.spots, .int .i64 p.per, .int .i64 p.pat, .int .i64 p.ret] 36))
  clear HE0
  have k0 := True.intro
  have k1 := True.intro
  have k2 := True.intro
  have k3 := True.intro
  have k4 := True.intro
  have k5 := True.intro
  refine (alive40_any _ E B _ HE.out m1 m8 m18).mono ?_
  rintro e w1 ⟨rfl, hf⟩
  have G1 := Lib.hid (G0.out.trans hf)
  clear hf k0 k1 k2 k3 k4 k5
  obtain ⟨k0, k1, k2, k3, k4, k5⟩ := par_cells (G1.out.keep HB.out (by simp))
  go_wp2_with fail
  refine (askAt_any _ E B _ (HE.out.keep0 G1.out) m1 m8 m18 p from_ k).mono ?_
  rintro e w2 ⟨ev1, rfl, hv1, hf⟩
  have G2 := Lib.hid (G1.out.trans hf)
  clear hf k0 k1 k2 k3 k4 k5
  obtain ⟨k0, k1, k2, k3, k4, k5⟩ := par_cells (G2.out.keep HB.out (by simp))
  have HV1 := Lib.hid hv1
  clear hv1
  go_wp2_with fail
  refine (stopAt_any _ E B _ (HE.out.keep0 G2.out) m1 m8 m18 p from_ k).mono ?_
  rintro e w3 ⟨ev2, rfl, hv2, hf⟩
  have G3 := Lib.hid (G2.out.trans hf)
  have HV1 := Lib.hid (HV1.out.keep0 hf)
  clear hf k0 k1 k2 k3 k4 k5
  obtain ⟨k0, k1, k2, k3, k4, k5⟩ := par_cells (G3.out.keep HB.out (by simp))
  have HV2 := Lib.hid hv2
  clear hv2
  go_wp2_with fail
  refine (rbegun_any _ p from_).mono ?_
  rintro e w4 ⟨rfl, hf⟩
  have G4 := Lib.hid (G3.out.trans hf)
  have HV1 := Lib.hid (HV1.out.keep0 hf)
  have HV2 := Lib.hid (HV2.out.keep0 hf)
  clear hf k0 k1 k2 k3 k4 k5
  obtain ⟨k0, k1, k2, k3, k4, k5⟩ := par_cells (G4.out.keep HB.out (by simp))
  go_wp2_with fail
  refine (rcheck_any _ p).mono ?_
  rintro e w5 ⟨s, v, rfl, hf⟩
  have G5 := Lib.hid (G4.out.trans hf)
  have HV1 := Lib.hid (HV1.out.keep0 hf)
  have HV2 := Lib.hid (HV2.out.keep0 hf)
  clear hf k0 k1 k2 k3 k4 k5
  obtain ⟨k0, k1, k2, k3, k4, k5⟩ := par_cells (G5.out.keep HB.out (by simp))
  by_cases hc : chk p = 0
  · have hwb := waitN_bd p hc
    have hcy := cyc_ok p hc
    have hcb := cyc_bd p hc
    obtain ⟨-, -, -, h3, h4, h5⟩ := chk_zero p hc
    have q1 : p.pat * (p.ret + 1) = waitN p := rfl
    obtain ⟨n, hn⟩ : ∃ n, waitN p = n := ⟨_, rfl⟩
    have hst : askE p from_ k = 0 → stopV p from_ k = askV p from_ k + n := fun h => by unfold stopV; rw [if_neg (by simp [h]), hn]
    have hav := askV_bd p from_ k
    have has := asksV_at p from_ k
    have haz := askE_zero p from_ k
    rw [hn] at q1 hwb hcy hcb
    obtain ⟨c, hcq⟩ : ∃ c, cyc p = c := ⟨_, rfl⟩
    rw [hcq] at hcy hcb
    simp only [hcq] at hav
    have hmx : (p.per ≤ n + 1 ∧ c = n + 1) ∨ (n + 1 < p.per ∧ c = p.per) := by omega
    rw [hc]
    have HCQ := Lib.hid hcq
    have HAV := Lib.hid hav
    have HAS := Lib.hid has
    have HAZ := Lib.hid haz
    have HST := Lib.hid hst
    have hcs : (∃ b : Nat, bgn p from_ = b ∧ b = 1 ∧ askE p from_ k = 1) ∨ (bgn p from_ = 0 ∧ (k < 0 ∨ (0 ≤ k ∧ 1048576 < k)) ∧ askE p from_ k = 1) ∨ (bgn p from_ = 0 ∧ (0 ≤ k ∧ k ≤ 1048576) ∧ askE p from_ k = 0) := by
      by_cases hb : bgn p from_ = 0
      · by_cases hk : k < 0 ∨ 1048576 < k
        · exact .inr (.inl ⟨hb, by omega, by unfold askE; rw [if_neg (by simp [hb]), if_pos hk]⟩)
        · exact .inr (.inr ⟨hb, by omega, by unfold askE; rw [if_neg (by simp [hb]), if_neg hk]⟩)
      · refine .inl ⟨1, ?_, rfl, ?_⟩
        · unfold bgn at hb ⊢
          rw [if_neg (by simp [hc])] at hb ⊢
          split <;> simp_all
        · unfold askE
          rw [if_pos hb]
          unfold bgn at hb ⊢
          rw [if_neg (by simp [hc])] at hb ⊢
          split <;> simp_all
    have hzv : askE p from_ k = 1 → askV p from_ k = 0 ∧ stopV p from_ k = 0 := fun h => ⟨by unfold askV; rw [if_pos (by rw [h]; decide)], by unfold stopV; rw [if_pos (by rw [h]; decide)]⟩
    have HZV := Lib.hid hzv
    clear hav has haz hst hn hcy hzv hcq hc
    rcases hmx with ⟨hm, rfl⟩ | ⟨hm, rfl⟩
    all_goals
      go_wp2_with fail
      refine (cycle_any _ E B _ (HE.out.keep0 G5.out) m1 m8 m18 p).mono ?_
      rintro e w6 ⟨rfl, hf⟩
      rw [HCQ.out]
      have G6 := Lib.hid (G5.out.trans hf)
      rcases hcs with ⟨b, eb, rfl, ea⟩ | ⟨eb, hk, ea⟩ | ⟨eb, hk, ea⟩
      · rw [eb, (HZV.out ea).1, (HZV.out ea).2]
        rw [ea] at HV1 HV2
        clear eb ea hcb
        have HV1 := Lib.hid (HV1.out.keep0 hf)
        have HV2 := Lib.hid (HV2.out.keep0 hf)
        clear hf k0 k1 k2 k3 k4 k5
        go_wp2_with fail
        refine (num_err E B 1 ev1 _ (HE.out.keep0 G6.out) (by decide) HV1.out).mono ?_
        rintro e w7 ⟨rfl, hf⟩
        have G7 := Lib.hid (G6.out.trans hf)
        have HV2 := Lib.hid (HV2.out.keep0 hf)
        clear hf
        go_wp2_with fail
        refine (num_err E B 1 ev2 _ (HE.out.keep0 G7.out) (by decide) HV2.out).mono ?_
        rintro e w8 ⟨rfl, hf⟩
        have G8 := Lib.hid (G7.out.trans hf)
        clear hf
        go_wp2
        go_ret
        exact ⟨rfl, HA.out.trans G8.out⟩
      · rw [eb, (HZV.out ea).1, (HZV.out ea).2]
        rw [ea] at HV1 HV2
        clear eb ea hcb
        rcases hk with hk | hk
        · skip
          have HV1 := Lib.hid (HV1.out.keep0 hf)
          have HV2 := Lib.hid (HV2.out.keep0 hf)
          clear hf k0 k1 k2 k3 k4 k5
          go_wp2_with fail
          refine (num_err E B 1 ev1 _ (HE.out.keep0 G6.out) (by decide) HV1.out).mono ?_
          rintro e w7 ⟨rfl, hf⟩
          have G7 := Lib.hid (G6.out.trans hf)
          have HV2 := Lib.hid (HV2.out.keep0 hf)
          clear hf
          go_wp2_with fail
          refine (num_err E B 1 ev2 _ (HE.out.keep0 G7.out) (by decide) HV2.out).mono ?_
          rintro e w8 ⟨rfl, hf⟩
          have G8 := Lib.hid (G7.out.trans hf)
          clear hf
          go_wp2
          go_ret
          exact ⟨rfl, HA.out.trans G8.out⟩
        · skip
          have HV1 := Lib.hid (HV1.out.keep0 hf)
          have HV2 := Lib.hid (HV2.out.keep0 hf)
          clear hf k0 k1 k2 k3 k4 k5
          go_wp2_with fail
          refine (num_err E B 1 ev1 _ (HE.out.keep0 G6.out) (by decide) HV1.out).mono ?_
          rintro e w7 ⟨rfl, hf⟩
          have G7 := Lib.hid (G6.out.trans hf)
          have HV2 := Lib.hid (HV2.out.keep0 hf)
          clear hf
          go_wp2_with fail
          refine (num_err E B 1 ev2 _ (HE.out.keep0 G7.out) (by decide) HV2.out).mono ?_
          rintro e w8 ⟨rfl, hf⟩
          have G8 := Lib.hid (G7.out.trans hf)
          clear hf
          go_wp2
          go_ret
          exact ⟨rfl, HA.out.trans G8.out⟩
      · have X1 := HAV.out ea
        have X2 := HAS.out ea
        have X3 := (bgn_zero p from_ eb).2
        rw [eb, HST.out ea]
        rw [ea] at HV1 HV2
        have := HV1.out.nil_iff
        subst this
        have := HV2.out.nil_iff
        subst this
        obtain ⟨a, ha⟩ : ∃ a, askV p from_ k = a := ⟨_, rfl⟩
        rw [ha] at X1 X2 ⊢
        have X2 := Lib.hid X2
        clear eb ea HV1 HV2 ha hcb
        clear hf k0 k1 k2 k3 k4 k5
        obtain ⟨k0, k1, k2, k3, k4, k5⟩ := par_cells (G6.out.keep HB.out (by simp))
        first
          | (obtain ⟨m, hmq⟩ : ∃ m, k * (n + 1) = m := ⟨_, rfl⟩
             rw [hmq] at X1)
          | (obtain ⟨m, hmq⟩ : ∃ m, k * p.per = m := ⟨_, rfl⟩
             rw [hmq] at X1)
        have hne1 : (a != from_ + p.per + m) = false := by rw [bne_eq_false_iff_eq]; exact X1.1
        have hne2 : (a + n != a + n) = false := by rw [bne_eq_false_iff_eq]
        have hmb : -1200000000000 ≤ m ∧ m ≤ 1200000000000 := by omega
        obtain ⟨X1a, X1⟩ := X1
        clear X1a
        go_wp2_with fail
        refine (asks_any _ E B _ (HE.out.keep0 G6.out) m1 m8 m18 p from_ a).mono ?_
        rintro e w7 ⟨rfl, hf⟩
        rw [X2.out.1]
        have G7 := Lib.hid (G6.out.trans hf)
        clear hf k0 k1 k2 k3 k4 k5
        obtain ⟨k0, k1, k2, k3, k4, k5⟩ := par_cells (G7.out.keep HB.out (by simp))
        have heq1 : (k + 1 == k + 1) = true := by simp
        have heq2 : (k == k) = true := by simp
        go_wp2_with fail
        refine (asks_any _ E B _ (HE.out.keep0 G7.out) m1 m8 m18 p from_ (a - 1)).mono ?_
        rintro e w8 ⟨rfl, hf⟩
        rw [X2.out.2]
        have G8 := Lib.hid (G7.out.trans hf)
        clear hf k0 k1 k2 k3 k4 k5
        go_wp2
        go_ret
        exact ⟨rfl, HA.out.trans G8.out⟩
  · have e1 : bgn p from_ = chk p := by unfold bgn; rw [if_pos hc]
    have e2 : askE p from_ k = chk p := by unfold askE; rw [e1, if_pos hc]
    have e3 : askV p from_ k = 0 := by unfold askV; rw [e2, if_pos hc]
    have e4 : stopV p from_ k = 0 := by unfold stopV; rw [e2, if_pos hc]
    have e5 : cyc p = 0 := by unfold cyc; rw [if_pos hc]
    have e6 : chk p ≤ 20 := by unfold chk; split <;> (try split) <;> (try split) <;> decide
    rw [e2] at HV1 HV2
    rw [e1, e3, e4]
    obtain ⟨n, hn⟩ : ∃ n, chk p = n := ⟨_, rfl⟩
    rw [hn] at HV1 HV2 hc e6 ⊢
    have hn0 : ((n : Int) != 0) = true := by rw [bne_iff_ne]; omega
    have hn1 : ((n : Int) == 0) = false := by rw [beq_eq_false_iff_ne]; omega
    have E5 := Lib.hid e5
    clear e1 e2 e3 e4 e5 hn
    go_wp2_with fail
    refine (cycle_any _ E B _ (HE.out.keep0 G5.out) m1 m8 m18 p).mono ?_
    rintro e w6 ⟨rfl, hf⟩
    rw [E5.out]
    have G6 := Lib.hid (G5.out.trans hf)
    have HV1 := Lib.hid (HV1.out.keep0 hf)
    have HV2 := Lib.hid (HV2.out.keep0 hf)
    clear hf k0 k1 k2 k3 k4 k5
    go_wp2_with fail
    refine (num_err E B n ev1 _ (HE.out.keep0 G6.out) e6 HV1.out).mono ?_
    rintro e w7 ⟨rfl, hf⟩
    have G7 := Lib.hid (G6.out.trans hf)
    have HV2 := Lib.hid (HV2.out.keep0 hf)
    clear hf
    go_wp2_with fail
    refine (num_err E B n ev2 _ (HE.out.keep0 G7.out) e6 HV2.out).mono ?_
    rintro e w8 ⟨rfl, hf⟩
    have G8 := Lib.hid (G7.out.trans hf)
    clear hf
    go_wp2
    go_ret
    exact ⟨rfl, HA.out.trans G8.out⟩
end Go.Proofs.YtbohmnblegljkaaDoor
