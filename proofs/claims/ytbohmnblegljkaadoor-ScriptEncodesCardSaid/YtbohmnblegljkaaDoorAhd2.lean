/-
  Layer 40: AskAt, StopAt, Asks.
-/
import Derived.Test.YtbohmnblegljkaaDoorAhd
namespace Go.Proofs.YtbohmnblegljkaaDoor
open Go.RowKit Go.Bl
set_option linter.unusedVariables false

theorem bgn_zero (p : Par) (from_ : Int) (h : bgn p from_ = 0) : chk p = 0 ∧ 0 ≤ from_ ∧ from_ ≤ 1099511627776 := by
  unfold bgn at h
  by_cases hc : chk p = 0
  · rw [if_neg (by simp [hc])] at h
    refine ⟨hc, ?_⟩
    split at h
    · cases h
    · omega
  · rw [if_pos hc] at h
    exact absurd h hc
theorem cyc_ok (p : Par) (h : chk p = 0) : cyc p = max p.per (waitN p + 1) := by unfold cyc; rw [if_neg (by simp [h])]
theorem cyc_bd (p : Par) (h : chk p = 0) : 1 ≤ cyc p ∧ cyc p ≤ 60001 ∧ p.per ≤ cyc p ∧ waitN p + 1 ≤ cyc p := by
  have := waitN_bd p h
  have hp := (chk_zero p h).2.2.2.1
  rw [cyc_ok p h]
  omega
def askE (p : Par) (from_ k : Int) : Nat := if bgn p from_ ≠ 0 then bgn p from_ else if k < 0 ∨ 1048576 < k then 1 else 0
def askV (p : Par) (from_ k : Int) : Int := if askE p from_ k ≠ 0 then 0 else from_ + p.per + k * cyc p
theorem askE_zero (p : Par) (from_ k : Int) (h : askE p from_ k = 0) : bgn p from_ = 0 ∧ 0 ≤ k ∧ k ≤ 1048576 := by
  unfold askE at h
  by_cases hc : bgn p from_ = 0
  · rw [if_neg (by simp [hc])] at h
    refine ⟨hc, ?_⟩
    split at h
    · cases h
    · omega
  · rw [if_pos hc] at h
    exact absurd h hc
theorem mul_bd (k c : Int) (h1 : 0 ≤ k) (h2 : k ≤ 1048577) (h3 : 0 ≤ c) (h4 : c ≤ 60001) : 0 ≤ k * c ∧ k * c ≤ 62915668577 := by
  constructor
  · exact Int.mul_nonneg h1 h3
  · have := Int.mul_le_mul h2 h4 h3 (by omega)
    omega

set_option maxHeartbeats 1000000 in
theorem askAt_any (L : List Nat) (E : Nat → Addr) (B : Nat) (w : World) (hE : Errs L E B w) (h1 : 1 ∈ L) (h8 : 8 ∈ L) (h18 : 18 ∈ L) (p : Par) (from_ k : Int) :
    Calls Tryd.prog 16 #[pv p, .int .i64 from_, .int .i64 k] w fun e w' => ∃ ev, e = .returned (.tuple #[.int .i64 (askV p from_ k), ev]) ∧ ErrV E w' (askE p from_ k) ev ∧ Fr [] w w' := by
  have HE := Lib.hid hE
  clear hE
  by_cases hc : bgn p from_ = 0
  · have h0 := bgn_zero p from_ hc
    have hcb := cyc_bd p h0.1
    have hp := (chk_zero p h0.1).2.2.2.1
    have h3 : k < 0 ∨ (0 ≤ k ∧ 1048576 < k) ∨ (0 ≤ k ∧ k ≤ 1048576) := by omega
    have hz : k < 0 ∨ 1048576 < k → askE p from_ k = 1 ∧ askV p from_ k = 0 := by
      intro h
      have : askE p from_ k = 1 := by unfold askE; rw [if_neg (by simp [hc]), if_pos h]
      exact ⟨this, by unfold askV; rw [if_pos (by rw [this]; decide)]⟩
    have hz' : (0 ≤ k ∧ k ≤ 1048576) → askE p from_ k = 0 ∧ askV p from_ k = from_ + p.per + k * cyc p := by
      intro h
      have : askE p from_ k = 0 := by unfold askE; rw [if_neg (by simp [hc]), if_neg (by omega)]
      exact ⟨this, by unfold askV; rw [if_neg (by rw [this]; decide)]⟩
    have HC := Lib.hid hc
    have HZ := Lib.hid hz
    have HZ' := Lib.hid hz'
    clear hc hz hz'
    unfold pv
    go_enter Tryd.func16, Tryd.ntmps16
    go_wp2_with fail
    refine (begun_any L E B _ (HE.out.keep0 (Fr.alloc _ _)) h1 h8 h18 p from_).mono ?_
    rintro e w1 ⟨v, rfl, hv, hf⟩
    rw [HC.out] at hv
    have := hv.nil_iff
    subst this
    clear hv
    have hb := hf.keep (heap_alloc_new _ _) (by simp)
    have HF := Lib.hid ((Fr.alloc (S := []) w _).trans hf)
    have HE1 := Lib.hid (HE.out.keep0 HF.out)
    have c1 := HE1.out.cell 1 h1
    simp only [gOf, List.getD_eq_getElem?_getD, List.getElem?_cons_zero, List.getElem?_cons_succ, Option.getD_some] at c1
    clear hf HE
    rcases h3 with h | h | h
    · have HY := Lib.hid (HZ.out (by omega))
      clear hb HZ HZ' HC hcb
      go_wp2
      go_quiet (fail)
      go_wp2
      go_ret2
      exact ⟨_, by rw [HY.out.2]; rfl, by rw [HY.out.1]; exact .plain 1 (by decide), HF.out.trans ((Dr.refl _).drewN _).fr⟩
    · have HY := Lib.hid (HZ.out (by omega))
      clear hb HZ HZ' HC hcb
      go_wp2
      go_quiet (fail)
      go_wp2
      go_ret2
      exact ⟨_, by rw [HY.out.2]; rfl, by rw [HY.out.1]; exact .plain 1 (by decide), HF.out.trans ((Dr.refl _).drewN _).fr⟩
    · have HY := Lib.hid (HZ'.out (by omega))
      have k0 : ∀ x : Kin w1, x.w.cell? ⟨w.heap.size, 0, none⟩ = _ := fun x => (par_cells (x.cell hb)).1
      have k1 : ∀ x : Kin w1, x.w.cell? ⟨w.heap.size, 1, none⟩ = _ := fun x => (par_cells (x.cell hb)).2.1
      have k2 : ∀ x : Kin w1, x.w.cell? ⟨w.heap.size, 2, none⟩ = _ := fun x => (par_cells (x.cell hb)).2.2.1
      have k3 : ∀ x : Kin w1, x.w.cell? ⟨w.heap.size, 3, none⟩ = _ := fun x => (par_cells (x.cell hb)).2.2.2.1
      have k4 : ∀ x : Kin w1, x.w.cell? ⟨w.heap.size, 4, none⟩ = _ := fun x => (par_cells (x.cell hb)).2.2.2.2.1
      have k5 : ∀ x : Kin w1, x.w.cell? ⟨w.heap.size, 5, none⟩ = _ := fun x => (par_cells (x.cell hb)).2.2.2.2.2
      have hcc : ∀ w, Errs L E B w → Calls Tryd.prog 20 #[pv p] w fun e w' => e = .returned (.int .i64 (cyc p)) ∧ Fr [] w w' := fun w h => cycle_any L E B w h h1 h8 h18 p
      have hmb := mul_bd k (cyc p) (by omega) (by omega) (by omega) (by omega)
      obtain ⟨c, hcq⟩ : ∃ c, cyc p = c := ⟨_, rfl⟩
      simp only [hcq] at hcc hcb HY hmb
      have HCC := Lib.hid hcc
      obtain ⟨m, hmq⟩ : ∃ m, k * c = m := ⟨_, rfl⟩
      rw [hmq] at hmb
      clear hb HZ HZ' HC hcc hcq
      go_wp2
      refine wp_region_calm w1 (by kernel_rfl) (by kernel_rfl) (Fr.refl _ _) ?_
      repeat (go_big_quiet_step ((refine calm_of (HCC.out _ (HE1.out.keep0 (Kin.fr _))))))
      refine wpQuiet_nil ?_
      rintro _ ⟨wq, rfl⟩
      go_wp2
      go_ret2
      exact ⟨_, by rw [HY.out.2, hmq]; rfl, by rw [HY.out.1]; exact .nil, HF.out.trans wq.fr⟩
  · have hb : askE p from_ k = bgn p from_ := by unfold askE; rw [if_pos hc]
    have hv0 : askV p from_ k = 0 := by unfold askV; rw [if_pos (by rw [hb]; exact hc)]
    have HB := Lib.hid hb
    have HV := Lib.hid hv0
    clear hb hv0
    unfold pv
    go_enter Tryd.func16, Tryd.ntmps16
    go_wp2_with fail
    refine (begun_any L E B _ (HE.out.keep0 (Fr.alloc _ _)) h1 h8 h18 p from_).mono ?_
    rintro e w1 ⟨v, rfl, hv, hf⟩
    have HF := Lib.hid ((Fr.alloc (S := []) w _).trans hf)
    obtain ⟨t, a, rfl⟩ := hv.some_of hc
    have HX := Lib.hid hv
    clear hv hf HE hc
    go_wp2
    go_ret2
    exact ⟨_, by rw [HV.out]; rfl, by rw [HB.out]; exact HX.out, HF.out⟩
end Go.Proofs.YtbohmnblegljkaaDoor
