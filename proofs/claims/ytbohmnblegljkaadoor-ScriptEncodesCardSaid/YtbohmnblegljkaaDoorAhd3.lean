/-
  Layer 40: StopAt, Asks.
-/
import Derived.Test.YtbohmnblegljkaaDoorAhd2
namespace Go.Proofs.YtbohmnblegljkaaDoor
open Go.RowKit Go.Bl
set_option linter.unusedVariables false

def stopV (p : Par) (from_ k : Int) : Int := if askE p from_ k ≠ 0 then 0 else askV p from_ k + waitN p
theorem askV_bd (p : Par) (from_ k : Int) (h : askE p from_ k = 0) : askV p from_ k = from_ + p.per + k * cyc p ∧ 1 ≤ askV p from_ k ∧ askV p from_ k ≤ 1200000000000 := by
  obtain ⟨h1, h2, h3⟩ := askE_zero p from_ k h
  obtain ⟨h4, h5, h6⟩ := bgn_zero p from_ h1
  have hc := cyc_bd p h4
  have hp := (chk_zero p h4).2.2.2.1
  have hm := mul_bd k (cyc p) (by omega) (by omega) (by omega) (by omega)
  have e : askV p from_ k = from_ + p.per + k * cyc p := by unfold askV; rw [if_neg (by simp [h])]
  rw [e]
  exact ⟨rfl, by omega, by omega⟩

set_option maxHeartbeats 1000000 in
theorem stopAt_any (L : List Nat) (E : Nat → Addr) (B : Nat) (w : World) (hE : Errs L E B w) (h1 : 1 ∈ L) (h8 : 8 ∈ L) (h18 : 18 ∈ L) (p : Par) (from_ k : Int) :
    Calls Tryd.prog 17 #[pv p, .int .i64 from_, .int .i64 k] w fun e w' => ∃ ev, e = .returned (.tuple #[.int .i64 (stopV p from_ k), ev]) ∧ ErrV E w' (askE p from_ k) ev ∧ Fr [] w w' := by
  have HE := Lib.hid hE
  clear hE
  by_cases hc : askE p from_ k = 0
  · have hsv : stopV p from_ k = askV p from_ k + waitN p := by unfold stopV; rw [if_neg (by simp [hc])]
    have hab := (askV_bd p from_ k hc).2
    have h0 := (bgn_zero p from_ (askE_zero p from_ k hc).1).1
    have hwb := waitN_bd p h0
    have HW := Lib.hid fun w => wait_ok w p h0
    have HC := Lib.hid hc
    have HS := Lib.hid hsv
    clear hc hsv
    unfold pv
    go_enter Tryd.func17, Tryd.ntmps17
    go_wp2_with fail
    refine (askAt_any L E B _ (HE.out.keep0 (Fr.alloc _ _)) h1 h8 h18 p from_ k).mono ?_
    rintro e w1 ⟨ev, rfl, hv, hf⟩
    rw [HC.out] at hv
    have := hv.nil_iff
    subst this
    clear hv
    have hb := hf.keep (heap_alloc_new _ _) (by simp)
    obtain ⟨k0, k1, k2, k3, k4, k5⟩ := par_cells hb
    have HF := Lib.hid ((Fr.alloc (S := []) w _).trans hf)
    clear hf HE hb
    go_wp2_with fail
    refine (HW.out _).mono ?_
    rintro e w2 ⟨rfl, hf2⟩
    have HF2 := Lib.hid hf2
    clear hf2
    go_wp2
    go_ret2
    exact ⟨_, by rw [HS.out]; rfl, by rw [HC.out]; exact .nil, HF.out.trans HF2.out⟩
  · have hsv : stopV p from_ k = 0 := by unfold stopV; rw [if_pos hc]
    have HS := Lib.hid hsv
    clear hsv
    unfold pv
    go_enter Tryd.func17, Tryd.ntmps17
    go_wp2_with fail
    refine (askAt_any L E B _ (HE.out.keep0 (Fr.alloc _ _)) h1 h8 h18 p from_ k).mono ?_
    rintro e w1 ⟨ev, rfl, hv, hf⟩
    obtain ⟨t, a, rfl⟩ := hv.some_of hc
    have HX := Lib.hid hv
    have HF := Lib.hid ((Fr.alloc (S := []) w _).trans hf)
    clear hv hf HE hc
    go_wp2
    go_ret2
    exact ⟨_, by rw [HS.out]; rfl, HX.out, HF.out⟩

def asksV (p : Par) (from_ to : Int) : Int := if bgn p from_ ≠ 0 ∨ to < from_ + p.per ∨ 2199023255552 < to then 0 else (to - from_ - p.per) / cyc p + 1

set_option maxHeartbeats 1000000 in
theorem asks_any (L : List Nat) (E : Nat → Addr) (B : Nat) (w : World) (hE : Errs L E B w) (h1 : 1 ∈ L) (h8 : 8 ∈ L) (h18 : 18 ∈ L) (p : Par) (from_ to : Int) :
    Calls Tryd.prog 21 #[pv p, .int .i64 from_, .int .i64 to] w fun e w' => e = .returned (.int .i64 (asksV p from_ to)) ∧ Fr [] w w' := by
  have HE := Lib.hid hE
  clear hE
  by_cases hc : bgn p from_ = 0
  · have h0 := bgn_zero p from_ hc
    have hcb := cyc_bd p h0.1
    have hp := (chk_zero p h0.1).2.2.2.1
    have h3 : to < from_ + p.per ∨ (from_ + p.per ≤ to ∧ 2199023255552 < to) ∨ (from_ + p.per ≤ to ∧ to ≤ 2199023255552) := by omega
    have hz : to < from_ + p.per ∨ 2199023255552 < to → asksV p from_ to = 0 := fun h => by unfold asksV; rw [if_pos (.inr h)]
    have hz' : (from_ + p.per ≤ to ∧ to ≤ 2199023255552) → asksV p from_ to = (to - from_ - p.per) / cyc p + 1 := fun h => by unfold asksV; rw [if_neg (by simp [hc]; omega)]
    have HC := Lib.hid hc
    have HZ := Lib.hid hz
    have HZ' := Lib.hid hz'
    clear hc hz hz'
    unfold pv
    go_enter Tryd.func21, Tryd.ntmps21
    go_wp2_with fail
    refine (begun_any L E B _ (HE.out.keep0 (Fr.alloc _ _)) h1 h8 h18 p from_).mono ?_
    rintro e w1 ⟨v, rfl, hv, hf⟩
    rw [HC.out] at hv
    have := hv.nil_iff
    subst this
    clear hv
    have hb := hf.keep (heap_alloc_new _ _) (by simp)
    obtain ⟨q0, q1, q2, q3, q4, q5⟩ := par_cells hb
    have HF := Lib.hid ((Fr.alloc (S := []) w _).trans hf)
    have HE1 := Lib.hid (HE.out.keep0 HF.out)
    clear hf HE
    rcases h3 with h | h | h
    · have HY := Lib.hid (HZ.out (by omega))
      clear hb HZ HZ' HC hcb
      go_wp2
      go_ret
      exact ⟨by rw [HY.out]; rfl, HF.out⟩
    · have HY := Lib.hid (HZ.out (by omega))
      clear hb HZ HZ' HC hcb
      go_wp2
      go_ret
      exact ⟨by rw [HY.out]; rfl, HF.out⟩
    · have HY := Lib.hid (HZ'.out (by omega))
      have k0 : ∀ x : Kin w1, x.w.cell? ⟨w.heap.size, 0, none⟩ = _ := fun x => (par_cells (x.cell hb)).1
      have k1 : ∀ x : Kin w1, x.w.cell? ⟨w.heap.size, 1, none⟩ = _ := fun x => (par_cells (x.cell hb)).2.1
      have k2 : ∀ x : Kin w1, x.w.cell? ⟨w.heap.size, 2, none⟩ = _ := fun x => (par_cells (x.cell hb)).2.2.1
      have k3 : ∀ x : Kin w1, x.w.cell? ⟨w.heap.size, 3, none⟩ = _ := fun x => (par_cells (x.cell hb)).2.2.2.1
      have k4 : ∀ x : Kin w1, x.w.cell? ⟨w.heap.size, 4, none⟩ = _ := fun x => (par_cells (x.cell hb)).2.2.2.2.1
      have k5 : ∀ x : Kin w1, x.w.cell? ⟨w.heap.size, 5, none⟩ = _ := fun x => (par_cells (x.cell hb)).2.2.2.2.2
      have hcc : ∀ w, Errs L E B w → Calls Tryd.prog 20 #[pv p] w fun e w' => e = .returned (.int .i64 (cyc p)) ∧ Fr [] w w' := fun w h => cycle_any L E B w h h1 h8 h18 p
      obtain ⟨c, hcq⟩ : ∃ c, cyc p = c := ⟨_, rfl⟩
      simp only [hcq] at hcc hcb HY
      have HCC := Lib.hid hcc
      have hc0 : c ≠ 0 := by omega
      have hd : 0 ≤ (to - from_ - p.per) / c ∧ (to - from_ - p.per) / c ≤ 2199023255552 := ⟨Int.ediv_nonneg (by omega) (by omega), by have := Int.ediv_le_self (a := to - from_ - p.per) c (by omega); omega⟩
      have hw : wrap64 ((to - from_ - p.per) / c + 1) = (to - from_ - p.per) / c + 1 := by
        obtain ⟨d, hd'⟩ : ∃ d, (to - from_ - p.per) / c = d := ⟨_, rfl⟩
        rw [hd'] at hd ⊢
        unfold wrap64; omega
      have HWR := Lib.hid hw
      clear hw hd
      clear hb HZ HZ' HC hcc hcq
      go_wp2
      refine wp_region_calm w1 (by kernel_rfl) (by kernel_rfl) (Fr.refl _ _) ?_
      repeat (go_big_quiet_step ((refine calm_of (HCC.out _ (HE1.out.keep0 (Kin.fr _))))))
      refine wpQuiet_nil ?_
      rintro _ ⟨wq, rfl⟩
      go_wp2
      go_ret
      exact ⟨by rw [HY.out.trans HWR.out.symm]; rfl, HF.out.trans wq.fr⟩
  · have hb : asksV p from_ to = 0 := by unfold asksV; rw [if_pos (.inl hc)]
    have HB := Lib.hid hb
    clear hb
    unfold pv
    go_enter Tryd.func21, Tryd.ntmps21
    go_wp2_with fail
    refine (begun_any L E B _ (HE.out.keep0 (Fr.alloc _ _)) h1 h8 h18 p from_).mono ?_
    rintro e w1 ⟨v, rfl, hv, hf⟩
    have HF := Lib.hid ((Fr.alloc (S := []) w _).trans hf)
    obtain ⟨t, a, rfl⟩ := hv.some_of hc
    clear hv hf HE hc
    go_wp2
    go_ret
    exact ⟨by rw [HB.out]; rfl, HF.out⟩
end Go.Proofs.YtbohmnblegljkaaDoor
