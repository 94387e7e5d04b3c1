/-
  Layer 40: when is asked.
-/
import Derived.Test.YtbohmnblegljkaaDoorChk2
namespace Go.Proofs.YtbohmnblegljkaaDoor
open Go.RowKit Go.Bl
set_option linter.unusedVariables false

/-- the number of begun's error -/
def bgn (p : Par) (from_ : Int) : Nat := if chk p ≠ 0 then chk p else if from_ < 0 ∨ 1099511627776 < from_ then 1 else 0
def pv (p : Par) : Value := .agg #[.int .i64 p.size, .int .i64 p.sent, .int .i64 p.spots, .int .i64 p.per, .int .i64 p.pat, .int .i64 p.ret]
theorem chk_zero (p : Par) (h : chk p = 0) : (0 ≤ p.size ∧ p.size ≤ 2000) ∧ (0 ≤ p.sent ∧ p.sent ≤ 8) ∧ (1 ≤ p.spots ∧ p.spots ≤ min 12 (blk p.size + p.sent)) ∧ (1 ≤ p.per ∧ p.per ≤ 10000) ∧ (1 ≤ p.pat ∧ p.pat ≤ p.per) ∧ (0 ≤ p.ret ∧ p.ret ≤ 5) := by
  by_cases h0 : okAt p 0
  · by_cases h1 : okAt p 1
    · by_cases h2 : okAt p 2
      · by_cases h3 : okAt p 3
        · by_cases h4 : okAt p 4
          · by_cases h5 : okAt p 5
            · exact ⟨h0, h1, h2, h3, h4, h5⟩
            · simp [chk, h0, h1, h5] at h
          · simp [chk, h0, h1, h4] at h
        · simp [chk, h0, h1, h3] at h
      · simp [chk, h0, h1, h2] at h
    · simp [chk, h0, h1] at h
  · simp [chk, h0] at h

/-- the six cells of parameters at a block -/
theorem par_cells {w : World} {b : Nat} {p : Par} (h : w.heap[b]? = some (.cells #[.int .i64 p.size, .int .i64 p.sent, .int .i64 p.spots, .int .i64 p.per, .int .i64 p.pat, .int .i64 p.ret] 36 (0, 0))) :
    w.cell? ⟨b, 0, none⟩ = some (.int .i64 p.size) ∧ w.cell? ⟨b, 1, none⟩ = some (.int .i64 p.sent) ∧ w.cell? ⟨b, 2, none⟩ = some (.int .i64 p.spots) ∧ w.cell? ⟨b, 3, none⟩ = some (.int .i64 p.per) ∧ w.cell? ⟨b, 4, none⟩ = some (.int .i64 p.pat) ∧ w.cell? ⟨b, 5, none⟩ = some (.int .i64 p.ret) :=
  ⟨by rw [cell_of h]; rfl, by rw [cell_of h]; rfl, by rw [cell_of h]; rfl, by rw [cell_of h]; rfl, by rw [cell_of h]; rfl, by rw [cell_of h]; rfl⟩

set_option maxHeartbeats 1000000 in
theorem begun_any (L : List Nat) (E : Nat → Addr) (B : Nat) (w : World) (hE : Errs L E B w) (h1 : 1 ∈ L) (h8 : 8 ∈ L) (h18 : 18 ∈ L) (p : Par) (from_ : Int) :
    Calls Tryd.prog 40 #[pv p, .int .i64 from_] w fun e w' => ∃ v, e = .returned v ∧ ErrV E w' (bgn p from_) v ∧ Fr [] w w' := by
  have HE := Lib.hid hE
  clear hE
  unfold pv
  go_enter Tryd.func40, Tryd.ntmps40
  go_wp2_with fail
  refine (check_any L E B _ (HE.out.keep0 (Fr.alloc _ _)) h1 h8 h18 p).mono ?_
  rintro e w1 ⟨v, rfl, hv, hf⟩
  have HF := Lib.hid ((Fr.alloc (S := []) w _).trans hf)
  have hE1 := Lib.hid ((HE.out.keep0 HF.out).cell 1 h1)
  clear hf HE
  by_cases hc : chk p = 0
  · have hb : bgn p from_ = if from_ < 0 ∨ 1099511627776 < from_ then 1 else 0 := by unfold bgn; rw [if_neg (by simp [hc])]
    rw [hc] at hv
    have := hv.nil_iff
    subst this
    clear hv
    have h3 : from_ < 0 ∨ (0 ≤ from_ ∧ 1099511627776 < from_) ∨ (0 ≤ from_ ∧ from_ ≤ 1099511627776) := by omega
    have c1 := hE1.out
    simp only [gOf, List.getD_eq_getElem?_getD, List.getElem?_cons_zero, List.getElem?_cons_succ, Option.getD_some] at c1
    rcases h3 with h | h | h
    · rw [if_pos (by omega)] at hb
      have HB := Lib.hid hb
      clear hb
      go_wp2
      go_ret
      exact ⟨_, rfl, by rw [HB.out]; exact .plain 1 (by decide), HF.out⟩
    · rw [if_pos (by omega)] at hb
      have HB := Lib.hid hb
      clear hb
      go_wp2
      go_ret
      exact ⟨_, rfl, by rw [HB.out]; exact .plain 1 (by decide), HF.out⟩
    · rw [if_neg (by omega)] at hb
      have HB := Lib.hid hb
      clear hb
      go_wp2
      go_ret
      exact ⟨_, rfl, by rw [HB.out]; exact .nil, HF.out⟩
  · have hb : bgn p from_ = chk p := by unfold bgn; rw [if_pos hc]
    obtain ⟨t, a, rfl⟩ := hv.some_of hc
    have HV := Lib.hid hv
    have HB := Lib.hid hb
    clear hv hb hc
    go_wp2
    go_ret
    exact ⟨_, rfl, by rw [HB.out]; exact HV.out, HF.out⟩

/-- how long a challenge is open, and how many ticks lie between two -/
def waitN (p : Par) : Int := p.pat * (p.ret + 1)
def cyc (p : Par) : Int := if chk p ≠ 0 then 0 else max p.per (waitN p + 1)
theorem waitN_bd (p : Par) (h : chk p = 0) : 1 ≤ waitN p ∧ waitN p ≤ 60000 := by
  obtain ⟨-, -, -, h3, h4, h5⟩ := chk_zero p h
  unfold waitN
  have : p.ret = 0 ∨ p.ret = 1 ∨ p.ret = 2 ∨ p.ret = 3 ∨ p.ret = 4 ∨ p.ret = 5 := by omega
  rcases this with e | e | e | e | e | e <;> rw [e] <;> omega

set_option maxHeartbeats 1000000 in
theorem wait_ok (w : World) (p : Par) (h : chk p = 0) : Calls Tryd.prog 41 #[pv p] w fun e w' => e = .returned (.int .i64 (waitN p)) ∧ Fr [] w w' := by
  have hb := waitN_bd p h
  obtain ⟨-, -, -, h3, h4, h5⟩ := chk_zero p h
  have e1 : p.pat * (p.ret + 1) = waitN p := rfl
  obtain ⟨n, hn⟩ : ∃ n, waitN p = n := ⟨_, rfl⟩
  rw [hn] at e1 hb ⊢
  have hr : 0 ≤ p.ret + 1 ∧ p.ret + 1 ≤ 6 := by omega
  clear hn h h3
  unfold pv
  go_enter Tryd.func41, Tryd.ntmps41
  go_wp2
  go_ret
  exact ⟨rfl, Fr.alloc _ _⟩

set_option maxHeartbeats 1000000 in
theorem cycle_any (L : List Nat) (E : Nat → Addr) (B : Nat) (w : World) (hE : Errs L E B w) (h1 : 1 ∈ L) (h8 : 8 ∈ L) (h18 : 18 ∈ L) (p : Par) :
    Calls Tryd.prog 20 #[pv p] w fun e w' => e = .returned (.int .i64 (cyc p)) ∧ Fr [] w w' := by
  have HE := Lib.hid hE
  clear hE
  by_cases hc : chk p = 0
  · have hcy : cyc p = max p.per (waitN p + 1) := by unfold cyc; rw [if_neg (by simp [hc])]
    have hwt := fun w => wait_ok w p hc
    have HB := waitN_bd p hc
    have HP := (chk_zero p hc).2.2.2.1
    rw [hcy]
    obtain ⟨n, hn⟩ : ∃ n, waitN p = n := ⟨_, rfl⟩
    simp only [hn] at hwt HB ⊢
    have HW := Lib.hid hwt
    clear hwt hcy hn
    have hm : (p.per < n + 1 ∧ n + 1 = max p.per (n + 1)) ∨ (n + 1 ≤ p.per ∧ p.per = max p.per (n + 1)) := by omega
    obtain ⟨c, hcc⟩ : ∃ c, max p.per (n + 1) = c := ⟨_, rfl⟩
    rw [hcc] at hm ⊢
    have HM := Lib.hid hm
    clear hm hcc
    unfold pv at *
    go_enter Tryd.func20, Tryd.ntmps20
    go_wp2_with fail
    refine (check_any L E B _ (HE.out.keep0 (Fr.alloc _ _)) h1 h8 h18 p).mono ?_
    rintro e w1 ⟨v, rfl, hv, hf⟩
    rw [hc] at hv
    have := hv.nil_iff
    subst this
    have hb := hf.keep (heap_alloc_new _ _) (by simp)
    have HF := Lib.hid ((Fr.alloc (S := []) w _).trans hf)
    have k0 : ∀ x : Kin w1, x.w.cell? ⟨w.heap.size, 0, none⟩ = _ := fun x => (par_cells (x.cell hb)).1
    have k1 : ∀ x : Kin w1, x.w.cell? ⟨w.heap.size, 1, none⟩ = _ := fun x => (par_cells (x.cell hb)).2.1
    have k2 : ∀ x : Kin w1, x.w.cell? ⟨w.heap.size, 2, none⟩ = _ := fun x => (par_cells (x.cell hb)).2.2.1
    have k3 : ∀ x : Kin w1, x.w.cell? ⟨w.heap.size, 3, none⟩ = _ := fun x => (par_cells (x.cell hb)).2.2.2.1
    have k4 : ∀ x : Kin w1, x.w.cell? ⟨w.heap.size, 4, none⟩ = _ := fun x => (par_cells (x.cell hb)).2.2.2.2.1
    have k5 : ∀ x : Kin w1, x.w.cell? ⟨w.heap.size, 5, none⟩ = _ := fun x => (par_cells (x.cell hb)).2.2.2.2.2
    clear hf hb hv HE hc
    rcases HM.out with ⟨h, e⟩ | ⟨h, e⟩
    all_goals
      have HEQ := Lib.hid e
      clear e HM
      go_wp2
      refine wp_region_calm w1 (by kernel_rfl) (by kernel_rfl) (Fr.refl _ _) ?_
      repeat (go_big_quiet_step ((refine calm_of (HW.out _))))
      refine wpQuiet_nil ?_
      rintro _ ⟨wq, rfl⟩
      go_wp2
      go_ret
      exact ⟨by first | rfl | (rw [← HEQ.out]; rfl), HF.out.trans wq.fr⟩
  · have hcy : cyc p = 0 := by unfold cyc; rw [if_pos hc]
    rw [hcy]
    unfold pv
    go_enter Tryd.func20, Tryd.ntmps20
    go_wp2_with fail
    refine (check_any L E B _ (HE.out.keep0 (Fr.alloc _ _)) h1 h8 h18 p).mono ?_
    rintro e w1 ⟨v, rfl, hv, hf⟩
    have HF := Lib.hid ((Fr.alloc (S := []) w _).trans hf)
    obtain ⟨t, a, rfl⟩ := hv.some_of hc
    clear hv hf HE hc hcy
    go_wp2
    go_ret
    exact ⟨rfl, HF.out⟩
end Go.Proofs.YtbohmnblegljkaaDoor
