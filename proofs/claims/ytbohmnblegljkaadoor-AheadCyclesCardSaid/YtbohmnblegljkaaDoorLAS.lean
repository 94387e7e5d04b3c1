/-
  The law AheadSilent, walked.
-/
import Derived.Test.YtbohmnblegljkaaDoorRun
import Derived.Test.YtbohmnblegljkaaDoorLAT
namespace Go.Proofs.YtbohmnblegljkaaDoor
open Go.RowKit Go.Bl
set_option linter.unusedVariables false

theorem Errs.up {L : List Nat} {E : Nat → Addr} {B B' : Nat} {w : World} (h : Errs L E B w) (hB : B ≤ B') : Errs L E B' w :=
  ⟨h.glob, h.blk, h.inj, fun k hk => Nat.lt_of_lt_of_le (h.ltg k hk) hB, fun k hk => Nat.lt_of_lt_of_le (h.lte k hk) hB⟩

theorem evC_get (l : List Ev) : ∀ (j f : Nat), j < l.length → f < 3 → (l.flatMap evC)[j * 3 + f]? = (evC (l.getD j (0, 0, 0)))[f]? := by
  induction l with
  | nil => intro j f hj; simp at hj
  | cons e l ih =>
    intro j f hj hf
    rw [List.flatMap_cons]
    cases j with
    | zero => 
      rw [List.getElem?_append_left (by simp [evC]; omega)]
      simp
    | succ j =>
      rw [List.getElem?_append_right (by simp [evC]; omega)]
      have : (j + 1) * 3 + f - (evC e).length = j * 3 + f := by simp [evC]; omega
      rw [this, ih j f (by simpa using hj) hf]
      simp
/-- rows of events that can be read -/
def Es (w : World) (v : Value) (l : List Ev) : Prop := ∃ a cap, v = .slice a l.length cap ∧ l.length ≤ cap ∧ cap ≤ maxLen ∧
  (0 < l.length → ∃ g, a = some ⟨g, 0, none⟩ ∧ g < w.heap.size ∧ ∀ j, j < l.length → w.cell? ⟨g, j * 3, none⟩ = some (.int .i64 (l.getD j (0, 0, 0)).1) ∧ w.cell? ⟨g, j * 3 + 1, none⟩ = some (.int .i64 (l.getD j (0, 0, 0)).2.1) ∧ w.cell? ⟨g, j * 3 + 2, none⟩ = some (.int .i64 (l.getD j (0, 0, 0)).2.2))
theorem OwnE.es {ty base : Nat} {w : World} {v : Value} {l : List Ev} (h : OwnE ty base w v l) : Es w v l := by
  obtain ⟨hl, h⟩ := h
  rcases h with ⟨rfl, h0⟩ | ⟨g, cap, cur, rfl, hg, hh, hn, hm, hs, ht⟩
  · unfold Es
    rw [h0]
    exact ⟨none, 0, rfl, Nat.le_refl _, by simp [maxLen], fun h => by omega⟩
  · refine ⟨_, cap, rfl, hn, hm, fun _ => ⟨g, rfl, lt_of_heap hh, fun j hj => ?_⟩⟩
    have hlt : ∀ f, f < 3 → j * 3 + f < l.length * 3 := fun f hf => by omega
    have hc : ∀ f, f < 3 → w.cell? ⟨g, j * 3 + f, none⟩ = (evC (l.getD j (0, 0, 0)))[f]? := by
      intro f hf
      rw [cell_of hh, ← evC_get l j f hj hf, ← ht, List.getElem?_take, if_pos (hlt f hf)]
      simp
    exact ⟨(hc 0 (by omega)).trans rfl, (hc 1 (by omega)).trans rfl, (hc 2 (by omega)).trans rfl⟩
theorem Es.keep0 {w w' : World} {v : Value} {l : List Ev} (h : Es w v l) (hf : Fr [] w w') : Es w' v l := by
  obtain ⟨a, cap, h1, h2, h3, h4⟩ := h
  refine ⟨a, cap, h1, h2, h3, fun h0 => ?_⟩
  obtain ⟨g, h5, h6, h7⟩ := h4 h0
  have hc : ∀ o : Nat, w'.cell? ⟨g, o, none⟩ = w.cell? ⟨g, o, none⟩ := fun o => by simp [World.cell?, hf.block g h6 (by simp)]
  exact ⟨g, h5, Nat.lt_of_lt_of_le h6 hf.size, fun j hj => by rw [hc, hc, hc]; exact h7 j hj⟩

theorem Fr.cell0 {w w' : World} (hf : Fr [] w w') {g : Nat} (hg : g < w.heap.size) (o : Nat) : w'.cell? ⟨g, o, none⟩ = w.cell? ⟨g, o, none⟩ := by
  simp [World.cell?, hf.block g hg (by simp)]

def Far (from_ to : Int) : Prop := 0 ≤ from_ ∧ from_ ≤ 1099511627776 ∧ from_ < to ∧ 400 < to - from_ ∧ to - from_ ≤ 2000
set_option maxHeartbeats 1000000 in
theorem far_yes (w : World) (from_ to : Int) (h : Far from_ to) : Calls Tryd.prog 35 #[.int .i64 from_, .int .i64 to] w fun e w' => e = .returned (.bool true) ∧ Fr [] w w' := by
  obtain ⟨h1, h2, h3, h4, h5⟩ := h
  go_enter Tryd.func35, Tryd.ntmps35
  go_wp2
  go_ret
  exact ⟨by first | rfl | (simp; omega), Fr.refl _ _⟩
set_option maxHeartbeats 1000000 in
theorem far_no (w : World) (from_ to : Int) (h : ¬ Far from_ to) (hto : to ≤ 9223372036854775807) : Calls Tryd.prog 35 #[.int .i64 from_, .int .i64 to] w fun e w' => e = .returned (.bool false) ∧ Fr [] w w' := by
  have hcs : from_ < 0 ∨ (0 ≤ from_ ∧ 1099511627776 < from_) ∨ (0 ≤ from_ ∧ from_ ≤ 1099511627776 ∧ to ≤ from_) ∨ (0 ≤ from_ ∧ from_ ≤ 1099511627776 ∧ from_ < to ∧ to - from_ ≤ 400) ∨ (0 ≤ from_ ∧ from_ ≤ 1099511627776 ∧ from_ < to ∧ 400 < to - from_ ∧ 2000 < to - from_) := by
    unfold Far at h; omega
  clear h
  rcases hcs with h | ⟨h, h1⟩ | ⟨h, h1, h2⟩ | ⟨h, h1, h2, h3⟩ | ⟨h, h1, h2, h3, h4⟩
  all_goals
    go_enter Tryd.func35, Tryd.ntmps35
    go_wp2
    go_ret
    exact ⟨by first | rfl | (simp; omega), Fr.refl _ _⟩

set_option maxRecDepth 100000 in
set_option maxHeartbeats 4000000 in
theorem aheadSilent_far (E : Nat → Addr) (w : World) (hE : Errs all20 E w.heap.size w) (p : Par) (from_ to : Int) (h : Far from_ to) :
    Calls Tryd.prog 8 #[pv p, .int .i64 from_, .int .i64 to] w fun e w' => e = .returned (.bool true) ∧ Fr [] w w' := by
  have HE := Lib.hid hE
  clear hE
  unfold pv
  go_enter Tryd.func8, Tryd.ntmps8
  have G := Lib.hid (Fr.refl [] w)
  go_wp2_with fail
  refine (alive40_any _ E _ _ (HE.out.keep0 (by repeat (first | exact Fr.refl _ _ | exact G.out | refine Fr.al ?_ | refine Fr.dn ?_ | refine Fr.dr ?_))) (by decide) (by decide) (by decide)).mono ?_
  rintro e w1 ⟨rfl, hf⟩
  have hf : Fr [] w w1 := Fr.trans (by repeat (first | exact Fr.refl _ _ | refine Fr.al ?_ | refine Fr.dn ?_ | refine Fr.dr ?_)) hf
  replace G := Lib.hid (G.out.trans hf)
  clear hf
  go_wp2_with fail
  refine (far_yes _ _ _ h).mono ?_
  rintro e w2 ⟨rfl, hf⟩
  have hf : Fr [] w1 w2 := Fr.trans (by repeat (first | exact Fr.refl _ _ | refine Fr.al ?_ | refine Fr.dn ?_ | refine Fr.dr ?_)) hf
  replace G := Lib.hid (G.out.trans hf)
  clear hf
  go_wp2
  go_ret
  exact ⟨rfl, (by repeat (first | exact Fr.refl _ _ | exact G.out | refine Fr.al ?_ | refine Fr.dn ?_ | refine Fr.dr ?_))⟩

set_option maxRecDepth 100000 in
set_option maxHeartbeats 4000000 in
theorem aheadSilent_bad (E : Nat → Addr) (w : World) (hE : Errs all20 E w.heap.size w) (p : Par) (from_ to : Int) (hto : to ≤ 9223372036854775807) (h : ¬ Far from_ to) (hs : spn p from_ to ≠ 0) :
    Calls Tryd.prog 8 #[pv p, .int .i64 from_, .int .i64 to] w fun e w' => e = .returned (.bool true) ∧ Fr [] w w' := by
  have HE := Lib.hid hE
  have HP0 := Lib.hid (show At (w.alloc (parO' p 36)) w.heap.size (parO' p 36) from At.new rfl)
  have HS := Lib.hid fun w' (hE : Errs all20 E w.heap.size w') => silent_bad all20 E _ w' hE (by decide) (by decide) (by decide) p from_ to hs
  have HPR := Lib.hid fun w' (hE : Errs all20 E w.heap.size w') => prompt_bad all20 E _ w' hE (by decide) (by decide) (by decide) p from_ to hs
  have HB := Lib.hid fun w => rbegun_any w p from_
  have HFN := Lib.hid fun w => far_no w from_ to h hto
  have hcs : (bgn p from_ ≠ 0 ∧ spn p from_ to = bgn p from_) ∨ (bgn p from_ = 0 ∧ 0 ≤ from_ ∧ from_ ≤ 1099511627776 ∧ spn p from_ to = 1 ∧ to < from_) ∨ (bgn p from_ = 0 ∧ 0 ≤ from_ ∧ from_ ≤ 1099511627776 ∧ spn p from_ to = 1 ∧ from_ ≤ to ∧ 2000 < to - from_) := by
    by_cases hb : bgn p from_ = 0
    · have hz := bgn_zero p from_ hb
      have : spn p from_ to = if to < from_ ∨ from_ + 2000 < to then 1 else 0 := by unfold spn; rw [if_neg (by simp [hb])]
      rw [this] at hs ⊢
      split at hs
      · rename_i h'
        rw [if_pos h']
        omega
      · exact absurd rfl hs
    · refine .inl ⟨hb, ?_⟩
      unfold spn
      rw [if_pos hb]
  have e6 : bgn p from_ ≤ 20 := by
    have : chk p ≤ 20 := by unfold chk; split <;> (try split) <;> (try split) <;> decide
    unfold bgn
    split
    · exact this
    · split <;> decide
  obtain ⟨n, hn⟩ : ∃ n, bgn p from_ = n := ⟨_, rfl⟩
  rw [hn] at hcs e6 HB
  clear hE hs hn h
  unfold pv at *
  rcases hcs with ⟨c1, c2⟩ | ⟨c1, c4, c5, c2, c3⟩ | ⟨c1, c4, c5, c2, c3, c6⟩
  all_goals
    rw [c2] at HS HPR
    clear c2
    first
      | (have hn0 : ((n : Int) != 0) = true := by rw [bne_iff_ne]; omega
         have hn1 : ((n : Int) == 0) = false := by rw [beq_eq_false_iff_ne]; omega)
      | subst c1
    go_enter Tryd.func8, Tryd.ntmps8
    have HE := Lib.hid (HE.out.keep0 (Fr.alloc w (parO' p 36)))
    have G := Lib.hid (show Fr [] w (w.alloc (parO' p 36)) from (by repeat (first | exact Fr.refl _ _ | refine Fr.al ?_ | refine Fr.dn ?_ | refine Fr.dr ?_)))
    go_wp2_with fail
    refine (alive40_any _ E _ _ HE.out (by decide) (by decide) (by decide)).mono ?_
    rintro e w1 ⟨rfl, hf⟩
    have hf : Fr [] (w.alloc (parO' p 36)) w1 := Fr.trans (by repeat (first | exact Fr.refl _ _ | refine Fr.al ?_ | refine Fr.dn ?_ | refine Fr.dr ?_)) hf
    replace G := Lib.hid (G.out.trans hf)
    replace HP0 := Lib.hid (HP0.out.keep0 hf)
    replace HE := Lib.hid (HE.out.keep0 hf)
    clear hf
    go_wp2_with fail
    refine (HFN.out _).mono ?_
    rintro e w2 ⟨rfl, hf⟩
    have hf : Fr [] w1 w2 := Fr.trans (by repeat (first | exact Fr.refl _ _ | refine Fr.al ?_ | refine Fr.dn ?_ | refine Fr.dr ?_)) hf
    replace G := Lib.hid (G.out.trans hf)
    replace HP0 := Lib.hid (HP0.out.keep0 hf)
    replace HE := Lib.hid (HE.out.keep0 hf)
    clear hf
    obtain ⟨k0, k1, k2, k3, k4, k5⟩ := parCells HP0.out
    have HQ := Lib.hid (show At (w2.alloc (parO' p 40)) w2.heap.size (parO' p 40) from At.new rfl)
    have HE := Lib.hid (HE.out.keep0 (Fr.alloc w2 (parO' p 40)))
    have HP0 := Lib.hid (HP0.out.keep0 (Fr.alloc w2 (parO' p 40)))
    have G := Lib.hid (show Fr [] w (w2.alloc (parO' p 40)) from Fr.al G.out)
    obtain ⟨m0, m1, m2, m3, m4, m5⟩ := parCells HP0.out
    simp only [parO'] at m0 m1 m2 m3 m4 m5
    go_wp2_with fail
    refine (HS.out _ HE.out).mono ?_
    rintro e w3 ⟨ev, rfl, hv, hf⟩
    have hf : Fr [] (w2.alloc (parO' p 40)) w3 := Fr.trans (by repeat (first | exact Fr.refl _ _ | refine Fr.al ?_ | refine Fr.dn ?_ | refine Fr.dr ?_)) hf
    replace G := Lib.hid (G.out.trans hf)
    replace HP0 := Lib.hid (HP0.out.keep0 hf)
    replace HE := Lib.hid (HE.out.keep0 hf)
    replace HQ := Lib.hid (HQ.out.keep0 hf)
    clear hf
    clear k0 k1 k2 k3 k4 k5 m0 m1 m2 m3 m4 m5
    have HV := Lib.hid hv
    clear hv
    obtain ⟨k0, k1, k2, k3, k4, k5⟩ := parCells HP0.out
    go_wp2_with fail
    refine (HPR.out _ HE.out).mono ?_
    rintro e w4 ⟨ev2, rfl, hv2, hf⟩
    have hf : Fr [] w3 w4 := Fr.trans (by repeat (first | exact Fr.refl _ _ | refine Fr.al ?_ | refine Fr.dn ?_ | refine Fr.dr ?_)) hf
    replace G := Lib.hid (G.out.trans hf)
    replace HP0 := Lib.hid (HP0.out.keep0 hf)
    replace HE := Lib.hid (HE.out.keep0 hf)
    replace HQ := Lib.hid (HQ.out.keep0 hf)
    replace HV := Lib.hid (HV.out.keep0 hf)
    clear hf k0 k1 k2 k3 k4 k5
    obtain ⟨k0, k1, k2, k3, k4, k5⟩ := parCells HP0.out
    have HV2 := Lib.hid hv2
    clear hv2
    obtain ⟨q0, q1, q2, q3, q4, q5⟩ := parCells HQ.out
    go_wp2_with fail
    refine (HB.out _).mono ?_
    rintro e w5 ⟨rfl, hf⟩
    have hf : Fr [] w4 w5 := Fr.trans (by repeat (first | exact Fr.refl _ _ | refine Fr.al ?_ | refine Fr.dn ?_ | refine Fr.dr ?_)) hf
    replace G := Lib.hid (G.out.trans hf)
    replace HP0 := Lib.hid (HP0.out.keep0 hf)
    replace HE := Lib.hid (HE.out.keep0 hf)
    replace HQ := Lib.hid (HQ.out.keep0 hf)
    replace HV := Lib.hid (HV.out.keep0 hf)
    replace HV2 := Lib.hid (HV2.out.keep0 hf)
    clear hf k0 k1 k2 k3 k4 k5 q0 q1 q2 q3 q4 q5
    obtain ⟨k0, k1, k2, k3, k4, k5⟩ := parCells HP0.out
    obtain ⟨q0, q1, q2, q3, q4, q5⟩ := parCells HQ.out
    go_wp2_with fail
    refine (num_err E _ _ ev _ HE.out (by first | decide | exact e6) HV.out).mono ?_
    rintro e w6 ⟨rfl, hf⟩
    have hf : Fr [] w5 w6 := Fr.trans (by repeat (first | exact Fr.refl _ _ | refine Fr.al ?_ | refine Fr.dn ?_ | refine Fr.dr ?_)) hf
    replace G := Lib.hid (G.out.trans hf)
    replace HP0 := Lib.hid (HP0.out.keep0 hf)
    replace HE := Lib.hid (HE.out.keep0 hf)
    replace HQ := Lib.hid (HQ.out.keep0 hf)
    replace HV := Lib.hid (HV.out.keep0 hf)
    replace HV2 := Lib.hid (HV2.out.keep0 hf)
    clear hf k0 k1 k2 k3 k4 k5 q0 q1 q2 q3 q4 q5
    obtain ⟨k0, k1, k2, k3, k4, k5⟩ := parCells HP0.out
    obtain ⟨q0, q1, q2, q3, q4, q5⟩ := parCells HQ.out
    go_wp2_with fail
    refine (num_err E _ _ ev2 _ HE.out (by first | decide | exact e6) HV2.out).mono ?_
    rintro e w7 ⟨rfl, hf⟩
    have hf : Fr [] w6 w7 := Fr.trans (by repeat (first | exact Fr.refl _ _ | refine Fr.al ?_ | refine Fr.dn ?_ | refine Fr.dr ?_)) hf
    replace G := Lib.hid (G.out.trans hf)
    replace HP0 := Lib.hid (HP0.out.keep0 hf)
    replace HE := Lib.hid (HE.out.keep0 hf)
    replace HQ := Lib.hid (HQ.out.keep0 hf)
    replace HV := Lib.hid (HV.out.keep0 hf)
    replace HV2 := Lib.hid (HV2.out.keep0 hf)
    clear hf k0 k1 k2 k3 k4 k5 q0 q1 q2 q3 q4 q5
    obtain ⟨k0, k1, k2, k3, k4, k5⟩ := parCells HP0.out
    obtain ⟨q0, q1, q2, q3, q4, q5⟩ := parCells HQ.out
    go_wp2
    go_ret
    exact ⟨rfl, (by repeat (first | exact Fr.refl _ _ | exact G.out | refine Fr.al ?_ | refine Fr.dn ?_ | refine Fr.dr ?_))⟩

set_option maxRecDepth 100000 in
set_option maxHeartbeats 8000000 in
theorem aheadSilent_ok (E : Nat → Addr) (w : World) (hE : Errs all20 E w.heap.size w) (p : Par) (from_ : Int) (n : Nat) (hn : n ≤ 400) (hs : spn p from_ (from_ + n) = 0) :
    Calls Tryd.prog 8 #[pv p, .int .i64 from_, .int .i64 (from_ + n)] w fun e w' => e = .returned (.bool true) ∧ Fr [] w w' := by
  obtain ⟨hb, -, -⟩ := spn_zero p from_ _ hs
  obtain ⟨hc, g1, g2⟩ := bgn_zero p from_ hb
  have HE := Lib.hid hE
  have HP0 := Lib.hid (show At (w.alloc (parO' p 36)) w.heap.size (parO' p 36) from At.new rfl)
  have HS := Lib.hid fun w' (hE : Errs all20 E w.heap.size w') => silent_ok all20 E _ w' hE (by decide) (by decide) (by decide) p from_ n hs
  have HPR := Lib.hid fun w' (hE : Errs all20 E w'.heap.size w') => prompt_ok all20 E w' hE (by decide) (by decide) (by decide) p from_ n hs
  have HB := Lib.hid fun w => rbegun_any w p from_
  have HFN := Lib.hid fun w => far_no w from_ (from_ + n) (by unfold Far; omega) (by omega)
  have HR1 := Lib.hid fun w => rrun_ok w p hc from_ g1 g2 n (by omega) false
  have HR2 := Lib.hid fun w => rrun_ok w p hc from_ g1 g2 n (by omega) true
  have hl1 := evL_len false p from_ n
  have hl2 := evL_len true p from_ n
  rw [hb] at HB
  obtain ⟨l, hL⟩ : ∃ l, evL false p from_ n = l := ⟨_, rfl⟩
  obtain ⟨m, hM⟩ : ∃ m, evL true p from_ n = m := ⟨_, rfl⟩
  rw [hL] at HS HR1 hl1
  rw [hM] at HPR HR2 hl2
  obtain ⟨N, hN⟩ : ∃ N, l.length = N := ⟨_, rfl⟩
  obtain ⟨M, hMM⟩ : ∃ M, m.length = M := ⟨_, rfl⟩
  rw [hN] at hl1
  rw [hMM] at hl2
  have HN := Lib.hid hN
  have HM := Lib.hid hMM
  have hd : from_ + (n : Int) - from_ = n := by omega
  have hnf : ¬ (from_ + (n : Int) < from_) := by omega
  have hn2 : ¬ (2000 < (n : Int)) := by omega
  clear hE hs hb hc hL hM hN hMM
  unfold pv at *
  go_enter Tryd.func8, Tryd.ntmps8
  have HE := Lib.hid (HE.out.keep0 (Fr.alloc w (parO' p 36)))
  have G := Lib.hid (show Fr [] w (w.alloc (parO' p 36)) from (by repeat (first | exact Fr.refl _ _ | refine Fr.al ?_ | refine Fr.dn ?_ | refine Fr.dr ?_)))
  go_wp2_with fail
  refine (alive40_any _ E _ _ HE.out (by decide) (by decide) (by decide)).mono ?_
  rintro e w1 ⟨rfl, hf⟩
  have hf : Fr [] (w.alloc (parO' p 36)) w1 := Fr.trans (by repeat (first | exact Fr.refl _ _ | refine Fr.al ?_ | refine Fr.dn ?_ | refine Fr.dr ?_)) hf
  replace G := Lib.hid (G.out.trans hf)
  replace HP0 := Lib.hid (HP0.out.keep0 hf)
  replace HE := Lib.hid (HE.out.keep0 hf)
  clear hf
  go_wp2_with fail
  refine (HFN.out _).mono ?_
  rintro e w2 ⟨rfl, hf⟩
  have hf : Fr [] w1 w2 := Fr.trans (by repeat (first | exact Fr.refl _ _ | refine Fr.al ?_ | refine Fr.dn ?_ | refine Fr.dr ?_)) hf
  replace G := Lib.hid (G.out.trans hf)
  replace HP0 := Lib.hid (HP0.out.keep0 hf)
  replace HE := Lib.hid (HE.out.keep0 hf)
  clear hf
  obtain ⟨k0, k1, k2, k3, k4, k5⟩ := parCells HP0.out
  have HQ := Lib.hid (show At (w2.alloc (parO' p 40)) w2.heap.size (parO' p 40) from At.new rfl)
  have HE := Lib.hid (HE.out.keep0 (Fr.alloc w2 (parO' p 40)))
  have HP0 := Lib.hid (HP0.out.keep0 (Fr.alloc w2 (parO' p 40)))
  have G := Lib.hid (show Fr [] w (w2.alloc (parO' p 40)) from Fr.al G.out)
  obtain ⟨m0, m1, m2, m3, m4, m5⟩ := parCells HP0.out
  simp only [parO'] at m0 m1 m2 m3 m4 m5
  go_wp2_with fail
  refine (HS.out _ HE.out).mono ?_
  rintro e w3 ⟨v, rfl, hv, hf⟩
  have hf : Fr [] (w2.alloc (parO' p 40)) w3 := Fr.trans (by repeat (first | exact Fr.refl _ _ | refine Fr.al ?_ | refine Fr.dn ?_ | refine Fr.dr ?_)) hf
  replace G := Lib.hid (G.out.trans hf)
  replace HP0 := Lib.hid (HP0.out.keep0 hf)
  replace HE := Lib.hid (HE.out.keep0 hf)
  replace HQ := Lib.hid (HQ.out.keep0 hf)
  clear hf
  clear k0 k1 k2 k3 k4 k5 m0 m1 m2 m3 m4 m5
  have HV := Lib.hid (OwnE.es hv)
  clear hv
  obtain ⟨k0, k1, k2, k3, k4, k5⟩ := parCells HP0.out
  go_wp2_with fail
  refine (HPR.out _ (HE.out.up G.out.size)).mono ?_
  rintro e w4 ⟨u, rfl, hu, hf⟩
  have hf : Fr [] w3 w4 := Fr.trans (by repeat (first | exact Fr.refl _ _ | refine Fr.al ?_ | refine Fr.dn ?_ | refine Fr.dr ?_)) hf
  replace G := Lib.hid (G.out.trans hf)
  replace HP0 := Lib.hid (HP0.out.keep0 hf)
  replace HE := Lib.hid (HE.out.keep0 hf)
  replace HQ := Lib.hid (HQ.out.keep0 hf)
  replace HV := Lib.hid (HV.out.keep0 hf)
  clear hf k0 k1 k2 k3 k4 k5
  obtain ⟨k0, k1, k2, k3, k4, k5⟩ := parCells HP0.out
  have HU := Lib.hid (hu.is (A := fun _ => False) (by simp))
  clear hu
  obtain ⟨q0, q1, q2, q3, q4, q5⟩ := parCells HQ.out
  go_wp2_with fail
  refine (HB.out _).mono ?_
  rintro e w5 ⟨rfl, hf⟩
  have hf : Fr [] w4 w5 := Fr.trans (by repeat (first | exact Fr.refl _ _ | refine Fr.al ?_ | refine Fr.dn ?_ | refine Fr.dr ?_)) hf
  replace G := Lib.hid (G.out.trans hf)
  replace HP0 := Lib.hid (HP0.out.keep0 hf)
  replace HE := Lib.hid (HE.out.keep0 hf)
  replace HQ := Lib.hid (HQ.out.keep0 hf)
  replace HV := Lib.hid (HV.out.keep0 hf)
  replace HU := Lib.hid (HU.out.keep0 hf)
  clear hf k0 k1 k2 k3 k4 k5 q0 q1 q2 q3 q4 q5
  obtain ⟨k0, k1, k2, k3, k4, k5⟩ := parCells HP0.out
  obtain ⟨q0, q1, q2, q3, q4, q5⟩ := parCells HQ.out
  go_wp2_with fail
  refine (num_nil _).mono ?_
  rintro e w6 ⟨rfl, hf⟩
  have hf : Fr [] w5 w6 := Fr.trans (by repeat (first | exact Fr.refl _ _ | refine Fr.al ?_ | refine Fr.dn ?_ | refine Fr.dr ?_)) hf
  replace G := Lib.hid (G.out.trans hf)
  replace HP0 := Lib.hid (HP0.out.keep0 hf)
  replace HE := Lib.hid (HE.out.keep0 hf)
  replace HQ := Lib.hid (HQ.out.keep0 hf)
  replace HV := Lib.hid (HV.out.keep0 hf)
  replace HU := Lib.hid (HU.out.keep0 hf)
  clear hf k0 k1 k2 k3 k4 k5 q0 q1 q2 q3 q4 q5
  obtain ⟨k0, k1, k2, k3, k4, k5⟩ := parCells HP0.out
  obtain ⟨q0, q1, q2, q3, q4, q5⟩ := parCells HQ.out
  go_wp2_with fail
  refine (num_nil _).mono ?_
  rintro e w7 ⟨rfl, hf⟩
  have hf : Fr [] w6 w7 := Fr.trans (by repeat (first | exact Fr.refl _ _ | refine Fr.al ?_ | refine Fr.dn ?_ | refine Fr.dr ?_)) hf
  replace G := Lib.hid (G.out.trans hf)
  replace HP0 := Lib.hid (HP0.out.keep0 hf)
  replace HE := Lib.hid (HE.out.keep0 hf)
  replace HQ := Lib.hid (HQ.out.keep0 hf)
  replace HV := Lib.hid (HV.out.keep0 hf)
  replace HU := Lib.hid (HU.out.keep0 hf)
  clear hf k0 k1 k2 k3 k4 k5 q0 q1 q2 q3 q4 q5
  obtain ⟨k0, k1, k2, k3, k4, k5⟩ := parCells HP0.out
  obtain ⟨q0, q1, q2, q3, q4, q5⟩ := parCells HQ.out
  go_wp2_with fail
  refine (HR1.out _).mono ?_
  rintro e w8 ⟨z, rfl, hz, hf⟩
  have hf : Fr [] w7 w8 := Fr.trans (by repeat (first | exact Fr.refl _ _ | refine Fr.al ?_ | refine Fr.dn ?_ | refine Fr.dr ?_)) hf
  replace G := Lib.hid (G.out.trans hf)
  replace HP0 := Lib.hid (HP0.out.keep0 hf)
  replace HE := Lib.hid (HE.out.keep0 hf)
  replace HQ := Lib.hid (HQ.out.keep0 hf)
  replace HV := Lib.hid (HV.out.keep0 hf)
  replace HU := Lib.hid (HU.out.keep0 hf)
  clear hf k0 k1 k2 k3 k4 k5 q0 q1 q2 q3 q4 q5
  obtain ⟨k0, k1, k2, k3, k4, k5⟩ := parCells HP0.out
  obtain ⟨q0, q1, q2, q3, q4, q5⟩ := parCells HQ.out
  have HZ := Lib.hid (OwnE.es hz)
  clear hz
  obtain ⟨a1, c1, rfl, h2, h3, hc1⟩ := HV.out
  obtain ⟨a2, c2, rfl, h5, h6, hc2⟩ := HZ.out
  rw [HN.out] at h2 hc1 h5 hc2 ⊢
  clear HV HZ
  unfold maxLen at h3 h6
  have hbb : ((N : Int) != (N : Int)) = false := by simp
  go_wp2
  go_loopw [86] (fun c wr => ∃ j : Nat, j ≤ N ∧ c = .int .i64 j ∧ Hid (Fr [] w8 wr)) (fun c _ => N - (intOf c).toNat)
  case atStart => exact ⟨0, Nat.zero_le _, rfl, Fr.refl _ _⟩
  case round =>
    obtain ⟨j, hj, rfl, HF⟩ := hrel
    by_cases hjn : j < N
    · obtain ⟨g, rfl, hg, hcc⟩ := hc1 (by omega)
      obtain ⟨g', rfl, hg', hcc'⟩ := hc2 (by omega)
      obtain ⟨x0, x1, x2⟩ := hcc j hjn
      obtain ⟨y0, y1, y2⟩ := hcc' j hjn
      rw [← Fr.cell0 HF.out hg] at x0 x1 x2
      have hA := Fr.al (o := .cells #[.int .i64 (l.getD j (0, 0, 0)).1, .int .i64 (l.getD j (0, 0, 0)).2.1, .int .i64 (l.getD j (0, 0, 0)).2.2] 52) HF.out
      rw [← Fr.cell0 hA hg'] at y0 y1 y2
      have HA := Lib.hid hA
      have hsz := HF.out.size
      have hj0 : (0 : Int) ≤ (j : Int) ∧ (j : Int) < (N : Int) := by omega
      clear hA hcc hcc' hc1 hc2
      generalize l.getD j (0, 0, 0) = e at x0 x1 x2 y0 y1 y2 HA
      obtain ⟨x, y, z⟩ := e
      simp only at x0 x1 x2 y0 y1 y2
      go_wp2
      go_quiet (fail)
      go_wp2
      go_roundw
      case rel => exact ⟨j + 1, by omega, by go_num, Fr.dn HA.out⟩
      case measure => simp [intOf]; omega
    · obtain rfl : j = N := by omega
      obtain ⟨wo, rfl⟩ : ∃ wo : World, wo = wr := ⟨_, rfl⟩
      have HQr := Lib.hid (HQ.out.keep0 HF.out)
      obtain ⟨m0, m1, m2, m3, m4, m5⟩ := parCells (HQr.out.al (o' := .cells #[] 3))
      have HT0 := Lib.hid (show OwnI 3 wo.heap.size (wo.alloc (.cells #[] 3)) (.slice (some ⟨wo.heap.size, 0, none⟩) 0 0) [] from OwnV.lit 3 wo.heap.size wo #[] (Nat.le_refl _) (by simp [maxLen]))
      have HU := Lib.hid (HU.out.keep0 HF.out)
      have G := Lib.hid (show Fr [] w wo from G.out.trans HF.out)
      clear hc1 hc2 q0 q1 q2 q3 q4 q5 HQ HP0 HE
      go_wp2_with fail
      refine (HR2.out _).mono ?_
      rintro e w9 ⟨z2, rfl, hz, hf⟩
      have HT := Lib.hid (OwnI.keep0 HT0.out hf)
      have F9 := Lib.hid (show Fr [] wo w9 from Fr.trans (Fr.al (Fr.refl [] wo)) hf)
      have hsz9 := hf.size
      simp only [World.alloc, Array.size_push] at hsz9
      have HZ := Lib.hid (show OwnE 77 wo.heap.size w9 z2 m from own_base hz (by simp))
      obtain ⟨a3, c3, rfl, -, -, -⟩ := hz.es
      clear hz hf HT0 m0 m1 m2 m3 m4 m5 HQr HF
      rw [HM.out] at HZ ⊢
      go_wp2
      go_loopw [16, 104] (fun v c wq => ∃ i : Nat, i ≤ M ∧ c = .int .i64 i ∧ Hid (OwnI 3 wo.heap.size wq v ((m.take i).map (·.1))) ∧ Hid (OwnE 77 wo.heap.size wq (.slice a3 M c3) m) ∧ Hid (Fr [] wo wq)) (fun _ c _ => M - (intOf c).toNat)
      case atStart => exact ⟨0, Nat.zero_le _, rfl, HT.out, HZ.out, F9.out⟩
      case round =>
        obtain ⟨i, hi, rfl, HO, HZ, HF⟩ := hrel
        have hsz10 := HF.out.size
        have hlm := HM.out
        obtain ⟨a4, c4, e4, h8, h9, hc3⟩ := HZ.out.es
        simp only [Value.slice.injEq] at e4
        obtain ⟨rfl, -, rfl⟩ := e4
        unfold maxLen at h9
        rw [hlm] at h8 hc3
        by_cases hin : i < M
        · obtain ⟨g, rfl, hg, hcc⟩ := hc3 (by omega)
          obtain ⟨x0, x1, x2⟩ := hcc i hin
          have hlen : ((m.take i).map (·.1)).length = i := by simp; omega
          have hst : (m.take (i + 1)).map (·.1) = (m.take i).map (·.1) ++ [(m.getD i (0, 0, 0)).1] := by
            rw [List.take_succ_eq_append_getElem (by omega), List.map_append]
            simp [List.getD_eq_getElem?_getD, List.getElem?_eq_getElem (show i < m.length by omega)]
          have HLEN := Lib.hid hlen
          have HST := Lib.hid hst
          clear hlen hst hcc hc3 hlm
          generalize m.getD i (0, 0, 0) = e at x0 x1 x2 HST
          obtain ⟨x, y, z⟩ := e
          simp only at x0 x1 x2
          have HO2 := Lib.hid (OwnI.keep0 HO.out (Fr.al (o := .cells #[.int .i64 x] 3) (Fr.al (o := .cells #[.int .i64 x, .int .i64 y, .int .i64 z] 77) (Fr.refl [] wr))))
          have HZ2 := Lib.hid (OwnE.keep0 HZ.out (Fr.al (o := .cells #[.int .i64 x] 3) (Fr.al (o := .cells #[.int .i64 x, .int .i64 y, .int .i64 z] 77) (Fr.refl [] wr))))
          go_wp2_with (at_builtin; refine wpl_append_n Tryd.underlying23 Tryd.infoInt rfl (.tmp 108) (.tmp 111) rfl rfl rfl (At.new (by simp)) HO2.out (by rw [HLEN.out]; omega) (by simp; omega) ?_)
          intro v' w' h15 h16
          have H15 := Lib.hid h15
          have HF2 := Lib.hid (show Fr [] wo w' from OwnI.fr HO2.out (Fr.al (Fr.al HF.out)) h16 (Nat.le_refl _))
          have HZ3 := Lib.hid (show OwnE 77 wo.heap.size w' _ m from own_grown HZ2.out HO2.out (by decide) h16)
          clear HO HO2 HZ HZ2 HF h16 h15 x0 x1 x2
          go_wp2
          go_roundw
          case rel => exact ⟨i + 1, by omega, by go_num, by rw [HST.out]; show OwnI _ _ _ _ _; simpa using H15.out, HZ3.out, HF2.out⟩
          case measure => simp [intOf]; omega
        · obtain rfl : i = M := by omega
          have HTK := Lib.hid (show m.take i = m by rw [List.take_of_length_le (by omega)])
          rw [HTK.out] at HO
          have HU2 := Lib.hid (HU.out.keep0 HF.out)
          have HO2 := Lib.hid (OwnI.is (A := fun _ => False) HO.out (by simp))
          have GF := Lib.hid (show Fr [] w wr from G.out.trans HF.out)
          clear HO HZ HF hc3 hlm HU HTK
          go_wp2_with fail
          refine (sameInts_any (fun _ => False) _ _ _ _ _ HU2.out HO2.out).mono ?_
          rintro e w11 ⟨rfl, hf⟩
          have GF := Lib.hid (show Fr [] w w11 from GF.out.trans hf)
          clear hf HU2 HO2
          go_wp2
          go_ret
          exact ⟨by simp, GF.out⟩

theorem aheadSilent_walk (E : Nat → Addr) (w : World) (hE : Errs all20 E w.heap.size w) (p : Par) (from_ to : Int) (h1 : to ≤ 9223372036854775807) :
    Calls Tryd.prog 8 #[pv p, .int .i64 from_, .int .i64 to] w fun e w' => e = .returned (.bool true) ∧ Fr [] w w' := by
  by_cases hf : Far from_ to
  · exact aheadSilent_far E w hE p from_ to hf
  · by_cases hs : spn p from_ to = 0
    · obtain ⟨hb, g1, g2⟩ := spn_zero p from_ to hs
      obtain ⟨-, g3, g4⟩ := bgn_zero p from_ hb
      obtain ⟨n, rfl⟩ : ∃ n : Nat, to = from_ + n := ⟨(to - from_).toNat, by omega⟩
      exact aheadSilent_ok E w hE p from_ n (by unfold Far at hf; omega) hs
    · exact aheadSilent_bad E w hE p from_ to h1 hf hs
end Go.Proofs.YtbohmnblegljkaaDoor
