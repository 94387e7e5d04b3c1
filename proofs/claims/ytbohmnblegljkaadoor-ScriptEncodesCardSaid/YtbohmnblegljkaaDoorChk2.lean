/-
  params.Check.
-/
import Derived.Test.YtbohmnblegljkaaDoorChk
namespace Go.Proofs.YtbohmnblegljkaaDoor
open Go.RowKit Go.Bl
set_option linter.unusedVariables false

theorem okAt_step (p : Par) (j : Nat) (h : ∀ i, i < j → okAt p i) (hj : okAt p j) : ∀ i, i < j + 1 → okAt p i := by
  intro i hi
  rcases Nat.lt_or_ge i j with h' | h'
  · exact h i h'
  · have : i = j := by omega
    subst this; exact hj

set_option maxHeartbeats 4000000 in
set_option maxRecDepth 10000 in
theorem check_any (L : List Nat) (E : Nat → Addr) (B : Nat) (w : World) (hE : Errs L E B w) (h1 : 1 ∈ L) (h8 : 8 ∈ L) (h18 : 18 ∈ L) (p : Par) :
    Calls Tryd.prog 23 #[.agg #[.int .i64 p.size, .int .i64 p.sent, .int .i64 p.spots, .int .i64 p.per, .int .i64 p.pat, .int .i64 p.ret]] w fun e w' => ∃ v, e = .returned v ∧ ErrV E w' (chk p) v ∧ Fr [] w w' := by
  have HE := Lib.hid hE
  clear hE
  go_enter Tryd.func23, Tryd.ntmps23
  go_wp2_with fail
  have hE1 := HE.out.keep0 (Fr.alloc w (.cells #[.int .i64 p.size, .int .i64 p.sent, .int .i64 p.spots, .int .i64 p.per, .int .i64 p.pat, .int .i64 p.ret] 36))
  refine (total_any L E B _ hE1 h8 p.size).mono ?_
  rintro e w1 ⟨n, ev, rfl, hn0, hn1, hn, hf1⟩
  have HN := Lib.hid hn
  have hb1 : w1.heap[w.heap.size]? = some (.cells #[.int .i64 p.size, .int .i64 p.sent, .int .i64 p.spots, .int .i64 p.per, .int .i64 p.pat, .int .i64 p.ret] 36 (0, 0)) := hf1.keep (heap_alloc_new w _) (by simp)
  have HF1 := Lib.hid ((Fr.alloc (S := []) w (.cells #[.int .i64 p.size, .int .i64 p.sent, .int .i64 p.spots, .int .i64 p.per, .int .i64 p.pat, .int .i64 p.ret] 36)).trans hf1)
  clear hE1 hf1 hn
  have k0 := cell_of hb1 0
  have k1 := cell_of hb1 1
  have k2 := cell_of hb1 2
  have k3 := cell_of hb1 3
  have k4 := cell_of hb1 4
  have k5 := cell_of hb1 5
  simp only [List.getElem?_toArray, List.getElem?_cons_zero, List.getElem?_cons_succ] at k0 k1 k2 k3 k4 k5
  clear hb1
  go_wp2_with fail
  refine (bounds_any L E B _ (HE.out.keep0 HF1.out) h1 h8 h18 p _).mono ?_
  rintro e w2 ⟨rfl, hf2⟩
  have HF2 := Lib.hid (HF1.out.trans hf2)
  obtain ⟨m, hm⟩ : ∃ m, min 12 (wrap64 (n + p.sent)) = m := ⟨_, rfl⟩
  have hM : okAt p 0 → okAt p 1 → m = min 12 (blk p.size + p.sent) := by
    intro g0 g1
    have e1 : n = blk p.size := HN.out g0
    have g1' : 0 ≤ p.sent ∧ p.sent ≤ 8 := g1
    rw [← hm, ← e1]
    have : wrap64 (n + p.sent) = n + p.sent := by unfold wrap64; omega
    rw [this]
  rw [hm]
  have HM := Lib.hid hM
  clear hf2 HF1 HN hm hM k0 k1 k2 k3 k4 k5 HE
  unfold boundsV
  go_wp2
  go_loopw [19] (fun i wr => ∃ j : Nat, j ≤ 6 ∧ i = .int .i64 j ∧ Hid (∀ i, i < j → okAt p i) ∧ Fr [] w wr) (fun i _ => 6 - (intOf i).toNat)
  case atStart => exact ⟨0, Nat.zero_le _, rfl, fun i hi => by omega, HF2.out⟩
  case round =>
    obtain ⟨j, hj, rfl, hall, hf⟩ := hrel
    have HF := Lib.hid hf
    clear hf
    have hjc : j = 6 ∨ j < 6 := by omega
    rcases hjc with rfl | hjc
    · go_wp2
      go_ret
      exact ⟨_, rfl, by rw [chk_ok p hall]; exact .nil, HF.out⟩
    · have h6 : j = 0 ∨ j = 1 ∨ j = 2 ∨ j = 3 ∨ j = 4 ∨ j = 5 := by omega
      clear hjc hj
      rcases h6 with rfl | rfl | rfl | rfl | rfl | rfl
      · have hi : okAt p 0 ↔ (0 ≤ p.size ∧ p.size ≤ 2000) := Iff.rfl
        have HI := Lib.hid hi
        clear hi
        have h3 : (p.size < 0) ∨ (0 ≤ p.size ∧ 2000 < p.size) ∨ (0 ≤ p.size ∧ p.size ≤ 2000) := by omega
        rcases h3 with h | h | h
        · have HB := Lib.hid (chk_bad p 0 (by decide) hall (by rw [HI.out]; omega))
          clear hall
          go_wp2_with (refine wpl_val (.index 90 (.tmp 18) (.tmp 19)) rfl rfl (.agg #[.string ⟨#[115, 105, 122, 101]⟩, .int .i64 p.size, .int .i64 0, .int .i64 2000, .iface 149 (.pointer (some (E 8)))]) (by kernel_rfl) ?_)
          go_ret
          exact ⟨_, rfl, by rw [HB.out]; exact .wrap _ (by decide) _ _ _ Tryd.laid30, HF.out.trans ((Fr.alloc _ _).trans (Fr.alloc _ _))⟩
        · have HB := Lib.hid (chk_bad p 0 (by decide) hall (by rw [HI.out]; omega))
          clear hall
          go_wp2_with (refine wpl_val (.index 90 (.tmp 18) (.tmp 19)) rfl rfl (.agg #[.string ⟨#[115, 105, 122, 101]⟩, .int .i64 p.size, .int .i64 0, .int .i64 2000, .iface 149 (.pointer (some (E 8)))]) (by kernel_rfl) ?_)
          go_ret
          exact ⟨_, rfl, by rw [HB.out]; exact .wrap _ (by decide) _ _ _ Tryd.laid30, HF.out.trans ((Fr.alloc _ _).trans (Fr.alloc _ _))⟩
        · have HB := Lib.hid (okAt_step p 0 hall (HI.out.2 h))
          clear hall
          go_wp2_with (refine wpl_val (.index 90 (.tmp 18) (.tmp 19)) rfl rfl (.agg #[.string ⟨#[115, 105, 122, 101]⟩, .int .i64 p.size, .int .i64 0, .int .i64 2000, .iface 149 (.pointer (some (E 8)))]) (by kernel_rfl) ?_)
          go_roundw
          case rel => exact ⟨1, by decide, rfl, HB, HF.out.trans (Fr.alloc _ _)⟩
          case measure => simp [intOf]
      · have hi : okAt p 1 ↔ (0 ≤ p.sent ∧ p.sent ≤ 8) := Iff.rfl
        have HI := Lib.hid hi
        clear hi
        have h3 : (p.sent < 0) ∨ (0 ≤ p.sent ∧ 8 < p.sent) ∨ (0 ≤ p.sent ∧ p.sent ≤ 8) := by omega
        rcases h3 with h | h | h
        · have HB := Lib.hid (chk_bad p 1 (by decide) hall (by rw [HI.out]; omega))
          clear hall
          go_wp2_with (refine wpl_val (.index 90 (.tmp 18) (.tmp 19)) rfl rfl (.agg #[.string ⟨#[115, 101, 110, 116, 105, 110, 101, 108, 115]⟩, .int .i64 p.sent, .int .i64 0, .int .i64 8, .iface 149 (.pointer (some (E 18)))]) (by kernel_rfl) ?_)
          go_ret
          exact ⟨_, rfl, by rw [HB.out]; exact .wrap _ (by decide) _ _ _ Tryd.laid30, HF.out.trans ((Fr.alloc _ _).trans (Fr.alloc _ _))⟩
        · have HB := Lib.hid (chk_bad p 1 (by decide) hall (by rw [HI.out]; omega))
          clear hall
          go_wp2_with (refine wpl_val (.index 90 (.tmp 18) (.tmp 19)) rfl rfl (.agg #[.string ⟨#[115, 101, 110, 116, 105, 110, 101, 108, 115]⟩, .int .i64 p.sent, .int .i64 0, .int .i64 8, .iface 149 (.pointer (some (E 18)))]) (by kernel_rfl) ?_)
          go_ret
          exact ⟨_, rfl, by rw [HB.out]; exact .wrap _ (by decide) _ _ _ Tryd.laid30, HF.out.trans ((Fr.alloc _ _).trans (Fr.alloc _ _))⟩
        · have HB := Lib.hid (okAt_step p 1 hall (HI.out.2 h))
          clear hall
          go_wp2_with (refine wpl_val (.index 90 (.tmp 18) (.tmp 19)) rfl rfl (.agg #[.string ⟨#[115, 101, 110, 116, 105, 110, 101, 108, 115]⟩, .int .i64 p.sent, .int .i64 0, .int .i64 8, .iface 149 (.pointer (some (E 18)))]) (by kernel_rfl) ?_)
          go_roundw
          case rel => exact ⟨2, by decide, rfl, HB, HF.out.trans (Fr.alloc _ _)⟩
          case measure => simp [intOf]
      · have hi : okAt p 2 ↔ (1 ≤ p.spots ∧ p.spots ≤ m) := by
          rw [HM.out (hall 0 (by omega)) (hall 1 (by omega))]; exact Iff.rfl
        have HI := Lib.hid hi
        clear hi
        have h3 : (p.spots < 1) ∨ (1 ≤ p.spots ∧ m < p.spots) ∨ (1 ≤ p.spots ∧ p.spots ≤ m) := by omega
        rcases h3 with h | h | h
        · have HB := Lib.hid (chk_bad p 2 (by decide) hall (by rw [HI.out]; omega))
          clear hall
          go_wp2_with (refine wpl_val (.index 90 (.tmp 18) (.tmp 19)) rfl rfl (.agg #[.string ⟨#[115, 112, 111, 116, 115]⟩, .int .i64 p.spots, .int .i64 1, .int .i64 m, .iface 149 (.pointer (some (E 1)))]) (by kernel_rfl) ?_)
          go_ret
          exact ⟨_, rfl, by rw [HB.out]; exact .wrap _ (by decide) _ _ _ Tryd.laid30, HF.out.trans ((Fr.alloc _ _).trans (Fr.alloc _ _))⟩
        · have HB := Lib.hid (chk_bad p 2 (by decide) hall (by rw [HI.out]; omega))
          clear hall
          go_wp2_with (refine wpl_val (.index 90 (.tmp 18) (.tmp 19)) rfl rfl (.agg #[.string ⟨#[115, 112, 111, 116, 115]⟩, .int .i64 p.spots, .int .i64 1, .int .i64 m, .iface 149 (.pointer (some (E 1)))]) (by kernel_rfl) ?_)
          go_ret
          exact ⟨_, rfl, by rw [HB.out]; exact .wrap _ (by decide) _ _ _ Tryd.laid30, HF.out.trans ((Fr.alloc _ _).trans (Fr.alloc _ _))⟩
        · have HB := Lib.hid (okAt_step p 2 hall (HI.out.2 h))
          clear hall
          go_wp2_with (refine wpl_val (.index 90 (.tmp 18) (.tmp 19)) rfl rfl (.agg #[.string ⟨#[115, 112, 111, 116, 115]⟩, .int .i64 p.spots, .int .i64 1, .int .i64 m, .iface 149 (.pointer (some (E 1)))]) (by kernel_rfl) ?_)
          go_roundw
          case rel => exact ⟨3, by decide, rfl, HB, HF.out.trans (Fr.alloc _ _)⟩
          case measure => simp [intOf]
      · have hi : okAt p 3 ↔ (1 ≤ p.per ∧ p.per ≤ 10000) := Iff.rfl
        have HI := Lib.hid hi
        clear hi
        have h3 : (p.per < 1) ∨ (1 ≤ p.per ∧ 10000 < p.per) ∨ (1 ≤ p.per ∧ p.per ≤ 10000) := by omega
        rcases h3 with h | h | h
        · have HB := Lib.hid (chk_bad p 3 (by decide) hall (by rw [HI.out]; omega))
          clear hall
          go_wp2_with (refine wpl_val (.index 90 (.tmp 18) (.tmp 19)) rfl rfl (.agg #[.string ⟨#[112, 101, 114, 105, 111, 100]⟩, .int .i64 p.per, .int .i64 1, .int .i64 10000, .iface 149 (.pointer (some (E 1)))]) (by kernel_rfl) ?_)
          go_ret
          exact ⟨_, rfl, by rw [HB.out]; exact .wrap _ (by decide) _ _ _ Tryd.laid30, HF.out.trans ((Fr.alloc _ _).trans (Fr.alloc _ _))⟩
        · have HB := Lib.hid (chk_bad p 3 (by decide) hall (by rw [HI.out]; omega))
          clear hall
          go_wp2_with (refine wpl_val (.index 90 (.tmp 18) (.tmp 19)) rfl rfl (.agg #[.string ⟨#[112, 101, 114, 105, 111, 100]⟩, .int .i64 p.per, .int .i64 1, .int .i64 10000, .iface 149 (.pointer (some (E 1)))]) (by kernel_rfl) ?_)
          go_ret
          exact ⟨_, rfl, by rw [HB.out]; exact .wrap _ (by decide) _ _ _ Tryd.laid30, HF.out.trans ((Fr.alloc _ _).trans (Fr.alloc _ _))⟩
        · have HB := Lib.hid (okAt_step p 3 hall (HI.out.2 h))
          clear hall
          go_wp2_with (refine wpl_val (.index 90 (.tmp 18) (.tmp 19)) rfl rfl (.agg #[.string ⟨#[112, 101, 114, 105, 111, 100]⟩, .int .i64 p.per, .int .i64 1, .int .i64 10000, .iface 149 (.pointer (some (E 1)))]) (by kernel_rfl) ?_)
          go_roundw
          case rel => exact ⟨4, by decide, rfl, HB, HF.out.trans (Fr.alloc _ _)⟩
          case measure => simp [intOf]
      · have hi : okAt p 4 ↔ (1 ≤ p.pat ∧ p.pat ≤ p.per) := Iff.rfl
        have HI := Lib.hid hi
        clear hi
        have h3 : (p.pat < 1) ∨ (1 ≤ p.pat ∧ p.per < p.pat) ∨ (1 ≤ p.pat ∧ p.pat ≤ p.per) := by omega
        rcases h3 with h | h | h
        · have HB := Lib.hid (chk_bad p 4 (by decide) hall (by rw [HI.out]; omega))
          clear hall
          go_wp2_with (refine wpl_val (.index 90 (.tmp 18) (.tmp 19)) rfl rfl (.agg #[.string ⟨#[112, 97, 116, 105, 101, 110, 99, 101]⟩, .int .i64 p.pat, .int .i64 1, .int .i64 p.per, .iface 149 (.pointer (some (E 1)))]) (by kernel_rfl) ?_)
          go_ret
          exact ⟨_, rfl, by rw [HB.out]; exact .wrap _ (by decide) _ _ _ Tryd.laid30, HF.out.trans ((Fr.alloc _ _).trans (Fr.alloc _ _))⟩
        · have HB := Lib.hid (chk_bad p 4 (by decide) hall (by rw [HI.out]; omega))
          clear hall
          go_wp2_with (refine wpl_val (.index 90 (.tmp 18) (.tmp 19)) rfl rfl (.agg #[.string ⟨#[112, 97, 116, 105, 101, 110, 99, 101]⟩, .int .i64 p.pat, .int .i64 1, .int .i64 p.per, .iface 149 (.pointer (some (E 1)))]) (by kernel_rfl) ?_)
          go_ret
          exact ⟨_, rfl, by rw [HB.out]; exact .wrap _ (by decide) _ _ _ Tryd.laid30, HF.out.trans ((Fr.alloc _ _).trans (Fr.alloc _ _))⟩
        · have HB := Lib.hid (okAt_step p 4 hall (HI.out.2 h))
          clear hall
          go_wp2_with (refine wpl_val (.index 90 (.tmp 18) (.tmp 19)) rfl rfl (.agg #[.string ⟨#[112, 97, 116, 105, 101, 110, 99, 101]⟩, .int .i64 p.pat, .int .i64 1, .int .i64 p.per, .iface 149 (.pointer (some (E 1)))]) (by kernel_rfl) ?_)
          go_roundw
          case rel => exact ⟨5, by decide, rfl, HB, HF.out.trans (Fr.alloc _ _)⟩
          case measure => simp [intOf]
      · have hi : okAt p 5 ↔ (0 ≤ p.ret ∧ p.ret ≤ 5) := Iff.rfl
        have HI := Lib.hid hi
        clear hi
        have h3 : (p.ret < 0) ∨ (0 ≤ p.ret ∧ 5 < p.ret) ∨ (0 ≤ p.ret ∧ p.ret ≤ 5) := by omega
        rcases h3 with h | h | h
        · have HB := Lib.hid (chk_bad p 5 (by decide) hall (by rw [HI.out]; omega))
          clear hall
          go_wp2_with (refine wpl_val (.index 90 (.tmp 18) (.tmp 19)) rfl rfl (.agg #[.string ⟨#[114, 101, 116, 114, 105, 101, 115]⟩, .int .i64 p.ret, .int .i64 0, .int .i64 5, .iface 149 (.pointer (some (E 1)))]) (by kernel_rfl) ?_)
          go_ret
          exact ⟨_, rfl, by rw [HB.out]; exact .wrap _ (by decide) _ _ _ Tryd.laid30, HF.out.trans ((Fr.alloc _ _).trans (Fr.alloc _ _))⟩
        · have HB := Lib.hid (chk_bad p 5 (by decide) hall (by rw [HI.out]; omega))
          clear hall
          go_wp2_with (refine wpl_val (.index 90 (.tmp 18) (.tmp 19)) rfl rfl (.agg #[.string ⟨#[114, 101, 116, 114, 105, 101, 115]⟩, .int .i64 p.ret, .int .i64 0, .int .i64 5, .iface 149 (.pointer (some (E 1)))]) (by kernel_rfl) ?_)
          go_ret
          exact ⟨_, rfl, by rw [HB.out]; exact .wrap _ (by decide) _ _ _ Tryd.laid30, HF.out.trans ((Fr.alloc _ _).trans (Fr.alloc _ _))⟩
        · have HB := Lib.hid (okAt_step p 5 hall (HI.out.2 h))
          clear hall
          go_wp2_with (refine wpl_val (.index 90 (.tmp 18) (.tmp 19)) rfl rfl (.agg #[.string ⟨#[114, 101, 116, 114, 105, 101, 115]⟩, .int .i64 p.ret, .int .i64 0, .int .i64 5, .iface 149 (.pointer (some (E 1)))]) (by kernel_rfl) ?_)
          go_roundw
          case rel => exact ⟨6, by decide, rfl, HB, HF.out.trans (Fr.alloc _ _)⟩
          case measure => simp [intOf]
end Go.Proofs.YtbohmnblegljkaaDoor
