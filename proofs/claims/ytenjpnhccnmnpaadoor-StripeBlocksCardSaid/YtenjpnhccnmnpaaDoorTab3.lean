/-
  Layer 1: field.Make: the table.
-/
import Derived.Test.YtenjpnhccnmnpaaDoorTab2
import Derived.Test.YtenjpnhccnmnpaaDoorGB
namespace Go.Proofs.YtenjpnhccnmnpaaDoor
open Go.RowKit Go.Bl
set_option linter.unusedVariables false

set_option maxRecDepth 100000 in
set_option maxHeartbeats 4000000 in
theorem make_any (w : World) : Calls Tryd.prog 34 #[] w fun e w' => e = .returned (.pointer (some ⟨w.heap.size, 0, none⟩)) ∧ At w' w.heap.size (.cells tabF 83) ∧ Fr [] w w' := by
  have HA := Lib.hid (show At (w.alloc (.cells (tabN 0) 83)) w.heap.size (.cells (tabN 0) 83) from At.new rfl)
  go_enter Tryd.func34, Tryd.ntmps34
  go_wp2_with (first | (refine wpl_step (p := .build 83 #[]) rfl rfl (.agg (tabN 0)) (w' := w) (by kernel_rfl) ?_) | (refine wpl_step (p := .box 83 (.tmp 4)) rfl rfl (.pointer (some ⟨w.heap.size, 0, none⟩)) (w' := w.alloc (.cells (tabN 0) 83)) (by kernel_rfl) ?_))
  go_loopw [2, 6] (fun x i wr => ∃ k : Nat, k ≤ 255 ∧ i = .int .i64 k ∧ x = u8v (gexp k) ∧ Hid (At wr w.heap.size (.cells (tabN k) 83)) ∧ Hid (Fr [] w wr)) (fun _ i _ => 255 - (intOf i).toNat)
  case atStart => exact ⟨0, by omega, rfl, rfl, HA.out, Fr.alloc _ _⟩
  case round =>
    clear HA
    obtain ⟨k, hk, rfl, rfl, HA, HF⟩ := hrel
    by_cases hkn : k < 255
    · have hmm := (gexp k).toNat_lt
      have hsz := tabN_size k
      have HD := Lib.hid (fun w => double_any w (gexp k))
      have HN := Lib.hid (show tabN (k + 1) = (((tabN k).setIfInBounds k (.int .u8 ((gexp k).toNat : Int))).setIfInBounds (k + 255) (.int .u8 ((gexp k).toNat : Int))).setIfInBounds (510 + (gexp k).toNat) (.int .i64 k) from rfl)
      obtain ⟨c, hc⟩ : ∃ c, tabN k = c := ⟨_, rfl⟩
      rw [hc] at hsz HN HA
      unfold u8v at HD ⊢
      obtain ⟨m, hm⟩ : ∃ m, (gexp k).toNat = m := ⟨_, rfl⟩
      rw [hm] at hmm HD HN ⊢
      clear hm hc
      go_wp2_with fail
      refine make_reg _ _ rfl w.heap.size k m c hkn hsz rfl rfl rfl HA.out _ ?_
      intro b p h1 h2 h3 hf ha
      obtain ⟨f, hb⟩ := putsX b _ _ h1 h2 h3
      replace HA := Lib.hid ha
      replace HF := Lib.hid (HF.out.then hf (by intro b hb; simp at hb; omega))
      clear h1 h2 h3 hf ha
      subst hb
      simp only [List.foldl_cons, List.foldl_nil, Go.Act.put, List.setIfInBounds_toArray, List.set_cons_succ, List.set_cons_zero]
      go_wp2_with (refine wpl_store_one (.tmp 27) (.tmp 24) rfl rfl (.int .i64 (k : Int)) rfl rfl HA.out (by rw [Array.size_setIfInBounds, Array.size_setIfInBounds, hsz]; omega) (by kernel_rfl) rfl ?_)
      intro p1 f1 a1 _
      replace HF := Lib.hid (HF.out.then f1 (by intro b hb; simp at hb; omega))
      replace HA := Lib.hid a1
      clear f1 a1
      go_wp2_with fail
      refine (HD.out _).mono ?_
      rintro e w2 ⟨rfl, hf⟩
      replace HA := Lib.hid (HA.out.keep0 hf)
      replace HF := Lib.hid (HF.out.trans hf)
      clear hf
      go_wp2
      go_roundw
      case rel => exact ⟨k + 1, by omega, by go_num, rfl, by rw [HN.out]; exact HA.out, HF.out⟩
      case measure => simp [intOf]; omega
    · obtain rfl : k = 255 := by omega
      have hsz := tabN_size 255
      have HN := Lib.hid (show tabF = (tabN 255).setIfInBounds 510 (.int .i64 (-1)) from rfl)
      obtain ⟨c, hc⟩ : ∃ c, tabN 255 = c := ⟨_, rfl⟩
      rw [hc] at hsz HN HA
      unfold u8v
      obtain ⟨m, hm⟩ : ∃ m, (gexp 255).toNat = m := ⟨_, rfl⟩
      rw [hm]
      clear hm hc
      go_wp2_with (refine wpl_store_one (.tmp 34) (.const (.int .i64 (-1))) rfl rfl (.int .i64 (-1)) rfl rfl HA.out (by rw [hsz]; omega) (by kernel_rfl) rfl ?_)
      intro p1 f1 a1 _
      replace HF := Lib.hid (HF.out.then f1 (by intro b hb; simp at hb; omega))
      replace HA := Lib.hid a1
      clear f1 a1
      go_wp2
      go_ret
      exact ⟨rfl, by rw [HN.out]; exact HA.out, HF.out⟩

end Go.Proofs.YtenjpnhccnmnpaaDoor
