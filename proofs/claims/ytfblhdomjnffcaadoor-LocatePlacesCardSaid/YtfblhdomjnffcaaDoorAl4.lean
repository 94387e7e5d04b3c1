/-
  alive of law 4.
-/
import Derived.Test.YtfblhdomjnffcaaDoorFi
import Derived.Test.YtfblhdomjnffcaaDoorStr
namespace Go.Proofs.YtfblhdomjnffcaaDoor
open Go.RowKit Go.Bl
set_option linter.unusedVariables false
theorem z_pinvs : pinvs [] = [1] := by decide +kernel
theorem z_forn : fornL (List.replicate 32 0) [1] 0 = List.replicate 32 0 := by decide +kernel
theorem z_regP : regP (List.replicate 32 0) = [1] := by decide +kernel
theorem z_regL : regL (List.replicate 32 0) = 0 := by decide +kernel
theorem z_mul : pmul [1] [1] = [1] := by decide +kernel
theorem z_plen : plen [1] = 1 := by decide +kernel
theorem find_zero (w : World) : Calls Tryd.prog 25 #[.agg ((List.replicate 32 (0 : UInt8)).map u8v).toArray, .int .i64 40, .slice none 0 0] w fun r w' => ∃ ua uc va vn vc, r = .returned (.tuple #[.agg #[.int .i64 0, .slice ua 1 uc, .slice va vn vc], .nilIface]) ∧ Bs (fun _ => False) w' (.slice ua 1 uc) [1] ∧ Fr [] w w' := by
  refine (find_ok w (List.replicate 32 0) [1] (List.replicate 32 0) [1] [1] _ 40 0 0 none 0 0 (by simp) (by rw [z_plen]) (by omega) (by simp) (by omega) (fun w0 h0 => ?_) z_forn z_regP z_regL z_mul rfl (by omega) (by rw [z_plen]; omega) (by simp)).mono ?_
  · refine (erasures_nil w0).mono ?_
    rintro e w' ⟨u, rfl, ho, hf⟩
    rw [z_pinvs] at ho
    exact ⟨u, rfl, ho, hf⟩
  · rintro r w' ⟨u, v, rfl, h1, h2, h3⟩
    have hb := h1.bs (A := fun _ => False) (by simp)
    obtain ⟨ua, uc, rfl, -, -, -⟩ := h1.bs (A := fun _ => False) (by simp)
    obtain ⟨va, vc, rfl, -, -, -⟩ := h2.bs (A := fun _ => False) (by simp)
    exact ⟨ua, uc, va, _, vc, rfl, hb, h3⟩
set_option maxRecDepth 100000 in
set_option maxHeartbeats 4000000 in
theorem alive04_any (w : World) : Calls Tryd.prog 12 #[] w fun e w' => e = .returned (.bool true) ∧ Fr [] w w' := by
  have HF := Lib.hid (find_zero w)
  go_enter Tryd.func12, Tryd.ntmps12
  go_wp2_with fail
  refine HF.out.mono ?_
  rintro e w1 ⟨ua, uc, va, vn, vc, rfl, ho, hf⟩
  have HF1 := Lib.hid hf
  have HO1 := Lib.hid ho
  clear ho hf HF
  have hcv := run_strS (P := Tryd.prog) (src := 22) (dst := 9) Tryd.underlying22 Tryd.underlying5 Tryd.underlying9 (HO1.out.keep (Fr.alloc (S := []) w1 (.cells #[.int .i64 0, .slice ua 1 uc, .slice va vn vc] 46)) (by simp))
  go_wp2_with (refine wpl_store_new (.tmp 1) (.tmp 6) rfl rfl #[.int .i64 0, .slice ua 1 uc, .slice va vn vc] rfl rfl (by kernel_rfl) rfl (by rfl) ?_)
  go_ret
  exact ⟨rfl, HF1.out.trans (Fr.alloc _ _)⟩
end Go.Proofs.YtfblhdomjnffcaaDoor
