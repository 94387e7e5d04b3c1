/-
  The law LocateRegisters, walked.
-/
import Derived.Test.YtfblhdomjnffcaaDoorRns
import Derived.Test.YtfblhdomjnffcaaDoorAl4
import Derived.Test.YtfblhdomjnffcaaDoorRgr
import Derived.Test.YtfblhdomjnffcaaDoorGE
namespace Go.Proofs.YtfblhdomjnffcaaDoor
open Go.RowKit Go.Bl
set_option linter.unusedVariables false
set_option maxRecDepth 100000 in
set_option maxHeartbeats 4000000 in
theorem lreg_any (w : World) (v : Value) (xs : List UInt8) (hb : Bs (fun _ => False) w v xs) :
    Calls Tryd.prog 3 #[v] w fun e w' => e = .returned (.bool true) ∧ Fr [] w w' := by
  have HB := Lib.hid hb
  obtain ⟨a, cap, rfl, h2, h3, -⟩ := hb
  unfold maxLen at h3
  by_cases hl : xs.length ≤ 40
  · have hli : ¬ (40 : Int) < (xs.length : Int) := by omega
    have HLE := Lib.hid (reg_le xs)
    have HRL := Lib.hid (reg_len xs)
    obtain ⟨L, hL⟩ : ∃ L, regL xs = L := ⟨_, rfl⟩
    obtain ⟨ps, hP⟩ : ∃ ps, regP xs = ps := ⟨_, rfl⟩
    have HREG := Lib.hid (fun w u (hb : Bs (fun _ => False) w u xs) => register_any w u xs hb (by omega))
    have HSHO := Lib.hid (fun w u (hb : Bs (fun _ => False) w u xs) => shortest_any w u xs hb (by omega))
    have HRUN := Lib.hid (fun w u p (hb : Bs (fun _ => False) w u xs) (hp : Bs (fun _ => False) w p ps) => runs_any w u p xs ps L hb hp (by rw [← hP]; exact reg_c0 xs) (by rw [← hP]; exact reg_pos xs) (by rw [← hP, ← hL]; exact reg_len xs) (by have := reg_le xs; omega) (by omega) (by rw [← hP, ← hL]; exact reg_gens xs))
    rw [hL, hP] at HREG
    rw [hL] at HSHO
    obtain ⟨N, hN⟩ : ∃ N, xs.length = N := ⟨_, rfl⟩
    have HN := Lib.hid hN
    rw [hN] at HB h2 hl hli ⊢
    clear hN hL hP HLE HRL
    go_enter Tryd.func3, Tryd.ntmps3
    go_wp2_with fail
    refine (alive04_any w).mono ?_
    rintro e w1 ⟨rfl, hf⟩
    have HF1 := Lib.hid hf
    have HB1 := Lib.hid (HB.out.keep hf (by simp))
    clear hf HB
    go_wp2_with fail
    refine (bytes_any (fun _ => False) w1 _ xs HB1.out (by have := HN.out; omega)).mono ?_
    rintro e w2 ⟨u, rfl, hm, hf⟩
    have HF2 := Lib.hid (HF1.out.trans hf)
    have HB2 := Lib.hid (HB1.out.keep hf (by simp))
    have HM2 := Lib.hid hm
    have HU2 := Lib.hid (hm.bs (A := fun _ => False) (fun _ h => h.elim))
    obtain ⟨B1, hB1⟩ : ∃ B, w1.heap.size = B := ⟨_, rfl⟩
    rw [hB1] at HM2
    clear hf hm HF1 HB1 hB1
    go_wp2_with fail
    refine (HREG.out w2 u HU2.out).mono ?_
    rintro e w3 ⟨p, rfl, hp, hf⟩
    have HF3 := Lib.hid (HF2.out.trans hf)
    have HB3 := Lib.hid (HB2.out.keep hf (by simp))
    have HM3 := Lib.hid (HM2.out.keep0 hf)
    have HP3 := Lib.hid (hp.bs (A := fun _ => False) (by simp))
    clear hf hp HF2 HB2 HM2 HU2 HREG
    go_wp2_with fail
    refine (HSHO.out w3 _ HB3.out).mono ?_
    rintro e w4 ⟨rfl, hf⟩
    have HF4 := Lib.hid (HF3.out.trans hf)
    have HB4 := Lib.hid (HB3.out.keep hf (by simp))
    have HM4 := Lib.hid (HM3.out.keep0 hf)
    have HP4 := Lib.hid (HP3.out.keep hf (by simp))
    clear hf HF3 HB3 HM3 HP3 HSHO
    go_wp2_with fail
    refine (HRUN.out w4 _ _ HB4.out HP4.out).mono ?_
    rintro e w5 ⟨rfl, hf⟩
    have HF5 := Lib.hid (HF4.out.trans hf)
    have HB5 := Lib.hid (HB4.out.keep hf (by simp))
    have HM5 := Lib.hid (HM4.out.keep0 hf)
    clear hf HF4 HB4 HM4 HP4 HRUN
    go_wp2_with fail
    refine (kept_any (fun _ => False) B1 w5 _ _ xs HM5.out HB5.out (by have := HN.out; omega)).mono ?_
    rintro e w6 ⟨rfl, hf⟩
    have HF6 := Lib.hid (HF5.out.trans hf)
    clear hf HF5 HB5 HM5
    go_wp2
    go_ret
    exact ⟨rfl, HF6.out⟩
  · have hli : (40 : Int) < (xs.length : Int) := by omega
    obtain ⟨N, hN⟩ : ∃ N, xs.length = N := ⟨_, rfl⟩
    rw [hN] at hl hli h2 ⊢
    clear HB hN
    go_enter Tryd.func3, Tryd.ntmps3
    go_wp2_with fail
    refine (alive04_any w).mono ?_
    rintro e w1 ⟨rfl, hf⟩
    have HF1 := Lib.hid hf
    clear hf
    go_wp2
    go_ret
    exact ⟨rfl, HF1.out⟩
end Go.Proofs.YtfblhdomjnffcaaDoor
