/-
  Layer 35: the document's verdicts. (printed by genlst.py)
-/
import Derived.Test.YtdkhgpnidamalaaDoorMrk
import Derived.Test.YtdkhgpnidamalaaDoorBs0
import Derived.Test.YtdkhgpnidamalaaDoorHC
namespace Go.Proofs.YtdkhgpnidamalaaDoor
open Go.RowKit Go.Bl
set_option linter.unusedVariables false
set_option maxRecDepth 100000 in
set_option maxHeartbeats 8000000 in
theorem verdicts_doc (w0 : World) (ia ea : Option Addr) (IN ic EN ec : Nat) (n : Int) (its : List ItP) (ens : List EntP) (hS : StA (fun _ => False) w0 (.slice ia IN ic) (.slice ea EN ec) its ens) (hE : ens.length = EN) (hEN : EN ≤ 60) :
    Calls Tryd.prog 15 #[.agg #[.slice ia IN ic, .slice ea EN ec], .int .i64 n] w0 fun r w' => r = .returned (.string (bA (verL n ens))) ∧ Fr [] w0 w' := by
  have HEN := Lib.hid hE
  have HS := Lib.hid hS
  have hA : At (w0.alloc (.cells #[.slice ia IN ic, .slice ea EN ec] 47)) w0.heap.size (.cells #[.slice ia IN ic, .slice ea EN ec] 47) := At.new rfl
  have c1 : (w0.alloc (.cells #[.slice ia IN ic, .slice ea EN ec] 47)).cell? ⟨w0.heap.size, 1, none⟩ = some (.slice ea EN ec) := hA.cell 1
  have HF0 := Lib.hid (show Fr [] w0 (w0.alloc (.cells #[.slice ia IN ic, .slice ea EN ec] 47)) from Fr.alloc _ _)
  clear hS hE hA
  go_enter Tryd.func15, Tryd.ntmps15
  go_wp2
  go_loopw [5, 11] (fun s i wr => ∃ k : Nat, k ≤ EN ∧ i = .int .i64 k ∧ s = .string (bA (verL n (ens.take k))) ∧ Hid (Fr [] w0 wr)) (fun _ i _ => EN - (intOf i).toNat)
  case atStart => exact ⟨0, by omega, rfl, rfl, HF0⟩
  case round =>
    clear c1 HF0
    obtain ⟨k, hk, rfl, rfl, HR⟩ := hrel
    by_cases hkN : k < EN
    · obtain ⟨x, hx⟩ : ∃ x, ens[k]? = some x := ⟨_, List.getElem?_eq_getElem (by have := HEN.out; omega)⟩
      obtain ⟨xb, xo, e, -, hrg⟩ := (HS.out.re.keep0 HR.out).range (by decide) k (entR x) (by rw [List.getElem?_map, hx]; rfl)
      subst e
      have HRG := Lib.hid hrg
      have HALL := Lib.hid (entR_all x)
      have hA : At (wr.alloc (.cells (entR x).toArray 43)) wr.heap.size (.cells (entR x).toArray 43) := At.new rfl
      have HFA := Lib.hid (HR.out.trans (Fr.alloc (S := []) wr (.cells (entR x).toArray 43)))
      have HUP := Lib.hid (verL_up (n := n) hx)
      have HLN := Lib.hid (show (verL n (ens.take k)).length ≤ 60 by have := verL_len n (ens.take k); rw [List.length_take] at this; omega)
      have HOK := Lib.hid (HS.out.we x (List.mem_of_getElem? hx))
      have d1 : (wr.alloc (.cells (entR x).toArray 43)).cell? ⟨wr.heap.size, 1, none⟩ = some (.int .i64 x.obj) := hA.cell 1
      have d5 : (wr.alloc (.cells (entR x).toArray 43)).cell? ⟨wr.heap.size, 5, none⟩ = some (.int .i64 x.verd) := hA.cell 5
      
      obtain ⟨VL, hVL⟩ : ∃ l, verL n (ens.take k) = l := ⟨_, rfl⟩
      rw [hVL] at HUP HLN ⊢
      have hki : (k : Int) < EN := by omega
      clear hA hx hrg hVL 
      by_cases ho : x.obj = n
      · have HO := Lib.hid ho
        have hq : (x.obj != n) = false := by simpa using ho
        clear ho
        by_cases v0 : x.verd = 0
        · have HV := Lib.hid (show verL n (ens.take (k + 1)) = VL ++ [46] by rw [HUP.out, if_pos HO.out, v0]; rfl)
          have hex : (⟨#[46, 80, 70, 84]⟩ : ByteArray).extract 0 1 = bA [46] := by rfl
          have hcat : ∀ w, (Op.stringOp .add (bA VL) ((⟨#[46, 80, 70, 84]⟩ : ByteArray).extract 0 1)).run Tryd.prog w = .ok (.string (bA (VL ++ [46]))) w := fun w => by rw [hex]; exact run_cat VL [46] (by have := HLN.out; simp only [List.length_cons, List.length_nil]; omega) w
          clear hex
          rw [v0] at d5
          clear v0
          go_wp2_with (first | (refine wpl_load_k (.tmp 13) rfl rfl xb (xo + k * 7) (entR x) rfl HRG.out Tryd.underlying43 rfl (by kernel_rfl) ?_) | (refine wpl_store_new (.tmp 7) (.tmp 14) rfl rfl (entR x).toArray rfl rfl (by kernel_rfl) rfl HALL.out ?_))
          go_roundw
          case rel => exact ⟨k + 1, by omega, by go_num, by rw [HV.out], HFA⟩
          case measure => simp [intOf]; omega
        by_cases v1 : x.verd = 1
        · have HV := Lib.hid (show verL n (ens.take (k + 1)) = VL ++ [80] by rw [HUP.out, if_pos HO.out, v1]; rfl)
          have hex : (⟨#[46, 80, 70, 84]⟩ : ByteArray).extract 1 2 = bA [80] := by rfl
          have hcat : ∀ w, (Op.stringOp .add (bA VL) ((⟨#[46, 80, 70, 84]⟩ : ByteArray).extract 1 2)).run Tryd.prog w = .ok (.string (bA (VL ++ [80]))) w := fun w => by rw [hex]; exact run_cat VL [80] (by have := HLN.out; simp only [List.length_cons, List.length_nil]; omega) w
          clear hex
          rw [v1] at d5
          clear v1
          go_wp2_with (first | (refine wpl_load_k (.tmp 13) rfl rfl xb (xo + k * 7) (entR x) rfl HRG.out Tryd.underlying43 rfl (by kernel_rfl) ?_) | (refine wpl_store_new (.tmp 7) (.tmp 14) rfl rfl (entR x).toArray rfl rfl (by kernel_rfl) rfl HALL.out ?_))
          go_roundw
          case rel => exact ⟨k + 1, by omega, by go_num, by rw [HV.out], HFA⟩
          case measure => simp [intOf]; omega
        by_cases v2 : x.verd = 2
        · have HV := Lib.hid (show verL n (ens.take (k + 1)) = VL ++ [70] by rw [HUP.out, if_pos HO.out, v2]; rfl)
          have hex : (⟨#[46, 80, 70, 84]⟩ : ByteArray).extract 2 3 = bA [70] := by rfl
          have hcat : ∀ w, (Op.stringOp .add (bA VL) ((⟨#[46, 80, 70, 84]⟩ : ByteArray).extract 2 3)).run Tryd.prog w = .ok (.string (bA (VL ++ [70]))) w := fun w => by rw [hex]; exact run_cat VL [70] (by have := HLN.out; simp only [List.length_cons, List.length_nil]; omega) w
          clear hex
          rw [v2] at d5
          clear v2
          go_wp2_with (first | (refine wpl_load_k (.tmp 13) rfl rfl xb (xo + k * 7) (entR x) rfl HRG.out Tryd.underlying43 rfl (by kernel_rfl) ?_) | (refine wpl_store_new (.tmp 7) (.tmp 14) rfl rfl (entR x).toArray rfl rfl (by kernel_rfl) rfl HALL.out ?_))
          go_roundw
          case rel => exact ⟨k + 1, by omega, by go_num, by rw [HV.out], HFA⟩
          case measure => simp [intOf]; omega
        by_cases v3 : x.verd = 3
        · have HV := Lib.hid (show verL n (ens.take (k + 1)) = VL ++ [84] by rw [HUP.out, if_pos HO.out, v3]; rfl)
          have hex : (⟨#[46, 80, 70, 84]⟩ : ByteArray).extract 3 4 = bA [84] := by rfl
          have hcat : ∀ w, (Op.stringOp .add (bA VL) ((⟨#[46, 80, 70, 84]⟩ : ByteArray).extract 3 4)).run Tryd.prog w = .ok (.string (bA (VL ++ [84]))) w := fun w => by rw [hex]; exact run_cat VL [84] (by have := HLN.out; simp only [List.length_cons, List.length_nil]; omega) w
          clear hex
          rw [v3] at d5
          clear v3
          go_wp2_with (first | (refine wpl_load_k (.tmp 13) rfl rfl xb (xo + k * 7) (entR x) rfl HRG.out Tryd.underlying43 rfl (by kernel_rfl) ?_) | (refine wpl_store_new (.tmp 7) (.tmp 14) rfl rfl (entR x).toArray rfl rfl (by kernel_rfl) rfl HALL.out ?_))
          go_roundw
          case rel => exact ⟨k + 1, by omega, by go_num, by rw [HV.out], HFA⟩
          case measure => simp [intOf]; omega
        have HMK := Lib.hid (show markB x.verd = 63 by unfold markB; rw [if_neg v0, if_neg v1, if_neg v2, if_neg v3])
        by_cases hz : 0 ≤ x.verd
        · have HV := Lib.hid (show verL n (ens.take (k + 1)) = VL ++ [63] by rw [HUP.out, if_pos HO.out, HMK.out])
          have hcat : ∀ w, (Op.stringOp .add (bA VL) ⟨#[63]⟩).run Tryd.prog w = .ok (.string (bA (VL ++ [63]))) w := fun w => run_cat VL [63] (by have := HLN.out; simp only [List.length_cons, List.length_nil]; omega) w
          have hle : ¬ x.verd ≤ 3 := by omega
          go_wp2_with (first | (refine wpl_load_k (.tmp 13) rfl rfl xb (xo + k * 7) (entR x) rfl HRG.out Tryd.underlying43 rfl (by kernel_rfl) ?_) | (refine wpl_store_new (.tmp 7) (.tmp 14) rfl rfl (entR x).toArray rfl rfl (by kernel_rfl) rfl HALL.out ?_))
          go_roundw
          case rel => exact ⟨k + 1, by omega, by go_num, by rw [HV.out], HFA⟩
          case measure => simp [intOf]; omega
        · have HV := Lib.hid (show verL n (ens.take (k + 1)) = VL ++ [63] by rw [HUP.out, if_pos HO.out, HMK.out])
          have hcat : ∀ w, (Op.stringOp .add (bA VL) ⟨#[63]⟩).run Tryd.prog w = .ok (.string (bA (VL ++ [63]))) w := fun w => run_cat VL [63] (by have := HLN.out; simp only [List.length_cons, List.length_nil]; omega) w
          skip
          go_wp2_with (first | (refine wpl_load_k (.tmp 13) rfl rfl xb (xo + k * 7) (entR x) rfl HRG.out Tryd.underlying43 rfl (by kernel_rfl) ?_) | (refine wpl_store_new (.tmp 7) (.tmp 14) rfl rfl (entR x).toArray rfl rfl (by kernel_rfl) rfl HALL.out ?_))
          go_roundw
          case rel => exact ⟨k + 1, by omega, by go_num, by rw [HV.out], HFA⟩
          case measure => simp [intOf]; omega
      · have HV := Lib.hid (show verL n (ens.take (k + 1)) = VL by rw [HUP.out, if_neg ho, List.append_nil])
        have hq : (x.obj != n) = true := by simpa using ho
        clear ho
        go_wp2_with (first | (refine wpl_load_k (.tmp 13) rfl rfl xb (xo + k * 7) (entR x) rfl HRG.out Tryd.underlying43 rfl (by kernel_rfl) ?_) | (refine wpl_store_new (.tmp 7) (.tmp 14) rfl rfl (entR x).toArray rfl rfl (by kernel_rfl) rfl HALL.out ?_))
        go_roundw
        case rel => exact ⟨k + 1, by omega, by go_num, by rw [HV.out], HFA⟩
        case measure => simp [intOf]; omega
    · obtain rfl : EN = k := by omega
      have hki : ¬ (EN : Int) < EN := by omega
      rw [List.take_of_length_le (by rw [HEN.out]; exact Nat.le_refl _)]
      go_wp2
      go_ret
      exact ⟨rfl, HR.out⟩
end Go.Proofs.YtdkhgpnidamalaaDoor
