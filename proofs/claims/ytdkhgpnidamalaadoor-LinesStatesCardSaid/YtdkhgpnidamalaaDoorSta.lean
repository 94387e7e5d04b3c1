/-
  Layer 35: lines.State. (printed by genlst.py)
-/
import Derived.Test.YtdkhgpnidamalaaDoorStq
import Derived.Test.YtdkhgpnidamalaaDoorItl
import Derived.Test.YtdkhgpnidamalaaDoorHB
import Derived.Test.YtdkhgpnidamalaaDoorBs0
namespace Go.Proofs.YtdkhgpnidamalaaDoor
open Go.RowKit Go.Bl
set_option linter.unusedVariables false
set_option maxRecDepth 100000 in
set_option maxHeartbeats 8000000 in
theorem state_line (w0 : World) (ia ea : Option Addr) (IN ic EN ec : Nat) (its : List ItP) (ens : List EntP) (hT : Tab10 w0) (hS : StA (fun _ => False) w0 (.slice ia IN ic) (.slice ea EN ec) its ens) (hI : its.length = IN) (hE : ens.length = EN) (hIN : IN ≤ 20) (hEN : EN ≤ 60) (hnm : ∀ x ∈ its, x.name.length ≤ 100) :
    Calls Tryd.prog 12 #[.agg #[.slice ia IN ic, .slice ea EN ec]] w0 fun r w' => ∃ v, r = .returned v ∧ OwnV 9 w0.heap.size w' v (its.map itS ++ ens.map enS) ∧ Fr [] w0 w' := by
  have HIN := Lib.hid hI
  have HEN := Lib.hid hE
  have HIL := Lib.hid (show its.length ≤ 20 by omega)
  have HNA := Lib.hid hnm
  have HS := Lib.hid hS
  have HT := Lib.hid hT
  have hA : At (w0.alloc (.cells #[.slice ia IN ic, .slice ea EN ec] 25)) w0.heap.size (.cells #[.slice ia IN ic, .slice ea EN ec] 25) := At.new rfl
  have HB0 := Lib.hid hA
  have HF0 := Lib.hid (show Fr [] w0 (w0.alloc (.cells #[.slice ia IN ic, .slice ea EN ec] 25)) from Fr.alloc _ _)
  have c0 : (w0.alloc (.cells #[.slice ia IN ic, .slice ea EN ec] 25)).cell? ⟨w0.heap.size, 0, none⟩ = some (.slice ia IN ic) := HB0.out.cell 0
  clear hS hI hE hnm hA hT
  go_enter Tryd.func12, Tryd.ntmps12
  go_wp2
  go_loopw [3, 11] (fun o i wr => ∃ k : Nat, k ≤ IN ∧ i = .int .i64 k ∧ Hid (OwnV 9 w0.heap.size wr o ((its.take k).map itS)) ∧ Hid (Fr [] w0 wr) ∧ Hid (At wr w0.heap.size (.cells #[.slice ia IN ic, .slice ea EN ec] 25))) (fun _ i _ => IN - (intOf i).toNat)
  case atStart => exact ⟨0, by omega, rfl, Lib.hid (OwnV.nil _ _ _), HF0, HB0⟩
  case round =>
    obtain ⟨k, hk, rfl, HO, HR, HBX⟩ := hrel
    by_cases hkN : k < IN
    · obtain ⟨x, hx⟩ : ∃ x, its[k]? = some x := ⟨_, List.getElem?_eq_getElem (by have := HIN.out; omega)⟩
      have hm := List.mem_of_getElem? hx
      have HWF := Lib.hid (HS.out.wi x hm)
      have HNM := Lib.hid (HNA.out x hm)
      obtain ⟨xb, xo, e, -, hrg⟩ := (HS.out.ri.keep0 HR.out).range (by decide) k (itC x) (by rw [List.getElem?_map, hx]; rfl)
      subst e
      have HRG := Lib.hid hrg
      have HSL := Lib.hid (show (Tryd.prog.info? 32).map (·.size) = some (itC x).length by rw [itC_len HWF.out]; kernel_rfl)
      have HSI := Lib.hid (show (Tryd.prog.info? 32).map (·.size) = some (itC x).toArray.size by rw [List.size_toArray, itC_len HWF.out]; kernel_rfl)
      have HZC := Lib.hid (show (Tryd.zeroCells32).size = (itC x).toArray.size by rw [show (itC x).toArray.size = 76 by rw [List.size_toArray, itC_len HWF.out]]; kernel_rfl)
      have HALL := Lib.hid (itC_all x)
      have fa : Fr [] wr (wr.alloc (.cells (itC x).toArray 32)) := Fr.alloc _ _
      have HRB := Lib.hid (range_of (c := itC x) (At.new rfl : At (wr.alloc (.cells (itC x).toArray 32)) wr.heap.size (.cells (itC x).toArray 32)))
      have HT1 := Lib.hid (HT.out.keep (HR.out.trans fa))
      have HFA := Lib.hid (HR.out.trans fa)
      have HOA := Lib.hid (HO.out.keep0 fa)
      have HBA := Lib.hid (HBX.out.keep0 fa)
      have HTK := Lib.hid (show (its.take (k + 1)).map itS = ((its.take k).map itS) ++ [itS x] by
        rw [List.take_add_one, hx]
        simp)
      have HLN := Lib.hid (show ((its.take k).map itS).length ≤ 1000 by
        rw [List.length_map, List.length_take]; omega)
      obtain ⟨XS, hXS⟩ : ∃ XS, (its.take k).map itS = XS := ⟨_, rfl⟩
      rw [hXS] at HOA HTK HLN
      have hki : (k : Int) < IN := by omega
      clear fa hXS hx hm hrg HO HR HBX
      go_wp2_with (first | (refine wpl_load_k (.tmp 13) rfl rfl xb (xo + k * 76) (itC x) rfl HRG.out Tryd.underlying32 rfl HSL.out ?_) | (refine wpl_store_new (.tmp 5) (.tmp 14) rfl rfl (itC x).toArray rfl rfl HSI.out HZC.out HALL.out ?_) | (refine wpl_load_k (.tmp 5) rfl rfl wr.heap.size 0 (itC x) rfl HRB.out Tryd.underlying32 rfl HSL.out ?_) | (go_at_call 5; fail))
      refine (item_line _ x HT1.out HWF.out HNM.out).mono ?_
      rintro r w2 ⟨rfl, h2⟩
      have f2 : Fr [] w2 (w2.alloc (.cells #[itS x] 9)) := Fr.alloc _ _
      have HF2 := Lib.hid ((HFA.out.trans h2).trans f2)
      have HO2 := Lib.hid (HOA.out.keep0 (h2.trans f2))
      have HB2 := Lib.hid (HBA.out.keep0 (h2.trans f2))
      have HL := Lib.hid (show (w2.alloc (.cells #[itS x] 9)).heap[w2.heap.size]? = some (.cells #[itS x] 9 (0, 0)) from heap_alloc_at rfl)
      have hs2 : w0.heap.size ≤ (w2.alloc (.cells #[itS x] 9)).heap.size := by have := HF2.out.size; omega
      clear h2 f2 HFA HOA HRB HRG HBA
      go_wp2_with (at_builtin; refine wpl_append_1 Tryd.underlying50 Tryd.infoString rfl rfl (.tmp 15) (.tmp 18) rfl rfl rfl HL.out rfl HO2.out (by have := HLN.out; omega) (by have := HLN.out; unfold maxLen; omega) hs2 ?_)
      intro vq wq h4 h5
      have HO3 := Lib.hid (show OwnV 9 w0.heap.size wq vq ((its.take (k + 1)).map itS) by rw [HTK.out]; exact h4)
      have HF3 := Lib.hid (show Fr [] w0 wq from OwnV.fr HO2.out HF2.out h5 (Nat.le_refl _))
      have HB3 := Lib.hid (HB2.out.grown h5 (own_neT HO2.out HB2.out (by decide)))
      clear h4 h5 HO2 HF2 HL hs2 HTK HLN HB2
      go_wp2
      go_roundw
      case rel => exact ⟨k + 1, by omega, by go_num, HO3, HF3, HB3⟩
      case measure => simp [intOf]; omega
    · obtain rfl : IN = k := by omega
      have hki : ¬ (IN : Int) < IN := by omega
      have HOI := Lib.hid (show OwnV 9 w0.heap.size wr _ (its.map itS) from by
        have h := HO.out
        rw [List.take_of_length_le (by rw [HIN.out]; exact Nat.le_refl _)] at h
        exact h)
      have HRI := HR
      have HBI := HBX
      have c1 : wr.cell? ⟨w0.heap.size, 1, none⟩ = some (.slice ea EN ec) := HBX.out.cell 1
      clear HO HR HBX
      go_wp2
      go_loopw [3, 24] (fun o i wr => ∃ k : Nat, k ≤ EN ∧ i = .int .i64 k ∧ Hid (OwnV 9 w0.heap.size wr o (its.map itS ++ (ens.take k).map enS)) ∧ Hid (Fr [] w0 wr) ∧ Hid (At wr w0.heap.size (.cells #[.slice ia IN ic, .slice ea EN ec] 25))) (fun _ i _ => EN - (intOf i).toNat)
      case atStart => exact ⟨0, by omega, rfl, Lib.hid (by rw [List.take_zero, List.map_nil, List.append_nil]; exact HOI.out), HRI, HBI⟩
      case round =>
        obtain ⟨k, hk, rfl, HO, HR, HBX⟩ := hrel
        by_cases hkN : k < EN
        · obtain ⟨x, hx⟩ : ∃ x, ens[k]? = some x := ⟨_, List.getElem?_eq_getElem (by have := HEN.out; omega)⟩
          have hm := List.mem_of_getElem? hx
          have HWF := Lib.hid (HS.out.we x hm)
          skip
          obtain ⟨xb, xo, e, -, hrg⟩ := (HS.out.re.keep0 HR.out).range (by decide) k (entR x) (by rw [List.getElem?_map, hx]; rfl)
          subst e
          have HRG := Lib.hid hrg
          have HSL := Lib.hid (show (Tryd.prog.info? 40).map (·.size) = some (entR x).length by rw [show (entR x).length = 7 from rfl]; kernel_rfl)
          have HSI := Lib.hid (show (Tryd.prog.info? 40).map (·.size) = some (entR x).toArray.size by rw [List.size_toArray, show (entR x).length = 7 from rfl]; kernel_rfl)
          have HZC := Lib.hid (show 7 = (entR x).toArray.size from rfl)
          have HALL := Lib.hid (entR_all x)
          have fa : Fr [] wr (wr.alloc (.cells (entR x).toArray 40)) := Fr.alloc _ _
          have HRB := Lib.hid (range_of (c := entR x) (At.new rfl : At (wr.alloc (.cells (entR x).toArray 40)) wr.heap.size (.cells (entR x).toArray 40)))
          have HT1 := Lib.hid (HT.out.keep (HR.out.trans fa))
          have HFA := Lib.hid (HR.out.trans fa)
          have HOA := Lib.hid (HO.out.keep0 fa)
          have HBA := Lib.hid (HBX.out.keep0 fa)
          have HTK := Lib.hid (show its.map itS ++ (ens.take (k + 1)).map enS = (its.map itS ++ (ens.take k).map enS) ++ [enS x] by
            rw [List.take_add_one, hx]
            simp)
          have HLN := Lib.hid (show (its.map itS ++ (ens.take k).map enS).length ≤ 1000 by
            rw [List.length_append, List.length_map, List.length_map, List.length_take]; have := HIL.out; omega)
          obtain ⟨XS, hXS⟩ : ∃ XS, its.map itS ++ (ens.take k).map enS = XS := ⟨_, rfl⟩
          rw [hXS] at HOA HTK HLN
          have hki : (k : Int) < EN := by omega
          clear fa hXS hx hm hrg HO HR HBX
          go_wp2_with (first | (refine wpl_load_k (.tmp 26) rfl rfl xb (xo + k * 7) (entR x) rfl HRG.out Tryd.underlying40 rfl HSL.out ?_) | (refine wpl_store_new (.tmp 7) (.tmp 27) rfl rfl (entR x).toArray rfl rfl HSI.out HZC.out HALL.out ?_) | (refine wpl_load_k (.tmp 7) rfl rfl wr.heap.size 0 (entR x) rfl HRB.out Tryd.underlying40 rfl HSL.out ?_) | (go_at_call 8; fail))
          refine (entry_line _ x HT1.out HWF.out).mono ?_
          rintro r w2 ⟨rfl, h2⟩
          have f2 : Fr [] w2 (w2.alloc (.cells #[enS x] 9)) := Fr.alloc _ _
          have HF2 := Lib.hid ((HFA.out.trans h2).trans f2)
          have HO2 := Lib.hid (HOA.out.keep0 (h2.trans f2))
          have HB2 := Lib.hid (HBA.out.keep0 (h2.trans f2))
          have HL := Lib.hid (show (w2.alloc (.cells #[enS x] 9)).heap[w2.heap.size]? = some (.cells #[enS x] 9 (0, 0)) from heap_alloc_at rfl)
          have hs2 : w0.heap.size ≤ (w2.alloc (.cells #[enS x] 9)).heap.size := by have := HF2.out.size; omega
          clear h2 f2 HFA HOA HRB HRG HBA
          go_wp2_with (at_builtin; refine wpl_append_1 Tryd.underlying50 Tryd.infoString rfl rfl (.tmp 28) (.tmp 31) rfl rfl rfl HL.out rfl HO2.out (by have := HLN.out; omega) (by have := HLN.out; unfold maxLen; omega) hs2 ?_)
          intro vq wq h4 h5
          have HO3 := Lib.hid (show OwnV 9 w0.heap.size wq vq (its.map itS ++ (ens.take (k + 1)).map enS) by rw [HTK.out]; exact h4)
          have HF3 := Lib.hid (show Fr [] w0 wq from OwnV.fr HO2.out HF2.out h5 (Nat.le_refl _))
          have HB3 := Lib.hid (HB2.out.grown h5 (own_neT HO2.out HB2.out (by decide)))
          clear h4 h5 HO2 HF2 HL hs2 HTK HLN HB2
          go_wp2
          go_roundw
          case rel => exact ⟨k + 1, by omega, by go_num, HO3, HF3, HB3⟩
          case measure => simp [intOf]; omega
        · obtain rfl : EN = k := by omega
          have hki : ¬ (EN : Int) < EN := by omega
          have HOE := Lib.hid (show OwnV 9 w0.heap.size wr _ (its.map itS ++ ens.map enS) from by
            have h := HO.out
            rw [List.take_of_length_le (by rw [HEN.out]; exact Nat.le_refl _)] at h
            exact h)
          have HRE := HR
          clear HO HR
          go_wp2
          go_ret
          exact ⟨_, rfl, HOE.out, HRE.out⟩
end Go.Proofs.YtdkhgpnidamalaaDoor
