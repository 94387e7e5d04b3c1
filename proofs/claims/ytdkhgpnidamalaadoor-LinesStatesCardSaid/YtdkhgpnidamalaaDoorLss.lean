/-
  The law LinesStates, walked. (printed by genlss.py)
-/
import Derived.Test.YtdkhgpnidamalaaDoorLsR
import Derived.Test.YtdkhgpnidamalaaDoorSta
import Derived.Test.YtdkhgpnidamalaaDoorStd
import Derived.Test.YtdkhgpnidamalaaDoorVrl
import Derived.Test.YtdkhgpnidamalaaDoorVrd
import Derived.Test.YtdkhgpnidamalaaDoorItw
import Derived.Test.YtdkhgpnidamalaaDoorO1
import Derived.Test.YtdkhgpnidamalaaDoorHB
import Derived.Maps.RangeWalk
namespace Go.Proofs.YtdkhgpnidamalaaDoor
open Go.RowKit Go.Bl
set_option linter.unusedVariables false
theorem size_bA (l : List UInt8) : (bA l).size = l.length := by simp [bA, ByteArray.size]
set_option maxRecDepth 100000 in
set_option maxHeartbeats 8000000 in
theorem lss_any (w0 : World) (ia ea : Option Addr) (IN ic EN ec : Nat) (its : List ItP) (ens : List EntP) (n : Int) (hT : Tab10 w0) (hS : StA (fun _ => False) w0 (.slice ia IN ic) (.slice ea EN ec) its ens) (hI : its.length = IN) (hE : ens.length = EN) (hIm : IN ≤ maxLen) (hEm : EN ≤ maxLen) :
    Calls Tryd.prog 3 #[.agg #[.slice ia IN ic, .slice ea EN ec], .int .i64 n] w0 fun r w' => r = .returned (.bool true) ∧ Fr [] w0 w' := by
  unfold maxLen at hIm hEm
  have HIN := Lib.hid hI
  have HEN := Lib.hid hE
  have HS := Lib.hid hS
  have HT := Lib.hid hT
  have hA : At (w0.alloc (.cells #[.slice ia IN ic, .slice ea EN ec] 25)) w0.heap.size (.cells #[.slice ia IN ic, .slice ea EN ec] 25) := At.new rfl
  have HB0 := Lib.hid hA
  have HF0 := Lib.hid (show Fr [] w0 (w0.alloc (.cells #[.slice ia IN ic, .slice ea EN ec] 25)) from Fr.alloc _ _)
  clear hS hI hE hA hT
  go_enter Tryd.func3, Tryd.ntmps3
  go_wp2_with (go_at_call 4; fail)
  refine (alive35_any _ (HT.out.keep HF0.out)).mono ?_
  rintro e w1 ⟨rfl, hf⟩
  have HF1 := Lib.hid (HF0.out.trans hf)
  have HB1 := Lib.hid (HB0.out.keep0 hf)
  have c0 : w1.cell? ⟨w0.heap.size, 0, none⟩ = some (.slice ia IN ic) := HB1.out.cell 0
  have c1 : w1.cell? ⟨w0.heap.size, 1, none⟩ = some (.slice ea EN ec) := HB1.out.cell 1
  clear hf HF0 HB0
  by_cases h20 : 20 < IN
  · have hz : (20 : Int) < IN := by omega
    go_wp2
    go_ret
    exact ⟨rfl, HF1.out⟩
  by_cases h60 : 60 < EN
  · have hz : ¬ (20 : Int) < IN := by omega
    have hy : (60 : Int) < EN := by omega
    go_wp2
    go_ret
    exact ⟨rfl, HF1.out⟩
  have hz : ¬ (20 : Int) < IN := by omega
  have hy : ¬ (60 : Int) < EN := by omega
  go_wp2
  clear hz hy
  go_loopw [25] (fun i wr => ∃ k : Nat, k ≤ IN ∧ i = .int .i64 k ∧ Hid (Fr [] w0 wr) ∧ Hid (At wr w0.heap.size (.cells #[.slice ia IN ic, .slice ea EN ec] 25)) ∧ Hid (∀ x ∈ its.take k, x.name.length ≤ 100)) (fun i _ => IN - (intOf i).toNat)
  case atStart => exact ⟨0, by omega, rfl, HF1, HB1, Lib.hid (by simp)⟩
  case round =>
    clear c0 c1 HF1 HB1
    obtain ⟨k, hk, rfl, HR, HBX, HNK⟩ := hrel
    by_cases hkN : k < IN
    · obtain ⟨x, hx⟩ : ∃ x, its[k]? = some x := ⟨_, List.getElem?_eq_getElem (by have := HIN.out; omega)⟩
      have hm := List.mem_of_getElem? hx
      have HWF := Lib.hid (HS.out.wi x hm)
      obtain ⟨xb, xo, e, -, hrg⟩ := (HS.out.ri.keep0 HR.out).range (by decide) k (itC x) (by rw [List.getElem?_map, hx]; rfl)
      subst e
      have HRG := Lib.hid hrg
      have HSL := Lib.hid (show (Tryd.prog.info? 32).map (·.size) = some (itC x).length by rw [itC_len HWF.out]; kernel_rfl)
      have HSI := Lib.hid (show (Tryd.prog.info? 32).map (·.size) = some (itC x).toArray.size by rw [List.size_toArray, itC_len HWF.out]; kernel_rfl)
      have HZC := Lib.hid (show (Tryd.zeroCells32).size = (itC x).toArray.size by rw [show (itC x).toArray.size = 76 by rw [List.size_toArray, itC_len HWF.out]]; kernel_rfl)
      have HALL := Lib.hid (itC_all x)
      have fa : Fr [] wr (wr.alloc (.cells (itC x).toArray 32)) := Fr.alloc _ _
      have HAX := Lib.hid (At.new rfl : At (wr.alloc (.cells (itC x).toArray 32)) wr.heap.size (.cells (itC x).toArray 32))
      have HFA := Lib.hid (HR.out.trans fa)
      have HBA := Lib.hid (HBX.out.keep0 fa)
      have HTK := Lib.hid (show its.take (k + 1) = its.take k ++ [x] by rw [List.take_add_one, hx]; rfl)
      have d1 : (wr.alloc (.cells (itC x).toArray 32)).cell? ⟨wr.heap.size, 1, none⟩ = some (.string (bA x.name)) := (HAX.out.cell 1).trans (itC_1 x)
      have hsz : (bA x.name).size = x.name.length := size_bA _
      obtain ⟨NL, hNL⟩ : ∃ NL, x.name.length = NL := ⟨_, rfl⟩
      rw [hNL] at hsz
      have HNL := Lib.hid hNL
      have hki : (k : Int) < IN := by omega
      clear fa hx hm hrg HR HBX hNL
      by_cases h100 : 100 < NL
      · have hz : (100 : Int) < NL := by omega
        go_wp2_with (first | (refine wpl_load_k (.tmp 27) rfl rfl xb (xo + k * 76) (itC x) rfl HRG.out Tryd.underlying32 rfl HSL.out ?_) | (refine wpl_store_new (.tmp 6) (.tmp 28) rfl rfl (itC x).toArray rfl rfl HSI.out HZC.out HALL.out ?_))
        go_ret
        exact ⟨rfl, HFA.out⟩
      · have hz : ¬ (100 : Int) < NL := by omega
        go_wp2_with (first | (refine wpl_load_k (.tmp 27) rfl rfl xb (xo + k * 76) (itC x) rfl HRG.out Tryd.underlying32 rfl HSL.out ?_) | (refine wpl_store_new (.tmp 6) (.tmp 28) rfl rfl (itC x).toArray rfl rfl HSI.out HZC.out HALL.out ?_))
        clear hz d1 hsz
        refine lss_reg1 _ _ rfl wr.heap.size (itC x) (bA (itemL x)) (fun p hp => item_line p x (HT.out.keep (HFA.out.trans hp)) HWF.out (by have := HNL.out; omega)) (fun p hp => item_of p x HWF.out) (fun p hp => item_doc p x HWF.out (by have := HNL.out; omega)) HSL.out (range_of HAX.out) rfl _ ?_
        intro b pz q1 q2 q3 q38 hf
        have hb2 := old_puts b _ [33, 34, 35, 36, 37, 38] q1 q2 q3
        simp only [List.foldl_cons, List.foldl_nil] at hb2
        rw [q38] at hb2
        have HF2 := Lib.hid (HFA.out.trans hf)
        have HB2 := Lib.hid (HBA.out.keep0 hf)
        clear q1 q2 q3 q38 hf
        generalize slot b 33 = s33 at hb2
        generalize slot b 34 = s34 at hb2
        generalize slot b 35 = s35 at hb2
        generalize slot b 36 = s36 at hb2
        generalize slot b 37 = s37 at hb2
        subst hb2
        simp only [Go.Act.put, List.setIfInBounds_toArray, List.set_cons_succ, List.set_cons_zero]
        have HNK2 := Lib.hid (show ∀ y ∈ its.take (k + 1), y.name.length ≤ 100 by
          intro y hy
          rw [HTK.out, List.mem_append, List.mem_singleton] at hy
          rcases hy with hy | rfl
          · exact HNK.out y hy
          · have := HNL.out; omega)
        clear HFA HBA HAX HTK HNK
        go_wp2
        go_roundw
        case rel => exact ⟨k + 1, by omega, by go_num, HF2, HB2, HNK2⟩
        case measure => simp [intOf]; omega
    · obtain rfl : IN = k := by omega
      have hki : ¬ (IN : Int) < IN := by omega
      have HNA := Lib.hid (show ∀ x ∈ its, x.name.length ≤ 100 by
        have h := HNK.out
        rwa [List.take_of_length_le (by rw [HIN.out]; exact Nat.le_refl _)] at h)
      have HR1 := HR
      have HB1 := HBX
      have c1 : wr.cell? ⟨w0.heap.size, 1, none⟩ = some (.slice ea EN ec) := HBX.out.cell 1
      clear HR HBX HNK
      go_wp2
      clear hki
      go_loopw [43] (fun i wr => ∃ k : Nat, k ≤ EN ∧ i = .int .i64 k ∧ Hid (Fr [] w0 wr) ∧ Hid (At wr w0.heap.size (.cells #[.slice ia IN ic, .slice ea EN ec] 25))) (fun i _ => EN - (intOf i).toNat)
      case atStart => exact ⟨0, by omega, rfl, HR1, HB1⟩
      case round =>
        clear c1 HR1 HB1
        obtain ⟨k, hk, rfl, HR, HBX⟩ := hrel
        by_cases hkN : k < EN
        · obtain ⟨x, hx⟩ : ∃ x, ens[k]? = some x := ⟨_, List.getElem?_eq_getElem (by have := HEN.out; omega)⟩
          have HWF := Lib.hid (HS.out.we x (List.mem_of_getElem? hx))
          obtain ⟨xb, xo, e, -, hrg⟩ := (HS.out.re.keep0 HR.out).range (by decide) k (entR x) (by rw [List.getElem?_map, hx]; rfl)
          subst e
          have HRG := Lib.hid hrg
          have HALL := Lib.hid (entR_all x)
          have fa : Fr [] wr (wr.alloc (.cells (entR x).toArray 40)) := Fr.alloc _ _
          have HAX := Lib.hid (At.new rfl : At (wr.alloc (.cells (entR x).toArray 40)) wr.heap.size (.cells (entR x).toArray 40))
          have HFA := Lib.hid (HR.out.trans fa)
          have HBA := Lib.hid (HBX.out.keep0 fa)
          have hki : (k : Int) < EN := by omega
          clear fa hx hrg HR HBX
          go_wp2_with (first | (refine wpl_load_k (.tmp 45) rfl rfl xb (xo + k * 7) (entR x) rfl HRG.out Tryd.underlying40 rfl (by kernel_rfl) ?_) | (refine wpl_store_new (.tmp 8) (.tmp 46) rfl rfl (entR x).toArray rfl rfl (by kernel_rfl) rfl HALL.out ?_))
          refine lss_reg2 _ _ rfl wr.heap.size (entR x) (bA (entL x)) (fun p hp => entry_line p x (HT.out.keep (HFA.out.trans hp)) HWF.out) (fun p hp => entry_doc p x HWF.out) (by kernel_rfl) (range_of HAX.out) rfl _ ?_
          intro b pz q1 q2 q3 q51 hf
          have hb2 := old_puts b _ [47, 48, 49, 50, 51] q1 q2 q3
          simp only [List.foldl_cons, List.foldl_nil] at hb2
          rw [q51] at hb2
          have HF2 := Lib.hid (HFA.out.trans hf)
          have HB2 := Lib.hid (HBA.out.keep0 hf)
          clear q1 q2 q3 q51 hf
          generalize slot b 47 = s47 at hb2
          generalize slot b 48 = s48 at hb2
          generalize slot b 49 = s49 at hb2
          generalize slot b 50 = s50 at hb2
          subst hb2
          simp only [Go.Act.put, List.setIfInBounds_toArray, List.set_cons_succ, List.set_cons_zero]
          clear HFA HBA HAX
          go_wp2
          go_roundw
          case rel => exact ⟨k + 1, by omega, by go_num, HF2, HB2⟩
          case measure => simp [intOf]; omega
        · obtain rfl : EN = k := by omega
          have hki : ¬ (EN : Int) < EN := by omega
          have HR2 := HR
          have HRS := Lib.hid (range_of (c := [.slice ia IN ic, .slice ea EN ec]) HBX.out)
          clear HR HBX
          go_wp2_with (first | (refine wpl_load_k (.tmp 2) rfl rfl w0.heap.size 0 [.slice ia IN ic, .slice ea EN ec] rfl HRS.out Tryd.underlying25 rfl (by kernel_rfl) ?_) | (go_at_call 10; fail))
          refine (of21_any wr ia ea IN ic EN ec its ens (HS.out.keep0 HR2.out) HIN.out HEN.out (by omega) (by omega)).mono ?_
          rintro r w2 ⟨ia', ea', ic', ec', rfl, hS2, hf⟩
          have hfa : Fr [] w2 (w2.alloc (.cells #[.slice ia' IN ic', .slice ea' EN ec'] 47)) := Fr.alloc _ _
          have HR3 := Lib.hid (HR2.out.trans (hf.trans hfa))
          have HS2 := Lib.hid (hS2.keep0 hfa)
          have HRS1 := Lib.hid (range_keep HRS.out (hf.trans hfa))
          have HRS2 := Lib.hid (range_of (c := [.slice ia' IN ic', .slice ea' EN ec']) (At.new rfl : At (w2.alloc (.cells #[.slice ia' IN ic', .slice ea' EN ec'] 47)) w2.heap.size (.cells #[.slice ia' IN ic', .slice ea' EN ec'] 47)))
          clear hf hfa hS2 HR2 HRS
          go_wp2_with (refine wpl_store_new (.tmp 9) (.tmp 54) rfl rfl #[.slice ia' IN ic', .slice ea' EN ec'] rfl rfl (by kernel_rfl) rfl (by rfl) ?_)
          have hSS : its.map itS ++ ens.map enS = (its.map (fun x => bA (itemL x)) ++ ens.map (fun x => bA (entL x))).map Value.string := by
            rw [List.map_append, List.map_map, List.map_map]
            rfl
          have HSS := Lib.hid hSS
          clear hSS
          refine lss_reg3 _ _ rfl w0.heap.size w2.heap.size n [.slice ia IN ic, .slice ea EN ec] [.slice ia' IN ic', .slice ea' EN ec'] (bA (verL n ens)) (its.map (fun x => bA (itemL x)) ++ ens.map (fun x => bA (entL x))) ?_ ?_ ?_ ?_ ?_ (by kernel_rfl) (by kernel_rfl) HRS1.out HRS2.out rfl rfl rfl _ ?_
          · intro p hp
            refine (state_line p ia ea IN ic EN ec its ens (HT.out.keep (HR3.out.trans hp)) (HS.out.keep0 (HR3.out.trans hp)) HIN.out HEN.out (by omega) (by omega) HNA.out).mono ?_
            rintro e w' ⟨v, rfl, ho, h⟩
            refine ⟨v, rfl, ?_, h⟩
            rw [← HSS.out]
            exact OwnV.vs ho (by simp)
          · intro p hp
            refine (state_doc p ia' ea' IN ic' EN ec' its ens (HS2.out.keep0 hp) HIN.out HEN.out (by omega) (by omega) HNA.out).mono ?_
            rintro e w' ⟨v, rfl, ho, h⟩
            refine ⟨v, rfl, ?_, h⟩
            rw [← HSS.out]
            exact OwnV.vs ho (by simp)
          · intro p hp
            exact verdicts_line p ia ea IN ic EN ec n its ens (HS.out.keep0 (HR3.out.trans hp)) HEN.out (by omega)
          · intro p hp
            exact verdicts_doc p ia' ea' IN ic' EN ec' n its ens (HS2.out.keep0 hp) HEN.out (by omega)
          · rw [List.length_append, List.length_map, List.length_map]
            have := HIN.out
            have := HEN.out
            omega
          · intro c p k1 k2 k3 q4 hf
            have HF4 := Lib.hid (HR3.out.trans hf)
            rw [frame69 c k2 (k1.trans rfl), q4]
            clear hf k1 k2 k3 q4
            go_wp2
            go_ret
            exact ⟨rfl, HF4.out⟩
end Go.Proofs.YtdkhgpnidamalaaDoor
