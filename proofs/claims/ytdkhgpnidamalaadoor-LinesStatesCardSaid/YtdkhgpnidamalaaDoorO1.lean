/-
  Layer 21: the law's Of, walked. (printed by genlst.py)
-/
import Derived.Test.YtdkhgpnidamalaaDoorStq
import Derived.Test.YtdkhgpnidamalaaDoorHC
import Derived.Test.YtdkhgpnidamalaaDoorGB
import Derived.Test.YtdkhgpnidamalaaDoorBs0
namespace Go.Proofs.YtdkhgpnidamalaaDoor
open Go.RowKit Go.Bl
set_option linter.unusedVariables false
theorem Tryd.infoRit : (Tryd.prog.info? 37).map (fun i => (i.zero, i.size, i.bytes)) = some (some (.agg Tryd.zeroCells37), 76, 168) := by kernel_rfl
theorem Tryd.infoRen : (Tryd.prog.info? 43).map (fun i => (i.zero, i.size, i.bytes)) = some (some (.agg #[.int .i64 0, .int .i64 0, .int .i64 0, .int .i64 0, .int .i64 0, .int .i64 0, .int .i64 0]), 7, 56) := by kernel_rfl
theorem rowsA_neK {e te : TypeId} {base s : Nat} {w w' : World} {v o : Value} {rs us : List (List Value)} {s' : Nat} (h : OwnK e base s w v rs) (ho : OwnK te base s' w o us) (hne : te ≠ e) (hg : w.grownBy w' o.ownBlock) : OwnK e base s w' v rs :=
  h.keep (Fr.grown (S := o.ownBlock.toList) hg fun k hk => by simp [hk]) fun g hg' hm => by
    rcases ho.1.2 with ⟨e, -⟩ | ⟨q, cap, cur, e, -, hh, -⟩
    · rw [e] at hm; simp [Value.ownBlock] at hm
    · rw [e] at hm
      simp only [Value.ownBlock, Option.toList_some, List.mem_singleton] at hm
      subst hm
      exact own_neK h hh hne hg'
set_option maxRecDepth 100000 in
set_option maxHeartbeats 8000000 in
theorem of21_any (w0 : World) (ia ea : Option Addr) (IN ic EN ec : Nat) (its : List ItP) (ens : List EntP) (hS : StA (fun _ => False) w0 (.slice ia IN ic) (.slice ea EN ec) its ens) (hI : its.length = IN) (hE : ens.length = EN) (hIN : IN ≤ 20) (hEN : EN ≤ 60) :
    Calls Tryd.prog 10 #[.agg #[.slice ia IN ic, .slice ea EN ec]] w0 fun r w' => ∃ (ia' ea' : Option Addr) (ic' ec' : Nat), r = .returned (.agg #[.slice ia' IN ic', .slice ea' EN ec']) ∧ StA (fun _ => False) w' (.slice ia' IN ic') (.slice ea' EN ec') its ens ∧ Fr [] w0 w' := by
  have HIN := Lib.hid hI
  have HEN := Lib.hid hE
  have HS := Lib.hid hS
  have hA : At (w0.alloc (.cells #[.slice ia IN ic, .slice ea EN ec] 25)) w0.heap.size (.cells #[.slice ia IN ic, .slice ea EN ec] 25) := At.new rfl
  have HA0 := Lib.hid ((hA.al (o' := .cells #[.slice none 0 0, .slice none 0 0] 47)).al (o' := .cells #[.slice none 0 0, .slice none 0 0] 47))
  have HR0 := Lib.hid ((At.new (by simp) : At ((w0.alloc (.cells #[.slice ia IN ic, .slice ea EN ec] 25)).alloc (.cells #[.slice none 0 0, .slice none 0 0] 47)) (w0.heap.size + 1) (.cells #[.slice none 0 0, .slice none 0 0] 47)).al (o' := .cells #[.slice none 0 0, .slice none 0 0] 47))
  have HT0 := Lib.hid (At.new (by simp) : At (((w0.alloc (.cells #[.slice ia IN ic, .slice ea EN ec] 25)).alloc (.cells #[.slice none 0 0, .slice none 0 0] 47)).alloc (.cells #[.slice none 0 0, .slice none 0 0] 47)) (w0.heap.size + 2) (.cells #[.slice none 0 0, .slice none 0 0] 47))
  have HF0 := Lib.hid (show Fr [] w0 (((w0.alloc (.cells #[.slice ia IN ic, .slice ea EN ec] 25)).alloc (.cells #[.slice none 0 0, .slice none 0 0] 47)).alloc (.cells #[.slice none 0 0, .slice none 0 0] 47)) from ((Fr.alloc _ _).trans (Fr.alloc _ _)).trans (Fr.alloc _ _))
  have c0 : (((w0.alloc (.cells #[.slice ia IN ic, .slice ea EN ec] 25)).alloc (.cells #[.slice none 0 0, .slice none 0 0] 47)).alloc (.cells #[.slice none 0 0, .slice none 0 0] 47)).cell? ⟨w0.heap.size, 0, none⟩ = some (.slice ia IN ic) := HA0.out.cell 0
  clear hS hI hE hA
  go_enter Tryd.func10, Tryd.ntmps10
  go_wp2_with (refine wpl_store_new (.tmp 3) (.tmp 8) rfl rfl #[.slice none 0 0, .slice none 0 0] rfl rfl (by kernel_rfl) rfl (by rfl) ?_)
  go_loopw [12] (fun i wr => ∃ (k : Nat) (iv : Value), k ≤ IN ∧ i = .int .i64 k ∧ Hid (OwnK 37 w0.heap.size 76 wr iv ((its.take k).map itC)) ∧ Hid (At wr (w0.heap.size + 2) (.cells #[iv, .slice none 0 0] 47)) ∧ Hid (Fr [] w0 wr) ∧ Hid (At wr w0.heap.size (.cells #[.slice ia IN ic, .slice ea EN ec] 25)) ∧ Hid (At wr (w0.heap.size + 1) (.cells #[.slice none 0 0, .slice none 0 0] 47))) (fun i _ => IN - (intOf i).toNat)
  case atStart => exact ⟨0, _, by omega, rfl, Lib.hid (OwnK.nil _ _ _ _), HT0, HF0, HA0, HR0⟩
  case round =>
    clear c0 HA0 HR0 HT0 HF0
    obtain ⟨k, iv, hk, rfl, HO, HT, HR, HBX, HRS⟩ := hrel
    obtain ⟨va, vc, e⟩ := HO.out.shape
    by_cases hkN : k < IN
    · rw [List.length_map, List.length_take, Nat.min_eq_left (by have := HIN.out; omega)] at e
      subst e
      obtain ⟨x, hx⟩ : ∃ x, its[k]? = some x := ⟨_, List.getElem?_eq_getElem (by have := HIN.out; omega)⟩
      have hm := List.mem_of_getElem? hx
      have HWF := Lib.hid (HS.out.wi x hm)
      obtain ⟨xb, xo, e, -, hrg⟩ := (HS.out.ri.keep0 HR.out).range (by decide) k (itC x) (by rw [List.getElem?_map, hx]; rfl)
      subst e
      have HRG := Lib.hid hrg
      have HSL := Lib.hid (show (Tryd.prog.info? 32).map (·.size) = some (itC x).length by rw [itC_len HWF.out]; kernel_rfl)
      have HSI := Lib.hid (show (Tryd.prog.info? 32).map (·.size) = some (itC x).toArray.size by rw [List.size_toArray, itC_len HWF.out]; kernel_rfl)
      have HZC := Lib.hid (show (Tryd.zeroCells32).size = (itC x).toArray.size by rw [show (itC x).toArray.size = 76 by rw [List.size_toArray, itC_len HWF.out]]; kernel_rfl)
      have HALL := Lib.hid (itC_all x)
      have HONE := Lib.hid (itC_one x)
      have HLEN := Lib.hid (itC_len HWF.out)
      have HSR := Lib.hid (show (Tryd.prog.info? 30).map (·.size) = some (digC x.root).length by rw [digC_len' HWF.out.root]; kernel_rfl)
      have HSF := Lib.hid (show (Tryd.prog.info? 30).map (·.size) = some (digC x.file).length by rw [digC_len' HWF.out.file]; kernel_rfl)
      have HBD := Lib.hid (built_it HWF.out)
      have f1 : Fr [] wr (wr.alloc (.cells (itC x).toArray 32)) := Fr.alloc _ _
      have f2 : Fr [] (wr.alloc (.cells (itC x).toArray 32)) ((wr.alloc (.cells (itC x).toArray 32)).alloc (.cells (itC x).toArray 37)) := Fr.alloc _ _
      have hA : At (wr.alloc (.cells (itC x).toArray 32)) wr.heap.size (.cells (itC x).toArray 32) := At.new rfl
      have d0 : (wr.alloc (.cells (itC x).toArray 32)).cell? ⟨wr.heap.size, 0, none⟩ = some (.int .i64 x.num) := (hA.cell 0).trans (itC_0 x)
      have d1 : (wr.alloc (.cells (itC x).toArray 32)).cell? ⟨wr.heap.size, 1, none⟩ = some (.string (bA x.name)) := (hA.cell 1).trans (itC_1 x)
      have d72 : (wr.alloc (.cells (itC x).toArray 32)).cell? ⟨wr.heap.size, 72, none⟩ = some (.int .i64 x.tick) := (hA.cell 72).trans (itC_72 HWF.out)
      have d73 : (wr.alloc (.cells (itC x).toArray 32)).cell? ⟨wr.heap.size, 73, none⟩ = some (.bool x.kept) := (hA.cell 73).trans (itC_73 HWF.out)
      have d74 : (wr.alloc (.cells (itC x).toArray 32)).cell? ⟨wr.heap.size, 74, none⟩ = some (.int .i64 x.used) := (hA.cell 74).trans (itC_74 HWF.out)
      have d75 : (wr.alloc (.cells (itC x).toArray 32)).cell? ⟨wr.heap.size, 75, none⟩ = some (.int .i64 x.rnds) := (hA.cell 75).trans (itC_75 HWF.out)
      have HRP := Lib.hid (range_par (range_of (c := itC x) hA))
      have HRR := Lib.hid (range_root (range_of (c := itC x) hA))
      have HRF := Lib.hid (range_file HWF.out (range_of (c := itC x) hA))
      have ct : (wr.alloc (.cells (itC x).toArray 32)).cell? ⟨w0.heap.size + 2, 0, none⟩ = some (.slice va k vc) := (HT.out.keep0 f1).cell 0
      have HFA := Lib.hid (HR.out.trans (f1.trans f2))
      have HOA := Lib.hid (HO.out.keep0 (f1.trans f2))
      have HTA := Lib.hid (HT.out.keep0 (f1.trans f2))
      have HBA := Lib.hid (HBX.out.keep0 (f1.trans f2))
      have HRA := Lib.hid (HRS.out.keep0 (f1.trans f2))
      have HL := Lib.hid (show ((wr.alloc (.cells (itC x).toArray 32)).alloc (.cells (itC x).toArray 37)).heap[(wr.alloc (.cells (itC x).toArray 32)).heap.size]? = some (.cells (itC x).toArray 37 (0, 0)) from heap_alloc_at rfl)
      have hs2 : w0.heap.size ≤ ((wr.alloc (.cells (itC x).toArray 32)).alloc (.cells (itC x).toArray 37)).heap.size := by have := HFA.out.size; omega
      have HTK := Lib.hid (show (its.take (k + 1)).map itC = (its.take k).map itC ++ [itC x] by
        rw [List.take_add_one, hx]
        simp)
      have HLN := Lib.hid (show ((its.take k).map itC).length ≤ 20 by rw [List.length_map, List.length_take]; omega)
      obtain ⟨XS, hXS⟩ : ∃ XS, (its.take k).map itC = XS := ⟨_, rfl⟩
      rw [hXS] at HOA HTK HLN
      have hki : (k : Int) < IN := by omega
      clear f1 f2 hA hx hm hrg HO HR HBX HT HRS hXS
      go_wp2_with (first | (refine wpl_load_k (.tmp 14) rfl rfl xb (xo + k * 76) (itC x) rfl HRG.out Tryd.underlying32 rfl HSL.out ?_) | (refine wpl_store_new (.tmp 5) (.tmp 15) rfl rfl (itC x).toArray rfl rfl HSI.out HZC.out HALL.out ?_) | (refine wpl_load_k (.tmp 22) rfl rfl wr.heap.size 2 (itR x) rfl HRP.out Tryd.underlying28 rfl (by kernel_rfl) ?_) | (refine wpl_load_k (.tmp 24) rfl rfl wr.heap.size 8 (digC x.root) rfl HRR.out Tryd.underlying30 rfl HSR.out ?_) | (refine wpl_load_k (.tmp 26) rfl rfl wr.heap.size 40 (digC x.file) rfl HRF.out Tryd.underlying30 rfl HSF.out ?_) | (refine wpl_build_s rfl rfl (itV x) (itC x) rfl HBD.out ?_) | (refine wpl_build_k Tryd.underlying44 Tryd.infoRit (by decide) (by decide) rfl (.tmp 36) rfl (itC x) rfl HLEN.out ?_) | (at_builtin; refine wpl_append_k Tryd.underlying44 Tryd.infoRit (by kernel_rfl) (by decide) rfl (.tmp 17) (.tmp 37) rfl rfl rfl HL.out HLEN.out HONE.out HOA.out (by have := HLN.out; omega) (by have := HLN.out; unfold maxLen; omega) hs2 ?_))
      intro v5 w5 h5 h6
      have HT5 := Lib.hid (HTA.out.grown h6 (own_neK HOA.out HTA.out (by decide)))
      have HB5 := Lib.hid (HBA.out.grown h6 (own_neK HOA.out HBA.out (by decide)))
      have HR5 := Lib.hid (HRA.out.grown h6 (own_neK HOA.out HRA.out (by decide)))
      have HO5 := Lib.hid h5
      have HF5 := Lib.hid (show Fr [] w0 w5 from OwnK.fr HFA.out HOA.out h6 (Nat.le_refl _))
      have HON5 := Lib.hid (show v5.oneCell' = true by obtain ⟨a, c, e⟩ := h5.shape; rw [e]; rfl)
      clear h5 h6 ct d0 d1 d72 d73 d74 d75 HRP HRR HRF HFA HOA HTA HBA HRA HL hs2 HLN
      go_wp2_with (refine wpl_store_one (.tmp 39) (.tmp 38) rfl rfl v5 rfl rfl HT5.out (by simp) (by kernel_rfl) HON5.out ?_)
      intro w6 f6 a6 s6
      have HT6 := Lib.hid (show At w6 (w0.heap.size + 2) (.cells #[v5, .slice none 0 0] 47) from a6)
      have HO6 := Lib.hid (show OwnK 37 w0.heap.size 76 w6 v5 ((its.take (k + 1)).map itC) by
        rw [HTK.out]
        exact HO5.out.keep f6 (fun g hg hm => by
          simp only [List.mem_singleton] at hm
          subst hm
          exact own_neK HO5.out HT5.out (by decide) hg))
      have HB6 := Lib.hid (HB5.out.keep f6 (by simp only [List.mem_singleton]; omega))
      have HR6 := Lib.hid (HR5.out.keep f6 (by simp only [List.mem_singleton]; omega))
      have HF6 := Lib.hid (show Fr [] w0 w6 from HF5.out.then f6 (by intro b hb; simp at hb; subst hb; exact .inr (by omega)))
      clear f6 a6 s6 HT5 HO5 HF5 HON5 HTK HB5 HR5
      go_wp2
      go_roundw
      case rel => exact ⟨k + 1, v5, by omega, by go_num, HO6, HT6, HF6, HB6, HR6⟩
      case measure => simp [intOf]; omega
    · obtain rfl : IN = k := by omega
      have hki : ¬ (IN : Int) < IN := by omega
      have HOI := Lib.hid (show OwnK 37 w0.heap.size 76 wr iv (its.map itC) from by
        have h := HO.out
        rw [List.take_of_length_le (by rw [HIN.out]; exact Nat.le_refl _)] at h
        exact h)
      rw [List.length_map, List.length_take, Nat.min_eq_left (by have := HIN.out; omega)] at e
      have HTI := HT
      have HRI := HR
      have HBI := HBX
      have HSI := HRS
      have c1 : wr.cell? ⟨w0.heap.size, 1, none⟩ = some (.slice ea EN ec) := HBX.out.cell 1
      clear HO HR HBX HT HRS
      subst e
      go_wp2
      go_loopw [44] (fun i wr => ∃ (k : Nat) (ev : Value), k ≤ EN ∧ i = .int .i64 k ∧ Hid (OwnK 43 w0.heap.size 7 wr ev ((ens.take k).map entR)) ∧ Hid (OwnK 37 w0.heap.size 76 wr (.slice va IN vc) (its.map itC)) ∧ Hid (At wr (w0.heap.size + 2) (.cells #[.slice va IN vc, ev] 47)) ∧ Hid (Fr [] w0 wr) ∧ Hid (At wr (w0.heap.size + 1) (.cells #[.slice none 0 0, .slice none 0 0] 47))) (fun i _ => EN - (intOf i).toNat)
      case atStart => exact ⟨0, _, by omega, rfl, Lib.hid (OwnK.nil _ _ _ _), HOI, HTI, HRI, HSI⟩
      case round =>
        clear c1 HOI HTI HRI HBI HSI
        obtain ⟨k, ev, hk, rfl, HE, HO, HT, HR, HRS⟩ := hrel
        obtain ⟨ua, uc, e⟩ := HE.out.shape
        by_cases hkN : k < EN
        · rw [List.length_map, List.length_take, Nat.min_eq_left (by have := HEN.out; omega)] at e
          subst e
          obtain ⟨x, hx⟩ : ∃ x, ens[k]? = some x := ⟨_, List.getElem?_eq_getElem (by have := HEN.out; omega)⟩
          obtain ⟨xb, xo, e, -, hrg⟩ := (HS.out.re.keep0 HR.out).range (by decide) k (entR x) (by rw [List.getElem?_map, hx]; rfl)
          subst e
          have HRG := Lib.hid hrg
          have HALL := Lib.hid (entR_all x)
          have HONE := Lib.hid (entR_one x)
          have f1 : Fr [] wr (wr.alloc (.cells (entR x).toArray 40)) := Fr.alloc _ _
          have f2 : Fr [] (wr.alloc (.cells (entR x).toArray 40)) ((wr.alloc (.cells (entR x).toArray 40)).alloc (.cells (entR x).toArray 43)) := Fr.alloc _ _
          have HRB := Lib.hid (range_of (c := entR x) (At.new rfl : At (wr.alloc (.cells (entR x).toArray 40)) wr.heap.size (.cells (entR x).toArray 40)))
          have ct : (wr.alloc (.cells (entR x).toArray 40)).cell? ⟨w0.heap.size + 2, 1, none⟩ = some (.slice ua k uc) := (HT.out.keep0 f1).cell 1
          have HFA := Lib.hid (HR.out.trans (f1.trans f2))
          have HEA := Lib.hid (HE.out.keep0 (f1.trans f2))
          have HOA := Lib.hid (HO.out.keep0 (f1.trans f2))
          have HTA := Lib.hid (HT.out.keep0 (f1.trans f2))
          have HRA := Lib.hid (HRS.out.keep0 (f1.trans f2))
          have HL := Lib.hid (show ((wr.alloc (.cells (entR x).toArray 40)).alloc (.cells (entR x).toArray 43)).heap[(wr.alloc (.cells (entR x).toArray 40)).heap.size]? = some (.cells (entR x).toArray 43 (0, 0)) from heap_alloc_at rfl)
          have hs2 : w0.heap.size ≤ ((wr.alloc (.cells (entR x).toArray 40)).alloc (.cells (entR x).toArray 43)).heap.size := by have := HFA.out.size; omega
          have HTK := Lib.hid (show (ens.take (k + 1)).map entR = (ens.take k).map entR ++ [entR x] by
            rw [List.take_add_one, hx]
            simp)
          have HLN := Lib.hid (show ((ens.take k).map entR).length ≤ 60 by rw [List.length_map, List.length_take]; omega)
          obtain ⟨XS, hXS⟩ : ∃ XS, (ens.take k).map entR = XS := ⟨_, rfl⟩
          rw [hXS] at HEA HTK HLN
          have hki : (k : Int) < EN := by omega
          clear f1 f2 hx hrg HE HO HR HT HRS hXS
          go_wp2_with (first | (refine wpl_load_k (.tmp 46) rfl rfl xb (xo + k * 7) (entR x) rfl HRG.out Tryd.underlying40 rfl (by kernel_rfl) ?_) | (refine wpl_store_new (.tmp 7) (.tmp 47) rfl rfl (entR x).toArray rfl rfl (by kernel_rfl) rfl HALL.out ?_) | (refine wpl_load_k (.tmp 7) rfl rfl wr.heap.size 0 (entR x) rfl HRB.out Tryd.underlying40 rfl (by kernel_rfl) ?_) | (refine wpl_build_k Tryd.underlying45 Tryd.infoRen (by decide) (by decide) rfl (.tmp 50) rfl (entR x) rfl rfl ?_) | (at_builtin; refine wpl_append_k Tryd.underlying45 Tryd.infoRen rfl (by decide) rfl (.tmp 49) (.tmp 51) rfl rfl rfl HL.out rfl HONE.out HEA.out (by have := HLN.out; omega) (by have := HLN.out; unfold maxLen; omega) hs2 ?_))
          intro v5 w5 h5 h6
          have HT5 := Lib.hid (HTA.out.grown h6 (own_neK HEA.out HTA.out (by decide)))
          have HR5 := Lib.hid (HRA.out.grown h6 (own_neK HEA.out HRA.out (by decide)))
          have HO5 := Lib.hid (rowsA_neK HOA.out HEA.out (by decide) h6)
          have HE5 := Lib.hid h5
          have HF5 := Lib.hid (show Fr [] w0 w5 from OwnK.fr HFA.out HEA.out h6 (Nat.le_refl _))
          have HON5 := Lib.hid (show v5.oneCell' = true by obtain ⟨a, c, e⟩ := h5.shape; rw [e]; rfl)
          clear h5 h6 ct HRB HFA HOA HEA HTA HRA HL hs2 HLN
          go_wp2_with (refine wpl_store_one (.tmp 53) (.tmp 52) rfl rfl v5 rfl rfl HT5.out (by simp) (by kernel_rfl) HON5.out ?_)
          intro w6 f6 a6 s6
          have HT6 := Lib.hid (show At w6 (w0.heap.size + 2) (.cells #[.slice va IN vc, v5] 47) from a6)
          have HE6 := Lib.hid (show OwnK 43 w0.heap.size 7 w6 v5 ((ens.take (k + 1)).map entR) by
            rw [HTK.out]
            exact HE5.out.keep f6 (fun g hg hm => by
              simp only [List.mem_singleton] at hm
              subst hm
              exact own_neK HE5.out HT5.out (by decide) hg))
          have HO6 := Lib.hid (show OwnK 37 w0.heap.size 76 w6 (.slice va IN vc) (its.map itC) from HO5.out.keep f6 (fun g hg hm => by
              simp only [List.mem_singleton] at hm
              subst hm
              exact own_neK HO5.out HT5.out (by decide) hg))
          have HR6 := Lib.hid (HR5.out.keep f6 (by simp only [List.mem_singleton]; omega))
          have HF6 := Lib.hid (show Fr [] w0 w6 from HF5.out.then f6 (by intro b hb; simp at hb; subst hb; exact .inr (by omega)))
          clear f6 a6 s6 HT5 HO5 HE5 HF5 HON5 HTK HR5
          go_wp2
          go_roundw
          case rel => exact ⟨k + 1, v5, by omega, by go_num, HE6, HO6, HT6, HF6, HR6⟩
          case measure => simp [intOf]; omega
        · obtain rfl : EN = k := by omega
          have hki : ¬ (EN : Int) < EN := by omega
          have HEI := Lib.hid (show OwnK 43 w0.heap.size 7 wr ev (ens.map entR) from by
            have h := HE.out
            rw [List.take_of_length_le (by rw [HEN.out]; exact Nat.le_refl _)] at h
            exact h)
          rw [List.length_map, List.length_take, Nat.min_eq_left (by have := HEN.out; omega)] at e
          subst e
          have HRG := Lib.hid (range_of (c := [.slice va IN vc, .slice ua EN uc]) HT.out)
          go_wp2_with (first | (refine wpl_load_k (.tmp 3) rfl rfl (w0.heap.size + 2) 0 [.slice va IN vc, .slice ua EN uc] rfl HRG.out Tryd.underlying47 rfl (by kernel_rfl) ?_) | (refine wpl_store_at (.tmp 2) (.tmp 55) rfl rfl #[.slice va IN vc, .slice ua EN uc] rfl rfl (by kernel_rfl) HRS.out (by simp) (by simp [Value.oneCell']) ?_))
          intro w4 f4 a4 s4
          have hA4 : At w4 (w0.heap.size + 1) (.cells #[.slice va IN vc, .slice ua EN uc] 47) := a4
          have HRES := Lib.hid (range_of (c := [.slice va IN vc, .slice ua EN uc]) hA4)
          have HO4 := Lib.hid (show OwnK 37 w0.heap.size 76 w4 (.slice va IN vc) (its.map itC) from HO.out.keep f4 (fun g hg hm => by
              simp only [List.mem_singleton] at hm
              subst hm
              exact own_neK HO.out HRS.out (by decide) hg))
          have HE4 := Lib.hid (show OwnK 43 w0.heap.size 7 w4 (.slice ua EN uc) (ens.map entR) from HEI.out.keep f4 (fun g hg hm => by
              simp only [List.mem_singleton] at hm
              subst hm
              exact own_neK HEI.out HRS.out (by decide) hg))
          have HF4 := Lib.hid (show Fr [] w0 w4 from HR.out.then f4 (by intro b hb; simp at hb; subst hb; exact .inr (by omega)))
          clear f4 a4 s4 hA4 HRG HO HE HEI HT HR HRS
          go_wp2
          refine bodyPost_ret (results_cell (d := _) rfl _ _ (w0.heap.size + 1) _ rfl HRES.out Tryd.underlying47 rfl (by kernel_rfl)) rfl ?_
          exact ⟨va, ua, vc, uc, rfl, ⟨HO4.out.rd (by simp), HE4.out.rd (by simp), HS.out.wi, HS.out.we⟩, HF4.out⟩
end Go.Proofs.YtdkhgpnidamalaaDoor
