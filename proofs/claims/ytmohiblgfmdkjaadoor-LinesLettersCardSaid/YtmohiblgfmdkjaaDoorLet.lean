/-
  Layer 35: lines.Letter. (printed by genlin.py)
-/
import Derived.Test.YtmohiblgfmdkjaaDoorLeh
import Derived.Test.YtmohiblgfmdkjaaDoorGB
import Derived.Maps.RangeWalk
namespace Go.Proofs.YtmohiblgfmdkjaaDoor
open Go.RowKit Go.Bl
set_option linter.unusedVariables false
set_option maxRecDepth 100000 in
set_option maxHeartbeats 8000000 in
theorem letter_line (w : World) (kd id ob fr co cd : Int) (pa sa ba : Option Addr) (PN pc SN sc BN bc : Nat) (ps : List Int) (hT : Tab10 w) (hW : WordsAt 3 lWords w) (hps : Is (fun _ => False) w (.slice pa PN pc) ps) (hpl : ps.length = PN) (hPN : PN ≤ 100) (hSN : SN ≤ 30) (hBN : BN ≤ 600) (hk : inI kd) (hi : inI id) (ho : inI ob) (hfr : inI fr) (hco : inI co) (hcd : inI cd) (hpb : ∀ x ∈ ps, inI x) :
    Calls Tryd.prog 12 #[.agg (letC kd id ob (.slice pa PN pc) (.slice sa SN sc) fr co (.slice ba BN bc) cd)] w fun r w' => r = .returned (.string (bA (letL kd id ob fr co cd ps SN BN))) ∧ Fr [] w w' := by
  have HA := Lib.hid (show At (w.alloc (.cells (letC kd id ob (.slice pa PN pc) (.slice sa SN sc) fr co (.slice ba BN bc) cd) 40)) w.heap.size (.cells (letC kd id ob (.slice pa PN pc) (.slice sa SN sc) fr co (.slice ba BN bc) cd) 40) from At.new rfl)
  have HF := Lib.hid (show Fr [] w (w.alloc (.cells (letC kd id ob (.slice pa PN pc) (.slice sa SN sc) fr co (.slice ba BN bc) cd) 40)) from Fr.alloc _ _)
  have HT0 := Lib.hid hT
  have HW := Lib.hid hW
  have HPS := Lib.hid hps
  have HPL := Lib.hid hpl
  have HPB := Lib.hid hpb
  have HHO := Lib.hid (letH_ok (kd := kd) hi ho)
  have HFR := Lib.hid hfr
  have HCO := Lib.hid hco
  have HCD := Lib.hid hcd
  have hkb := hk
  have hfb := hfr
  have hcb := hco
  have hdb := hcd
  unfold inI at hkb hfb hcb hdb
  obtain ⟨XW, hXW⟩ : ∃ x, atL lWords kd = x := ⟨_, rfl⟩
  have HXW := Lib.hid hXW
  obtain ⟨W0, hW0⟩ : ∃ x, w.heap.size = x := ⟨_, rfl⟩
  have HW0 := Lib.hid hW0
  rw [hW0] at HA
  clear hT hW hps hpl hpb hk hi ho hfr hco hcd hXW hW0
  have hw0 := HW0.out
  go_enter Tryd.func12, Tryd.ntmps12
  go_wp2_with fail
  refine wp_region_pf [(.val, 0), (.val, 1), (.call, 2), (.val, 3), (.val, 4), (.val, 5), (.val, 6), (.val, 7), (.val, 8), (.val, 9), (.val, 10), (.mem, 11), (.val, 12)] (by kernel_rfl) (by kernel_rfl) ?_
  intro wa ha
  replace HA := Lib.hid (HA.out.keep0 ha)
  replace HF := Lib.hid (HF.out.trans ha)
  have hwa : W0 ≤ wa.heap.size := by have := HF.out.size; omega
  clear ha hw0
  have e0 : ∀ z : Kin wa, z.w.cell? ⟨W0, 0, none⟩ = some (.int .i64 kd) := fun z => (HA.out.keep0 z.fr).cell 0
  have e1 : ∀ z : Kin wa, z.w.cell? ⟨W0, 1, none⟩ = some (.int .i64 id) := fun z => (HA.out.keep0 z.fr).cell 1
  have e2 : ∀ z : Kin wa, z.w.cell? ⟨W0, 2, none⟩ = some (.int .i64 ob) := fun z => (HA.out.keep0 z.fr).cell 2
  have G := Lib.hid (Fr.refl [] wa)
  refine poF_vals 2 _ _ _ (by kernel_rfl) ?_
  simp only [opersOf, List.take_succ_cons, List.take_zero, List.filterMap_cons, List.filterMap_nil, List.getElem?_toArray, List.getElem?_cons_succ, List.getElem?_cons_zero, List.drop_succ_cons, List.drop_zero]
  show wpQuiet _ _ _ _ [_, _] _
  iterate 2 go_big_quiet_step (fail)
  refine wpQuiet_nil ?_
  refine poF_call _ (by simp only [List.getElem?_toArray, List.getElem?_cons_succ, List.getElem?_cons_zero]; rfl) ?_
  intro u hu
  go_wp2_with fail
  refine (lword_any _ kd (WordsAt.keep (g := 3) (ls := lWords) HW.out ((HF.out.trans G.out).trans hu))).mono ?_
  rintro r u0 ⟨rfl, rfl⟩
  rw [HXW.out]
  rename_i K hK
  refine hK _ _ ?_
  refine ⟨rfl, rfl, (Fr.refl [] _), ?_⟩
  clear hK K
  replace G := Lib.hid (G.out.trans hu)
  clear hu
  refine poF_vals 8 _ _ _ (by kernel_rfl) ?_
  simp only [opersOf, List.take_succ_cons, List.take_zero, List.filterMap_cons, List.filterMap_nil, List.getElem?_toArray, List.getElem?_cons_succ, List.getElem?_cons_zero, List.drop_succ_cons, List.drop_zero]
  show wpQuiet _ _ _ _ [_, _, _, _, _, _, _, _] _
  iterate 8 go_big_quiet_step (fail)
  refine wpQuiet_nil ?_
  refine poF_new _ (by simp only [List.getElem?_toArray, List.getElem?_cons_succ, List.getElem?_cons_zero]; rfl) rfl (.cells #[Value.iface 9 (.string (bA XW)), .iface 3 (.int .i64 id), .iface 9 (.string ⟨#[111, 98, 106, 101, 99, 116]⟩), .iface 3 (.int .i64 ob)] 20) (fun b => .slice (some ⟨b, 0, none⟩) 4 4) (fun _ => by kernel_rfl) ?_
  intro b1 wb hb1 hwb hAt1
  go_frame
  replace G := Lib.hid (G.out.trans hwb)
  have H1 := Lib.hid hAt1
  have HB1 := Lib.hid hb1
  clear hwb hAt1 hb1
  refine poF_vals 1 _ _ _ (by kernel_rfl) ?_
  simp only [opersOf, List.take_succ_cons, List.take_zero, List.filterMap_cons, List.filterMap_nil, List.getElem?_toArray, List.getElem?_cons_succ, List.getElem?_cons_zero, List.drop_succ_cons, List.drop_zero]
  show wpQuiet _ _ _ _ [_] _
  iterate 1 go_big_quiet_step (fail)
  refine wpQuiet_nil ?_
  refine poF_end ?_
  intro wz hz
  replace G := Lib.hid (G.out.trans hz)
  replace H1 := Lib.hid (H1.out.keep0 hz)
  replace HA := Lib.hid (HA.out.keep0 G.out)
  replace HF := Lib.hid (HF.out.trans G.out)
  clear hz G e0 e1 e2
  have c0 : wz.cell? ⟨W0, 0, none⟩ = some (.int .i64 kd) := HA.out.cell 0
  have c3 : wz.cell? ⟨W0, 3, none⟩ = some (.slice pa PN pc) := HA.out.cell 3
  have c4 : wz.cell? ⟨W0, 4, none⟩ = some (.slice sa SN sc) := HA.out.cell 4
  have c5 : wz.cell? ⟨W0, 5, none⟩ = some (.int .i64 fr) := HA.out.cell 5
  have c6 : wz.cell? ⟨W0, 6, none⟩ = some (.int .i64 co) := HA.out.cell 6
  have c7 : wz.cell? ⟨W0, 7, none⟩ = some (.slice ba BN bc) := HA.out.cell 7
  have c8 : wz.cell? ⟨W0, 8, none⟩ = some (.int .i64 cd) := HA.out.cell 8
  have HVL := Lib.hid (show (letH kd id ob).map lpV = [Value.iface 9 (.string (bA XW)), .iface 3 (.int .i64 id), .iface 9 (.string ⟨#[111, 98, 106, 101, 99, 116]⟩), .iface 3 (.int .i64 ob)] by simp only [letH, List.map_cons, List.map_nil, lpV, HXW.out]; rfl)
  have HP := Lib.hid (show OwnV 20 W0 wz (.slice (some ⟨b1, 0, none⟩) 4 4) [Value.iface 9 (.string (bA XW)), .iface 3 (.int .i64 id), .iface 9 (.string ⟨#[111, 98, 106, 101, 99, 116]⟩), .iface 3 (.int .i64 ob)] from own_at H1.out (by have := HB1.out; omega) rfl (by omega))
  have HPN := Lib.hid (show ([Value.iface 9 (.string (bA XW)), .iface 3 (.int .i64 id), .iface 9 (.string ⟨#[111, 98, 106, 101, 99, 116]⟩), .iface 3 (.int .i64 ob)]).length = 4 from rfl)
  obtain ⟨VL, hVL⟩ : ∃ x, [Value.iface 9 (.string (bA XW)), .iface 3 (.int .i64 id), .iface 9 (.string ⟨#[111, 98, 106, 101, 99, 116]⟩), .iface 3 (.int .i64 ob)] = x := ⟨_, rfl⟩
  rw [hVL] at HVL HP HPN
  clear hVL
  have hwz : W0 ≤ wz.heap.size := by have := HF.out.size; have := HW0.out; omega
  clear H1 HB1 hwa
  by_cases k1 : kd = 1
  · have HK := Lib.hid k1
    rw [k1] at c0
    clear k1
    have HOK2 := Lib.hid (show ∀ p ∈ letH kd id ob ++ [LP.num (BN : Int)], lpOk p from fun p hp => (List.mem_append.1 hp).elim (HHO.out p) (fun hp => by simp only [List.mem_singleton] at hp; subst hp; simp only [lpOk]; omega))
    have HQ := Lib.hid (show letL kd id ob fr co cd ps SN BN = lineL (letH kd id ob ++ [LP.num (BN : Int)]) by unfold letL letX; rw [if_pos (.inl HK.out)])
    have fa : Fr [] wz (wz.alloc (.cells #[.iface 3 (.int .i64 (BN : Int))] 20)) := Fr.alloc _ _
    have HL := Lib.hid (show (wz.alloc (.cells #[.iface 3 (.int .i64 (BN : Int))] 20)).heap[wz.heap.size]? = some (.cells #[.iface 3 (.int .i64 (BN : Int))] 20 (0, 0)) from heap_alloc_at rfl)
    have HP2 := Lib.hid (HP.out.keep0 fa)
    have hs2 : W0 ≤ (wz.alloc (.cells #[.iface 3 (.int .i64 (BN : Int))] 20)).heap.size := by have := fa.size; omega
    have HFA := Lib.hid (HF.out.trans fa)
    clear fa
    go_wp2_with (at_builtin; refine wpl_append_1 Tryd.underlying116 Tryd.infoAny rfl rfl (.tmp 23) (.tmp 28) rfl rfl rfl HL.out rfl HP2.out (by rw [HPN.out]; omega) (by rw [HPN.out]; unfold maxLen; omega) hs2 ?_)
    intro vq wq h4 h5
    have HOQ := Lib.hid (show OwnV 20 W0 wq vq ((letH kd id ob ++ [LP.num (BN : Int)]).map lpV) by rw [List.map_append, HVL.out]; exact h4)
    have HFQ := Lib.hid (show Fr [] w wq from OwnV.fr HP2.out HFA.out h5 (by have := HW0.out; omega))
    have HTQ := Lib.hid (HT0.out.keep HFQ.out)
    clear h4 h5 HP2 HL HFA
    have HV := Lib.hid (show Vs (fun _ => False) wq vq ((letH kd id ob ++ [LP.num (BN : Int)]).map lpV) from OwnV.vs HOQ.out (by simp))
    go_wp2_with (go_at_call 39; fail)
    refine (line_any _ _ (letH kd id ob ++ [LP.num (BN : Int)]) HTQ.out HV.out (by simp [letH]) (by simp [letH]) HOK2.out).mono ?_
    rintro r w9 ⟨rfl, hf⟩
    have HF9 := Lib.hid (HFQ.out.trans hf)
    clear hf HV
    go_wp2
    go_ret
    exact ⟨by rw [HQ.out]; rfl, HF9.out⟩
  by_cases k6 : kd = 6
  · have HK := Lib.hid k6
    rw [k6] at c0
    clear k6 k1
    have HOK2 := Lib.hid (show ∀ p ∈ letH kd id ob ++ [LP.num (BN : Int)], lpOk p from fun p hp => (List.mem_append.1 hp).elim (HHO.out p) (fun hp => by simp only [List.mem_singleton] at hp; subst hp; simp only [lpOk]; omega))
    have HQ := Lib.hid (show letL kd id ob fr co cd ps SN BN = lineL (letH kd id ob ++ [LP.num (BN : Int)]) by unfold letL letX; rw [if_pos (.inr HK.out)])
    have fa : Fr [] wz (wz.alloc (.cells #[.iface 3 (.int .i64 (BN : Int))] 20)) := Fr.alloc _ _
    have HL := Lib.hid (show (wz.alloc (.cells #[.iface 3 (.int .i64 (BN : Int))] 20)).heap[wz.heap.size]? = some (.cells #[.iface 3 (.int .i64 (BN : Int))] 20 (0, 0)) from heap_alloc_at rfl)
    have HP2 := Lib.hid (HP.out.keep0 fa)
    have hs2 : W0 ≤ (wz.alloc (.cells #[.iface 3 (.int .i64 (BN : Int))] 20)).heap.size := by have := fa.size; omega
    have HFA := Lib.hid (HF.out.trans fa)
    clear fa
    go_wp2_with (at_builtin; refine wpl_append_1 Tryd.underlying116 Tryd.infoAny rfl rfl (.tmp 23) (.tmp 28) rfl rfl rfl HL.out rfl HP2.out (by rw [HPN.out]; omega) (by rw [HPN.out]; unfold maxLen; omega) hs2 ?_)
    intro vq wq h4 h5
    have HOQ := Lib.hid (show OwnV 20 W0 wq vq ((letH kd id ob ++ [LP.num (BN : Int)]).map lpV) by rw [List.map_append, HVL.out]; exact h4)
    have HFQ := Lib.hid (show Fr [] w wq from OwnV.fr HP2.out HFA.out h5 (by have := HW0.out; omega))
    have HTQ := Lib.hid (HT0.out.keep HFQ.out)
    clear h4 h5 HP2 HL HFA
    have HV := Lib.hid (show Vs (fun _ => False) wq vq ((letH kd id ob ++ [LP.num (BN : Int)]).map lpV) from OwnV.vs HOQ.out (by simp))
    go_wp2_with (go_at_call 39; fail)
    refine (line_any _ _ (letH kd id ob ++ [LP.num (BN : Int)]) HTQ.out HV.out (by simp [letH]) (by simp [letH]) HOK2.out).mono ?_
    rintro r w9 ⟨rfl, hf⟩
    have HF9 := Lib.hid (HFQ.out.trans hf)
    clear hf HV
    go_wp2
    go_ret
    exact ⟨by rw [HQ.out]; rfl, HF9.out⟩
  have HK16 := Lib.hid (show ¬ (kd = 1 ∨ kd = 6) from fun h => h.elim k1 k6)
  by_cases k3 : kd = 3
  · have HK := Lib.hid k3
    rw [k3] at c0
    clear k3 k1 k6
    have HOK2 := Lib.hid (show ∀ p ∈ letH kd id ob ++ ps.map LP.num, lpOk p from fun p hp => (List.mem_append.1 hp).elim (HHO.out p) (fun hp => by obtain ⟨x, hx, rfl⟩ := List.mem_map.1 hp; exact HPB.out x hx))
    have HQ := Lib.hid (show letL kd id ob fr co cd ps SN BN = lineL (letH kd id ob ++ ps.map LP.num) by unfold letL letX; rw [if_neg HK16.out, if_pos HK.out])
    have HPZ := Lib.hid (HPS.out.keep0 HF.out)
    go_wp2
    go_loopw [3, 35] (fun o i wr => ∃ k : Nat, k ≤ PN ∧ i = .int .i64 k ∧ Hid (OwnV 20 W0 wr o (VL ++ ((ps.take k).map LP.num).map lpV)) ∧ Hid (Fr [] w wr)) (fun _ i _ => PN - (intOf i).toNat)
    case atStart => exact ⟨0, by omega, rfl, Lib.hid (by simpa using HP.out), HF.out⟩
    case round =>
      have hw0 := HW0.out
      obtain ⟨k, hk, rfl, HO, HR⟩ := hrel
      have HX := Lib.hid (HPS.out.keep0 HR.out)
      by_cases hkN : k < PN
      · obtain ⟨x, hx⟩ : ∃ x, ps[k]? = some x := ⟨_, List.getElem?_eq_getElem (by have := HPL.out; omega)⟩
        obtain ⟨pa', cap', e, -, -, hcell⟩ := HX.out.shape
        have hxk : ps.getD k 0 = x := by rw [List.getD_eq_getElem?_getD, hx]; rfl
        rw [HPL.out] at e hcell
        cases e
        obtain ⟨pb, po, e, -, hcc⟩ := hcell (by omega)
        subst e
        have hcx := hcc k hkN
        rw [hxk] at hcx
        have HTK := Lib.hid (show VL ++ ((ps.take (k + 1)).map LP.num).map lpV = (VL ++ ((ps.take k).map LP.num).map lpV) ++ [.iface 3 (.int .i64 x)] by
          rw [List.take_add_one, hx]
          simp [lpV])
        have HLN := Lib.hid (show (VL ++ ((ps.take k).map LP.num).map lpV).length ≤ 1000 by
          rw [List.length_append, HPN.out, List.length_map, List.length_map, List.length_take]; omega)
        obtain ⟨XS, hXS⟩ : ∃ XS, VL ++ ((ps.take k).map LP.num).map lpV = XS := ⟨_, rfl⟩
        rw [hXS] at HO HTK HLN
        have hki : (k : Int) < PN := by omega
        have fa : Fr [] wr (wr.alloc (.cells #[.iface 3 (.int .i64 x)] 20)) := Fr.alloc _ _
        have HL := Lib.hid (show (wr.alloc (.cells #[.iface 3 (.int .i64 x)] 20)).heap[wr.heap.size]? = some (.cells #[.iface 3 (.int .i64 x)] 20 (0, 0)) from heap_alloc_at rfl)
        have HO2 := Lib.hid (HO.out.keep0 fa)
        have hs2 : W0 ≤ (wr.alloc (.cells #[.iface 3 (.int .i64 x)] 20)).heap.size := by have := fa.size; have := HR.out.size; omega
        have HFA := Lib.hid (HR.out.trans fa)
        clear fa hXS hx hxk hcell hcc HX hw0 HPZ
        go_wp2_with (at_builtin; refine wpl_append_1 Tryd.underlying116 Tryd.infoAny rfl rfl (.tmp 39) (.tmp 42) rfl rfl rfl HL.out rfl HO2.out (by have := HLN.out; omega) (by have := HLN.out; unfold maxLen; omega) hs2 ?_)
        intro vq wq h4 h5
        have HO3 := Lib.hid (show OwnV 20 W0 wq vq (VL ++ ((ps.take (k + 1)).map LP.num).map lpV) by rw [HTK.out]; exact h4)
        have HF3 := Lib.hid (show Fr [] w wq from OwnV.fr HO2.out HFA.out h5 (by have := HW0.out; omega))
        clear h4 h5 HO HO2 HFA HL hcx HR
        go_wp2
        go_roundw
        case rel => exact ⟨k + 1, by omega, by go_num, HO3, HF3⟩
        case measure => simp [intOf]; omega
      · obtain rfl : k = PN := by omega
        have hki : ¬ (k : Int) < k := by omega
        obtain ⟨wq, hwq⟩ : ∃ x, wr = x := ⟨_, rfl⟩
        subst hwq
        have hoq := HO.out
        rw [List.take_of_length_le (by rw [HPL.out]; exact Nat.le_refl _), ← HVL.out, ← List.map_append] at hoq
        have HFQ := HR
        have HTQ := Lib.hid (HT0.out.keep HFQ.out)
        have HV := Lib.hid (show Vs (fun _ => False) wr _ ((letH kd id ob ++ ps.map LP.num).map lpV) from OwnV.vs hoq (by simp))
        clear hoq HO HR HX hw0
        go_wp2_with (go_at_call 39; fail)
        refine (line_any _ _ (letH kd id ob ++ ps.map LP.num) HTQ.out HV.out (by simp [letH]) (by simp [letH]; have := HPL.out; omega) HOK2.out).mono ?_
        rintro r w9 ⟨rfl, hf⟩
        have HF9 := Lib.hid (HFQ.out.trans hf)
        clear hf HV
        go_wp2
        go_ret
        exact ⟨by rw [HQ.out]; rfl, HF9.out⟩
  by_cases k4 : kd = 4
  · have HK := Lib.hid k4
    have HK3 := Lib.hid k3
    rw [k4] at c0
    clear k4 k3 k1 k6
    have HOK2 := Lib.hid (show ∀ p ∈ letH kd id ob ++ [LP.num (SN : Int)], lpOk p from fun p hp => (List.mem_append.1 hp).elim (HHO.out p) (fun hp => by simp only [List.mem_singleton] at hp; subst hp; simp only [lpOk]; omega))
    have HQ := Lib.hid (show letL kd id ob fr co cd ps SN BN = lineL (letH kd id ob ++ [LP.num (SN : Int)]) by unfold letL letX; rw [if_neg HK16.out, if_neg HK3.out, if_pos HK.out])
    have fa : Fr [] wz (wz.alloc (.cells #[.iface 3 (.int .i64 (SN : Int))] 20)) := Fr.alloc _ _
    have HL := Lib.hid (show (wz.alloc (.cells #[.iface 3 (.int .i64 (SN : Int))] 20)).heap[wz.heap.size]? = some (.cells #[.iface 3 (.int .i64 (SN : Int))] 20 (0, 0)) from heap_alloc_at rfl)
    have HP2 := Lib.hid (HP.out.keep0 fa)
    have hs2 : W0 ≤ (wz.alloc (.cells #[.iface 3 (.int .i64 (SN : Int))] 20)).heap.size := by have := fa.size; omega
    have HFA := Lib.hid (HF.out.trans fa)
    clear fa
    go_wp2_with (at_builtin; refine wpl_append_1 Tryd.underlying116 Tryd.infoAny rfl rfl (.tmp 47) (.tmp 52) rfl rfl rfl HL.out rfl HP2.out (by rw [HPN.out]; omega) (by rw [HPN.out]; unfold maxLen; omega) hs2 ?_)
    intro vq wq h4 h5
    have HOQ := Lib.hid (show OwnV 20 W0 wq vq ((letH kd id ob ++ [LP.num (SN : Int)]).map lpV) by rw [List.map_append, HVL.out]; exact h4)
    have HFQ := Lib.hid (show Fr [] w wq from OwnV.fr HP2.out HFA.out h5 (by have := HW0.out; omega))
    have HTQ := Lib.hid (HT0.out.keep HFQ.out)
    clear h4 h5 HP2 HL HFA
    have HV := Lib.hid (show Vs (fun _ => False) wq vq ((letH kd id ob ++ [LP.num (SN : Int)]).map lpV) from OwnV.vs HOQ.out (by simp))
    go_wp2_with (go_at_call 39; fail)
    refine (line_any _ _ (letH kd id ob ++ [LP.num (SN : Int)]) HTQ.out HV.out (by simp [letH]) (by simp [letH]) HOK2.out).mono ?_
    rintro r w9 ⟨rfl, hf⟩
    have HF9 := Lib.hid (HFQ.out.trans hf)
    clear hf HV
    go_wp2
    go_ret
    exact ⟨by rw [HQ.out]; rfl, HF9.out⟩
  by_cases k5 : kd = 5
  · have HK := Lib.hid k5
    have HK3 := Lib.hid k3
    have HK4 := Lib.hid k4
    rw [k5] at c0
    clear k5 k4 k3 k1 k6
    have HOK2 := Lib.hid (show ∀ p ∈ letH kd id ob ++ [LP.num fr, LP.num co], lpOk p from fun p hp => (List.mem_append.1 hp).elim (HHO.out p) (fun hp => by simp only [List.mem_cons, List.not_mem_nil, or_false] at hp; exact hp.elim (fun h => by rw [h]; exact HFR.out) (fun h => by rw [h]; exact HCO.out)))
    have HQ := Lib.hid (show letL kd id ob fr co cd ps SN BN = lineL (letH kd id ob ++ [LP.num fr, LP.num co]) by unfold letL letX; rw [if_neg HK16.out, if_neg HK3.out, if_neg HK4.out, if_pos HK.out])
    have fa : Fr [] wz (wz.alloc (.cells #[.iface 3 (.int .i64 fr), .iface 3 (.int .i64 co)] 20)) := Fr.alloc _ _
    have HL := Lib.hid (show Vs (fun _ => False) (wz.alloc (.cells #[.iface 3 (.int .i64 fr), .iface 3 (.int .i64 co)] 20)) (.slice (some ⟨wz.heap.size, 0, none⟩) 2 2) [.iface 3 (.int .i64 fr), .iface 3 (.int .i64 co)] from vs_anys (ps := [LP.num fr, LP.num co]) (k := 2) (At.new rfl) rfl rfl (by omega))
    have HP2 := Lib.hid (HP.out.keep0 fa)
    have hs2 : W0 ≤ (wz.alloc (.cells #[.iface 3 (.int .i64 fr), .iface 3 (.int .i64 co)] 20)).heap.size := by have := fa.size; omega
    have HFA := Lib.hid (HF.out.trans fa)
    have HONE := Lib.hid (show ∀ u ∈ ([.iface 3 (.int .i64 fr), .iface 3 (.int .i64 co)] : List Value), u.oneCell' = true from fun u hu => by
      simp only [List.mem_cons, List.not_mem_nil, or_false] at hu
      rcases hu with rfl | rfl <;> rfl)
    clear fa
    go_wp2_with (at_builtin; refine wpl_append_vs (ys := [.iface 3 (.int .i64 fr), .iface 3 (.int .i64 co)]) Tryd.underlying116 Tryd.infoAny rfl rfl (.tmp 56) (.tmp 63) rfl rfl rfl HP2.out HL.out HONE.out (by rw [HPN.out]; unfold maxLen; simp) (by rw [HPN.out]; simp) hs2 ?_)
    intro vq wq h4 h5
    have HOQ := Lib.hid (show OwnV 20 W0 wq vq ((letH kd id ob ++ [LP.num fr, LP.num co]).map lpV) by rw [List.map_append, HVL.out]; exact h4)
    have HFQ := Lib.hid (show Fr [] w wq from OwnV.fr HP2.out HFA.out h5 (by have := HW0.out; omega))
    have HTQ := Lib.hid (HT0.out.keep HFQ.out)
    clear h4 h5 HP2 HL HFA HONE
    have HV := Lib.hid (show Vs (fun _ => False) wq vq ((letH kd id ob ++ [LP.num fr, LP.num co]).map lpV) from OwnV.vs HOQ.out (by simp))
    go_wp2_with (go_at_call 39; fail)
    refine (line_any _ _ (letH kd id ob ++ [LP.num fr, LP.num co]) HTQ.out HV.out (by simp [letH]) (by simp [letH]) HOK2.out).mono ?_
    rintro r w9 ⟨rfl, hf⟩
    have HF9 := Lib.hid (HFQ.out.trans hf)
    clear hf HV
    go_wp2
    go_ret
    exact ⟨by rw [HQ.out]; rfl, HF9.out⟩
  by_cases k7 : kd = 7
  · have HK := Lib.hid k7
    have HK3 := Lib.hid k3
    have HK4 := Lib.hid k4
    have HK5 := Lib.hid k5
    rw [k7] at c0
    clear k7 k5 k4 k3 k1 k6
    have HOK2 := Lib.hid (show ∀ p ∈ letH kd id ob ++ [LP.num cd], lpOk p from fun p hp => (List.mem_append.1 hp).elim (HHO.out p) (fun hp => by simp only [List.mem_singleton] at hp; subst hp; exact HCD.out))
    have HQ := Lib.hid (show letL kd id ob fr co cd ps SN BN = lineL (letH kd id ob ++ [LP.num cd]) by unfold letL letX; rw [if_neg HK16.out, if_neg HK3.out, if_neg HK4.out, if_neg HK5.out, if_pos HK.out])
    have fa : Fr [] wz (wz.alloc (.cells #[.iface 3 (.int .i64 cd)] 20)) := Fr.alloc _ _
    have HL := Lib.hid (show (wz.alloc (.cells #[.iface 3 (.int .i64 cd)] 20)).heap[wz.heap.size]? = some (.cells #[.iface 3 (.int .i64 cd)] 20 (0, 0)) from heap_alloc_at rfl)
    have HP2 := Lib.hid (HP.out.keep0 fa)
    have hs2 : W0 ≤ (wz.alloc (.cells #[.iface 3 (.int .i64 cd)] 20)).heap.size := by have := fa.size; omega
    have HFA := Lib.hid (HF.out.trans fa)
    clear fa
    go_wp2_with (at_builtin; refine wpl_append_1 Tryd.underlying116 Tryd.infoAny rfl rfl (.tmp 67) (.tmp 71) rfl rfl rfl HL.out rfl HP2.out (by rw [HPN.out]; omega) (by rw [HPN.out]; unfold maxLen; omega) hs2 ?_)
    intro vq wq h4 h5
    have HOQ := Lib.hid (show OwnV 20 W0 wq vq ((letH kd id ob ++ [LP.num cd]).map lpV) by rw [List.map_append, HVL.out]; exact h4)
    have HFQ := Lib.hid (show Fr [] w wq from OwnV.fr HP2.out HFA.out h5 (by have := HW0.out; omega))
    have HTQ := Lib.hid (HT0.out.keep HFQ.out)
    clear h4 h5 HP2 HL HFA
    have HV := Lib.hid (show Vs (fun _ => False) wq vq ((letH kd id ob ++ [LP.num cd]).map lpV) from OwnV.vs HOQ.out (by simp))
    go_wp2_with (go_at_call 39; fail)
    refine (line_any _ _ (letH kd id ob ++ [LP.num cd]) HTQ.out HV.out (by simp [letH]) (by simp [letH]) HOK2.out).mono ?_
    rintro r w9 ⟨rfl, hf⟩
    have HF9 := Lib.hid (HFQ.out.trans hf)
    clear hf HV
    go_wp2
    go_ret
    exact ⟨by rw [HQ.out]; rfl, HF9.out⟩
  have HK3 := Lib.hid k3
  have HK4 := Lib.hid k4
  have HK5 := Lib.hid k5
  have HK7 := Lib.hid k7
  have HOK2 := Lib.hid (show ∀ p ∈ letH kd id ob ++ [], lpOk p by rw [List.append_nil]; exact HHO.out)
  have HQ := Lib.hid (show letL kd id ob fr co cd ps SN BN = lineL (letH kd id ob ++ []) by unfold letL letX; rw [if_neg HK16.out, if_neg HK3.out, if_neg HK4.out, if_neg HK5.out, if_neg HK7.out])
  have HTQ := Lib.hid (HT0.out.keep HF.out)
  have HV := Lib.hid (show Vs (fun _ => False) wz (.slice (some ⟨b1, 0, none⟩) 4 4) ((letH kd id ob ++ []).map lpV) from by rw [List.append_nil, HVL.out]; exact OwnV.vs HP.out (by simp))
  go_wp2_with (go_at_call 39; fail)
  refine (line_any _ _ (letH kd id ob ++ []) HTQ.out HV.out (by simp [letH]) (by simp [letH]) HOK2.out).mono ?_
  rintro r w9 ⟨rfl, hf⟩
  have HF9 := Lib.hid (HF.out.trans hf)
  clear hf HV
  go_wp2
  go_ret
  exact ⟨by rw [HQ.out]; rfl, HF9.out⟩
end Go.Proofs.YtmohiblgfmdkjaaDoor
