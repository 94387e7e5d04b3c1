/-
  Layer 35: lines.Item. (printed by genlst.py)
-/
import Derived.Test.YtdkhgpnidamalaaDoorItm
import Derived.Test.YtdkhgpnidamalaaDoorGB
import Derived.Maps.RangeWalk
namespace Go.Proofs.YtdkhgpnidamalaaDoor
open Go.RowKit Go.Bl
set_option linter.unusedVariables false
set_option maxRecDepth 100000 in
set_option maxHeartbeats 8000000 in
theorem item_line (w : World) (x : ItP) (hT : Tab10 w) (hok : x.wf) (hn : x.name.length ≤ 100) : Calls Tryd.prog 5 #[.agg (itC x).toArray] w fun r w' => r = .returned (.string (bA (itemL x))) ∧ Fr [] w w' := by
  have HA := Lib.hid (show At (w.alloc (.cells (itC x).toArray 32)) w.heap.size (.cells (itC x).toArray 32) from At.new rfl)
  have HF := Lib.hid (show Fr [] w (w.alloc (.cells (itC x).toArray 32)) from Fr.alloc _ _)
  have HT := Lib.hid (hT.keep HF.out)
  have HOK := Lib.hid hok
  have HEO := Lib.hid (itL_ok hok hn)
  clear hT hok hn
  go_enter Tryd.func5, Tryd.ntmps5
  go_wp2_with fail
  refine wp_region_pf [(.val, 12), (.val, 13), (.call, 14), (.val, 0), (.val, 1), (.val, 2), (.val, 3), (.val, 4), (.val, 5), (.val, 6), (.val, 7), (.val, 8), (.val, 9), (.val, 10), (.val, 11), (.val, 15), (.val, 16), (.val, 17), (.val, 18), (.val, 19), (.val, 20), (.val, 21), (.val, 22), (.val, 23), (.val, 24), (.val, 25), (.val, 26), (.val, 27), (.val, 28), (.mem, 29), (.call, 30), (.val, 31)] (by kernel_rfl) (by kernel_rfl) ?_
  intro wa ha
  replace HA := Lib.hid (HA.out.keep0 ha)
  replace HF := Lib.hid (HF.out.trans ha)
  replace HT := Lib.hid (HT.out.keep ha)
  clear ha
  have e0 : ∀ z : Kin wa, z.w.cell? ⟨w.heap.size, 0, none⟩ = some (.int .i64 x.num) := fun z => ((HA.out.keep0 z.fr).cell 0).trans (itC_0 x)
  have e1 : ∀ z : Kin wa, z.w.cell? ⟨w.heap.size, 1, none⟩ = some (.string (bA x.name)) := fun z => ((HA.out.keep0 z.fr).cell 1).trans (itC_1 x)
  have e2 : ∀ z : Kin wa, z.w.cell? ⟨w.heap.size, 2, none⟩ = some (.int .i64 x.sz) := fun z => ((HA.out.keep0 z.fr).cell 2).trans (itC_2 x)
  have e3 : ∀ z : Kin wa, z.w.cell? ⟨w.heap.size, 3, none⟩ = some (.int .i64 x.se) := fun z => ((HA.out.keep0 z.fr).cell 3).trans (itC_3 x)
  have e73 : ∀ z : Kin wa, z.w.cell? ⟨w.heap.size, 73, none⟩ = some (.bool x.kept) := fun z => ((HA.out.keep0 z.fr).cell 73).trans (itC_73 HOK.out)
  have e74 : ∀ z : Kin wa, z.w.cell? ⟨w.heap.size, 74, none⟩ = some (.int .i64 x.used) := fun z => ((HA.out.keep0 z.fr).cell 74).trans (itC_74 HOK.out)
  have e75 : ∀ z : Kin wa, z.w.cell? ⟨w.heap.size, 75, none⟩ = some (.int .i64 x.rnds) := fun z => ((HA.out.keep0 z.fr).cell 75).trans (itC_75 HOK.out)
  have G := Lib.hid (Fr.refl [] wa)
  refine poF_vals 2 _ _ _ (by kernel_rfl) ?_
  simp only [opersOf, List.take_succ_cons, List.take_zero, List.filterMap_cons, List.filterMap_nil, List.getElem?_toArray, List.getElem?_cons_succ, List.getElem?_cons_zero, List.drop_succ_cons, List.drop_zero]
  show wpQuiet _ _ _ _ [_, _] _
  iterate 2 go_big_quiet_step (fail)
  refine wpQuiet_nil ?_
  refine poF_call _ (by simp only [List.getElem?_toArray, List.getElem?_cons_succ, List.getElem?_cons_zero]; rfl) ?_
  intro u hu
  go_wp2_with fail
  refine (either_any _ _ _ _).mono ?_
  rintro r u0 ⟨rfl, rfl⟩
  rw [keptA]
  rename_i K hK
  refine hK _ _ ?_
  refine ⟨rfl, rfl, (Fr.refl [] _), ?_⟩
  clear hK K
  replace G := Lib.hid (G.out.trans hu)
  clear hu
  refine poF_vals 26 _ _ _ (by kernel_rfl) ?_
  simp only [opersOf, List.take_succ_cons, List.take_zero, List.filterMap_cons, List.filterMap_nil, List.getElem?_toArray, List.getElem?_cons_succ, List.getElem?_cons_zero, List.drop_succ_cons, List.drop_zero]
  show wpQuiet _ _ _ _ [_, _, _, _, _, _, _, _, _, _, _, _, _, _, _, _, _, _, _, _, _, _, _, _, _, _] _
  iterate 26 go_big_quiet_step (fail)
  refine wpQuiet_nil ?_
  refine poF_new _ (by simp only [List.getElem?_toArray, List.getElem?_cons_succ, List.getElem?_cons_zero]; rfl) rfl (.cells #[.iface 9 (.string ⟨#[105, 116, 101, 109]⟩), .iface 3 (.int .i64 x.num), .iface 9 (.string (bA x.name)), .iface 9 (.string ⟨#[115, 105, 122, 101]⟩), .iface 3 (.int .i64 x.sz), .iface 9 (.string (bA (keptL x.kept))), .iface 9 (.string ⟨#[117, 115, 101, 100]⟩), .iface 3 (.int .i64 x.used), .iface 9 (.string ⟨#[111, 102]⟩), .iface 3 (.int .i64 x.se), .iface 9 (.string ⟨#[114, 111, 117, 110, 100, 115]⟩), .iface 3 (.int .i64 x.rnds)] 20) (fun b => .slice (some ⟨b, 0, none⟩) 12 12) (fun _ => by kernel_rfl) ?_
  intro b1 wb _ hwb hAt1
  go_frame
  replace G := Lib.hid (G.out.trans hwb)
  have H1 := Lib.hid hAt1
  clear hwb hAt1
  refine poF_call _ (by simp only [List.getElem?_toArray, List.getElem?_cons_succ, List.getElem?_cons_zero]; rfl) ?_
  intro u hu
  replace G := Lib.hid (G.out.trans hu)
  have HV := Lib.hid (vs_anys (ps := itL x) (k := 12) (H1.out.keep0 hu) rfl rfl (by omega))
  clear hu
  go_wp2_with fail
  refine (line_any u _ (itL x) (HT.out.keep G.out) HV.out (by simp [itL]) (by simp [itL]) HEO.out).mono ?_
  rintro r u1 ⟨rfl, hf⟩
  rename_i K hK
  refine hK _ _ ?_
  refine ⟨rfl, rfl, hf, ?_⟩
  clear hK K
  replace G := Lib.hid (G.out.trans hf)
  clear hf HV H1 e0 e1 e2 e3 e73 e74 e75
  refine poF_vals 1 _ _ _ (by kernel_rfl) ?_
  simp only [opersOf, List.take_succ_cons, List.take_zero, List.filterMap_cons, List.filterMap_nil, List.getElem?_toArray, List.getElem?_cons_succ, List.getElem?_cons_zero, List.drop_succ_cons, List.drop_zero]
  show wpQuiet _ _ _ _ [_] _
  iterate 1 go_big_quiet_step (fail)
  refine wpQuiet_nil ?_
  refine poF_end ?_
  intro wz hz
  replace HF := Lib.hid (HF.out.trans (G.out.trans hz))
  clear hz G
  go_wp2
  go_ret
  exact ⟨rfl, HF.out⟩
end Go.Proofs.YtdkhgpnidamalaaDoor
