/-
  Layer 31: an act's bytes. (printed by genent.py)
  Layer 31: an act's bytes. (printed by genent.py)
  Layer 31: an act's bytes. (printed by genent.py)
  Layer 31: an act's bytes. (printed by genent.py)
  Layer 31: an act's bytes. (printed by genent.py)
  Layer 31: an act's bytes.
-/
import Derived.Test.YtbohmnblegljkaaDoorGF
import Derived.Test.YtbohmnblegljkaaDoorPlaA
namespace Go.Proofs.YtbohmnblegljkaaDoor
open Go.RowKit Go.Bl
set_option linter.unusedVariables false

set_option maxRecDepth 100000 in
set_option maxHeartbeats 8000000 in
theorem entry_o (w : World) (a : ActP) (bo : Option Addr) (bn bc : Nat) (hb : Bs (fun _ => False) w (.slice bo bn bc) a.bytes) (hlen : a.bytes.length ≤ 70000) (hnl : a.name.size ≤ 1000) (k10 : a.kind ≠ 10) (k1 : a.kind ≠ 1) (k9 : a.kind ≠ 9) (k13 : a.kind ≠ 13) :
    Calls Tryd.prog 49 #[.agg (actC a (.slice bo bn bc))] w fun e w' => ∃ u, e = .returned u ∧ OwnB 5 w.heap.size w' u (entryL a) ∧ Fr [] w w' := by
  have HA := Lib.hid (show At (w.alloc (actO a (.slice bo bn bc) 71)) w.heap.size (actO a (.slice bo bn bc) 71) from At.new rfl)
  have HF := Lib.hid (show Fr [] w (w.alloc (actO a (.slice bo bn bc) 71)) from Fr.alloc _ _)
  have BX := Lib.hid (hb.keep HF.out (by simp))
  clear hb
  have HK := Lib.hid (And.intro k10 (And.intro k1 (And.intro k9 k13)))
  have HP := Lib.hid (show entryL a = entBase a by unfold entryL; rw [if_neg k10, if_neg k1, if_neg (by omega)])
  clear k10 k1 k9 k13
  go_enter Tryd.func49, Tryd.ntmps49
  go_wp2_with fail
  refine wp_region_pf [(.val, 4), (.val, 5), (.call, 6), (.val, 7), (.val, 8), (.call, 9), (.val, 10), (.val, 11), (.call, 12), (.val, 0), (.val, 1), (.val, 2), (.mem, 3), (.val, 13), (.val, 14), (.val, 15), (.mem, 16), (.mem, 17), (.call, 18), (.val, 19)] (by kernel_rfl) (by kernel_rfl) ?_
  intro wa ha
  replace HA := Lib.hid (HA.out.keep0 ha)
  replace HF := Lib.hid (HF.out.trans ha)
  replace BX := Lib.hid (BX.out.keep ha (by simp))
  clear ha
  have e := fun z : Kin wa => actCells (HA.out.keep0 z.fr)
  have e0 := fun z : Kin wa => (e z).1
  have e1 := fun z : Kin wa => (e z).2.1
  have e2 := fun z : Kin wa => (e z).2.2.1
  have e3 := fun z : Kin wa => (e z).2.2.2.1
  have e4 := fun z : Kin wa => (e z).2.2.2.2.1
  clear e
  have G := Lib.hid (Fr.refl [] wa)
  refine poF_vals 2 _ _ _ (by kernel_rfl) ?_
  simp only [opersOf, List.take_succ_cons, List.take_zero, List.filterMap_cons, List.filterMap_nil, List.getElem?_toArray, List.getElem?_cons_succ, List.getElem?_cons_zero, List.drop_succ_cons, List.drop_zero]
  show wpQuiet _ _ _ _ [_, _] _
  iterate 2 go_big_quiet_step (fail)
  refine wpQuiet_nil ?_
  refine poF_call _ (by simp only [List.getElem?_toArray, List.getElem?_cons_succ, List.getElem?_cons_zero]; rfl) ?_
  intro u hu
  go_wp2_with fail
  refine (pair_any _ _).mono ?_
  rintro e u0 ⟨v0, rfl, ho, hf⟩
  rename_i K hK
  refine hK _ _ ?_
  refine ⟨rfl, rfl, hf, ?_⟩
  clear hK K
  have B0 := Lib.hid (ho.bs (A := fun _ => False) (by simp))
  replace G := Lib.hid (G.out.trans (hu.trans hf))
  obtain ⟨o0, n0, c0, rfl⟩ := bs_shape B0.out
  clear hu hf ho
  refine poF_vals 2 _ _ _ (by kernel_rfl) ?_
  simp only [opersOf, List.take_succ_cons, List.take_zero, List.filterMap_cons, List.filterMap_nil, List.getElem?_toArray, List.getElem?_cons_succ, List.getElem?_cons_zero, List.drop_succ_cons, List.drop_zero]
  show wpQuiet _ _ _ _ [_, _] _
  iterate 2 go_big_quiet_step (fail)
  refine wpQuiet_nil ?_
  refine poF_call _ (by simp only [List.getElem?_toArray, List.getElem?_cons_succ, List.getElem?_cons_zero]; rfl) ?_
  intro u hu
  go_wp2_with fail
  refine (pair_any _ _).mono ?_
  rintro e u1 ⟨v1, rfl, ho, hf⟩
  rename_i K hK
  refine hK _ _ ?_
  refine ⟨rfl, rfl, hf, ?_⟩
  clear hK K
  have B1 := Lib.hid (ho.bs (A := fun _ => False) (by simp))
  replace G := Lib.hid (G.out.trans (hu.trans hf))
  replace B0 := Lib.hid (B0.out.keep (hu.trans hf) (by simp))
  obtain ⟨o1, n1, c1, rfl⟩ := bs_shape B1.out
  clear hu hf ho
  refine poF_vals 2 _ _ _ (by kernel_rfl) ?_
  simp only [opersOf, List.take_succ_cons, List.take_zero, List.filterMap_cons, List.filterMap_nil, List.getElem?_toArray, List.getElem?_cons_succ, List.getElem?_cons_zero, List.drop_succ_cons, List.drop_zero]
  show wpQuiet _ _ _ _ [_, _] _
  iterate 2 go_big_quiet_step (fail)
  refine wpQuiet_nil ?_
  refine poF_call _ (by simp only [List.getElem?_toArray, List.getElem?_cons_succ, List.getElem?_cons_zero]; rfl) ?_
  intro u hu
  go_wp2_with fail
  refine (pair_any _ _).mono ?_
  rintro e u2 ⟨v2, rfl, ho, hf⟩
  rename_i K hK
  refine hK _ _ ?_
  refine ⟨rfl, rfl, hf, ?_⟩
  clear hK K
  have B2 := Lib.hid (ho.bs (A := fun _ => False) (by simp))
  replace G := Lib.hid (G.out.trans (hu.trans hf))
  replace B0 := Lib.hid (B0.out.keep (hu.trans hf) (by simp))
  replace B1 := Lib.hid (B1.out.keep (hu.trans hf) (by simp))
  obtain ⟨o2, n2, c2, rfl⟩ := bs_shape B2.out
  clear hu hf ho
  refine poF_vals 3 _ _ _ (by kernel_rfl) ?_
  simp only [opersOf, List.take_succ_cons, List.take_zero, List.filterMap_cons, List.filterMap_nil, List.getElem?_toArray, List.getElem?_cons_succ, List.getElem?_cons_zero, List.drop_succ_cons, List.drop_zero]
  show wpQuiet _ _ _ _ [_, _, _] _
  iterate 3 go_big_quiet_step (fail)
  refine wpQuiet_nil ?_
  refine poF_new _ (by simp only [List.getElem?_toArray, List.getElem?_cons_succ, List.getElem?_cons_zero]; rfl) rfl (.cells #[.int .u8 (a.kind % 256)] 5) (fun b => .slice (some ⟨b, 0, none⟩) 1 1) (fun _ => by kernel_rfl) ?_
  intro b1 wb _ hwb hAt1
  go_frame
  replace G := Lib.hid (G.out.trans hwb)
  replace B0 := Lib.hid (B0.out.keep hwb (by simp))
  replace B1 := Lib.hid (B1.out.keep hwb (by simp))
  replace B2 := Lib.hid (B2.out.keep hwb (by simp))
  have H1 := Lib.hid hAt1
  clear hwb hAt1
  refine poF_vals 3 _ _ _ (by kernel_rfl) ?_
  simp only [opersOf, List.take_succ_cons, List.take_zero, List.filterMap_cons, List.filterMap_nil, List.getElem?_toArray, List.getElem?_cons_succ, List.getElem?_cons_zero, List.drop_succ_cons, List.drop_zero]
  show wpQuiet _ _ _ _ [_, _, _] _
  iterate 3 go_big_quiet_step (fail)
  refine wpQuiet_nil ?_
  refine poF_new _ (by simp only [List.getElem?_toArray, List.getElem?_cons_succ, List.getElem?_cons_zero]; rfl) rfl (.cells #[.int .u8 (a.by_ % 256)] 5) (fun b => .slice (some ⟨b, 0, none⟩) 1 1) (fun _ => by kernel_rfl) ?_
  intro b2 wc _ hwc hAt2
  go_frame
  replace G := Lib.hid (G.out.trans hwc)
  replace B0 := Lib.hid (B0.out.keep hwc (by simp))
  replace B1 := Lib.hid (B1.out.keep hwc (by simp))
  replace B2 := Lib.hid (B2.out.keep hwc (by simp))
  replace H1 := Lib.hid (H1.out.keep0 hwc)
  have H2 := Lib.hid hAt2
  clear hwc hAt2
  refine poF_new _ (by simp only [List.getElem?_toArray, List.getElem?_cons_succ, List.getElem?_cons_zero]; rfl) rfl (.cells #[.slice (some ⟨b1, 0, none⟩) 1 1, .slice o0 n0 c0, .slice o1 n1 c1, .slice o2 n2 c2, .slice (some ⟨b2, 0, none⟩) 1 1] 59) (fun b => .slice (some ⟨b, 0, none⟩) 5 5) (fun _ => by kernel_rfl) ?_
  intro b3 wd _ hwd hAt3
  go_frame
  replace G := Lib.hid (G.out.trans hwd)
  replace B0 := Lib.hid (B0.out.keep hwd (by simp))
  replace B1 := Lib.hid (B1.out.keep hwd (by simp))
  replace B2 := Lib.hid (B2.out.keep hwd (by simp))
  replace H1 := Lib.hid (H1.out.keep0 hwd)
  replace H2 := Lib.hid (H2.out.keep0 hwd)
  have H3 := Lib.hid hAt3
  clear hwd hAt3
  refine poF_call _ (by simp only [List.getElem?_toArray, List.getElem?_cons_succ, List.getElem?_cons_zero]; rfl) ?_
  intro u hu
  replace G := Lib.hid (G.out.trans hu)
  replace B0 := Lib.hid (B0.out.keep hu (by simp))
  replace B1 := Lib.hid (B1.out.keep hu (by simp))
  replace B2 := Lib.hid (B2.out.keep hu (by simp))
  have X1 := Lib.hid (bs_block (A := fun _ => False) (xs := [b8 a.kind]) (H1.out.keep0 hu) (by simp [b8v]) (by simp) (by simp))
  have X2 := Lib.hid (bs_block (A := fun _ => False) (xs := [b8 a.by_]) (H2.out.keep0 hu) (by simp [b8v]) (by simp) (by simp))
  have HL := Lib.hid (show RdL (fun _ => False) u (.slice (some ⟨b3, 0, none⟩) 5 5) [(.slice (some ⟨b1, 0, none⟩) 1 1, [b8 a.kind]), (.slice o0 n0 c0, be2 a.n), (.slice o1 n1 c1, be2 a.i), (.slice o2 n2 c2, be2 a.at_), (.slice (some ⟨b2, 0, none⟩) 1 1, [b8 a.by_])] from by
    refine ⟨vs_block (H3.out.keep0 hu) rfl (by simp) (by simp), fun x hx => ?_⟩
    simp only [List.mem_cons, List.not_mem_nil, or_false] at hx
    rcases hx with rfl | rfl | rfl | rfl | rfl
    · exact X1.out
    · exact B0.out
    · exact B1.out
    · exact B2.out
    · exact X2.out)
  clear H1 H2 H3 X1 X2 hu B0 B1 B2
  go_wp2_with fail
  refine (concat_any (fun _ => False) _ _ _ HL.out (by simp) (by simp [cat, be2])).mono ?_
  rintro e u3 ⟨q, rfl, ho, hf⟩
  rename_i K hK
  refine hK _ _ ?_
  refine ⟨rfl, rfl, hf, ?_⟩
  clear hK K
  have HQ := Lib.hid (show OwnB 5 w.heap.size u3 q (entBase a) from by
    have h1 := ho.base (base' := w.heap.size) (by have := HF.out.size; have := G.out.size; omega)
    simpa [cat, entBase, be2] using h1)
  replace G := Lib.hid (G.out.trans hf)
  clear ho hf HL e0 e1 e2 e3 e4
  refine poF_vals 1 _ _ _ (by kernel_rfl) ?_
  simp only [opersOf, List.take_succ_cons, List.take_zero, List.filterMap_cons, List.filterMap_nil, List.getElem?_toArray, List.getElem?_cons_succ, List.getElem?_cons_zero, List.drop_succ_cons, List.drop_zero]
  show wpQuiet _ _ _ _ [_] _
  iterate 1 go_big_quiet_step (fail)
  refine wpQuiet_nil ?_
  refine poF_end ?_
  intro wz hz
  replace HQ := Lib.hid (HQ.out.keep hz (by simp))
  replace G := Lib.hid (G.out.trans hz)
  replace HA := Lib.hid (HA.out.keep0 G.out)
  replace BX := Lib.hid (BX.out.keep G.out (by simp))
  replace HF := Lib.hid (HF.out.trans G.out)
  clear hz G
  have z0 := (actCells HA.out).1
  have t10 : (a.kind == 10) = false := by have := HK.out; rw [beq_eq_false_iff_ne]; omega
  have t1 : (a.kind == 1) = false := by have := HK.out; rw [beq_eq_false_iff_ne]; omega
  have t9 : (a.kind == 9) = false := by have := HK.out; rw [beq_eq_false_iff_ne]; omega
  have t13 : (a.kind == 13) = false := by have := HK.out; rw [beq_eq_false_iff_ne]; omega
  go_wp2
  go_ret
  rw [HP.out]
  exact ⟨_, rfl, HQ.out, HF.out⟩
end Go.Proofs.YtbohmnblegljkaaDoor
namespace Go.Proofs.YtbohmnblegljkaaDoor
open Go.RowKit Go.Bl
set_option linter.unusedVariables false

set_option maxRecDepth 100000 in
set_option maxHeartbeats 8000000 in
theorem entry_10 (w : World) (a : ActP) (bo : Option Addr) (bn bc : Nat) (hb : Bs (fun _ => False) w (.slice bo bn bc) a.bytes) (hlen : a.bytes.length ≤ 70000) (hnl : a.name.size ≤ 1000) (kq : a.kind = 10) :
    Calls Tryd.prog 49 #[.agg (actC a (.slice bo bn bc))] w fun e w' => ∃ u, e = .returned u ∧ OwnB 5 w.heap.size w' u (entryL a) ∧ Fr [] w w' := by
  have HA := Lib.hid (show At (w.alloc (actO a (.slice bo bn bc) 71)) w.heap.size (actO a (.slice bo bn bc) 71) from At.new rfl)
  have HF := Lib.hid (show Fr [] w (w.alloc (actO a (.slice bo bn bc) 71)) from Fr.alloc _ _)
  have BX := Lib.hid (hb.keep HF.out (by simp))
  clear hb
  have HK := Lib.hid kq
  have HP := Lib.hid (show entryL a = _ from by unfold entryL; rw [if_pos kq])
  clear kq
  go_enter Tryd.func49, Tryd.ntmps49
  go_wp2_with fail
  refine wp_region_pf [(.val, 4), (.val, 5), (.call, 6), (.val, 7), (.val, 8), (.call, 9), (.val, 10), (.val, 11), (.call, 12), (.val, 0), (.val, 1), (.val, 2), (.mem, 3), (.val, 13), (.val, 14), (.val, 15), (.mem, 16), (.mem, 17), (.call, 18), (.val, 19)] (by kernel_rfl) (by kernel_rfl) ?_
  intro wa ha
  replace HA := Lib.hid (HA.out.keep0 ha)
  replace HF := Lib.hid (HF.out.trans ha)
  replace BX := Lib.hid (BX.out.keep ha (by simp))
  clear ha
  have e := fun z : Kin wa => actCells (HA.out.keep0 z.fr)
  have e0 := fun z : Kin wa => (e z).1
  have e1 := fun z : Kin wa => (e z).2.1
  have e2 := fun z : Kin wa => (e z).2.2.1
  have e3 := fun z : Kin wa => (e z).2.2.2.1
  have e4 := fun z : Kin wa => (e z).2.2.2.2.1
  clear e
  have G := Lib.hid (Fr.refl [] wa)
  refine poF_vals 2 _ _ _ (by kernel_rfl) ?_
  simp only [opersOf, List.take_succ_cons, List.take_zero, List.filterMap_cons, List.filterMap_nil, List.getElem?_toArray, List.getElem?_cons_succ, List.getElem?_cons_zero, List.drop_succ_cons, List.drop_zero]
  show wpQuiet _ _ _ _ [_, _] _
  iterate 2 go_big_quiet_step (fail)
  refine wpQuiet_nil ?_
  refine poF_call _ (by simp only [List.getElem?_toArray, List.getElem?_cons_succ, List.getElem?_cons_zero]; rfl) ?_
  intro u hu
  go_wp2_with fail
  refine (pair_any _ _).mono ?_
  rintro e u0 ⟨v0, rfl, ho, hf⟩
  rename_i K hK
  refine hK _ _ ?_
  refine ⟨rfl, rfl, hf, ?_⟩
  clear hK K
  have B0 := Lib.hid (ho.bs (A := fun _ => False) (by simp))
  replace G := Lib.hid (G.out.trans (hu.trans hf))
  obtain ⟨o0, n0, c0, rfl⟩ := bs_shape B0.out
  clear hu hf ho
  refine poF_vals 2 _ _ _ (by kernel_rfl) ?_
  simp only [opersOf, List.take_succ_cons, List.take_zero, List.filterMap_cons, List.filterMap_nil, List.getElem?_toArray, List.getElem?_cons_succ, List.getElem?_cons_zero, List.drop_succ_cons, List.drop_zero]
  show wpQuiet _ _ _ _ [_, _] _
  iterate 2 go_big_quiet_step (fail)
  refine wpQuiet_nil ?_
  refine poF_call _ (by simp only [List.getElem?_toArray, List.getElem?_cons_succ, List.getElem?_cons_zero]; rfl) ?_
  intro u hu
  go_wp2_with fail
  refine (pair_any _ _).mono ?_
  rintro e u1 ⟨v1, rfl, ho, hf⟩
  rename_i K hK
  refine hK _ _ ?_
  refine ⟨rfl, rfl, hf, ?_⟩
  clear hK K
  have B1 := Lib.hid (ho.bs (A := fun _ => False) (by simp))
  replace G := Lib.hid (G.out.trans (hu.trans hf))
  replace B0 := Lib.hid (B0.out.keep (hu.trans hf) (by simp))
  obtain ⟨o1, n1, c1, rfl⟩ := bs_shape B1.out
  clear hu hf ho
  refine poF_vals 2 _ _ _ (by kernel_rfl) ?_
  simp only [opersOf, List.take_succ_cons, List.take_zero, List.filterMap_cons, List.filterMap_nil, List.getElem?_toArray, List.getElem?_cons_succ, List.getElem?_cons_zero, List.drop_succ_cons, List.drop_zero]
  show wpQuiet _ _ _ _ [_, _] _
  iterate 2 go_big_quiet_step (fail)
  refine wpQuiet_nil ?_
  refine poF_call _ (by simp only [List.getElem?_toArray, List.getElem?_cons_succ, List.getElem?_cons_zero]; rfl) ?_
  intro u hu
  go_wp2_with fail
  refine (pair_any _ _).mono ?_
  rintro e u2 ⟨v2, rfl, ho, hf⟩
  rename_i K hK
  refine hK _ _ ?_
  refine ⟨rfl, rfl, hf, ?_⟩
  clear hK K
  have B2 := Lib.hid (ho.bs (A := fun _ => False) (by simp))
  replace G := Lib.hid (G.out.trans (hu.trans hf))
  replace B0 := Lib.hid (B0.out.keep (hu.trans hf) (by simp))
  replace B1 := Lib.hid (B1.out.keep (hu.trans hf) (by simp))
  obtain ⟨o2, n2, c2, rfl⟩ := bs_shape B2.out
  clear hu hf ho
  refine poF_vals 3 _ _ _ (by kernel_rfl) ?_
  simp only [opersOf, List.take_succ_cons, List.take_zero, List.filterMap_cons, List.filterMap_nil, List.getElem?_toArray, List.getElem?_cons_succ, List.getElem?_cons_zero, List.drop_succ_cons, List.drop_zero]
  show wpQuiet _ _ _ _ [_, _, _] _
  iterate 3 go_big_quiet_step (fail)
  refine wpQuiet_nil ?_
  refine poF_new _ (by simp only [List.getElem?_toArray, List.getElem?_cons_succ, List.getElem?_cons_zero]; rfl) rfl (.cells #[.int .u8 (a.kind % 256)] 5) (fun b => .slice (some ⟨b, 0, none⟩) 1 1) (fun _ => by kernel_rfl) ?_
  intro b1 wb _ hwb hAt1
  go_frame
  replace G := Lib.hid (G.out.trans hwb)
  replace B0 := Lib.hid (B0.out.keep hwb (by simp))
  replace B1 := Lib.hid (B1.out.keep hwb (by simp))
  replace B2 := Lib.hid (B2.out.keep hwb (by simp))
  have H1 := Lib.hid hAt1
  clear hwb hAt1
  refine poF_vals 3 _ _ _ (by kernel_rfl) ?_
  simp only [opersOf, List.take_succ_cons, List.take_zero, List.filterMap_cons, List.filterMap_nil, List.getElem?_toArray, List.getElem?_cons_succ, List.getElem?_cons_zero, List.drop_succ_cons, List.drop_zero]
  show wpQuiet _ _ _ _ [_, _, _] _
  iterate 3 go_big_quiet_step (fail)
  refine wpQuiet_nil ?_
  refine poF_new _ (by simp only [List.getElem?_toArray, List.getElem?_cons_succ, List.getElem?_cons_zero]; rfl) rfl (.cells #[.int .u8 (a.by_ % 256)] 5) (fun b => .slice (some ⟨b, 0, none⟩) 1 1) (fun _ => by kernel_rfl) ?_
  intro b2 wc _ hwc hAt2
  go_frame
  replace G := Lib.hid (G.out.trans hwc)
  replace B0 := Lib.hid (B0.out.keep hwc (by simp))
  replace B1 := Lib.hid (B1.out.keep hwc (by simp))
  replace B2 := Lib.hid (B2.out.keep hwc (by simp))
  replace H1 := Lib.hid (H1.out.keep0 hwc)
  have H2 := Lib.hid hAt2
  clear hwc hAt2
  refine poF_new _ (by simp only [List.getElem?_toArray, List.getElem?_cons_succ, List.getElem?_cons_zero]; rfl) rfl (.cells #[.slice (some ⟨b1, 0, none⟩) 1 1, .slice o0 n0 c0, .slice o1 n1 c1, .slice o2 n2 c2, .slice (some ⟨b2, 0, none⟩) 1 1] 59) (fun b => .slice (some ⟨b, 0, none⟩) 5 5) (fun _ => by kernel_rfl) ?_
  intro b3 wd _ hwd hAt3
  go_frame
  replace G := Lib.hid (G.out.trans hwd)
  replace B0 := Lib.hid (B0.out.keep hwd (by simp))
  replace B1 := Lib.hid (B1.out.keep hwd (by simp))
  replace B2 := Lib.hid (B2.out.keep hwd (by simp))
  replace H1 := Lib.hid (H1.out.keep0 hwd)
  replace H2 := Lib.hid (H2.out.keep0 hwd)
  have H3 := Lib.hid hAt3
  clear hwd hAt3
  refine poF_call _ (by simp only [List.getElem?_toArray, List.getElem?_cons_succ, List.getElem?_cons_zero]; rfl) ?_
  intro u hu
  replace G := Lib.hid (G.out.trans hu)
  replace B0 := Lib.hid (B0.out.keep hu (by simp))
  replace B1 := Lib.hid (B1.out.keep hu (by simp))
  replace B2 := Lib.hid (B2.out.keep hu (by simp))
  have X1 := Lib.hid (bs_block (A := fun _ => False) (xs := [b8 a.kind]) (H1.out.keep0 hu) (by simp [b8v]) (by simp) (by simp))
  have X2 := Lib.hid (bs_block (A := fun _ => False) (xs := [b8 a.by_]) (H2.out.keep0 hu) (by simp [b8v]) (by simp) (by simp))
  have HL := Lib.hid (show RdL (fun _ => False) u (.slice (some ⟨b3, 0, none⟩) 5 5) [(.slice (some ⟨b1, 0, none⟩) 1 1, [b8 a.kind]), (.slice o0 n0 c0, be2 a.n), (.slice o1 n1 c1, be2 a.i), (.slice o2 n2 c2, be2 a.at_), (.slice (some ⟨b2, 0, none⟩) 1 1, [b8 a.by_])] from by
    refine ⟨vs_block (H3.out.keep0 hu) rfl (by simp) (by simp), fun x hx => ?_⟩
    simp only [List.mem_cons, List.not_mem_nil, or_false] at hx
    rcases hx with rfl | rfl | rfl | rfl | rfl
    · exact X1.out
    · exact B0.out
    · exact B1.out
    · exact B2.out
    · exact X2.out)
  clear H1 H2 H3 X1 X2 hu B0 B1 B2
  go_wp2_with fail
  refine (concat_any (fun _ => False) _ _ _ HL.out (by simp) (by simp [cat, be2])).mono ?_
  rintro e u3 ⟨q, rfl, ho, hf⟩
  rename_i K hK
  refine hK _ _ ?_
  refine ⟨rfl, rfl, hf, ?_⟩
  clear hK K
  have HQ := Lib.hid (show OwnB 5 w.heap.size u3 q (entBase a) from by
    have h1 := ho.base (base' := w.heap.size) (by have := HF.out.size; have := G.out.size; omega)
    simpa [cat, entBase, be2] using h1)
  replace G := Lib.hid (G.out.trans hf)
  clear ho hf HL e0 e1 e2 e3 e4
  refine poF_vals 1 _ _ _ (by kernel_rfl) ?_
  simp only [opersOf, List.take_succ_cons, List.take_zero, List.filterMap_cons, List.filterMap_nil, List.getElem?_toArray, List.getElem?_cons_succ, List.getElem?_cons_zero, List.drop_succ_cons, List.drop_zero]
  show wpQuiet _ _ _ _ [_] _
  iterate 1 go_big_quiet_step (fail)
  refine wpQuiet_nil ?_
  refine poF_end ?_
  intro wz hz
  replace HQ := Lib.hid (HQ.out.keep hz (by simp))
  replace G := Lib.hid (G.out.trans hz)
  replace HA := Lib.hid (HA.out.keep0 G.out)
  replace BX := Lib.hid (BX.out.keep G.out (by simp))
  replace HF := Lib.hid (HF.out.trans G.out)
  clear hz G
  have z0 := (actCells HA.out).1
  have t10 : (a.kind == 10) = true := by have := HK.out; rw [beq_iff_eq]; omega
  have t1 : (a.kind == 1) = false := by have := HK.out; rw [beq_eq_false_iff_ne]; omega
  have t9 : (a.kind == 9) = false := by have := HK.out; rw [beq_eq_false_iff_ne]; omega
  have t13 : (a.kind == 13) = false := by have := HK.out; rw [beq_eq_false_iff_ne]; omega
  obtain ⟨-, -, -, -, -, -, -, -, -, -, -, -, -, z13, z14, z15⟩ := actCells HA.out
  have hsz := HF.out.size
  have X5 := Lib.hid (bs_block (A := fun _ => False) (w := wz.alloc (.cells #[.int .u8 (a.kept % 256), .int .u8 (a.torn % 256)] 5)) (b := wz.heap.size) (xs := [b8 a.kept, b8 a.torn]) (At.new rfl) (by simp [b8v]) (by simp) (by simp))
  have HQ4 := Lib.hid (HQ.out.keep (Fr.alloc (S := []) wz (.cells #[.int .u8 (a.kept % 256), .int .u8 (a.torn % 256)] 5)) (by simp))
  have hl4 : (entBase a).length + [b8 a.kept, b8 a.torn].length ≤ 140737488355328 := by simp [entBase, be2]
  go_wp2_with (at_builtin; refine wpl_append_bs (A := fun _ => False) (ys := [b8 a.kept, b8 a.torn]) (base := w.heap.size) Tryd.underlying59 Tryd.infoByte rfl (.tmp 32) (.tmp 41) rfl rfl rfl HQ4.out X5.out (by first | exact hl4 | (simp [entBase, be2]; done) | omega) (by simp; omega) ?_)
  intro v5 w5 h5 h6
  have HQ5 := Lib.hid h5
  have HF5 := Lib.hid (show Fr [] w w5 from OwnB.fr (HQ.out.keep (Fr.alloc (S := []) wz _) (by simp)) (Fr.al HF.out) h6 (Nat.le_refl _))
  have HA4 := HA.out.al (o' := .cells #[.int .u8 (a.kept % 256), .int .u8 (a.torn % 256)] 5)
  have HA5 := Lib.hid (HA4.grown h6 (own_ne_ty' HQ4.out HA4 (by decide)))
  clear h5 h6 HA4 HQ4 X5 hl4 z0 z13 z14 z15 HQ HF HA
  have z15 := (actCells HA5.out).2.2.2.2.2.2.2.2.2.2.2.2.2.2.2
  go_wp2_with fail
  refine (lnumber_any _ _).mono ?_
  rintro e w6 ⟨u6, rfl, ho, hf⟩
  have HQ6 := Lib.hid (HQ5.out.keep hf (by simp))
  have HF6 := Lib.hid (HF5.out.trans hf)
  have X6 := Lib.hid (ho.bs (A := fun _ => False) (by simp))
  obtain ⟨xo, xn, xc, rfl⟩ := bs_shape X6.out
  have hs6 := HF6.out.size
  clear ho hf z15 HA5
  go_wp2_with (at_builtin; refine wpl_append_bs (A := fun _ => False) (base := w.heap.size) Tryd.underlying59 Tryd.infoByte rfl (.tmp 43) (.tmp 48) rfl rfl rfl HQ6.out X6.out (by simp [entBase, be2, beK]) hs6 ?_)
  intro v7 w7 h7 h8
  have HQ7 := Lib.hid h7
  have HF7 := Lib.hid (show Fr [] w w7 from OwnB.fr HQ6.out HF6.out h8 (Nat.le_refl _))
  clear h7 h8 HQ6 X6 HQ5 HF5 HF6
  go_wp2
  go_ret
  rw [HP.out]
  exact ⟨_, rfl, by have := HQ7.out; simpa using this, HF7.out⟩
end Go.Proofs.YtbohmnblegljkaaDoor
namespace Go.Proofs.YtbohmnblegljkaaDoor
open Go.RowKit Go.Bl
set_option linter.unusedVariables false

set_option maxRecDepth 100000 in
set_option maxHeartbeats 8000000 in
theorem entry_9 (w : World) (a : ActP) (bo : Option Addr) (bn bc : Nat) (hb : Bs (fun _ => False) w (.slice bo bn bc) a.bytes) (hlen : a.bytes.length ≤ 70000) (hnl : a.name.size ≤ 1000) (kq : a.kind = 9) :
    Calls Tryd.prog 49 #[.agg (actC a (.slice bo bn bc))] w fun e w' => ∃ u, e = .returned u ∧ OwnB 5 w.heap.size w' u (entryL a) ∧ Fr [] w w' := by
  have HA := Lib.hid (show At (w.alloc (actO a (.slice bo bn bc) 71)) w.heap.size (actO a (.slice bo bn bc) 71) from At.new rfl)
  have HF := Lib.hid (show Fr [] w (w.alloc (actO a (.slice bo bn bc) 71)) from Fr.alloc _ _)
  have BX := Lib.hid (hb.keep HF.out (by simp))
  clear hb
  have HK := Lib.hid kq
  have HP := Lib.hid (show entryL a = _ from by unfold entryL; rw [if_neg (by omega), if_neg (by omega), if_pos (by omega)])
  clear kq
  go_enter Tryd.func49, Tryd.ntmps49
  go_wp2_with fail
  refine wp_region_pf [(.val, 4), (.val, 5), (.call, 6), (.val, 7), (.val, 8), (.call, 9), (.val, 10), (.val, 11), (.call, 12), (.val, 0), (.val, 1), (.val, 2), (.mem, 3), (.val, 13), (.val, 14), (.val, 15), (.mem, 16), (.mem, 17), (.call, 18), (.val, 19)] (by kernel_rfl) (by kernel_rfl) ?_
  intro wa ha
  replace HA := Lib.hid (HA.out.keep0 ha)
  replace HF := Lib.hid (HF.out.trans ha)
  replace BX := Lib.hid (BX.out.keep ha (by simp))
  clear ha
  have e := fun z : Kin wa => actCells (HA.out.keep0 z.fr)
  have e0 := fun z : Kin wa => (e z).1
  have e1 := fun z : Kin wa => (e z).2.1
  have e2 := fun z : Kin wa => (e z).2.2.1
  have e3 := fun z : Kin wa => (e z).2.2.2.1
  have e4 := fun z : Kin wa => (e z).2.2.2.2.1
  clear e
  have G := Lib.hid (Fr.refl [] wa)
  refine poF_vals 2 _ _ _ (by kernel_rfl) ?_
  simp only [opersOf, List.take_succ_cons, List.take_zero, List.filterMap_cons, List.filterMap_nil, List.getElem?_toArray, List.getElem?_cons_succ, List.getElem?_cons_zero, List.drop_succ_cons, List.drop_zero]
  show wpQuiet _ _ _ _ [_, _] _
  iterate 2 go_big_quiet_step (fail)
  refine wpQuiet_nil ?_
  refine poF_call _ (by simp only [List.getElem?_toArray, List.getElem?_cons_succ, List.getElem?_cons_zero]; rfl) ?_
  intro u hu
  go_wp2_with fail
  refine (pair_any _ _).mono ?_
  rintro e u0 ⟨v0, rfl, ho, hf⟩
  rename_i K hK
  refine hK _ _ ?_
  refine ⟨rfl, rfl, hf, ?_⟩
  clear hK K
  have B0 := Lib.hid (ho.bs (A := fun _ => False) (by simp))
  replace G := Lib.hid (G.out.trans (hu.trans hf))
  obtain ⟨o0, n0, c0, rfl⟩ := bs_shape B0.out
  clear hu hf ho
  refine poF_vals 2 _ _ _ (by kernel_rfl) ?_
  simp only [opersOf, List.take_succ_cons, List.take_zero, List.filterMap_cons, List.filterMap_nil, List.getElem?_toArray, List.getElem?_cons_succ, List.getElem?_cons_zero, List.drop_succ_cons, List.drop_zero]
  show wpQuiet _ _ _ _ [_, _] _
  iterate 2 go_big_quiet_step (fail)
  refine wpQuiet_nil ?_
  refine poF_call _ (by simp only [List.getElem?_toArray, List.getElem?_cons_succ, List.getElem?_cons_zero]; rfl) ?_
  intro u hu
  go_wp2_with fail
  refine (pair_any _ _).mono ?_
  rintro e u1 ⟨v1, rfl, ho, hf⟩
  rename_i K hK
  refine hK _ _ ?_
  refine ⟨rfl, rfl, hf, ?_⟩
  clear hK K
  have B1 := Lib.hid (ho.bs (A := fun _ => False) (by simp))
  replace G := Lib.hid (G.out.trans (hu.trans hf))
  replace B0 := Lib.hid (B0.out.keep (hu.trans hf) (by simp))
  obtain ⟨o1, n1, c1, rfl⟩ := bs_shape B1.out
  clear hu hf ho
  refine poF_vals 2 _ _ _ (by kernel_rfl) ?_
  simp only [opersOf, List.take_succ_cons, List.take_zero, List.filterMap_cons, List.filterMap_nil, List.getElem?_toArray, List.getElem?_cons_succ, List.getElem?_cons_zero, List.drop_succ_cons, List.drop_zero]
  show wpQuiet _ _ _ _ [_, _] _
  iterate 2 go_big_quiet_step (fail)
  refine wpQuiet_nil ?_
  refine poF_call _ (by simp only [List.getElem?_toArray, List.getElem?_cons_succ, List.getElem?_cons_zero]; rfl) ?_
  intro u hu
  go_wp2_with fail
  refine (pair_any _ _).mono ?_
  rintro e u2 ⟨v2, rfl, ho, hf⟩
  rename_i K hK
  refine hK _ _ ?_
  refine ⟨rfl, rfl, hf, ?_⟩
  clear hK K
  have B2 := Lib.hid (ho.bs (A := fun _ => False) (by simp))
  replace G := Lib.hid (G.out.trans (hu.trans hf))
  replace B0 := Lib.hid (B0.out.keep (hu.trans hf) (by simp))
  replace B1 := Lib.hid (B1.out.keep (hu.trans hf) (by simp))
  obtain ⟨o2, n2, c2, rfl⟩ := bs_shape B2.out
  clear hu hf ho
  refine poF_vals 3 _ _ _ (by kernel_rfl) ?_
  simp only [opersOf, List.take_succ_cons, List.take_zero, List.filterMap_cons, List.filterMap_nil, List.getElem?_toArray, List.getElem?_cons_succ, List.getElem?_cons_zero, List.drop_succ_cons, List.drop_zero]
  show wpQuiet _ _ _ _ [_, _, _] _
  iterate 3 go_big_quiet_step (fail)
  refine wpQuiet_nil ?_
  refine poF_new _ (by simp only [List.getElem?_toArray, List.getElem?_cons_succ, List.getElem?_cons_zero]; rfl) rfl (.cells #[.int .u8 (a.kind % 256)] 5) (fun b => .slice (some ⟨b, 0, none⟩) 1 1) (fun _ => by kernel_rfl) ?_
  intro b1 wb _ hwb hAt1
  go_frame
  replace G := Lib.hid (G.out.trans hwb)
  replace B0 := Lib.hid (B0.out.keep hwb (by simp))
  replace B1 := Lib.hid (B1.out.keep hwb (by simp))
  replace B2 := Lib.hid (B2.out.keep hwb (by simp))
  have H1 := Lib.hid hAt1
  clear hwb hAt1
  refine poF_vals 3 _ _ _ (by kernel_rfl) ?_
  simp only [opersOf, List.take_succ_cons, List.take_zero, List.filterMap_cons, List.filterMap_nil, List.getElem?_toArray, List.getElem?_cons_succ, List.getElem?_cons_zero, List.drop_succ_cons, List.drop_zero]
  show wpQuiet _ _ _ _ [_, _, _] _
  iterate 3 go_big_quiet_step (fail)
  refine wpQuiet_nil ?_
  refine poF_new _ (by simp only [List.getElem?_toArray, List.getElem?_cons_succ, List.getElem?_cons_zero]; rfl) rfl (.cells #[.int .u8 (a.by_ % 256)] 5) (fun b => .slice (some ⟨b, 0, none⟩) 1 1) (fun _ => by kernel_rfl) ?_
  intro b2 wc _ hwc hAt2
  go_frame
  replace G := Lib.hid (G.out.trans hwc)
  replace B0 := Lib.hid (B0.out.keep hwc (by simp))
  replace B1 := Lib.hid (B1.out.keep hwc (by simp))
  replace B2 := Lib.hid (B2.out.keep hwc (by simp))
  replace H1 := Lib.hid (H1.out.keep0 hwc)
  have H2 := Lib.hid hAt2
  clear hwc hAt2
  refine poF_new _ (by simp only [List.getElem?_toArray, List.getElem?_cons_succ, List.getElem?_cons_zero]; rfl) rfl (.cells #[.slice (some ⟨b1, 0, none⟩) 1 1, .slice o0 n0 c0, .slice o1 n1 c1, .slice o2 n2 c2, .slice (some ⟨b2, 0, none⟩) 1 1] 59) (fun b => .slice (some ⟨b, 0, none⟩) 5 5) (fun _ => by kernel_rfl) ?_
  intro b3 wd _ hwd hAt3
  go_frame
  replace G := Lib.hid (G.out.trans hwd)
  replace B0 := Lib.hid (B0.out.keep hwd (by simp))
  replace B1 := Lib.hid (B1.out.keep hwd (by simp))
  replace B2 := Lib.hid (B2.out.keep hwd (by simp))
  replace H1 := Lib.hid (H1.out.keep0 hwd)
  replace H2 := Lib.hid (H2.out.keep0 hwd)
  have H3 := Lib.hid hAt3
  clear hwd hAt3
  refine poF_call _ (by simp only [List.getElem?_toArray, List.getElem?_cons_succ, List.getElem?_cons_zero]; rfl) ?_
  intro u hu
  replace G := Lib.hid (G.out.trans hu)
  replace B0 := Lib.hid (B0.out.keep hu (by simp))
  replace B1 := Lib.hid (B1.out.keep hu (by simp))
  replace B2 := Lib.hid (B2.out.keep hu (by simp))
  have X1 := Lib.hid (bs_block (A := fun _ => False) (xs := [b8 a.kind]) (H1.out.keep0 hu) (by simp [b8v]) (by simp) (by simp))
  have X2 := Lib.hid (bs_block (A := fun _ => False) (xs := [b8 a.by_]) (H2.out.keep0 hu) (by simp [b8v]) (by simp) (by simp))
  have HL := Lib.hid (show RdL (fun _ => False) u (.slice (some ⟨b3, 0, none⟩) 5 5) [(.slice (some ⟨b1, 0, none⟩) 1 1, [b8 a.kind]), (.slice o0 n0 c0, be2 a.n), (.slice o1 n1 c1, be2 a.i), (.slice o2 n2 c2, be2 a.at_), (.slice (some ⟨b2, 0, none⟩) 1 1, [b8 a.by_])] from by
    refine ⟨vs_block (H3.out.keep0 hu) rfl (by simp) (by simp), fun x hx => ?_⟩
    simp only [List.mem_cons, List.not_mem_nil, or_false] at hx
    rcases hx with rfl | rfl | rfl | rfl | rfl
    · exact X1.out
    · exact B0.out
    · exact B1.out
    · exact B2.out
    · exact X2.out)
  clear H1 H2 H3 X1 X2 hu B0 B1 B2
  go_wp2_with fail
  refine (concat_any (fun _ => False) _ _ _ HL.out (by simp) (by simp [cat, be2])).mono ?_
  rintro e u3 ⟨q, rfl, ho, hf⟩
  rename_i K hK
  refine hK _ _ ?_
  refine ⟨rfl, rfl, hf, ?_⟩
  clear hK K
  have HQ := Lib.hid (show OwnB 5 w.heap.size u3 q (entBase a) from by
    have h1 := ho.base (base' := w.heap.size) (by have := HF.out.size; have := G.out.size; omega)
    simpa [cat, entBase, be2] using h1)
  replace G := Lib.hid (G.out.trans hf)
  clear ho hf HL e0 e1 e2 e3 e4
  refine poF_vals 1 _ _ _ (by kernel_rfl) ?_
  simp only [opersOf, List.take_succ_cons, List.take_zero, List.filterMap_cons, List.filterMap_nil, List.getElem?_toArray, List.getElem?_cons_succ, List.getElem?_cons_zero, List.drop_succ_cons, List.drop_zero]
  show wpQuiet _ _ _ _ [_] _
  iterate 1 go_big_quiet_step (fail)
  refine wpQuiet_nil ?_
  refine poF_end ?_
  intro wz hz
  replace HQ := Lib.hid (HQ.out.keep hz (by simp))
  replace G := Lib.hid (G.out.trans hz)
  replace HA := Lib.hid (HA.out.keep0 G.out)
  replace BX := Lib.hid (BX.out.keep G.out (by simp))
  replace HF := Lib.hid (HF.out.trans G.out)
  clear hz G
  have z0 := (actCells HA.out).1
  have t10 : (a.kind == 10) = false := by have := HK.out; rw [beq_eq_false_iff_ne]; omega
  have t1 : (a.kind == 1) = false := by have := HK.out; rw [beq_eq_false_iff_ne]; omega
  have t9 : (a.kind == 9) = true := by have := HK.out; rw [beq_iff_eq]; omega
  have t13 : (a.kind == 13) = false := by have := HK.out; rw [beq_eq_false_iff_ne]; omega
  have hb0 : bn = a.bytes.length := by
    obtain ⟨a0, cp, h, -⟩ := BX.out
    cases h
    rfl
  have HBN := Lib.hid hb0
  have hL0 : (entBase a).length ≤ 2000 := by simp [entBase, be2, laidL]
  have HL0 := Lib.hid hL0
  clear hb0 hL0
  obtain ⟨qo, qn, qc, rfl⟩ := bs_shape (HQ.out.bs (A := fun _ => False) (by simp))
  go_wp2_with fail
  try clear z0
  refine wp_region_pf [(.val, 1), (.val, 2), (.val, 3), (.call, 4), (.val, 0), (.val, 5), (.val, 6), (.mem, 7), (.call, 8), (.val, 9)] (by kernel_rfl) (by kernel_rfl) ?_
  intro wa ha
  replace HA := Lib.hid (HA.out.keep0 ha)
  replace HF := Lib.hid (HF.out.trans ha)
  replace HQ := Lib.hid (HQ.out.keep ha (by simp))
  replace BX := Lib.hid (BX.out.keep ha (by simp))
  clear ha
  have e6 := fun z : Kin wa => (actCells (HA.out.keep0 z.fr)).2.2.2.2.2.2.1
  have G := Lib.hid (Fr.refl [] wa)
  refine poF_vals 2 _ _ _ (by kernel_rfl) ?_
  simp only [opersOf, List.take_succ_cons, List.take_zero, List.filterMap_cons, List.filterMap_nil, List.getElem?_toArray, List.getElem?_cons_succ, List.getElem?_cons_zero, List.drop_succ_cons, List.drop_zero]
  show wpQuiet _ _ _ _ [_, _] _
  iterate 2 go_big_quiet_step (fail)
  refine wpQuiet_nil ?_
  skip
  refine poF_val1 _ (by simp only [List.getElem?_toArray, List.getElem?_cons_succ, List.getElem?_cons_zero]; rfl) rfl (.int .i64 bn) (fun u => run_len_sl _ _ 66 bo bn bc _ rfl rfl) ?_
  go_frame
  refine poF_call _ (by simp only [List.getElem?_toArray, List.getElem?_cons_succ, List.getElem?_cons_zero]; rfl) ?_
  intro u hu
  go_wp2_with fail
  refine (pair_any _ _).mono ?_
  rintro e u4 ⟨v4, rfl, ho, hf⟩
  rename_i K hK
  refine hK _ _ ?_
  refine ⟨rfl, rfl, hf, ?_⟩
  clear hK K
  have B3 := Lib.hid (ho.bs (A := fun _ => False) (by simp))
  replace G := Lib.hid (G.out.trans (hu.trans hf))
  replace HQ := Lib.hid (HQ.out.keep (hu.trans hf) (by simp))
  replace BX := Lib.hid (BX.out.keep (hu.trans hf) (by simp))
  obtain ⟨o3, n3, c3, rfl⟩ := bs_shape B3.out
  clear hu hf ho
  refine poF_vals 3 _ _ _ (by kernel_rfl) ?_
  simp only [opersOf, List.take_succ_cons, List.take_zero, List.filterMap_cons, List.filterMap_nil, List.getElem?_toArray, List.getElem?_cons_succ, List.getElem?_cons_zero, List.drop_succ_cons, List.drop_zero]
  show wpQuiet _ _ _ _ [_, _, _] _
  iterate 3 go_big_quiet_step (fail)
  refine wpQuiet_nil ?_
  refine poF_new _ (by simp only [List.getElem?_toArray, List.getElem?_cons_succ, List.getElem?_cons_zero]; rfl) rfl (.cells #[.slice qo qn qc, .slice o3 n3 c3, .slice bo bn bc] 59) (fun b => .slice (some ⟨b, 0, none⟩) 3 3) (fun _ => by kernel_rfl) ?_
  intro b4 wd _ hwd hAt4
  go_frame
  replace G := Lib.hid (G.out.trans hwd)
  replace HQ := Lib.hid (HQ.out.keep hwd (by simp))
  replace BX := Lib.hid (BX.out.keep hwd (by simp))
  replace B3 := Lib.hid (B3.out.keep hwd (by simp))
  have H4 := Lib.hid hAt4
  clear hwd hAt4
  refine poF_call _ (by simp only [List.getElem?_toArray, List.getElem?_cons_succ, List.getElem?_cons_zero]; rfl) ?_
  intro u hu
  replace G := Lib.hid (G.out.trans hu)
  replace HQ := Lib.hid (HQ.out.keep hu (by simp))
  replace BX := Lib.hid (BX.out.keep hu (by simp))
  replace B3 := Lib.hid (B3.out.keep hu (by simp))
  have HL := Lib.hid (show RdL (fun _ => False) u (.slice (some ⟨b4, 0, none⟩) 3 3) [(.slice qo qn qc, entBase a), (.slice o3 n3 c3, be2 bn), (.slice bo bn bc, a.bytes)] from by
    refine ⟨vs_block (H4.out.keep0 hu) rfl (by simp) (by simp), fun x hx => ?_⟩
    simp only [List.mem_cons, List.not_mem_nil, or_false] at hx
    rcases hx with rfl | rfl | rfl
    · exact HQ.out.bs (by simp)
    · exact B3.out
    · exact BX.out)
  clear H4 hu B3
  go_wp2_with fail
  refine (concat_any (fun _ => False) _ _ _ HL.out (by simp) (by have := HL0.out; simp only [cat, List.flatMap_cons, List.flatMap_nil, List.append_nil, List.length_append, be2, List.length_cons, List.length_nil] at this ⊢; omega)).mono ?_
  rintro e u5 ⟨q5, rfl, ho, hf⟩
  rename_i K hK
  refine hK _ _ ?_
  refine ⟨rfl, rfl, hf, ?_⟩
  clear hK K
  have HR := Lib.hid (show OwnB 5 w.heap.size u5 q5 (entryL a) from by
    have h1 := ho.base (base' := w.heap.size) (by have := HF.out.size; have := G.out.size; omega)
    rw [HP.out]
    simpa [cat, entTail, HBN.out] using h1)
  replace G := Lib.hid (G.out.trans hf)
  clear ho hf HL e6
  refine poF_vals 1 _ _ _ (by kernel_rfl) ?_
  simp only [opersOf, List.take_succ_cons, List.take_zero, List.filterMap_cons, List.filterMap_nil, List.getElem?_toArray, List.getElem?_cons_succ, List.getElem?_cons_zero, List.drop_succ_cons, List.drop_zero]
  show wpQuiet _ _ _ _ [_] _
  iterate 1 go_big_quiet_step (fail)
  refine wpQuiet_nil ?_
  refine poF_end ?_
  intro wy hy
  have HZ := Lib.hid (HR.out.keep hy (by simp))
  have GZ := Lib.hid ((HF.out.trans G.out).trans hy)
  clear hy
  go_wp2
  go_ret
  exact ⟨_, rfl, HZ.out, GZ.out⟩
end Go.Proofs.YtbohmnblegljkaaDoor
namespace Go.Proofs.YtbohmnblegljkaaDoor
open Go.RowKit Go.Bl
set_option linter.unusedVariables false

set_option maxRecDepth 100000 in
set_option maxHeartbeats 8000000 in
theorem entry_13 (w : World) (a : ActP) (bo : Option Addr) (bn bc : Nat) (hb : Bs (fun _ => False) w (.slice bo bn bc) a.bytes) (hlen : a.bytes.length ≤ 70000) (hnl : a.name.size ≤ 1000) (kq : a.kind = 13) :
    Calls Tryd.prog 49 #[.agg (actC a (.slice bo bn bc))] w fun e w' => ∃ u, e = .returned u ∧ OwnB 5 w.heap.size w' u (entryL a) ∧ Fr [] w w' := by
  have HA := Lib.hid (show At (w.alloc (actO a (.slice bo bn bc) 71)) w.heap.size (actO a (.slice bo bn bc) 71) from At.new rfl)
  have HF := Lib.hid (show Fr [] w (w.alloc (actO a (.slice bo bn bc) 71)) from Fr.alloc _ _)
  have BX := Lib.hid (hb.keep HF.out (by simp))
  clear hb
  have HK := Lib.hid kq
  have HP := Lib.hid (show entryL a = _ from by unfold entryL; rw [if_neg (by omega), if_neg (by omega), if_pos (by omega)])
  clear kq
  go_enter Tryd.func49, Tryd.ntmps49
  go_wp2_with fail
  refine wp_region_pf [(.val, 4), (.val, 5), (.call, 6), (.val, 7), (.val, 8), (.call, 9), (.val, 10), (.val, 11), (.call, 12), (.val, 0), (.val, 1), (.val, 2), (.mem, 3), (.val, 13), (.val, 14), (.val, 15), (.mem, 16), (.mem, 17), (.call, 18), (.val, 19)] (by kernel_rfl) (by kernel_rfl) ?_
  intro wa ha
  replace HA := Lib.hid (HA.out.keep0 ha)
  replace HF := Lib.hid (HF.out.trans ha)
  replace BX := Lib.hid (BX.out.keep ha (by simp))
  clear ha
  have e := fun z : Kin wa => actCells (HA.out.keep0 z.fr)
  have e0 := fun z : Kin wa => (e z).1
  have e1 := fun z : Kin wa => (e z).2.1
  have e2 := fun z : Kin wa => (e z).2.2.1
  have e3 := fun z : Kin wa => (e z).2.2.2.1
  have e4 := fun z : Kin wa => (e z).2.2.2.2.1
  clear e
  have G := Lib.hid (Fr.refl [] wa)
  refine poF_vals 2 _ _ _ (by kernel_rfl) ?_
  simp only [opersOf, List.take_succ_cons, List.take_zero, List.filterMap_cons, List.filterMap_nil, List.getElem?_toArray, List.getElem?_cons_succ, List.getElem?_cons_zero, List.drop_succ_cons, List.drop_zero]
  show wpQuiet _ _ _ _ [_, _] _
  iterate 2 go_big_quiet_step (fail)
  refine wpQuiet_nil ?_
  refine poF_call _ (by simp only [List.getElem?_toArray, List.getElem?_cons_succ, List.getElem?_cons_zero]; rfl) ?_
  intro u hu
  go_wp2_with fail
  refine (pair_any _ _).mono ?_
  rintro e u0 ⟨v0, rfl, ho, hf⟩
  rename_i K hK
  refine hK _ _ ?_
  refine ⟨rfl, rfl, hf, ?_⟩
  clear hK K
  have B0 := Lib.hid (ho.bs (A := fun _ => False) (by simp))
  replace G := Lib.hid (G.out.trans (hu.trans hf))
  obtain ⟨o0, n0, c0, rfl⟩ := bs_shape B0.out
  clear hu hf ho
  refine poF_vals 2 _ _ _ (by kernel_rfl) ?_
  simp only [opersOf, List.take_succ_cons, List.take_zero, List.filterMap_cons, List.filterMap_nil, List.getElem?_toArray, List.getElem?_cons_succ, List.getElem?_cons_zero, List.drop_succ_cons, List.drop_zero]
  show wpQuiet _ _ _ _ [_, _] _
  iterate 2 go_big_quiet_step (fail)
  refine wpQuiet_nil ?_
  refine poF_call _ (by simp only [List.getElem?_toArray, List.getElem?_cons_succ, List.getElem?_cons_zero]; rfl) ?_
  intro u hu
  go_wp2_with fail
  refine (pair_any _ _).mono ?_
  rintro e u1 ⟨v1, rfl, ho, hf⟩
  rename_i K hK
  refine hK _ _ ?_
  refine ⟨rfl, rfl, hf, ?_⟩
  clear hK K
  have B1 := Lib.hid (ho.bs (A := fun _ => False) (by simp))
  replace G := Lib.hid (G.out.trans (hu.trans hf))
  replace B0 := Lib.hid (B0.out.keep (hu.trans hf) (by simp))
  obtain ⟨o1, n1, c1, rfl⟩ := bs_shape B1.out
  clear hu hf ho
  refine poF_vals 2 _ _ _ (by kernel_rfl) ?_
  simp only [opersOf, List.take_succ_cons, List.take_zero, List.filterMap_cons, List.filterMap_nil, List.getElem?_toArray, List.getElem?_cons_succ, List.getElem?_cons_zero, List.drop_succ_cons, List.drop_zero]
  show wpQuiet _ _ _ _ [_, _] _
  iterate 2 go_big_quiet_step (fail)
  refine wpQuiet_nil ?_
  refine poF_call _ (by simp only [List.getElem?_toArray, List.getElem?_cons_succ, List.getElem?_cons_zero]; rfl) ?_
  intro u hu
  go_wp2_with fail
  refine (pair_any _ _).mono ?_
  rintro e u2 ⟨v2, rfl, ho, hf⟩
  rename_i K hK
  refine hK _ _ ?_
  refine ⟨rfl, rfl, hf, ?_⟩
  clear hK K
  have B2 := Lib.hid (ho.bs (A := fun _ => False) (by simp))
  replace G := Lib.hid (G.out.trans (hu.trans hf))
  replace B0 := Lib.hid (B0.out.keep (hu.trans hf) (by simp))
  replace B1 := Lib.hid (B1.out.keep (hu.trans hf) (by simp))
  obtain ⟨o2, n2, c2, rfl⟩ := bs_shape B2.out
  clear hu hf ho
  refine poF_vals 3 _ _ _ (by kernel_rfl) ?_
  simp only [opersOf, List.take_succ_cons, List.take_zero, List.filterMap_cons, List.filterMap_nil, List.getElem?_toArray, List.getElem?_cons_succ, List.getElem?_cons_zero, List.drop_succ_cons, List.drop_zero]
  show wpQuiet _ _ _ _ [_, _, _] _
  iterate 3 go_big_quiet_step (fail)
  refine wpQuiet_nil ?_
  refine poF_new _ (by simp only [List.getElem?_toArray, List.getElem?_cons_succ, List.getElem?_cons_zero]; rfl) rfl (.cells #[.int .u8 (a.kind % 256)] 5) (fun b => .slice (some ⟨b, 0, none⟩) 1 1) (fun _ => by kernel_rfl) ?_
  intro b1 wb _ hwb hAt1
  go_frame
  replace G := Lib.hid (G.out.trans hwb)
  replace B0 := Lib.hid (B0.out.keep hwb (by simp))
  replace B1 := Lib.hid (B1.out.keep hwb (by simp))
  replace B2 := Lib.hid (B2.out.keep hwb (by simp))
  have H1 := Lib.hid hAt1
  clear hwb hAt1
  refine poF_vals 3 _ _ _ (by kernel_rfl) ?_
  simp only [opersOf, List.take_succ_cons, List.take_zero, List.filterMap_cons, List.filterMap_nil, List.getElem?_toArray, List.getElem?_cons_succ, List.getElem?_cons_zero, List.drop_succ_cons, List.drop_zero]
  show wpQuiet _ _ _ _ [_, _, _] _
  iterate 3 go_big_quiet_step (fail)
  refine wpQuiet_nil ?_
  refine poF_new _ (by simp only [List.getElem?_toArray, List.getElem?_cons_succ, List.getElem?_cons_zero]; rfl) rfl (.cells #[.int .u8 (a.by_ % 256)] 5) (fun b => .slice (some ⟨b, 0, none⟩) 1 1) (fun _ => by kernel_rfl) ?_
  intro b2 wc _ hwc hAt2
  go_frame
  replace G := Lib.hid (G.out.trans hwc)
  replace B0 := Lib.hid (B0.out.keep hwc (by simp))
  replace B1 := Lib.hid (B1.out.keep hwc (by simp))
  replace B2 := Lib.hid (B2.out.keep hwc (by simp))
  replace H1 := Lib.hid (H1.out.keep0 hwc)
  have H2 := Lib.hid hAt2
  clear hwc hAt2
  refine poF_new _ (by simp only [List.getElem?_toArray, List.getElem?_cons_succ, List.getElem?_cons_zero]; rfl) rfl (.cells #[.slice (some ⟨b1, 0, none⟩) 1 1, .slice o0 n0 c0, .slice o1 n1 c1, .slice o2 n2 c2, .slice (some ⟨b2, 0, none⟩) 1 1] 59) (fun b => .slice (some ⟨b, 0, none⟩) 5 5) (fun _ => by kernel_rfl) ?_
  intro b3 wd _ hwd hAt3
  go_frame
  replace G := Lib.hid (G.out.trans hwd)
  replace B0 := Lib.hid (B0.out.keep hwd (by simp))
  replace B1 := Lib.hid (B1.out.keep hwd (by simp))
  replace B2 := Lib.hid (B2.out.keep hwd (by simp))
  replace H1 := Lib.hid (H1.out.keep0 hwd)
  replace H2 := Lib.hid (H2.out.keep0 hwd)
  have H3 := Lib.hid hAt3
  clear hwd hAt3
  refine poF_call _ (by simp only [List.getElem?_toArray, List.getElem?_cons_succ, List.getElem?_cons_zero]; rfl) ?_
  intro u hu
  replace G := Lib.hid (G.out.trans hu)
  replace B0 := Lib.hid (B0.out.keep hu (by simp))
  replace B1 := Lib.hid (B1.out.keep hu (by simp))
  replace B2 := Lib.hid (B2.out.keep hu (by simp))
  have X1 := Lib.hid (bs_block (A := fun _ => False) (xs := [b8 a.kind]) (H1.out.keep0 hu) (by simp [b8v]) (by simp) (by simp))
  have X2 := Lib.hid (bs_block (A := fun _ => False) (xs := [b8 a.by_]) (H2.out.keep0 hu) (by simp [b8v]) (by simp) (by simp))
  have HL := Lib.hid (show RdL (fun _ => False) u (.slice (some ⟨b3, 0, none⟩) 5 5) [(.slice (some ⟨b1, 0, none⟩) 1 1, [b8 a.kind]), (.slice o0 n0 c0, be2 a.n), (.slice o1 n1 c1, be2 a.i), (.slice o2 n2 c2, be2 a.at_), (.slice (some ⟨b2, 0, none⟩) 1 1, [b8 a.by_])] from by
    refine ⟨vs_block (H3.out.keep0 hu) rfl (by simp) (by simp), fun x hx => ?_⟩
    simp only [List.mem_cons, List.not_mem_nil, or_false] at hx
    rcases hx with rfl | rfl | rfl | rfl | rfl
    · exact X1.out
    · exact B0.out
    · exact B1.out
    · exact B2.out
    · exact X2.out)
  clear H1 H2 H3 X1 X2 hu B0 B1 B2
  go_wp2_with fail
  refine (concat_any (fun _ => False) _ _ _ HL.out (by simp) (by simp [cat, be2])).mono ?_
  rintro e u3 ⟨q, rfl, ho, hf⟩
  rename_i K hK
  refine hK _ _ ?_
  refine ⟨rfl, rfl, hf, ?_⟩
  clear hK K
  have HQ := Lib.hid (show OwnB 5 w.heap.size u3 q (entBase a) from by
    have h1 := ho.base (base' := w.heap.size) (by have := HF.out.size; have := G.out.size; omega)
    simpa [cat, entBase, be2] using h1)
  replace G := Lib.hid (G.out.trans hf)
  clear ho hf HL e0 e1 e2 e3 e4
  refine poF_vals 1 _ _ _ (by kernel_rfl) ?_
  simp only [opersOf, List.take_succ_cons, List.take_zero, List.filterMap_cons, List.filterMap_nil, List.getElem?_toArray, List.getElem?_cons_succ, List.getElem?_cons_zero, List.drop_succ_cons, List.drop_zero]
  show wpQuiet _ _ _ _ [_] _
  iterate 1 go_big_quiet_step (fail)
  refine wpQuiet_nil ?_
  refine poF_end ?_
  intro wz hz
  replace HQ := Lib.hid (HQ.out.keep hz (by simp))
  replace G := Lib.hid (G.out.trans hz)
  replace HA := Lib.hid (HA.out.keep0 G.out)
  replace BX := Lib.hid (BX.out.keep G.out (by simp))
  replace HF := Lib.hid (HF.out.trans G.out)
  clear hz G
  have z0 := (actCells HA.out).1
  have t10 : (a.kind == 10) = false := by have := HK.out; rw [beq_eq_false_iff_ne]; omega
  have t1 : (a.kind == 1) = false := by have := HK.out; rw [beq_eq_false_iff_ne]; omega
  have t9 : (a.kind == 9) = false := by have := HK.out; rw [beq_eq_false_iff_ne]; omega
  have t13 : (a.kind == 13) = true := by have := HK.out; rw [beq_iff_eq]; omega
  have hb0 : bn = a.bytes.length := by
    obtain ⟨a0, cp, h, -⟩ := BX.out
    cases h
    rfl
  have HBN := Lib.hid hb0
  have hL0 : (entBase a).length ≤ 2000 := by simp [entBase, be2, laidL]
  have HL0 := Lib.hid hL0
  clear hb0 hL0
  obtain ⟨qo, qn, qc, rfl⟩ := bs_shape (HQ.out.bs (A := fun _ => False) (by simp))
  go_wp2_with fail
  try clear z0
  refine wp_region_pf [(.val, 1), (.val, 2), (.val, 3), (.call, 4), (.val, 0), (.val, 5), (.val, 6), (.mem, 7), (.call, 8), (.val, 9)] (by kernel_rfl) (by kernel_rfl) ?_
  intro wa ha
  replace HA := Lib.hid (HA.out.keep0 ha)
  replace HF := Lib.hid (HF.out.trans ha)
  replace HQ := Lib.hid (HQ.out.keep ha (by simp))
  replace BX := Lib.hid (BX.out.keep ha (by simp))
  clear ha
  have e6 := fun z : Kin wa => (actCells (HA.out.keep0 z.fr)).2.2.2.2.2.2.1
  have G := Lib.hid (Fr.refl [] wa)
  refine poF_vals 2 _ _ _ (by kernel_rfl) ?_
  simp only [opersOf, List.take_succ_cons, List.take_zero, List.filterMap_cons, List.filterMap_nil, List.getElem?_toArray, List.getElem?_cons_succ, List.getElem?_cons_zero, List.drop_succ_cons, List.drop_zero]
  show wpQuiet _ _ _ _ [_, _] _
  iterate 2 go_big_quiet_step (fail)
  refine wpQuiet_nil ?_
  skip
  refine poF_val1 _ (by simp only [List.getElem?_toArray, List.getElem?_cons_succ, List.getElem?_cons_zero]; rfl) rfl (.int .i64 bn) (fun u => run_len_sl _ _ 66 bo bn bc _ rfl rfl) ?_
  go_frame
  refine poF_call _ (by simp only [List.getElem?_toArray, List.getElem?_cons_succ, List.getElem?_cons_zero]; rfl) ?_
  intro u hu
  go_wp2_with fail
  refine (pair_any _ _).mono ?_
  rintro e u4 ⟨v4, rfl, ho, hf⟩
  rename_i K hK
  refine hK _ _ ?_
  refine ⟨rfl, rfl, hf, ?_⟩
  clear hK K
  have B3 := Lib.hid (ho.bs (A := fun _ => False) (by simp))
  replace G := Lib.hid (G.out.trans (hu.trans hf))
  replace HQ := Lib.hid (HQ.out.keep (hu.trans hf) (by simp))
  replace BX := Lib.hid (BX.out.keep (hu.trans hf) (by simp))
  obtain ⟨o3, n3, c3, rfl⟩ := bs_shape B3.out
  clear hu hf ho
  refine poF_vals 3 _ _ _ (by kernel_rfl) ?_
  simp only [opersOf, List.take_succ_cons, List.take_zero, List.filterMap_cons, List.filterMap_nil, List.getElem?_toArray, List.getElem?_cons_succ, List.getElem?_cons_zero, List.drop_succ_cons, List.drop_zero]
  show wpQuiet _ _ _ _ [_, _, _] _
  iterate 3 go_big_quiet_step (fail)
  refine wpQuiet_nil ?_
  refine poF_new _ (by simp only [List.getElem?_toArray, List.getElem?_cons_succ, List.getElem?_cons_zero]; rfl) rfl (.cells #[.slice qo qn qc, .slice o3 n3 c3, .slice bo bn bc] 59) (fun b => .slice (some ⟨b, 0, none⟩) 3 3) (fun _ => by kernel_rfl) ?_
  intro b4 wd _ hwd hAt4
  go_frame
  replace G := Lib.hid (G.out.trans hwd)
  replace HQ := Lib.hid (HQ.out.keep hwd (by simp))
  replace BX := Lib.hid (BX.out.keep hwd (by simp))
  replace B3 := Lib.hid (B3.out.keep hwd (by simp))
  have H4 := Lib.hid hAt4
  clear hwd hAt4
  refine poF_call _ (by simp only [List.getElem?_toArray, List.getElem?_cons_succ, List.getElem?_cons_zero]; rfl) ?_
  intro u hu
  replace G := Lib.hid (G.out.trans hu)
  replace HQ := Lib.hid (HQ.out.keep hu (by simp))
  replace BX := Lib.hid (BX.out.keep hu (by simp))
  replace B3 := Lib.hid (B3.out.keep hu (by simp))
  have HL := Lib.hid (show RdL (fun _ => False) u (.slice (some ⟨b4, 0, none⟩) 3 3) [(.slice qo qn qc, entBase a), (.slice o3 n3 c3, be2 bn), (.slice bo bn bc, a.bytes)] from by
    refine ⟨vs_block (H4.out.keep0 hu) rfl (by simp) (by simp), fun x hx => ?_⟩
    simp only [List.mem_cons, List.not_mem_nil, or_false] at hx
    rcases hx with rfl | rfl | rfl
    · exact HQ.out.bs (by simp)
    · exact B3.out
    · exact BX.out)
  clear H4 hu B3
  go_wp2_with fail
  refine (concat_any (fun _ => False) _ _ _ HL.out (by simp) (by have := HL0.out; simp only [cat, List.flatMap_cons, List.flatMap_nil, List.append_nil, List.length_append, be2, List.length_cons, List.length_nil] at this ⊢; omega)).mono ?_
  rintro e u5 ⟨q5, rfl, ho, hf⟩
  rename_i K hK
  refine hK _ _ ?_
  refine ⟨rfl, rfl, hf, ?_⟩
  clear hK K
  have HR := Lib.hid (show OwnB 5 w.heap.size u5 q5 (entryL a) from by
    have h1 := ho.base (base' := w.heap.size) (by have := HF.out.size; have := G.out.size; omega)
    rw [HP.out]
    simpa [cat, entTail, HBN.out] using h1)
  replace G := Lib.hid (G.out.trans hf)
  clear ho hf HL e6
  refine poF_vals 1 _ _ _ (by kernel_rfl) ?_
  simp only [opersOf, List.take_succ_cons, List.take_zero, List.filterMap_cons, List.filterMap_nil, List.getElem?_toArray, List.getElem?_cons_succ, List.getElem?_cons_zero, List.drop_succ_cons, List.drop_zero]
  show wpQuiet _ _ _ _ [_] _
  iterate 1 go_big_quiet_step (fail)
  refine wpQuiet_nil ?_
  refine poF_end ?_
  intro wy hy
  have HZ := Lib.hid (HR.out.keep hy (by simp))
  have GZ := Lib.hid ((HF.out.trans G.out).trans hy)
  clear hy
  go_wp2
  go_ret
  exact ⟨_, rfl, HZ.out, GZ.out⟩
end Go.Proofs.YtbohmnblegljkaaDoor
namespace Go.Proofs.YtbohmnblegljkaaDoor
open Go.RowKit Go.Bl
set_option linter.unusedVariables false

set_option maxRecDepth 100000 in
set_option maxHeartbeats 8000000 in
theorem entry_1 (w : World) (a : ActP) (bo : Option Addr) (bn bc : Nat) (hb : Bs (fun _ => False) w (.slice bo bn bc) a.bytes) (hlen : a.bytes.length ≤ 70000) (hnl : a.name.size ≤ 1000) (kq : a.kind = 1) :
    Calls Tryd.prog 49 #[.agg (actC a (.slice bo bn bc))] w fun e w' => ∃ u, e = .returned u ∧ OwnB 5 w.heap.size w' u (entryL a) ∧ Fr [] w w' := by
  have HA := Lib.hid (show At (w.alloc (actO a (.slice bo bn bc) 71)) w.heap.size (actO a (.slice bo bn bc) 71) from At.new rfl)
  have HF := Lib.hid (show Fr [] w (w.alloc (actO a (.slice bo bn bc) 71)) from Fr.alloc _ _)
  have BX := Lib.hid (hb.keep HF.out (by simp))
  clear hb
  have HK := Lib.hid kq
  have HP := Lib.hid (show entryL a = _ from by unfold entryL; rw [if_neg (by omega), if_pos kq])
  clear kq
  go_enter Tryd.func49, Tryd.ntmps49
  go_wp2_with fail
  refine wp_region_pf [(.val, 4), (.val, 5), (.call, 6), (.val, 7), (.val, 8), (.call, 9), (.val, 10), (.val, 11), (.call, 12), (.val, 0), (.val, 1), (.val, 2), (.mem, 3), (.val, 13), (.val, 14), (.val, 15), (.mem, 16), (.mem, 17), (.call, 18), (.val, 19)] (by kernel_rfl) (by kernel_rfl) ?_
  intro wa ha
  replace HA := Lib.hid (HA.out.keep0 ha)
  replace HF := Lib.hid (HF.out.trans ha)
  replace BX := Lib.hid (BX.out.keep ha (by simp))
  clear ha
  have e := fun z : Kin wa => actCells (HA.out.keep0 z.fr)
  have e0 := fun z : Kin wa => (e z).1
  have e1 := fun z : Kin wa => (e z).2.1
  have e2 := fun z : Kin wa => (e z).2.2.1
  have e3 := fun z : Kin wa => (e z).2.2.2.1
  have e4 := fun z : Kin wa => (e z).2.2.2.2.1
  clear e
  have G := Lib.hid (Fr.refl [] wa)
  refine poF_vals 2 _ _ _ (by kernel_rfl) ?_
  simp only [opersOf, List.take_succ_cons, List.take_zero, List.filterMap_cons, List.filterMap_nil, List.getElem?_toArray, List.getElem?_cons_succ, List.getElem?_cons_zero, List.drop_succ_cons, List.drop_zero]
  show wpQuiet _ _ _ _ [_, _] _
  iterate 2 go_big_quiet_step (fail)
  refine wpQuiet_nil ?_
  refine poF_call _ (by simp only [List.getElem?_toArray, List.getElem?_cons_succ, List.getElem?_cons_zero]; rfl) ?_
  intro u hu
  go_wp2_with fail
  refine (pair_any _ _).mono ?_
  rintro e u0 ⟨v0, rfl, ho, hf⟩
  rename_i K hK
  refine hK _ _ ?_
  refine ⟨rfl, rfl, hf, ?_⟩
  clear hK K
  have B0 := Lib.hid (ho.bs (A := fun _ => False) (by simp))
  replace G := Lib.hid (G.out.trans (hu.trans hf))
  obtain ⟨o0, n0, c0, rfl⟩ := bs_shape B0.out
  clear hu hf ho
  refine poF_vals 2 _ _ _ (by kernel_rfl) ?_
  simp only [opersOf, List.take_succ_cons, List.take_zero, List.filterMap_cons, List.filterMap_nil, List.getElem?_toArray, List.getElem?_cons_succ, List.getElem?_cons_zero, List.drop_succ_cons, List.drop_zero]
  show wpQuiet _ _ _ _ [_, _] _
  iterate 2 go_big_quiet_step (fail)
  refine wpQuiet_nil ?_
  refine poF_call _ (by simp only [List.getElem?_toArray, List.getElem?_cons_succ, List.getElem?_cons_zero]; rfl) ?_
  intro u hu
  go_wp2_with fail
  refine (pair_any _ _).mono ?_
  rintro e u1 ⟨v1, rfl, ho, hf⟩
  rename_i K hK
  refine hK _ _ ?_
  refine ⟨rfl, rfl, hf, ?_⟩
  clear hK K
  have B1 := Lib.hid (ho.bs (A := fun _ => False) (by simp))
  replace G := Lib.hid (G.out.trans (hu.trans hf))
  replace B0 := Lib.hid (B0.out.keep (hu.trans hf) (by simp))
  obtain ⟨o1, n1, c1, rfl⟩ := bs_shape B1.out
  clear hu hf ho
  refine poF_vals 2 _ _ _ (by kernel_rfl) ?_
  simp only [opersOf, List.take_succ_cons, List.take_zero, List.filterMap_cons, List.filterMap_nil, List.getElem?_toArray, List.getElem?_cons_succ, List.getElem?_cons_zero, List.drop_succ_cons, List.drop_zero]
  show wpQuiet _ _ _ _ [_, _] _
  iterate 2 go_big_quiet_step (fail)
  refine wpQuiet_nil ?_
  refine poF_call _ (by simp only [List.getElem?_toArray, List.getElem?_cons_succ, List.getElem?_cons_zero]; rfl) ?_
  intro u hu
  go_wp2_with fail
  refine (pair_any _ _).mono ?_
  rintro e u2 ⟨v2, rfl, ho, hf⟩
  rename_i K hK
  refine hK _ _ ?_
  refine ⟨rfl, rfl, hf, ?_⟩
  clear hK K
  have B2 := Lib.hid (ho.bs (A := fun _ => False) (by simp))
  replace G := Lib.hid (G.out.trans (hu.trans hf))
  replace B0 := Lib.hid (B0.out.keep (hu.trans hf) (by simp))
  replace B1 := Lib.hid (B1.out.keep (hu.trans hf) (by simp))
  obtain ⟨o2, n2, c2, rfl⟩ := bs_shape B2.out
  clear hu hf ho
  refine poF_vals 3 _ _ _ (by kernel_rfl) ?_
  simp only [opersOf, List.take_succ_cons, List.take_zero, List.filterMap_cons, List.filterMap_nil, List.getElem?_toArray, List.getElem?_cons_succ, List.getElem?_cons_zero, List.drop_succ_cons, List.drop_zero]
  show wpQuiet _ _ _ _ [_, _, _] _
  iterate 3 go_big_quiet_step (fail)
  refine wpQuiet_nil ?_
  refine poF_new _ (by simp only [List.getElem?_toArray, List.getElem?_cons_succ, List.getElem?_cons_zero]; rfl) rfl (.cells #[.int .u8 (a.kind % 256)] 5) (fun b => .slice (some ⟨b, 0, none⟩) 1 1) (fun _ => by kernel_rfl) ?_
  intro b1 wb _ hwb hAt1
  go_frame
  replace G := Lib.hid (G.out.trans hwb)
  replace B0 := Lib.hid (B0.out.keep hwb (by simp))
  replace B1 := Lib.hid (B1.out.keep hwb (by simp))
  replace B2 := Lib.hid (B2.out.keep hwb (by simp))
  have H1 := Lib.hid hAt1
  clear hwb hAt1
  refine poF_vals 3 _ _ _ (by kernel_rfl) ?_
  simp only [opersOf, List.take_succ_cons, List.take_zero, List.filterMap_cons, List.filterMap_nil, List.getElem?_toArray, List.getElem?_cons_succ, List.getElem?_cons_zero, List.drop_succ_cons, List.drop_zero]
  show wpQuiet _ _ _ _ [_, _, _] _
  iterate 3 go_big_quiet_step (fail)
  refine wpQuiet_nil ?_
  refine poF_new _ (by simp only [List.getElem?_toArray, List.getElem?_cons_succ, List.getElem?_cons_zero]; rfl) rfl (.cells #[.int .u8 (a.by_ % 256)] 5) (fun b => .slice (some ⟨b, 0, none⟩) 1 1) (fun _ => by kernel_rfl) ?_
  intro b2 wc _ hwc hAt2
  go_frame
  replace G := Lib.hid (G.out.trans hwc)
  replace B0 := Lib.hid (B0.out.keep hwc (by simp))
  replace B1 := Lib.hid (B1.out.keep hwc (by simp))
  replace B2 := Lib.hid (B2.out.keep hwc (by simp))
  replace H1 := Lib.hid (H1.out.keep0 hwc)
  have H2 := Lib.hid hAt2
  clear hwc hAt2
  refine poF_new _ (by simp only [List.getElem?_toArray, List.getElem?_cons_succ, List.getElem?_cons_zero]; rfl) rfl (.cells #[.slice (some ⟨b1, 0, none⟩) 1 1, .slice o0 n0 c0, .slice o1 n1 c1, .slice o2 n2 c2, .slice (some ⟨b2, 0, none⟩) 1 1] 59) (fun b => .slice (some ⟨b, 0, none⟩) 5 5) (fun _ => by kernel_rfl) ?_
  intro b3 wd _ hwd hAt3
  go_frame
  replace G := Lib.hid (G.out.trans hwd)
  replace B0 := Lib.hid (B0.out.keep hwd (by simp))
  replace B1 := Lib.hid (B1.out.keep hwd (by simp))
  replace B2 := Lib.hid (B2.out.keep hwd (by simp))
  replace H1 := Lib.hid (H1.out.keep0 hwd)
  replace H2 := Lib.hid (H2.out.keep0 hwd)
  have H3 := Lib.hid hAt3
  clear hwd hAt3
  refine poF_call _ (by simp only [List.getElem?_toArray, List.getElem?_cons_succ, List.getElem?_cons_zero]; rfl) ?_
  intro u hu
  replace G := Lib.hid (G.out.trans hu)
  replace B0 := Lib.hid (B0.out.keep hu (by simp))
  replace B1 := Lib.hid (B1.out.keep hu (by simp))
  replace B2 := Lib.hid (B2.out.keep hu (by simp))
  have X1 := Lib.hid (bs_block (A := fun _ => False) (xs := [b8 a.kind]) (H1.out.keep0 hu) (by simp [b8v]) (by simp) (by simp))
  have X2 := Lib.hid (bs_block (A := fun _ => False) (xs := [b8 a.by_]) (H2.out.keep0 hu) (by simp [b8v]) (by simp) (by simp))
  have HL := Lib.hid (show RdL (fun _ => False) u (.slice (some ⟨b3, 0, none⟩) 5 5) [(.slice (some ⟨b1, 0, none⟩) 1 1, [b8 a.kind]), (.slice o0 n0 c0, be2 a.n), (.slice o1 n1 c1, be2 a.i), (.slice o2 n2 c2, be2 a.at_), (.slice (some ⟨b2, 0, none⟩) 1 1, [b8 a.by_])] from by
    refine ⟨vs_block (H3.out.keep0 hu) rfl (by simp) (by simp), fun x hx => ?_⟩
    simp only [List.mem_cons, List.not_mem_nil, or_false] at hx
    rcases hx with rfl | rfl | rfl | rfl | rfl
    · exact X1.out
    · exact B0.out
    · exact B1.out
    · exact B2.out
    · exact X2.out)
  clear H1 H2 H3 X1 X2 hu B0 B1 B2
  go_wp2_with fail
  refine (concat_any (fun _ => False) _ _ _ HL.out (by simp) (by simp [cat, be2])).mono ?_
  rintro e u3 ⟨q, rfl, ho, hf⟩
  rename_i K hK
  refine hK _ _ ?_
  refine ⟨rfl, rfl, hf, ?_⟩
  clear hK K
  have HQ := Lib.hid (show OwnB 5 w.heap.size u3 q (entBase a) from by
    have h1 := ho.base (base' := w.heap.size) (by have := HF.out.size; have := G.out.size; omega)
    simpa [cat, entBase, be2] using h1)
  replace G := Lib.hid (G.out.trans hf)
  clear ho hf HL e0 e1 e2 e3 e4
  refine poF_vals 1 _ _ _ (by kernel_rfl) ?_
  simp only [opersOf, List.take_succ_cons, List.take_zero, List.filterMap_cons, List.filterMap_nil, List.getElem?_toArray, List.getElem?_cons_succ, List.getElem?_cons_zero, List.drop_succ_cons, List.drop_zero]
  show wpQuiet _ _ _ _ [_] _
  iterate 1 go_big_quiet_step (fail)
  refine wpQuiet_nil ?_
  refine poF_end ?_
  intro wz hz
  replace HQ := Lib.hid (HQ.out.keep hz (by simp))
  replace G := Lib.hid (G.out.trans hz)
  replace HA := Lib.hid (HA.out.keep0 G.out)
  replace BX := Lib.hid (BX.out.keep G.out (by simp))
  replace HF := Lib.hid (HF.out.trans G.out)
  clear hz G
  have z0 := (actCells HA.out).1
  have t10 : (a.kind == 10) = false := by have := HK.out; rw [beq_eq_false_iff_ne]; omega
  have t1 : (a.kind == 1) = true := by have := HK.out; rw [beq_iff_eq]; omega
  have t9 : (a.kind == 9) = false := by have := HK.out; rw [beq_eq_false_iff_ne]; omega
  have t13 : (a.kind == 13) = false := by have := HK.out; rw [beq_eq_false_iff_ne]; omega
  obtain ⟨qo, qn, qc, rfl⟩ := bs_shape (HQ.out.bs (A := fun _ => False) (by simp))
  go_wp2_with fail
  clear z0
  refine wp_region_pf [(.val, 9), (.val, 10), (.call, 11), (.val, 1), (.val, 2), (.val, 3), (.val, 4), (.mem, 5), (.val, 6), (.val, 7), (.mem, 8), (.val, 0), (.mem, 12), (.call, 13), (.val, 14)] (by kernel_rfl) (by kernel_rfl) ?_
  intro wa ha
  replace HA := Lib.hid (HA.out.keep0 ha)
  replace HF := Lib.hid (HF.out.trans ha)
  replace HQ := Lib.hid (HQ.out.keep ha (by simp))
  replace BX := Lib.hid (BX.out.keep ha (by simp))
  clear ha
  have e5 := fun z : Kin wa => (actCells (HA.out.keep0 z.fr)).2.2.2.2.2.1
  have G := Lib.hid (Fr.refl [] wa)
  refine poF_vals 1 _ _ _ (by kernel_rfl) ?_
  simp only [opersOf, List.take_succ_cons, List.take_zero, List.filterMap_cons, List.filterMap_nil, List.getElem?_toArray, List.getElem?_cons_succ, List.getElem?_cons_zero, List.drop_succ_cons, List.drop_zero]
  show wpQuiet _ _ _ _ [_] _
  iterate 1 go_big_quiet_step (fail)
  refine wpQuiet_nil ?_
  skip
  refine poF_val2 _ (by simp only [List.getElem?_toArray, List.getElem?_cons_succ, List.getElem?_cons_zero]; rfl) rfl (.agg #[.int .i64 a.p0, .int .i64 a.p1, .int .i64 a.p2, .int .i64 a.p3, .int .i64 a.p4, .int .i64 a.p5]) (fun u hu => run_load_row' (.tmp 59) rfl w.heap.size 7 #[.int .i64 a.p0, .int .i64 a.p1, .int .i64 a.p2, .int .i64 a.p3, .int .i64 a.p4, .int .i64 a.p5] _ rfl (range7 (HA.out.keep0 hu)) Tryd.underlying36 rfl (by kernel_rfl)) ?_
  go_frame
  refine poF_call _ (by simp only [List.getElem?_toArray, List.getElem?_cons_succ, List.getElem?_cons_zero]; rfl) ?_
  intro u hu
  go_wp2_with fail
  refine (laid_any _ _ _ _ _ _ _).mono ?_
  rintro e u4 ⟨v4, rfl, ho, hf⟩
  rename_i K hK
  refine hK _ _ ?_
  refine ⟨rfl, rfl, hf, ?_⟩
  clear hK K
  have B3 := Lib.hid (ho.bs (A := fun _ => False) (by simp))
  replace G := Lib.hid (G.out.trans (hu.trans hf))
  replace HQ := Lib.hid (HQ.out.keep (hu.trans hf) (by simp))
  replace BX := Lib.hid (BX.out.keep (hu.trans hf) (by simp))
  obtain ⟨o3, n3, c3, rfl⟩ := bs_shape B3.out
  clear hu hf ho
  refine poF_vals 2 _ _ _ (by kernel_rfl) ?_
  simp only [opersOf, List.take_succ_cons, List.take_zero, List.filterMap_cons, List.filterMap_nil, List.getElem?_toArray, List.getElem?_cons_succ, List.getElem?_cons_zero, List.drop_succ_cons, List.drop_zero]
  show wpQuiet _ _ _ _ [_, _] _
  iterate 2 go_big_quiet_step (fail)
  refine wpQuiet_nil ?_
  skip
  refine poF_val1 _ (by simp only [List.getElem?_toArray, List.getElem?_cons_succ, List.getElem?_cons_zero]; rfl) rfl (.int .i64 a.name.size) (fun u => run_len_str _ _ a.name 52 _ rfl rfl) ?_
  go_frame
  refine poF_vals 1 _ _ _ (by kernel_rfl) ?_
  simp only [opersOf, List.take_succ_cons, List.take_zero, List.filterMap_cons, List.filterMap_nil, List.getElem?_toArray, List.getElem?_cons_succ, List.getElem?_cons_zero, List.drop_succ_cons, List.drop_zero]
  show wpQuiet _ _ _ _ [_] _
  iterate 1 go_big_quiet_step (fail)
  refine wpQuiet_nil ?_
  refine poF_new _ (by simp only [List.getElem?_toArray, List.getElem?_cons_succ, List.getElem?_cons_zero]; rfl) rfl (.cells #[.int .u8 ((a.name.size : Int) % 256)] 5) (fun b => .slice (some ⟨b, 0, none⟩) 1 1) (fun _ => by kernel_rfl) ?_
  intro b5 wb _ hwb hAt5
  go_frame
  replace G := Lib.hid (G.out.trans hwb)
  replace HQ := Lib.hid (HQ.out.keep hwb (by simp))
  replace BX := Lib.hid (BX.out.keep hwb (by simp))
  replace B3 := Lib.hid (B3.out.keep hwb (by simp))
  have H5 := Lib.hid hAt5
  clear hwb hAt5
  refine poF_vals 2 _ _ _ (by kernel_rfl) ?_
  simp only [opersOf, List.take_succ_cons, List.take_zero, List.filterMap_cons, List.filterMap_nil, List.getElem?_toArray, List.getElem?_cons_succ, List.getElem?_cons_zero, List.drop_succ_cons, List.drop_zero]
  show wpQuiet _ _ _ _ [_, _] _
  iterate 2 go_big_quiet_step (fail)
  refine wpQuiet_nil ?_
  skip
  refine poF_mem _ (by simp only [List.getElem?_toArray, List.getElem?_cons_succ, List.getElem?_cons_zero]; rfl) rfl (StrB a.name) (fun v p p' h hf => ⟨h.1, h.2.keep hf (by simp)⟩) (fun u => run_str_bytes a.name _ 57 _ rfl rfl hnl u) ?_
  intro vs wc hwc hst
  obtain ⟨⟨so, sc, rfl⟩, hsb⟩ := hst
  go_frame
  replace G := Lib.hid (G.out.trans hwc)
  replace HQ := Lib.hid (HQ.out.keep hwc (by simp))
  replace BX := Lib.hid (BX.out.keep hwc (by simp))
  replace B3 := Lib.hid (B3.out.keep hwc (by simp))
  replace H5 := Lib.hid (H5.out.keep0 hwc)
  have BS := Lib.hid hsb
  clear hwc hsb
  refine poF_vals 1 _ _ _ (by kernel_rfl) ?_
  simp only [opersOf, List.take_succ_cons, List.take_zero, List.filterMap_cons, List.filterMap_nil, List.getElem?_toArray, List.getElem?_cons_succ, List.getElem?_cons_zero, List.drop_succ_cons, List.drop_zero]
  show wpQuiet _ _ _ _ [_] _
  iterate 1 go_big_quiet_step (fail)
  refine wpQuiet_nil ?_
  refine poF_new _ (by simp only [List.getElem?_toArray, List.getElem?_cons_succ, List.getElem?_cons_zero]; rfl) rfl (.cells #[.slice qo qn qc, .slice (some ⟨b5, 0, none⟩) 1 1, .slice so a.name.size sc, .slice o3 n3 c3] 59) (fun b => .slice (some ⟨b, 0, none⟩) 4 4) (fun _ => by kernel_rfl) ?_
  intro b6 wd _ hwd hAt6
  go_frame
  replace G := Lib.hid (G.out.trans hwd)
  replace HQ := Lib.hid (HQ.out.keep hwd (by simp))
  replace BX := Lib.hid (BX.out.keep hwd (by simp))
  replace B3 := Lib.hid (B3.out.keep hwd (by simp))
  replace BS := Lib.hid (BS.out.keep hwd (by simp))
  replace H5 := Lib.hid (H5.out.keep0 hwd)
  have H6 := Lib.hid hAt6
  clear hwd hAt6
  refine poF_call _ (by simp only [List.getElem?_toArray, List.getElem?_cons_succ, List.getElem?_cons_zero]; rfl) ?_
  intro u hu
  replace G := Lib.hid (G.out.trans hu)
  replace HQ := Lib.hid (HQ.out.keep hu (by simp))
  replace BX := Lib.hid (BX.out.keep hu (by simp))
  replace B3 := Lib.hid (B3.out.keep hu (by simp))
  replace BS := Lib.hid (BS.out.keep hu (by simp))
  have X5 := Lib.hid (bs_block (A := fun _ => False) (xs := [b8 a.name.size]) (H5.out.keep0 hu) (by simp [b8v]) (by simp) (by simp))
  have HL := Lib.hid (show RdL (fun _ => False) u (.slice (some ⟨b6, 0, none⟩) 4 4) [(.slice qo qn qc, entBase a), (.slice (some ⟨b5, 0, none⟩) 1 1, [b8 a.name.size]), (.slice so a.name.size sc, a.name.data.toList), (.slice o3 n3 c3, laidL a.p0 a.p1 a.p2 a.p3 a.p4 a.p5)] from by
    refine ⟨vs_block (H6.out.keep0 hu) rfl (by simp) (by simp), fun x hx => ?_⟩
    simp only [List.mem_cons, List.not_mem_nil, or_false] at hx
    rcases hx with rfl | rfl | rfl | rfl
    · exact HQ.out.bs (by simp)
    · exact X5.out
    · exact BS.out
    · exact B3.out)
  clear H5 H6 hu B3 X5 BS
  go_wp2_with fail
  refine (concat_any (fun _ => False) _ _ _ HL.out (by simp) (by have h9 : a.name.data.size = a.name.size := rfl; simp [cat, entBase, be2, laidL]; omega)).mono ?_
  rintro e u5 ⟨q5, rfl, ho, hf⟩
  rename_i K hK
  refine hK _ _ ?_
  refine ⟨rfl, rfl, hf, ?_⟩
  clear hK K
  replace HQ := Lib.hid (show OwnB 5 w.heap.size u5 q5 (entBase a ++ (b8 a.name.size :: (a.name.data.toList ++ laidL a.p0 a.p1 a.p2 a.p3 a.p4 a.p5))) from by
    have h1 := ho.base (base' := w.heap.size) (by have := HF.out.size; have := G.out.size; omega)
    simpa [cat] using h1)
  replace G := Lib.hid (G.out.trans hf)
  replace BX := Lib.hid (BX.out.keep hf (by simp))
  clear ho hf HL e5
  refine poF_vals 1 _ _ _ (by kernel_rfl) ?_
  simp only [opersOf, List.take_succ_cons, List.take_zero, List.filterMap_cons, List.filterMap_nil, List.getElem?_toArray, List.getElem?_cons_succ, List.getElem?_cons_zero, List.drop_succ_cons, List.drop_zero]
  show wpQuiet _ _ _ _ [_] _
  iterate 1 go_big_quiet_step (fail)
  refine wpQuiet_nil ?_
  refine poF_end ?_
  intro wy hy
  replace HQ := Lib.hid (HQ.out.keep hy (by simp))
  replace G := Lib.hid (G.out.trans hy)
  replace HA := Lib.hid (HA.out.keep0 G.out)
  replace BX := Lib.hid (BX.out.keep hy (by simp))
  replace HF := Lib.hid (HF.out.trans G.out)
  clear hy G
  have hb0 : bn = a.bytes.length := by
    obtain ⟨a0, cp, h, -⟩ := BX.out
    cases h
    rfl
  have HBN := Lib.hid hb0
  have hL0 : ((entBase a ++ (b8 a.name.size :: (a.name.data.toList ++ laidL a.p0 a.p1 a.p2 a.p3 a.p4 a.p5)))).length ≤ 2000 := by simp [entBase, be2, laidL]; have h9 : a.name.data.size = a.name.size := rfl; omega
  have HL0 := Lib.hid hL0
  clear hb0 hL0
  obtain ⟨qo, qn, qc, rfl⟩ := bs_shape (HQ.out.bs (A := fun _ => False) (by simp))
  go_wp2_with fail
  try clear z0
  refine wp_region_pf [(.val, 1), (.val, 2), (.val, 3), (.call, 4), (.val, 0), (.val, 5), (.val, 6), (.mem, 7), (.call, 8), (.val, 9)] (by kernel_rfl) (by kernel_rfl) ?_
  intro wa ha
  replace HA := Lib.hid (HA.out.keep0 ha)
  replace HF := Lib.hid (HF.out.trans ha)
  replace HQ := Lib.hid (HQ.out.keep ha (by simp))
  replace BX := Lib.hid (BX.out.keep ha (by simp))
  clear ha
  have e6 := fun z : Kin wa => (actCells (HA.out.keep0 z.fr)).2.2.2.2.2.2.1
  have G := Lib.hid (Fr.refl [] wa)
  refine poF_vals 2 _ _ _ (by kernel_rfl) ?_
  simp only [opersOf, List.take_succ_cons, List.take_zero, List.filterMap_cons, List.filterMap_nil, List.getElem?_toArray, List.getElem?_cons_succ, List.getElem?_cons_zero, List.drop_succ_cons, List.drop_zero]
  show wpQuiet _ _ _ _ [_, _] _
  iterate 2 go_big_quiet_step (fail)
  refine wpQuiet_nil ?_
  skip
  refine poF_val1 _ (by simp only [List.getElem?_toArray, List.getElem?_cons_succ, List.getElem?_cons_zero]; rfl) rfl (.int .i64 bn) (fun u => run_len_sl _ _ 66 bo bn bc _ rfl rfl) ?_
  go_frame
  refine poF_call _ (by simp only [List.getElem?_toArray, List.getElem?_cons_succ, List.getElem?_cons_zero]; rfl) ?_
  intro u hu
  go_wp2_with fail
  refine (pair_any _ _).mono ?_
  rintro e u4 ⟨v4, rfl, ho, hf⟩
  rename_i K hK
  refine hK _ _ ?_
  refine ⟨rfl, rfl, hf, ?_⟩
  clear hK K
  have B3 := Lib.hid (ho.bs (A := fun _ => False) (by simp))
  replace G := Lib.hid (G.out.trans (hu.trans hf))
  replace HQ := Lib.hid (HQ.out.keep (hu.trans hf) (by simp))
  replace BX := Lib.hid (BX.out.keep (hu.trans hf) (by simp))
  obtain ⟨o3, n3, c3, rfl⟩ := bs_shape B3.out
  clear hu hf ho
  refine poF_vals 3 _ _ _ (by kernel_rfl) ?_
  simp only [opersOf, List.take_succ_cons, List.take_zero, List.filterMap_cons, List.filterMap_nil, List.getElem?_toArray, List.getElem?_cons_succ, List.getElem?_cons_zero, List.drop_succ_cons, List.drop_zero]
  show wpQuiet _ _ _ _ [_, _, _] _
  iterate 3 go_big_quiet_step (fail)
  refine wpQuiet_nil ?_
  refine poF_new _ (by simp only [List.getElem?_toArray, List.getElem?_cons_succ, List.getElem?_cons_zero]; rfl) rfl (.cells #[.slice qo qn qc, .slice o3 n3 c3, .slice bo bn bc] 59) (fun b => .slice (some ⟨b, 0, none⟩) 3 3) (fun _ => by kernel_rfl) ?_
  intro b4 wd _ hwd hAt4
  go_frame
  replace G := Lib.hid (G.out.trans hwd)
  replace HQ := Lib.hid (HQ.out.keep hwd (by simp))
  replace BX := Lib.hid (BX.out.keep hwd (by simp))
  replace B3 := Lib.hid (B3.out.keep hwd (by simp))
  have H4 := Lib.hid hAt4
  clear hwd hAt4
  refine poF_call _ (by simp only [List.getElem?_toArray, List.getElem?_cons_succ, List.getElem?_cons_zero]; rfl) ?_
  intro u hu
  replace G := Lib.hid (G.out.trans hu)
  replace HQ := Lib.hid (HQ.out.keep hu (by simp))
  replace BX := Lib.hid (BX.out.keep hu (by simp))
  replace B3 := Lib.hid (B3.out.keep hu (by simp))
  have HL := Lib.hid (show RdL (fun _ => False) u (.slice (some ⟨b4, 0, none⟩) 3 3) [(.slice qo qn qc, (entBase a ++ (b8 a.name.size :: (a.name.data.toList ++ laidL a.p0 a.p1 a.p2 a.p3 a.p4 a.p5)))), (.slice o3 n3 c3, be2 bn), (.slice bo bn bc, a.bytes)] from by
    refine ⟨vs_block (H4.out.keep0 hu) rfl (by simp) (by simp), fun x hx => ?_⟩
    simp only [List.mem_cons, List.not_mem_nil, or_false] at hx
    rcases hx with rfl | rfl | rfl
    · exact HQ.out.bs (by simp)
    · exact B3.out
    · exact BX.out)
  clear H4 hu B3
  go_wp2_with fail
  refine (concat_any (fun _ => False) _ _ _ HL.out (by simp) (by have := HL0.out; simp only [cat, List.flatMap_cons, List.flatMap_nil, List.append_nil, List.length_append, be2, List.length_cons, List.length_nil] at this ⊢; omega)).mono ?_
  rintro e u5 ⟨q5, rfl, ho, hf⟩
  rename_i K hK
  refine hK _ _ ?_
  refine ⟨rfl, rfl, hf, ?_⟩
  clear hK K
  have HR := Lib.hid (show OwnB 5 w.heap.size u5 q5 (entryL a) from by
    have h1 := ho.base (base' := w.heap.size) (by have := HF.out.size; have := G.out.size; omega)
    rw [HP.out]
    simpa [cat, entTail, HBN.out] using h1)
  replace G := Lib.hid (G.out.trans hf)
  clear ho hf HL e6
  refine poF_vals 1 _ _ _ (by kernel_rfl) ?_
  simp only [opersOf, List.take_succ_cons, List.take_zero, List.filterMap_cons, List.filterMap_nil, List.getElem?_toArray, List.getElem?_cons_succ, List.getElem?_cons_zero, List.drop_succ_cons, List.drop_zero]
  show wpQuiet _ _ _ _ [_] _
  iterate 1 go_big_quiet_step (fail)
  refine wpQuiet_nil ?_
  refine poF_end ?_
  intro wy hy
  have HZ := Lib.hid (HR.out.keep hy (by simp))
  have GZ := Lib.hid ((HF.out.trans G.out).trans hy)
  clear hy
  go_wp2
  go_ret
  exact ⟨_, rfl, HZ.out, GZ.out⟩
end Go.Proofs.YtbohmnblegljkaaDoor
namespace Go.Proofs.YtbohmnblegljkaaDoor
open Go.RowKit Go.Bl
set_option linter.unusedVariables false

theorem entry_any (w : World) (a : ActP) (v : Value) (hb : Bs (fun _ => False) w v a.bytes) (hlen : a.bytes.length ≤ 70000) (hnl : a.name.size ≤ 1000) :
    Calls Tryd.prog 49 #[.agg (actC a v)] w fun e w' => ∃ u, e = .returned u ∧ OwnB 5 w.heap.size w' u (entryL a) ∧ Fr [] w w' := by
  obtain ⟨bo, bn, bc, rfl⟩ := bs_shape hb
  by_cases h10 : a.kind = 10
  · exact entry_10 w a bo bn bc hb hlen hnl h10
  by_cases h1 : a.kind = 1
  · exact entry_1 w a bo bn bc hb hlen hnl h1
  by_cases h9 : a.kind = 9
  · exact entry_9 w a bo bn bc hb hlen hnl h9
  by_cases h13 : a.kind = 13
  · exact entry_13 w a bo bn bc hb hlen hnl h13
  · exact entry_o w a bo bn bc hb hlen hnl h10 h1 h9 h13

theorem plainA_bytes (a : ActP) : (plainA a).bytes.length ≤ 65535 := by
  unfold plainA
  split
  · simp [plainBase]
  · split
    · simp; omega
    · split
      · simp; omega
      · simp [plainBase]
theorem plainA_name (a : ActP) : (plainA a).name.size ≤ 1000 := by
  have h0 : (⟨#[]⟩ : ByteArray).size ≤ 1000 := Nat.zero_le _
  unfold plainA
  split
  · exact h0
  · split
    · simp only [ByteArray.size_extract]; omega
    · split
      · exact h0
      · exact h0
/-- the bytes of all acts -/
def encL (l : List ActP) : List UInt8 := l.flatMap fun a => entryL (plainA a)
theorem encL_take (l : List AV) (j : Nat) (x : AV) (h : l[j]? = some x) : encL ((l.take (j + 1)).map (·.1)) = encL ((l.take j).map (·.1)) ++ entryL (plainA x.1) := by
  unfold encL
  rw [List.take_add_one, h]
  simp
theorem entryL_len (a : ActP) (h1 : a.bytes.length ≤ 65535) (h2 : a.name.size ≤ 1000) : (entryL a).length ≤ 100000 := by
  have h9 : a.name.data.size = a.name.size := rfl
  unfold entryL
  split
  · simp [entBase, be2, beK]
  · split
    · simp [entBase, be2, laidL, entTail]; omega
    · split
      · simp [entBase, be2, entTail]; omega
      · simp [entBase, be2]
theorem encL_len (l : List ActP) : (encL l).length ≤ l.length * 100000 := by
  induction l with
  | nil => simp [encL]
  | cons a l ih =>
    have := entryL_len (plainA a) (plainA_bytes a) (plainA_name a)
    have hc : encL (a :: l) = entryL (plainA a) ++ encL l := by simp [encL]
    rw [hc, List.length_append, List.length_cons]
    omega

set_option maxRecDepth 100000 in
set_option maxHeartbeats 4000000 in
theorem encode_ok (A : Nat → Prop) (w : World) (v : Value) (l : List AV) (hr : RdA A w v l) (hl : l.length ≤ 30) (hby : ∀ x ∈ l, x.1.bytes.length ≤ 70000) (hk : ∀ x ∈ l, 0 ≤ x.1.kind ∧ x.1.kind ≤ 255) :
    Calls Tryd.prog 29 #[v] w fun e w' => ∃ u, e = .returned (.tuple #[u, .nilIface]) ∧ OwnB 5 w.heap.size w' u (encL (l.map (·.1))) ∧ Fr [] w w' := by
  have HR := Lib.hid hr
  have HBY := Lib.hid hby
  have HKD := Lib.hid hk
  obtain ⟨a, cap, rfl, h2, h3, h4⟩ := hr.shape
  obtain ⟨N, hN⟩ : ∃ N, l.length = N := ⟨_, rfl⟩
  rw [hN] at HR h2 h4 hl ⊢
  have HN := Lib.hid hN
  have H4 := Lib.hid h4
  clear hr hN h4 hby hk
  unfold maxLen at h3
  go_enter Tryd.func29, Tryd.ntmps29
  go_wp2
  go_loopw [4, 9] (fun o i wr => ∃ j : Nat, j ≤ N ∧ i = .int .i64 j ∧ Hid (OwnB 5 w.heap.size wr o (encL ((l.take j).map (·.1)))) ∧ Hid (Fr [] w wr)) (fun _ i _ => N - (intOf i).toNat)
  case atStart => exact ⟨0, by omega, rfl, OwnB.nil _ _ _, Fr.refl _ _⟩
  case round =>
    obtain ⟨j, hj, rfl, HO, HF⟩ := hrel
    by_cases hjn : j < N
    · obtain ⟨b, off, rfl, hnA, hcell⟩ := H4.out (by omega)
      obtain ⟨x, hx⟩ : ∃ x, l[j]? = some x := ⟨_, List.getElem?_eq_getElem (by have := HN.out; omega)⟩
      have hc := hcell j x hx
      have hm : x ∈ l := List.mem_of_getElem? hx
      have hbx := HR.out.2 x hm
      obtain ⟨bo, bn, bc, hb⟩ := bs_shape hbx
      have hby := HBY.out x hm
      have hkd := HKD.out x hm
      have HT := Lib.hid (encL_take l j x hx)
      have hel := encL_len ((l.take j).map (·.1))
      obtain ⟨ac, bv⟩ := x
      simp only at hb hby hkd hbx
      subst hb
      have hc' : wr.rangeAt b (off + j * 16) (avC (ac, .slice bo bn bc)) := fun f u hu => cell_mono HF.out (hc f u hu)
      have HC := Lib.hid hc'
      have BX := Lib.hid (hbx.keep HF.out (by simp))
      have HEL := Lib.hid (show (encL ((l.take j).map (·.1))).length ≤ 3000000 by
        have : ((l.take j).map (·.1)).length ≤ 30 := by simp; omega
        omega)
      obtain ⟨k0, hk0⟩ : ∃ k, ac.kind = k := ⟨_, rfl⟩
      clear hcell hc hc' hx hm hbx hel
      have HNB := Lib.hid (show (wr.alloc (.cells (actC ac (.slice bo bn bc)) 71)).rangeAt wr.heap.size 0 (actC ac (.slice bo bn bc)).toList from range_at' (At.new rfl))
      have z0 : (wr.alloc (.cells (actC ac (.slice bo bn bc)) 71)).cell? ⟨wr.heap.size, 0, none⟩ = some (.int .i64 ac.kind) := (actCells (show At (wr.alloc (actO ac (.slice bo bn bc) 71)) wr.heap.size (actO ac (.slice bo bn bc) 71) from At.new rfl)).1
      have z1 : (actC ac (.slice bo bn bc))[0]? = some (.int .i64 ac.kind) := rfl
      clear hk0
      go_wp2_with (first | (refine wpl_load_row (.tmp 11) rfl rfl b (off + j * 16) (actC ac (.slice bo bn bc)) rfl HC.out Tryd.underlying71 rfl (by kernel_rfl) ?_) | (refine wpl_store_new (.tmp 6) (.tmp 12) rfl rfl (actC ac (.slice bo bn bc)) rfl rfl (by kernel_rfl) rfl (by simp [actC, Value.oneCell']) ?_) | (refine wpl_load_row (.tmp 6) rfl rfl wr.heap.size 0 (actC ac (.slice bo bn bc)) rfl HNB.out Tryd.underlying71 rfl (by kernel_rfl) ?_))
      have G := Lib.hid (show Fr [] w (wr.alloc (actO ac (.slice bo bn bc) 71)) from Fr.al HF.out)
      have HO1 := Lib.hid (HO.out.keep (Fr.alloc (S := []) wr (actO ac (.slice bo bn bc) 71)) (by simp))
      have BX1 := Lib.hid (BX.out.keep (Fr.alloc (S := []) wr (actO ac (.slice bo bn bc) 71)) (by simp))
      refine (Plain_any A _ ac _ BX1.out (by omega)).mono ?_
      rintro e w2 ⟨pv, rfl, ho, hf⟩
      have G2 := Lib.hid (G.out.trans hf)
      have HO2 := Lib.hid (HO1.out.keep hf (by simp))
      have BP := Lib.hid (ho.bs (A := fun _ => False) (by simp))
      obtain ⟨po, pn, pc, rfl⟩ := bs_shape BP.out
      clear ho hf z0 z1 HNB HC BX BX1 HO1 HO HF G
      go_wp2_with fail
      refine (entry_any _ (plainA ac) _ BP.out (by have := plainA_bytes ac; omega) (plainA_name ac)).mono ?_
      rintro e w3 ⟨ev, rfl, ho, hf⟩
      have G3 := Lib.hid (G2.out.trans hf)
      have HO3 := Lib.hid (HO2.out.keep hf (by simp))
      have BE := Lib.hid (ho.bs (A := fun _ => False) (by simp))
      obtain ⟨eo, en, ec, rfl⟩ := bs_shape BE.out
      have hs3 := G3.out.size
      have hll : (encL ((l.take j).map (·.1))).length + (entryL (plainA ac)).length ≤ 140737488355328 := by
        have := HEL.out
        have := entryL_len (plainA ac) (plainA_bytes ac) (plainA_name ac)
        omega
      have HLL := Lib.hid hll
      clear ho hf HO2 G2 BP hll
      go_wp2_with (at_builtin; refine wpl_append_bs (A := fun _ => False) (base := w.heap.size) Tryd.underlying59 Tryd.infoByte rfl (.tmp 22) (.tmp 25) rfl rfl rfl HO3.out BE.out HLL.out hs3 ?_)
      intro v' w4 h5 h6
      have HO4 := Lib.hid (show OwnB 5 w.heap.size w4 v' (encL ((l.take (j + 1)).map (·.1))) by rw [HT.out, List.map_take]; exact h5)
      have HF4 := Lib.hid (show Fr [] w w4 from OwnB.fr HO3.out G3.out h6 (Nat.le_refl _))
      clear h5 h6 HO3 G3 BE HLL
      go_wp2
      go_roundw
      case rel => exact ⟨j + 1, by omega, by go_num, HO4.out, HF4.out⟩
      case measure => simp [intOf]; omega
    · obtain rfl : j = N := by omega
      have hla : l.take j = l := List.take_of_length_le (by have := HN.out; omega)
      rw [hla] at HO
      clear H4 hla
      go_wp2
      go_ret2
      exact ⟨_, rfl, HO.out, HF.out⟩
end Go.Proofs.YtbohmnblegljkaaDoor
