/-
  Layer 31: parameters as they are written.
  Layer 31: an act's plain form. (printed by genpln.py)
-/
import Derived.Test.YtbohmnblegljkaaDoorGD
import Derived.Test.YtbohmnblegljkaaDoorGB
namespace Go.Proofs.YtbohmnblegljkaaDoor
open Go.RowKit Go.Bl
set_option linter.unusedVariables false

def par6 (p0 p1 p2 p3 p4 p5 : Int) : Array Value := #[.int .i64 p0, .int .i64 p1, .int .i64 p2, .int .i64 p3, .int .i64 p4, .int .i64 p5]

set_option maxRecDepth 100000 in
set_option maxHeartbeats 4000000 in
theorem plainp_any (w : World) (p0 p1 p2 p3 p4 p5 : Int) :
    Calls Tryd.prog 54 #[.agg #[.int .i64 p0, .int .i64 p1, .int .i64 p2, .int .i64 p3, .int .i64 p4, .int .i64 p5]] w fun e w' => e = .returned (.agg #[.int .i64 (p0 % 65536), .int .i64 (p1 % 256), .int .i64 (p2 % 256), .int .i64 (p3 % 65536), .int .i64 (p4 % 65536), .int .i64 (p5 % 256)]) ∧ Fr [] w w' := by
  have HA := Lib.hid (show At ((w.alloc (.cells #[.int .i64 p0, .int .i64 p1, .int .i64 p2, .int .i64 p3, .int .i64 p4, .int .i64 p5] 36)).alloc (.cells #[.int .i64 0, .int .i64 0, .int .i64 0, .int .i64 0, .int .i64 0, .int .i64 0] 36)) w.heap.size (.cells #[.int .i64 p0, .int .i64 p1, .int .i64 p2, .int .i64 p3, .int .i64 p4, .int .i64 p5] 36) from (At.new rfl).al)
  have HB := Lib.hid (show At ((w.alloc (.cells #[.int .i64 p0, .int .i64 p1, .int .i64 p2, .int .i64 p3, .int .i64 p4, .int .i64 p5] 36)).alloc (.cells #[.int .i64 0, .int .i64 0, .int .i64 0, .int .i64 0, .int .i64 0, .int .i64 0] 36)) (w.heap.size + 1) (.cells #[.int .i64 0, .int .i64 0, .int .i64 0, .int .i64 0, .int .i64 0, .int .i64 0] 36) from At.new (by simp))
  have HF := Lib.hid (show Fr [] w ((w.alloc (.cells #[.int .i64 p0, .int .i64 p1, .int .i64 p2, .int .i64 p3, .int .i64 p4, .int .i64 p5] 36)).alloc (.cells #[.int .i64 0, .int .i64 0, .int .i64 0, .int .i64 0, .int .i64 0, .int .i64 0] 36)) from Fr.al (Fr.alloc _ _))
  go_enter Tryd.func54, Tryd.ntmps54
  go_wp2_with fail
  refine wp_region_pf [(.val, 0), (.val, 1), (.call, 2), (.val, 3), (.val, 4), (.call, 5), (.val, 6), (.val, 7), (.call, 8), (.val, 9), (.val, 10), (.call, 11), (.val, 12), (.val, 13), (.call, 14), (.val, 15), (.val, 16), (.call, 17), (.val, 18), (.tail, 19)] (by kernel_rfl) (by kernel_rfl) ?_
  intro wa ha
  replace HA := Lib.hid (HA.out.keep0 ha)
  replace HB := Lib.hid (HB.out.keep0 ha)
  replace HF := Lib.hid (HF.out.trans ha)
  clear ha
  have e0 := fun z : Kin wa => (HA.out.keep0 z.fr).cell 0
  have e1 := fun z : Kin wa => (HA.out.keep0 z.fr).cell 1
  have e2 := fun z : Kin wa => (HA.out.keep0 z.fr).cell 2
  have e3 := fun z : Kin wa => (HA.out.keep0 z.fr).cell 3
  have e4 := fun z : Kin wa => (HA.out.keep0 z.fr).cell 4
  have e5 := fun z : Kin wa => (HA.out.keep0 z.fr).cell 5
  simp only [List.getElem?_toArray, List.getElem?_cons_zero, List.getElem?_cons_succ] at e0 e1 e2 e3 e4 e5
  have G := Lib.hid (Fr.refl [] wa)
  refine poF_vals 2 _ _ _ (by kernel_rfl) ?_
  simp only [opersOf, List.take_succ_cons, List.take_zero, List.filterMap_cons, List.filterMap_nil, List.getElem?_toArray, List.getElem?_cons_succ, List.getElem?_cons_zero, List.drop_succ_cons, List.drop_zero]
  show wpQuiet _ _ _ _ [_, _] _
  iterate 2 go_big_quiet_step (fail)
  refine wpQuiet_nil ?_
  refine poF_call _ (by simp only [List.getElem?_toArray, List.getElem?_cons_succ, List.getElem?_cons_zero]; rfl) ?_
  intro u hu
  go_wp2_with fail
  refine (rest_any _ _ _ (by omega)).mono ?_
  rintro e u0 ⟨rfl, hf⟩
  rename_i K hK
  refine hK _ _ ?_
  refine ⟨rfl, rfl, hf, ?_⟩
  clear hK K
  replace G := Lib.hid ((G.out.trans hu).trans hf)
  clear hu hf
  refine poF_vals 2 _ _ _ (by kernel_rfl) ?_
  simp only [opersOf, List.take_succ_cons, List.take_zero, List.filterMap_cons, List.filterMap_nil, List.getElem?_toArray, List.getElem?_cons_succ, List.getElem?_cons_zero, List.drop_succ_cons, List.drop_zero]
  show wpQuiet _ _ _ _ [_, _] _
  iterate 2 go_big_quiet_step (fail)
  refine wpQuiet_nil ?_
  refine poF_call _ (by simp only [List.getElem?_toArray, List.getElem?_cons_succ, List.getElem?_cons_zero]; rfl) ?_
  intro u hu
  go_wp2_with fail
  refine (rest_any _ _ _ (by omega)).mono ?_
  rintro e u1 ⟨rfl, hf⟩
  rename_i K hK
  refine hK _ _ ?_
  refine ⟨rfl, rfl, hf, ?_⟩
  clear hK K
  replace G := Lib.hid ((G.out.trans hu).trans hf)
  clear hu hf
  refine poF_vals 2 _ _ _ (by kernel_rfl) ?_
  simp only [opersOf, List.take_succ_cons, List.take_zero, List.filterMap_cons, List.filterMap_nil, List.getElem?_toArray, List.getElem?_cons_succ, List.getElem?_cons_zero, List.drop_succ_cons, List.drop_zero]
  show wpQuiet _ _ _ _ [_, _] _
  iterate 2 go_big_quiet_step (fail)
  refine wpQuiet_nil ?_
  refine poF_call _ (by simp only [List.getElem?_toArray, List.getElem?_cons_succ, List.getElem?_cons_zero]; rfl) ?_
  intro u hu
  go_wp2_with fail
  refine (rest_any _ _ _ (by omega)).mono ?_
  rintro e u2 ⟨rfl, hf⟩
  rename_i K hK
  refine hK _ _ ?_
  refine ⟨rfl, rfl, hf, ?_⟩
  clear hK K
  replace G := Lib.hid ((G.out.trans hu).trans hf)
  clear hu hf
  refine poF_vals 2 _ _ _ (by kernel_rfl) ?_
  simp only [opersOf, List.take_succ_cons, List.take_zero, List.filterMap_cons, List.filterMap_nil, List.getElem?_toArray, List.getElem?_cons_succ, List.getElem?_cons_zero, List.drop_succ_cons, List.drop_zero]
  show wpQuiet _ _ _ _ [_, _] _
  iterate 2 go_big_quiet_step (fail)
  refine wpQuiet_nil ?_
  refine poF_call _ (by simp only [List.getElem?_toArray, List.getElem?_cons_succ, List.getElem?_cons_zero]; rfl) ?_
  intro u hu
  go_wp2_with fail
  refine (rest_any _ _ _ (by omega)).mono ?_
  rintro e u3 ⟨rfl, hf⟩
  rename_i K hK
  refine hK _ _ ?_
  refine ⟨rfl, rfl, hf, ?_⟩
  clear hK K
  replace G := Lib.hid ((G.out.trans hu).trans hf)
  clear hu hf
  refine poF_vals 2 _ _ _ (by kernel_rfl) ?_
  simp only [opersOf, List.take_succ_cons, List.take_zero, List.filterMap_cons, List.filterMap_nil, List.getElem?_toArray, List.getElem?_cons_succ, List.getElem?_cons_zero, List.drop_succ_cons, List.drop_zero]
  show wpQuiet _ _ _ _ [_, _] _
  iterate 2 go_big_quiet_step (fail)
  refine wpQuiet_nil ?_
  refine poF_call _ (by simp only [List.getElem?_toArray, List.getElem?_cons_succ, List.getElem?_cons_zero]; rfl) ?_
  intro u hu
  go_wp2_with fail
  refine (rest_any _ _ _ (by omega)).mono ?_
  rintro e u4 ⟨rfl, hf⟩
  rename_i K hK
  refine hK _ _ ?_
  refine ⟨rfl, rfl, hf, ?_⟩
  clear hK K
  replace G := Lib.hid ((G.out.trans hu).trans hf)
  clear hu hf
  refine poF_vals 2 _ _ _ (by kernel_rfl) ?_
  simp only [opersOf, List.take_succ_cons, List.take_zero, List.filterMap_cons, List.filterMap_nil, List.getElem?_toArray, List.getElem?_cons_succ, List.getElem?_cons_zero, List.drop_succ_cons, List.drop_zero]
  show wpQuiet _ _ _ _ [_, _] _
  iterate 2 go_big_quiet_step (fail)
  refine wpQuiet_nil ?_
  refine poF_call _ (by simp only [List.getElem?_toArray, List.getElem?_cons_succ, List.getElem?_cons_zero]; rfl) ?_
  intro u hu
  go_wp2_with fail
  refine (rest_any _ _ _ (by omega)).mono ?_
  rintro e u5 ⟨rfl, hf⟩
  rename_i K hK
  refine hK _ _ ?_
  refine ⟨rfl, rfl, hf, ?_⟩
  clear hK K
  replace G := Lib.hid ((G.out.trans hu).trans hf)
  clear hu hf
  refine poF_vals 1 _ _ _ (by kernel_rfl) ?_
  simp only [opersOf, List.take_succ_cons, List.take_zero, List.filterMap_cons, List.filterMap_nil, List.getElem?_toArray, List.getElem?_cons_succ, List.getElem?_cons_zero, List.drop_succ_cons, List.drop_zero]
  show wpQuiet _ _ _ _ [_] _
  iterate 1 go_big_quiet_step (fail)
  refine wpQuiet_nil ?_
  refine poF_tail _ (by simp only [List.getElem?_toArray, List.getElem?_cons_succ, List.getElem?_cons_zero]; rfl) ?_
  intro u hu
  replace G := Lib.hid (G.out.trans hu)
  replace HB := Lib.hid (HB.out.keep0 G.out)
  replace HF := Lib.hid (HF.out.trans G.out)
  clear hu G e0 e1 e2 e3 e4 e5
  refine wpl_store_at (.tmp 2) (.tmp 21) rfl rfl #[.int .i64 (p0 % 65536), .int .i64 (p1 % 256), .int .i64 (p2 % 256), .int .i64 (p3 % 65536), .int .i64 (p4 % 65536), .int .i64 (p5 % 256)] rfl rfl (by kernel_rfl) HB.out (by simp) (by simp [Value.oneCell']) ?_
  intro wz hf hA hs
  refine ⟨rfl, rfl, ?_⟩
  go_frame
  refine poF_end ?_
  intro wy hy
  have hA2 := hA.keep0 hy
  have hc0 := hA2.cell 0
  have hc1 := hA2.cell 1
  have hc2 := hA2.cell 2
  have hc3 := hA2.cell 3
  have hc4 := hA2.cell 4
  have hc5 := hA2.cell 5
  simp at hc0 hc1 hc2 hc3 hc4 hc5
  have G := Lib.hid ((HF.out.then hf (by intro b hb; simp at hb; omega)).trans hy)
  clear hf hA hs hy hA2 HA HB HF
  go_wp2
  exact bodyPost_ret (v := .agg #[.int .i64 (p0 % 65536), .int .i64 (p1 % 256), .int .i64 (p2 % 256), .int .i64 (p3 % 65536), .int .i64 (p4 % 65536), .int .i64 (p5 % 256)]) (by simp [results, Tryd.results54, go_sem, hc0, hc1, hc2, hc3, hc4, hc5]) rfl ⟨rfl, G.out⟩
end Go.Proofs.YtbohmnblegljkaaDoor
namespace Go.Proofs.YtbohmnblegljkaaDoor
open Go.RowKit Go.Bl
set_option linter.unusedVariables false

theorem range_at' {w : World} {b : Nat} {c : Array Value} {t : TypeId} {fz : Nat × Nat} (h : At w b (.cells c t fz)) : w.rangeAt b 0 c.toList := fun j v hj => by
  rw [Nat.zero_add, h.cell]
  simpa using hj
def plainBase (a : ActP) : ActP := ⟨a.kind, a.n % 65536, a.i % 65536, a.at_ % 65536, a.by_ % 256, ⟨#[]⟩, [], 0, 0, 0, 0, 0, 0, 0, 0, 0⟩
/-- what an act's kind has alone -/
def plainA (a : ActP) : ActP :=
  if a.kind = 10 then { plainBase a with kept := a.kept % 256, torn := a.torn % 256, scat := a.scat }
  else if a.kind = 1 then { plainBase a with name := a.name.extract 0 (min a.name.size 255), p0 := a.p0 % 65536, p1 := a.p1 % 256, p2 := a.p2 % 256, p3 := a.p3 % 65536, p4 := a.p4 % 65536, p5 := a.p5 % 256, bytes := a.bytes.take 65535 }
  else if a.kind = 9 ∨ a.kind = 13 then { plainBase a with bytes := a.bytes.take 65535 }
  else plainBase a
end Go.Proofs.YtbohmnblegljkaaDoor
