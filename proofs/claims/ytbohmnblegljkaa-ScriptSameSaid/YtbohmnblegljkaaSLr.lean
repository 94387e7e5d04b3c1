/-
  The law ScriptSame: the walk.
-/
import Derived.Test.YtbohmnblegljkaaSLb
namespace Go.Proofs.Ytbohmnblegljkaa
open Go.RowKit Go.Bl
set_option linter.unusedVariables false

theorem range_at {w : World} {b : Nat} {c : Array Value} {t : TypeId} {fz : Nat × Nat} (h : At w b (.cells c t fz)) : w.rangeAt b 0 c.toList := fun j v hj => by
  rw [Nat.zero_add, h.cell]
  simpa using hj
noncomputable def lawReg : Code := ((Try.f4.body.bind (findRegion 5)).getD .skip)
set_option maxRecDepth 1000000 in
set_option maxHeartbeats 8000000 in
theorem scriptSame_reg (w : World) (r2 r3 : Nat) (x y : ActP) (ao eo : Option Addr) (an ac en ec : Nat) (c0 c1 c5 c6 c7 c8 c9 c10 u4 u11 u12 u13 u14 u15 u16 u17 u18 u19 u20 u21 u22 u23 u24 u25 u26 : Value) (Q : Exit → Go.Act → World → Prop) (r : Bool) (hr : (r = true ∧ x = y) ∨ (r = false ∧ x ≠ y))
    (hA : At w r2 (actO x (.slice ao an ac) 39)) (hB : At w r3 (actO y (.slice eo en ec) 39)) (hx : Bs (fun _ => False) w (.slice ao an ac) x.bytes) (hy : Bs (fun _ => False) w (.slice eo en ec) y.bytes)
    (hQ : ∀ (xu11 xu12 xu13 xu14 xu15 xu16 xu17 xu18 xu19 xu20 xu21 xu22 xu23 xu24 xu25 xu26 : Value) (w' : World), Fr [] w w' → Q .normal ⟨#[c0, c1, .pointer (some ⟨r2, 0, none⟩), .pointer (some ⟨r3, 0, none⟩), .bool true, c5, c6, c7, c8, c9, c10, xu11, xu12, xu13, xu14, xu15, xu16, xu17, xu18, xu19, xu20, xu21, xu22, xu23, xu24, xu25, xu26], []⟩ w') :
    Code.wp Try.prog lawReg Q ⟨#[c0, c1, .pointer (some ⟨r2, 0, none⟩), .pointer (some ⟨r3, 0, none⟩), u4, c5, c6, c7, c8, c9, c10, u11, u12, u13, u14, u15, u16, u17, u18, u19, u20, u21, u22, u23, u24, u25, u26], []⟩ w := by
  have HR := Lib.hid hr
  have HA := Lib.hid hA
  have HB := Lib.hid hB
  have BX := Lib.hid hx
  have BY := Lib.hid hy
  have HQ := Lib.hid hQ
  have HF := Lib.hid (Fr.refl [] w)
  clear hr hA hB hx hy hQ
  conv => arg 2; whnf
  refine wp_region_pf [(.val, 0), (.val, 1), (.call, 2), (.val, 3), (.mem, 4), (.call, 5), (.val, 6), (.mem, 7), (.call, 8), (.call, 9), (.val, 10), (.val, 11), (.val, 12), (.val, 13), (.call, 14), (.val, 15), (.val, 16)] (by kernel_rfl) (by kernel_rfl) ?_
  intro wa ha
  replace HA := Lib.hid (HA.out.keep0 ha)
  replace HB := Lib.hid (HB.out.keep0 ha)
  replace HF := Lib.hid (HF.out.trans ha)
  replace BX := Lib.hid (BX.out.keep ha (by simp))
  replace BY := Lib.hid (BY.out.keep ha (by simp))
  clear ha
  have RX := Lib.hid (fun z : Kin wa => range_at (HA.out.keep0 z.fr))
  have RY := Lib.hid (fun z : Kin wa => range_at (HB.out.keep0 z.fr))
  skip
  refine poF_vals 2 _ _ _ (by kernel_rfl) ?_
  simp only [opersOf, List.take_succ_cons, List.take_zero, List.filterMap_cons, List.filterMap_nil, List.getElem?_toArray, List.getElem?_cons_succ, List.getElem?_cons_zero, List.drop_succ_cons, List.drop_zero]
  show wpQuiet _ _ _ _ [_, _] _
  refine BigFrame.wpQuiet_want rfl fun K hK => ?_
  refine quiet_of_run (.agg #[.int .i64 x.kind, .int .i64 x.n, .int .i64 x.i, .int .i64 x.at_, .int .i64 x.by_, .string x.name, .slice ao an ac, .int .i64 x.p0, .int .i64 x.p1, .int .i64 x.p2, .int .i64 x.p3, .int .i64 x.p4, .int .i64 x.p5, .int .i64 x.kept, .int .i64 x.torn, .int .u64 x.scat]) ?_ (hK _ ?_)
  · rintro _ ⟨z, rfl⟩
    exact run_load_row (.tmp 2) rfl r2 0 #[.int .i64 x.kind, .int .i64 x.n, .int .i64 x.i, .int .i64 x.at_, .int .i64 x.by_, .string x.name, .slice ao an ac, .int .i64 x.p0, .int .i64 x.p1, .int .i64 x.p2, .int .i64 x.p3, .int .i64 x.p4, .int .i64 x.p5, .int .i64 x.kept, .int .i64 x.torn, .int .u64 x.scat] _ rfl (RX.out z) Try.underlying39 rfl (by kernel_rfl)
  simp only [Act.put, List.setIfInBounds_toArray, List.set_cons_succ, List.set_cons_zero]
  refine BigFrame.wpQuiet_want rfl fun K hK => ?_
  refine quiet_of_run (.agg #[.int .i64 y.kind, .int .i64 y.n, .int .i64 y.i, .int .i64 y.at_, .int .i64 y.by_, .string y.name, .slice eo en ec, .int .i64 y.p0, .int .i64 y.p1, .int .i64 y.p2, .int .i64 y.p3, .int .i64 y.p4, .int .i64 y.p5, .int .i64 y.kept, .int .i64 y.torn, .int .u64 y.scat]) ?_ (hK _ ?_)
  · rintro _ ⟨z, rfl⟩
    exact run_load_row (.tmp 3) rfl r3 0 #[.int .i64 y.kind, .int .i64 y.n, .int .i64 y.i, .int .i64 y.at_, .int .i64 y.by_, .string y.name, .slice eo en ec, .int .i64 y.p0, .int .i64 y.p1, .int .i64 y.p2, .int .i64 y.p3, .int .i64 y.p4, .int .i64 y.p5, .int .i64 y.kept, .int .i64 y.torn, .int .u64 y.scat] _ rfl (RY.out z) Try.underlying39 rfl (by kernel_rfl)
  simp only [Act.put, List.setIfInBounds_toArray, List.set_cons_succ, List.set_cons_zero]
  refine wpQuiet_nil ?_
  refine poF_call _ (by simp only [List.getElem?_toArray, List.getElem?_cons_succ, List.getElem?_cons_zero]; rfl) ?_
  intro u hu
  go_wp2_with fail
  refine (ssame_any (fun _ => False) _ x y _ _ (BX.out.keep hu (by simp)) (BY.out.keep hu (by simp)) r HR.out).mono ?_
  rintro e ub ⟨rfl, hf⟩
  rename_i K hK
  refine hK _ _ ?_
  refine ⟨rfl, rfl, hf, ?_⟩
  clear hK K
  have G1 := Lib.hid (hu.trans hf)
  clear hu hf
  skip
  refine poF_vals 1 _ _ _ (by kernel_rfl) ?_
  simp only [opersOf, List.take_succ_cons, List.take_zero, List.filterMap_cons, List.filterMap_nil, List.getElem?_toArray, List.getElem?_cons_succ, List.getElem?_cons_zero, List.drop_succ_cons, List.drop_zero]
  show wpQuiet _ _ _ _ [_] _
  refine BigFrame.wpQuiet_want rfl fun K hK => ?_
  refine quiet_of_run (.agg #[.int .i64 x.kind, .int .i64 x.n, .int .i64 x.i, .int .i64 x.at_, .int .i64 x.by_, .string x.name, .slice ao an ac, .int .i64 x.p0, .int .i64 x.p1, .int .i64 x.p2, .int .i64 x.p3, .int .i64 x.p4, .int .i64 x.p5, .int .i64 x.kept, .int .i64 x.torn, .int .u64 x.scat]) ?_ (hK _ ?_)
  · rintro _ ⟨z, rfl⟩
    exact run_load_row (.tmp 2) rfl r2 0 #[.int .i64 x.kind, .int .i64 x.n, .int .i64 x.i, .int .i64 x.at_, .int .i64 x.by_, .string x.name, .slice ao an ac, .int .i64 x.p0, .int .i64 x.p1, .int .i64 x.p2, .int .i64 x.p3, .int .i64 x.p4, .int .i64 x.p5, .int .i64 x.kept, .int .i64 x.torn, .int .u64 x.scat] _ rfl (RX.out z) Try.underlying39 rfl (by kernel_rfl)
  simp only [Act.put, List.setIfInBounds_toArray, List.set_cons_succ, List.set_cons_zero]
  refine wpQuiet_nil ?_
  refine poF_new _ (by simp only [List.getElem?_toArray, List.getElem?_cons_succ, List.getElem?_cons_zero]; rfl) rfl (.cells #[.int .i64 x.kind, .int .i64 x.n, .int .i64 x.i, .int .i64 x.at_, .int .i64 x.by_, .string x.name, .slice ao an ac, .int .i64 x.p0, .int .i64 x.p1, .int .i64 x.p2, .int .i64 x.p3, .int .i64 x.p4, .int .i64 x.p5, .int .i64 x.kept, .int .i64 x.torn, .int .u64 x.scat] 39) (fun b => .slice (some ⟨b, 0, none⟩) 1 1) (fun u => build_one u x ao an ac _ 14 rfl _ rfl) ?_
  intro b1 wb _ hwb hAt1
  go_frame
  replace G1 := Lib.hid (G1.out.trans hwb)
  refine poF_call _ (by simp only [List.getElem?_toArray, List.getElem?_cons_succ, List.getElem?_cons_zero]; rfl) ?_
  intro u2 hu2
  have HR1 := Lib.hid (rd_one (fun _ => False) u2 b1 x ao an ac (hAt1.keep0 hu2) (by simp) (BX.out.keep (G1.out.trans hu2) (by simp)))
  go_wp2_with fail
  refine (of31_any (fun _ => False) _ _ _ HR1.out (by simp)).mono ?_
  rintro e uc ⟨q, rfl, o4, hf⟩
  rename_i K hK
  refine hK _ _ ?_
  refine ⟨rfl, rfl, hf, ?_⟩
  clear hK K
  have R2 := Lib.hid (RdA.of_own (A := fun _ => False) o4 (by simp) (fun z hz => (HR1.out.2 z hz).keep hf (by simp)))
  replace G1 := Lib.hid ((G1.out.trans hu2).trans hf)
  clear o4 hf hu2 HR1 hwb hAt1
  skip
  refine poF_vals 1 _ _ _ (by kernel_rfl) ?_
  simp only [opersOf, List.take_succ_cons, List.take_zero, List.filterMap_cons, List.filterMap_nil, List.getElem?_toArray, List.getElem?_cons_succ, List.getElem?_cons_zero, List.drop_succ_cons, List.drop_zero]
  show wpQuiet _ _ _ _ [_] _
  refine BigFrame.wpQuiet_want rfl fun K hK => ?_
  refine quiet_of_run (.agg #[.int .i64 y.kind, .int .i64 y.n, .int .i64 y.i, .int .i64 y.at_, .int .i64 y.by_, .string y.name, .slice eo en ec, .int .i64 y.p0, .int .i64 y.p1, .int .i64 y.p2, .int .i64 y.p3, .int .i64 y.p4, .int .i64 y.p5, .int .i64 y.kept, .int .i64 y.torn, .int .u64 y.scat]) ?_ (hK _ ?_)
  · rintro _ ⟨z, rfl⟩
    exact run_load_row (.tmp 3) rfl r3 0 #[.int .i64 y.kind, .int .i64 y.n, .int .i64 y.i, .int .i64 y.at_, .int .i64 y.by_, .string y.name, .slice eo en ec, .int .i64 y.p0, .int .i64 y.p1, .int .i64 y.p2, .int .i64 y.p3, .int .i64 y.p4, .int .i64 y.p5, .int .i64 y.kept, .int .i64 y.torn, .int .u64 y.scat] _ rfl (RY.out z) Try.underlying39 rfl (by kernel_rfl)
  simp only [Act.put, List.setIfInBounds_toArray, List.set_cons_succ, List.set_cons_zero]
  refine wpQuiet_nil ?_
  refine poF_new _ (by simp only [List.getElem?_toArray, List.getElem?_cons_succ, List.getElem?_cons_zero]; rfl) rfl (.cells #[.int .i64 y.kind, .int .i64 y.n, .int .i64 y.i, .int .i64 y.at_, .int .i64 y.by_, .string y.name, .slice eo en ec, .int .i64 y.p0, .int .i64 y.p1, .int .i64 y.p2, .int .i64 y.p3, .int .i64 y.p4, .int .i64 y.p5, .int .i64 y.kept, .int .i64 y.torn, .int .u64 y.scat] 39) (fun b => .slice (some ⟨b, 0, none⟩) 1 1) (fun u => build_one u y eo en ec _ 17 rfl _ rfl) ?_
  intro b2 wd _ hwd hAt2
  go_frame
  replace G1 := Lib.hid (G1.out.trans hwd)
  replace R2 := Lib.hid (R2.out.keep hwd (by simp))
  refine poF_call _ (by simp only [List.getElem?_toArray, List.getElem?_cons_succ, List.getElem?_cons_zero]; rfl) ?_
  intro u3 hu3
  have HR3 := Lib.hid (rd_one (fun _ => False) u3 b2 y eo en ec (hAt2.keep0 hu3) (by simp) (BY.out.keep (G1.out.trans hu3) (by simp)))
  go_wp2_with fail
  refine (of31_any (fun _ => False) _ _ _ HR3.out (by simp)).mono ?_
  rintro e ue ⟨q2, rfl, o5, hf⟩
  rename_i K hK
  refine hK _ _ ?_
  refine ⟨rfl, rfl, hf, ?_⟩
  clear hK K
  have R3 := Lib.hid (RdA.of_own (A := fun _ => False) o5 (by simp) (fun z hz => (HR3.out.2 z hz).keep hf (by simp)))
  replace R2 := Lib.hid (R2.out.keep (hu3.trans hf) (by simp))
  replace G1 := Lib.hid ((G1.out.trans hu3).trans hf)
  clear o5 hf hu3 HR3 hwd hAt2
  refine poF_call _ (by simp only [List.getElem?_toArray, List.getElem?_cons_succ, List.getElem?_cons_zero]; rfl) ?_
  intro u4 hu4
  go_wp2_with fail
  refine (rsame_any (fun _ => False) _ _ _ _ _ (R2.out.keep hu4 (by simp)) (R3.out.keep hu4 (by simp)) r HR.out).mono ?_
  rintro e uf ⟨rfl, hf⟩
  rename_i K hK
  refine hK _ _ ?_
  refine ⟨rfl, rfl, hf, ?_⟩
  clear hK K
  replace G1 := Lib.hid ((G1.out.trans hu4).trans hf)
  clear hf hu4 R2 R3
  skip
  refine poF_vals 4 _ _ _ (by kernel_rfl) ?_
  simp only [opersOf, List.take_succ_cons, List.take_zero, List.filterMap_cons, List.filterMap_nil, List.getElem?_toArray, List.getElem?_cons_succ, List.getElem?_cons_zero, List.drop_succ_cons, List.drop_zero]
  show wpQuiet _ _ _ _ [_, _, _, _] _
  iterate 2 go_big_quiet_step (fail)
  refine BigFrame.wpQuiet_want rfl fun K hK => ?_
  refine quiet_of_run (.agg #[.int .i64 x.kind, .int .i64 x.n, .int .i64 x.i, .int .i64 x.at_, .int .i64 x.by_, .string x.name, .slice ao an ac, .int .i64 x.p0, .int .i64 x.p1, .int .i64 x.p2, .int .i64 x.p3, .int .i64 x.p4, .int .i64 x.p5, .int .i64 x.kept, .int .i64 x.torn, .int .u64 x.scat]) ?_ (hK _ ?_)
  · rintro _ ⟨z, rfl⟩
    exact run_load_row (.tmp 2) rfl r2 0 #[.int .i64 x.kind, .int .i64 x.n, .int .i64 x.i, .int .i64 x.at_, .int .i64 x.by_, .string x.name, .slice ao an ac, .int .i64 x.p0, .int .i64 x.p1, .int .i64 x.p2, .int .i64 x.p3, .int .i64 x.p4, .int .i64 x.p5, .int .i64 x.kept, .int .i64 x.torn, .int .u64 x.scat] _ rfl (RX.out z) Try.underlying39 rfl (by kernel_rfl)
  simp only [Act.put, List.setIfInBounds_toArray, List.set_cons_succ, List.set_cons_zero]
  refine BigFrame.wpQuiet_want rfl fun K hK => ?_
  refine quiet_of_run (.agg #[.int .i64 x.kind, .int .i64 x.n, .int .i64 x.i, .int .i64 x.at_, .int .i64 x.by_, .string x.name, .slice ao an ac, .int .i64 x.p0, .int .i64 x.p1, .int .i64 x.p2, .int .i64 x.p3, .int .i64 x.p4, .int .i64 x.p5, .int .i64 x.kept, .int .i64 x.torn, .int .u64 x.scat]) ?_ (hK _ ?_)
  · rintro _ ⟨z, rfl⟩
    exact run_load_row (.tmp 2) rfl r2 0 #[.int .i64 x.kind, .int .i64 x.n, .int .i64 x.i, .int .i64 x.at_, .int .i64 x.by_, .string x.name, .slice ao an ac, .int .i64 x.p0, .int .i64 x.p1, .int .i64 x.p2, .int .i64 x.p3, .int .i64 x.p4, .int .i64 x.p5, .int .i64 x.kept, .int .i64 x.torn, .int .u64 x.scat] _ rfl (RX.out z) Try.underlying39 rfl (by kernel_rfl)
  simp only [Act.put, List.setIfInBounds_toArray, List.set_cons_succ, List.set_cons_zero]
  refine wpQuiet_nil ?_
  refine poF_call _ (by simp only [List.getElem?_toArray, List.getElem?_cons_succ, List.getElem?_cons_zero]; rfl) ?_
  intro u5 hu5
  go_wp2_with fail
  refine (ssame_eq (fun _ => False) _ x x _ _ (BX.out.keep (G1.out.trans hu5) (by simp)) (BX.out.keep (G1.out.trans hu5) (by simp)) rfl).mono ?_
  rintro e ug ⟨rfl, hf⟩
  rename_i K hK
  refine hK _ _ ?_
  refine ⟨rfl, rfl, hf, ?_⟩
  clear hK K
  replace G1 := Lib.hid ((G1.out.trans hu5).trans hf)
  clear hf hu5
  refine poF_vals 2 _ _ _ (by kernel_rfl) ?_
  simp only [opersOf, List.take_succ_cons, List.take_zero, List.filterMap_cons, List.filterMap_nil, List.getElem?_toArray, List.getElem?_cons_succ, List.getElem?_cons_zero, List.drop_succ_cons, List.drop_zero]
  show wpQuiet _ _ _ _ [_, _] _
  iterate 2 go_big_quiet_step (fail)
  refine wpQuiet_nil ?_
  refine poF_end ?_
  intro wz hwz
  have HZ := Lib.hid ((HF.out.trans G1.out).trans hwz)
  clear hwz
  exact HQ.out _ _ _ _ _ _ _ _ _ _ _ _ _ _ _ _ wz HZ.out

end Go.Proofs.Ytbohmnblegljkaa
