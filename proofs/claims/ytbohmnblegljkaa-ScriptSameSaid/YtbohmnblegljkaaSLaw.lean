/-
  The law ScriptSame: the walk.
-/
import Derived.Test.YtbohmnblegljkaaSLr
namespace Go.Proofs.Ytbohmnblegljkaa
open Go.RowKit Go.Bl
set_option linter.unusedVariables false

set_option maxRecDepth 1000000 in
set_option maxHeartbeats 8000000 in
theorem scriptSame_walk (W : World) (x y : ActP) (bx bv : Value) (hx : Bs (fun _ => False) W bx x.bytes) (hy : Bs (fun _ => False) W bv y.bytes) :
    Calls Try.prog 4 #[.agg (actC x bx), .agg (actC y bv)] W fun e w' => e = .returned (.bool true) ∧ Fr [] W w' := by
  obtain ⟨r, hr⟩ : ∃ r : Bool, (r = true ∧ x = y) ∨ (r = false ∧ x ≠ y) := by
    by_cases h : x = y
    · exact ⟨true, .inl ⟨rfl, h⟩⟩
    · exact ⟨false, .inr ⟨rfl, h⟩⟩
  have HR := Lib.hid hr
  have BX := Lib.hid hx
  have BY := Lib.hid hy
  obtain ⟨ao, an, ac, rfl⟩ := bs_shape hx
  obtain ⟨eo, en, ec, rfl⟩ := bs_shape hy
  clear hr hx hy
  have HA := Lib.hid (show At ((W.alloc (actO x (.slice ao an ac) 39)).alloc (actO y (.slice eo en ec) 39)) W.heap.size (actO x (.slice ao an ac) 39) from (At.new rfl).al)
  have HB := Lib.hid (show At ((W.alloc (actO x (.slice ao an ac) 39)).alloc (actO y (.slice eo en ec) 39)) (W.heap.size + 1) (actO y (.slice eo en ec) 39) from At.new (by simp))
  have HF := Lib.hid (show Fr [] W ((W.alloc (actO x (.slice ao an ac) 39)).alloc (actO y (.slice eo en ec) 39)) from Fr.al (Fr.alloc _ _))
  go_enter Try.func4, Try.ntmps4
  go_wp2_with fail
  refine (alive31_any _).mono ?_
  rintro e w1 ⟨rfl, f1⟩
  replace HA := Lib.hid (HA.out.keep0 f1)
  replace HB := Lib.hid (HB.out.keep0 f1)
  replace HF := Lib.hid (HF.out.trans f1)
  replace BX := Lib.hid (BX.out.keep HF.out (by simp))
  replace BY := Lib.hid (BY.out.keep HF.out (by simp))
  clear f1
  obtain ⟨p0, p1, p2, p3, p4, p5, p6, p7, p8, p9, p10, p11, p12, p13, p14, p15⟩ := actCells HA.out
  obtain ⟨r0, r1, r2, r3, r4, r5, r6, r7, r8, r9, r10, r11, r12, r13, r14, r15⟩ := actCells HB.out
  go_wp2_with fail
  have hrd := rd_two (fun _ => False) (w1.alloc (.cells #[.int .i64 x.kind, .int .i64 x.n, .int .i64 x.i, .int .i64 x.at_, .int .i64 x.by_, .string x.name, .slice ao an ac, .int .i64 x.p0, .int .i64 x.p1, .int .i64 x.p2, .int .i64 x.p3, .int .i64 x.p4, .int .i64 x.p5, .int .i64 x.kept, .int .i64 x.torn, .int .u64 x.scat, .int .i64 y.kind, .int .i64 y.n, .int .i64 y.i, .int .i64 y.at_, .int .i64 y.by_, .string y.name, .slice eo en ec, .int .i64 y.p0, .int .i64 y.p1, .int .i64 y.p2, .int .i64 y.p3, .int .i64 y.p4, .int .i64 y.p5, .int .i64 y.kept, .int .i64 y.torn, .int .u64 y.scat] 39)) w1 w1.heap.size x y ao eo an ac en ec (At.new rfl) (by simp) (BX.out.keep (Fr.alloc (S := []) w1 _) (by simp)) (BY.out.keep (Fr.alloc (S := []) w1 _) (by simp))
  refine (long31_any (fun _ => False) _ _ _ hrd (by simp)).mono ?_
  clear hrd p0 p1 p2 p3 p4 p5 p6 p7 p8 p9 p10 p11 p12 p13 p14 p15 r0 r1 r2 r3 r4 r5 r6 r7 r8 r9 r10 r11 r12 r13 r14 r15
  rintro e w2 ⟨⟨b, rfl⟩, f2⟩
  have f2 : Fr [] w1 w2 := (Fr.alloc (S := []) w1 _).trans f2
  replace HA := Lib.hid (HA.out.keep0 f2)
  replace HB := Lib.hid (HB.out.keep0 f2)
  replace HF := Lib.hid (HF.out.trans f2)
  replace BX := Lib.hid (BX.out.keep f2 (by simp))
  replace BY := Lib.hid (BY.out.keep f2 (by simp))
  clear f2
  cases b with
  | true =>
    go_wp2
    go_ret
    exact ⟨rfl, HF.out⟩
  | false =>
    go_wp2_with fail
    refine scriptSame_reg w2 W.heap.size (W.heap.size + 1) x y ao eo an ac en ec _ _ _ _ _ _ _ _ _ _ _ _ _ _ _ _ _ _ _ _ _ _ _ _ _ _ r HR.out HA.out HB.out BX.out BY.out ?_
    intro u11 u12 u13 u14 u15 u16 u17 u18 u19 u20 u21 u22 u23 u24 u25 u26 w9 f9
    have HZ := Lib.hid (HF.out.trans f9)
    clear f9 HA HB BX BY
    go_wp2
    go_ret
    exact ⟨rfl, HZ.out⟩
end Go.Proofs.Ytbohmnblegljkaa
