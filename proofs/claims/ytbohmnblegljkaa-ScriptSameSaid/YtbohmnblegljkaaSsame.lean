/-
  Layer 31: script.Same.
-/
import Derived.Test.YtbohmnblegljkaaBeq
import Derived.Test.YtbohmnblegljkaaEq
namespace Go.Proofs.Ytbohmnblegljkaa
open Go.RowKit Go.Bl
set_option linter.unusedVariables false

set_option maxRecDepth 1000000 in
set_option maxHeartbeats 8000000 in
theorem ssame_head (A : Nat → Prop) (w : World) (x y : ActP) (bx bv : Value) (hx : Bs A w bx x.bytes) (hy : Bs A w bv y.bytes) (h_head : ¬ (x.kind = y.kind ∧ x.n = y.n ∧ x.i = y.i ∧ x.at_ = y.at_ ∧ x.by_ = y.by_)) :
    Calls Try.prog 13 #[.agg (actC x bx), .agg (actC y bv)] w fun e w' => e = .returned (.bool false) ∧ Fr [] w w' := by
  have BX := Lib.hid hx
  have BY := Lib.hid hy
  obtain ⟨ao, an, ac, rfl⟩ := bs_shape hx
  obtain ⟨eo, en, ec, rfl⟩ := bs_shape hy
  clear hx hy
  have HA := Lib.hid (show At ((w.alloc (actO x (.slice ao an ac) 39)).alloc (actO y (.slice eo en ec) 39)) w.heap.size (actO x (.slice ao an ac) 39) from (At.new rfl).al)
  have HB := Lib.hid (show At ((w.alloc (actO x (.slice ao an ac) 39)).alloc (actO y (.slice eo en ec) 39)) (w.heap.size + 1) (actO y (.slice eo en ec) 39) from At.new (by simp))
  have HF := Lib.hid (show Fr [] w ((w.alloc (actO x (.slice ao an ac) 39)).alloc (actO y (.slice eo en ec) 39)) from Fr.al (Fr.alloc _ _))
  have q_head := fun w => eq_arr x.kind x.n x.i x.at_ x.by_ y.kind y.n y.i y.at_ y.by_ w false (decide_eq_false h_head).symm
  clear h_head
  go_enter Try.func13, Try.ntmps13
  go_wp2_with fail
  refine ssame_reg _ w.heap.size (w.heap.size + 1) (actC x (.slice ao an ac)) (actC y (.slice eo en ec)) _ _ _ _ _ _ _ _ _ _ _ _ _ _ _ _ _ _ _ _ _ _ _ _ _ _ _ _ _ _ _ _ _ _ _ _ _ _ _ _ _ _ _ _ _ _ _ _ _ _ _ _ _ _ _ _ _ _ _ _ _ _ _ rfl rfl (by simp [actC, Value.oneCell']) (by simp [actC, Value.oneCell']) HA.out HB.out ?_
  intro g0 g1 u8 u9 w2 hf2 l0 l1 hne hA0 hA1
  have HA2 := Lib.hid (HA.out.keep0 hf2)
  have HB2 := Lib.hid (HB.out.keep0 hf2)
  have F2 := Lib.hid (HF.out.trans hf2)
  have HG0 := Lib.hid hA0
  have HG1 := Lib.hid hA1
  simp only [World.alloc, Array.size_push] at l0 l1
  replace BX := Lib.hid (BX.out.mono (A' := fun b => w.heap.size ≤ b) F2.out (by simp) (fun b h => .inr h))
  replace BY := Lib.hid (BY.out.mono (A' := fun b => w.heap.size ≤ b) F2.out (by simp) (fun b h => .inr h))
  clear hf2 hA0 hA1 HA HB HF
  go_wp2_with (refine wpl_store_one (.tmp 10) (.const (.slice none 0 0)) rfl rfl (.slice none 0 0) rfl rfl HG0.out (by simp [actC]) (by kernel_rfl) (by rfl) ?_)
  intro w3 f3 a3 _
  replace HG0 := Lib.hid (show At w3 g0 (actO x (.slice none 0 0) 39) from a3)
  replace HG1 := Lib.hid (HG1.out.keep f3 (by simp; omega))
  replace HA2 := Lib.hid (HA2.out.keep f3 (by simp; omega))
  replace HB2 := Lib.hid (HB2.out.keep f3 (by simp; omega))
  replace BX := Lib.hid (BX.out.keep f3 (by simp; omega))
  replace BY := Lib.hid (BY.out.keep f3 (by simp; omega))
  replace F2 := Lib.hid (F2.out.then f3 (by intro b hb; simp at hb; omega))
  clear f3 a3
  go_wp2_with (refine wpl_store_one (.tmp 11) (.const (.slice none 0 0)) rfl rfl (.slice none 0 0) rfl rfl HG1.out (by simp [actC]) (by kernel_rfl) (by rfl) ?_)
  intro w4 f4 a4 _
  replace HG1 := Lib.hid (show At w4 g1 (actO y (.slice none 0 0) 39) from a4)
  replace HG0 := Lib.hid (HG0.out.keep f4 (by simp; omega))
  replace HA2 := Lib.hid (HA2.out.keep f4 (by simp; omega))
  replace HB2 := Lib.hid (HB2.out.keep f4 (by simp; omega))
  replace BX := Lib.hid (BX.out.keep f4 (by simp; omega))
  replace BY := Lib.hid (BY.out.keep f4 (by simp; omega))
  replace F2 := Lib.hid (F2.out.then f4 (by intro b hb; simp at hb; omega))
  clear f4 a4
  obtain ⟨p0, p1, p2, p3, p4, p5, p6, p7, p8, p9, p10, p11, p12, p13, p14, p15⟩ := actCells HG0.out
  obtain ⟨r0, r1, r2, r3, r4, r5, r6, r7, r8, r9, r10, r11, r12, r13, r14, r15⟩ := actCells HG1.out
  have q6 := (actCells HA2.out).2.2.2.2.2.2.1
  have s6 := (actCells HB2.out).2.2.2.2.2.2.1
  go_wp2
  go_ret
  exact ⟨rfl, F2.out⟩

set_option maxRecDepth 1000000 in
set_option maxHeartbeats 8000000 in
theorem ssame_name (A : Nat → Prop) (w : World) (x y : ActP) (bx bv : Value) (hx : Bs A w bx x.bytes) (hy : Bs A w bv y.bytes) (h_head : (x.kind = y.kind ∧ x.n = y.n ∧ x.i = y.i ∧ x.at_ = y.at_ ∧ x.by_ = y.by_)) (h_name : ¬ (x.name = y.name)) :
    Calls Try.prog 13 #[.agg (actC x bx), .agg (actC y bv)] w fun e w' => e = .returned (.bool false) ∧ Fr [] w w' := by
  have BX := Lib.hid hx
  have BY := Lib.hid hy
  obtain ⟨ao, an, ac, rfl⟩ := bs_shape hx
  obtain ⟨eo, en, ec, rfl⟩ := bs_shape hy
  clear hx hy
  have HA := Lib.hid (show At ((w.alloc (actO x (.slice ao an ac) 39)).alloc (actO y (.slice eo en ec) 39)) w.heap.size (actO x (.slice ao an ac) 39) from (At.new rfl).al)
  have HB := Lib.hid (show At ((w.alloc (actO x (.slice ao an ac) 39)).alloc (actO y (.slice eo en ec) 39)) (w.heap.size + 1) (actO y (.slice eo en ec) 39) from At.new (by simp))
  have HF := Lib.hid (show Fr [] w ((w.alloc (actO x (.slice ao an ac) 39)).alloc (actO y (.slice eo en ec) 39)) from Fr.al (Fr.alloc _ _))
  have q_head := fun w => eq_arr x.kind x.n x.i x.at_ x.by_ y.kind y.n y.i y.at_ y.by_ w true (by simp [h_head])
  have q_name : (x.name.toList == y.name.toList) = false := tl_no h_name
  clear h_head h_name
  go_enter Try.func13, Try.ntmps13
  go_wp2_with fail
  refine ssame_reg _ w.heap.size (w.heap.size + 1) (actC x (.slice ao an ac)) (actC y (.slice eo en ec)) _ _ _ _ _ _ _ _ _ _ _ _ _ _ _ _ _ _ _ _ _ _ _ _ _ _ _ _ _ _ _ _ _ _ _ _ _ _ _ _ _ _ _ _ _ _ _ _ _ _ _ _ _ _ _ _ _ _ _ _ _ _ _ rfl rfl (by simp [actC, Value.oneCell']) (by simp [actC, Value.oneCell']) HA.out HB.out ?_
  intro g0 g1 u8 u9 w2 hf2 l0 l1 hne hA0 hA1
  have HA2 := Lib.hid (HA.out.keep0 hf2)
  have HB2 := Lib.hid (HB.out.keep0 hf2)
  have F2 := Lib.hid (HF.out.trans hf2)
  have HG0 := Lib.hid hA0
  have HG1 := Lib.hid hA1
  simp only [World.alloc, Array.size_push] at l0 l1
  replace BX := Lib.hid (BX.out.mono (A' := fun b => w.heap.size ≤ b) F2.out (by simp) (fun b h => .inr h))
  replace BY := Lib.hid (BY.out.mono (A' := fun b => w.heap.size ≤ b) F2.out (by simp) (fun b h => .inr h))
  clear hf2 hA0 hA1 HA HB HF
  go_wp2_with (refine wpl_store_one (.tmp 10) (.const (.slice none 0 0)) rfl rfl (.slice none 0 0) rfl rfl HG0.out (by simp [actC]) (by kernel_rfl) (by rfl) ?_)
  intro w3 f3 a3 _
  replace HG0 := Lib.hid (show At w3 g0 (actO x (.slice none 0 0) 39) from a3)
  replace HG1 := Lib.hid (HG1.out.keep f3 (by simp; omega))
  replace HA2 := Lib.hid (HA2.out.keep f3 (by simp; omega))
  replace HB2 := Lib.hid (HB2.out.keep f3 (by simp; omega))
  replace BX := Lib.hid (BX.out.keep f3 (by simp; omega))
  replace BY := Lib.hid (BY.out.keep f3 (by simp; omega))
  replace F2 := Lib.hid (F2.out.then f3 (by intro b hb; simp at hb; omega))
  clear f3 a3
  go_wp2_with (refine wpl_store_one (.tmp 11) (.const (.slice none 0 0)) rfl rfl (.slice none 0 0) rfl rfl HG1.out (by simp [actC]) (by kernel_rfl) (by rfl) ?_)
  intro w4 f4 a4 _
  replace HG1 := Lib.hid (show At w4 g1 (actO y (.slice none 0 0) 39) from a4)
  replace HG0 := Lib.hid (HG0.out.keep f4 (by simp; omega))
  replace HA2 := Lib.hid (HA2.out.keep f4 (by simp; omega))
  replace HB2 := Lib.hid (HB2.out.keep f4 (by simp; omega))
  replace BX := Lib.hid (BX.out.keep f4 (by simp; omega))
  replace BY := Lib.hid (BY.out.keep f4 (by simp; omega))
  replace F2 := Lib.hid (F2.out.then f4 (by intro b hb; simp at hb; omega))
  clear f4 a4
  obtain ⟨p0, p1, p2, p3, p4, p5, p6, p7, p8, p9, p10, p11, p12, p13, p14, p15⟩ := actCells HG0.out
  obtain ⟨r0, r1, r2, r3, r4, r5, r6, r7, r8, r9, r10, r11, r12, r13, r14, r15⟩ := actCells HG1.out
  have q6 := (actCells HA2.out).2.2.2.2.2.2.1
  have s6 := (actCells HB2.out).2.2.2.2.2.2.1
  go_wp2
  go_ret
  exact ⟨rfl, F2.out⟩

set_option maxRecDepth 1000000 in
set_option maxHeartbeats 8000000 in
theorem ssame_par (A : Nat → Prop) (w : World) (x y : ActP) (bx bv : Value) (hx : Bs A w bx x.bytes) (hy : Bs A w bv y.bytes) (h_head : (x.kind = y.kind ∧ x.n = y.n ∧ x.i = y.i ∧ x.at_ = y.at_ ∧ x.by_ = y.by_)) (h_name : (x.name = y.name)) (h_par : ¬ (x.p0 = y.p0 ∧ x.p1 = y.p1 ∧ x.p2 = y.p2 ∧ x.p3 = y.p3 ∧ x.p4 = y.p4 ∧ x.p5 = y.p5)) :
    Calls Try.prog 13 #[.agg (actC x bx), .agg (actC y bv)] w fun e w' => e = .returned (.bool false) ∧ Fr [] w w' := by
  have BX := Lib.hid hx
  have BY := Lib.hid hy
  obtain ⟨ao, an, ac, rfl⟩ := bs_shape hx
  obtain ⟨eo, en, ec, rfl⟩ := bs_shape hy
  clear hx hy
  have HA := Lib.hid (show At ((w.alloc (actO x (.slice ao an ac) 39)).alloc (actO y (.slice eo en ec) 39)) w.heap.size (actO x (.slice ao an ac) 39) from (At.new rfl).al)
  have HB := Lib.hid (show At ((w.alloc (actO x (.slice ao an ac) 39)).alloc (actO y (.slice eo en ec) 39)) (w.heap.size + 1) (actO y (.slice eo en ec) 39) from At.new (by simp))
  have HF := Lib.hid (show Fr [] w ((w.alloc (actO x (.slice ao an ac) 39)).alloc (actO y (.slice eo en ec) 39)) from Fr.al (Fr.alloc _ _))
  have q_head := fun w => eq_arr x.kind x.n x.i x.at_ x.by_ y.kind y.n y.i y.at_ y.by_ w true (by simp [h_head])
  have q_name : (x.name.toList == y.name.toList) = true := tl_yes h_name
  have q_par := fun w => eq_p34 x.p0 x.p1 x.p2 x.p3 x.p4 x.p5 y.p0 y.p1 y.p2 y.p3 y.p4 y.p5 w false (decide_eq_false h_par).symm
  clear h_head h_name h_par
  go_enter Try.func13, Try.ntmps13
  go_wp2_with fail
  refine ssame_reg _ w.heap.size (w.heap.size + 1) (actC x (.slice ao an ac)) (actC y (.slice eo en ec)) _ _ _ _ _ _ _ _ _ _ _ _ _ _ _ _ _ _ _ _ _ _ _ _ _ _ _ _ _ _ _ _ _ _ _ _ _ _ _ _ _ _ _ _ _ _ _ _ _ _ _ _ _ _ _ _ _ _ _ _ _ _ _ rfl rfl (by simp [actC, Value.oneCell']) (by simp [actC, Value.oneCell']) HA.out HB.out ?_
  intro g0 g1 u8 u9 w2 hf2 l0 l1 hne hA0 hA1
  have HA2 := Lib.hid (HA.out.keep0 hf2)
  have HB2 := Lib.hid (HB.out.keep0 hf2)
  have F2 := Lib.hid (HF.out.trans hf2)
  have HG0 := Lib.hid hA0
  have HG1 := Lib.hid hA1
  simp only [World.alloc, Array.size_push] at l0 l1
  replace BX := Lib.hid (BX.out.mono (A' := fun b => w.heap.size ≤ b) F2.out (by simp) (fun b h => .inr h))
  replace BY := Lib.hid (BY.out.mono (A' := fun b => w.heap.size ≤ b) F2.out (by simp) (fun b h => .inr h))
  clear hf2 hA0 hA1 HA HB HF
  go_wp2_with (refine wpl_store_one (.tmp 10) (.const (.slice none 0 0)) rfl rfl (.slice none 0 0) rfl rfl HG0.out (by simp [actC]) (by kernel_rfl) (by rfl) ?_)
  intro w3 f3 a3 _
  replace HG0 := Lib.hid (show At w3 g0 (actO x (.slice none 0 0) 39) from a3)
  replace HG1 := Lib.hid (HG1.out.keep f3 (by simp; omega))
  replace HA2 := Lib.hid (HA2.out.keep f3 (by simp; omega))
  replace HB2 := Lib.hid (HB2.out.keep f3 (by simp; omega))
  replace BX := Lib.hid (BX.out.keep f3 (by simp; omega))
  replace BY := Lib.hid (BY.out.keep f3 (by simp; omega))
  replace F2 := Lib.hid (F2.out.then f3 (by intro b hb; simp at hb; omega))
  clear f3 a3
  go_wp2_with (refine wpl_store_one (.tmp 11) (.const (.slice none 0 0)) rfl rfl (.slice none 0 0) rfl rfl HG1.out (by simp [actC]) (by kernel_rfl) (by rfl) ?_)
  intro w4 f4 a4 _
  replace HG1 := Lib.hid (show At w4 g1 (actO y (.slice none 0 0) 39) from a4)
  replace HG0 := Lib.hid (HG0.out.keep f4 (by simp; omega))
  replace HA2 := Lib.hid (HA2.out.keep f4 (by simp; omega))
  replace HB2 := Lib.hid (HB2.out.keep f4 (by simp; omega))
  replace BX := Lib.hid (BX.out.keep f4 (by simp; omega))
  replace BY := Lib.hid (BY.out.keep f4 (by simp; omega))
  replace F2 := Lib.hid (F2.out.then f4 (by intro b hb; simp at hb; omega))
  clear f4 a4
  obtain ⟨p0, p1, p2, p3, p4, p5, p6, p7, p8, p9, p10, p11, p12, p13, p14, p15⟩ := actCells HG0.out
  obtain ⟨r0, r1, r2, r3, r4, r5, r6, r7, r8, r9, r10, r11, r12, r13, r14, r15⟩ := actCells HG1.out
  have q6 := (actCells HA2.out).2.2.2.2.2.2.1
  have s6 := (actCells HB2.out).2.2.2.2.2.2.1
  go_wp2
  go_ret
  exact ⟨rfl, F2.out⟩

set_option maxRecDepth 1000000 in
set_option maxHeartbeats 8000000 in
theorem ssame_crash (A : Nat → Prop) (w : World) (x y : ActP) (bx bv : Value) (hx : Bs A w bx x.bytes) (hy : Bs A w bv y.bytes) (h_head : (x.kind = y.kind ∧ x.n = y.n ∧ x.i = y.i ∧ x.at_ = y.at_ ∧ x.by_ = y.by_)) (h_name : (x.name = y.name)) (h_par : (x.p0 = y.p0 ∧ x.p1 = y.p1 ∧ x.p2 = y.p2 ∧ x.p3 = y.p3 ∧ x.p4 = y.p4 ∧ x.p5 = y.p5)) (h_crash : ¬ (x.kept = y.kept ∧ x.torn = y.torn ∧ x.scat = y.scat)) :
    Calls Try.prog 13 #[.agg (actC x bx), .agg (actC y bv)] w fun e w' => e = .returned (.bool false) ∧ Fr [] w w' := by
  have BX := Lib.hid hx
  have BY := Lib.hid hy
  obtain ⟨ao, an, ac, rfl⟩ := bs_shape hx
  obtain ⟨eo, en, ec, rfl⟩ := bs_shape hy
  clear hx hy
  have HA := Lib.hid (show At ((w.alloc (actO x (.slice ao an ac) 39)).alloc (actO y (.slice eo en ec) 39)) w.heap.size (actO x (.slice ao an ac) 39) from (At.new rfl).al)
  have HB := Lib.hid (show At ((w.alloc (actO x (.slice ao an ac) 39)).alloc (actO y (.slice eo en ec) 39)) (w.heap.size + 1) (actO y (.slice eo en ec) 39) from At.new (by simp))
  have HF := Lib.hid (show Fr [] w ((w.alloc (actO x (.slice ao an ac) 39)).alloc (actO y (.slice eo en ec) 39)) from Fr.al (Fr.alloc _ _))
  have q_head := fun w => eq_arr x.kind x.n x.i x.at_ x.by_ y.kind y.n y.i y.at_ y.by_ w true (by simp [h_head])
  have q_name : (x.name.toList == y.name.toList) = true := tl_yes h_name
  have q_par := fun w => eq_p34 x.p0 x.p1 x.p2 x.p3 x.p4 x.p5 y.p0 y.p1 y.p2 y.p3 y.p4 y.p5 w true (by simp [h_par])
  have q_crash := fun w => eq_crash x.kept x.torn x.scat y.kept y.torn y.scat w false (decide_eq_false h_crash).symm
  clear h_head h_name h_par h_crash
  go_enter Try.func13, Try.ntmps13
  go_wp2_with fail
  refine ssame_reg _ w.heap.size (w.heap.size + 1) (actC x (.slice ao an ac)) (actC y (.slice eo en ec)) _ _ _ _ _ _ _ _ _ _ _ _ _ _ _ _ _ _ _ _ _ _ _ _ _ _ _ _ _ _ _ _ _ _ _ _ _ _ _ _ _ _ _ _ _ _ _ _ _ _ _ _ _ _ _ _ _ _ _ _ _ _ _ rfl rfl (by simp [actC, Value.oneCell']) (by simp [actC, Value.oneCell']) HA.out HB.out ?_
  intro g0 g1 u8 u9 w2 hf2 l0 l1 hne hA0 hA1
  have HA2 := Lib.hid (HA.out.keep0 hf2)
  have HB2 := Lib.hid (HB.out.keep0 hf2)
  have F2 := Lib.hid (HF.out.trans hf2)
  have HG0 := Lib.hid hA0
  have HG1 := Lib.hid hA1
  simp only [World.alloc, Array.size_push] at l0 l1
  replace BX := Lib.hid (BX.out.mono (A' := fun b => w.heap.size ≤ b) F2.out (by simp) (fun b h => .inr h))
  replace BY := Lib.hid (BY.out.mono (A' := fun b => w.heap.size ≤ b) F2.out (by simp) (fun b h => .inr h))
  clear hf2 hA0 hA1 HA HB HF
  go_wp2_with (refine wpl_store_one (.tmp 10) (.const (.slice none 0 0)) rfl rfl (.slice none 0 0) rfl rfl HG0.out (by simp [actC]) (by kernel_rfl) (by rfl) ?_)
  intro w3 f3 a3 _
  replace HG0 := Lib.hid (show At w3 g0 (actO x (.slice none 0 0) 39) from a3)
  replace HG1 := Lib.hid (HG1.out.keep f3 (by simp; omega))
  replace HA2 := Lib.hid (HA2.out.keep f3 (by simp; omega))
  replace HB2 := Lib.hid (HB2.out.keep f3 (by simp; omega))
  replace BX := Lib.hid (BX.out.keep f3 (by simp; omega))
  replace BY := Lib.hid (BY.out.keep f3 (by simp; omega))
  replace F2 := Lib.hid (F2.out.then f3 (by intro b hb; simp at hb; omega))
  clear f3 a3
  go_wp2_with (refine wpl_store_one (.tmp 11) (.const (.slice none 0 0)) rfl rfl (.slice none 0 0) rfl rfl HG1.out (by simp [actC]) (by kernel_rfl) (by rfl) ?_)
  intro w4 f4 a4 _
  replace HG1 := Lib.hid (show At w4 g1 (actO y (.slice none 0 0) 39) from a4)
  replace HG0 := Lib.hid (HG0.out.keep f4 (by simp; omega))
  replace HA2 := Lib.hid (HA2.out.keep f4 (by simp; omega))
  replace HB2 := Lib.hid (HB2.out.keep f4 (by simp; omega))
  replace BX := Lib.hid (BX.out.keep f4 (by simp; omega))
  replace BY := Lib.hid (BY.out.keep f4 (by simp; omega))
  replace F2 := Lib.hid (F2.out.then f4 (by intro b hb; simp at hb; omega))
  clear f4 a4
  obtain ⟨p0, p1, p2, p3, p4, p5, p6, p7, p8, p9, p10, p11, p12, p13, p14, p15⟩ := actCells HG0.out
  obtain ⟨r0, r1, r2, r3, r4, r5, r6, r7, r8, r9, r10, r11, r12, r13, r14, r15⟩ := actCells HG1.out
  have q6 := (actCells HA2.out).2.2.2.2.2.2.1
  have s6 := (actCells HB2.out).2.2.2.2.2.2.1
  go_wp2
  go_ret
  exact ⟨rfl, F2.out⟩

set_option maxRecDepth 1000000 in
set_option maxHeartbeats 8000000 in
theorem ssame_bytes (A : Nat → Prop) (w : World) (x y : ActP) (bx bv : Value) (hx : Bs A w bx x.bytes) (hy : Bs A w bv y.bytes) (h_head : (x.kind = y.kind ∧ x.n = y.n ∧ x.i = y.i ∧ x.at_ = y.at_ ∧ x.by_ = y.by_)) (h_name : (x.name = y.name)) (h_par : (x.p0 = y.p0 ∧ x.p1 = y.p1 ∧ x.p2 = y.p2 ∧ x.p3 = y.p3 ∧ x.p4 = y.p4 ∧ x.p5 = y.p5)) (h_crash : (x.kept = y.kept ∧ x.torn = y.torn ∧ x.scat = y.scat)) (h_bytes : ¬ (x.bytes = y.bytes)) :
    Calls Try.prog 13 #[.agg (actC x bx), .agg (actC y bv)] w fun e w' => e = .returned (.bool false) ∧ Fr [] w w' := by
  have BX := Lib.hid hx
  have BY := Lib.hid hy
  obtain ⟨ao, an, ac, rfl⟩ := bs_shape hx
  obtain ⟨eo, en, ec, rfl⟩ := bs_shape hy
  clear hx hy
  have HA := Lib.hid (show At ((w.alloc (actO x (.slice ao an ac) 39)).alloc (actO y (.slice eo en ec) 39)) w.heap.size (actO x (.slice ao an ac) 39) from (At.new rfl).al)
  have HB := Lib.hid (show At ((w.alloc (actO x (.slice ao an ac) 39)).alloc (actO y (.slice eo en ec) 39)) (w.heap.size + 1) (actO y (.slice eo en ec) 39) from At.new (by simp))
  have HF := Lib.hid (show Fr [] w ((w.alloc (actO x (.slice ao an ac) 39)).alloc (actO y (.slice eo en ec) 39)) from Fr.al (Fr.alloc _ _))
  have q_head := fun w => eq_arr x.kind x.n x.i x.at_ x.by_ y.kind y.n y.i y.at_ y.by_ w true (by simp [h_head])
  have q_name : (x.name.toList == y.name.toList) = true := tl_yes h_name
  have q_par := fun w => eq_p34 x.p0 x.p1 x.p2 x.p3 x.p4 x.p5 y.p0 y.p1 y.p2 y.p3 y.p4 y.p5 w true (by simp [h_par])
  have q_crash := fun w => eq_crash x.kept x.torn x.scat y.kept y.torn y.scat w true (by simp [h_crash])
  have H_bytes := Lib.hid h_bytes
  clear h_bytes
  clear h_head h_name h_par h_crash
  go_enter Try.func13, Try.ntmps13
  go_wp2_with fail
  refine ssame_reg _ w.heap.size (w.heap.size + 1) (actC x (.slice ao an ac)) (actC y (.slice eo en ec)) _ _ _ _ _ _ _ _ _ _ _ _ _ _ _ _ _ _ _ _ _ _ _ _ _ _ _ _ _ _ _ _ _ _ _ _ _ _ _ _ _ _ _ _ _ _ _ _ _ _ _ _ _ _ _ _ _ _ _ _ _ _ _ rfl rfl (by simp [actC, Value.oneCell']) (by simp [actC, Value.oneCell']) HA.out HB.out ?_
  intro g0 g1 u8 u9 w2 hf2 l0 l1 hne hA0 hA1
  have HA2 := Lib.hid (HA.out.keep0 hf2)
  have HB2 := Lib.hid (HB.out.keep0 hf2)
  have F2 := Lib.hid (HF.out.trans hf2)
  have HG0 := Lib.hid hA0
  have HG1 := Lib.hid hA1
  simp only [World.alloc, Array.size_push] at l0 l1
  replace BX := Lib.hid (BX.out.mono (A' := fun b => w.heap.size ≤ b) F2.out (by simp) (fun b h => .inr h))
  replace BY := Lib.hid (BY.out.mono (A' := fun b => w.heap.size ≤ b) F2.out (by simp) (fun b h => .inr h))
  clear hf2 hA0 hA1 HA HB HF
  go_wp2_with (refine wpl_store_one (.tmp 10) (.const (.slice none 0 0)) rfl rfl (.slice none 0 0) rfl rfl HG0.out (by simp [actC]) (by kernel_rfl) (by rfl) ?_)
  intro w3 f3 a3 _
  replace HG0 := Lib.hid (show At w3 g0 (actO x (.slice none 0 0) 39) from a3)
  replace HG1 := Lib.hid (HG1.out.keep f3 (by simp; omega))
  replace HA2 := Lib.hid (HA2.out.keep f3 (by simp; omega))
  replace HB2 := Lib.hid (HB2.out.keep f3 (by simp; omega))
  replace BX := Lib.hid (BX.out.keep f3 (by simp; omega))
  replace BY := Lib.hid (BY.out.keep f3 (by simp; omega))
  replace F2 := Lib.hid (F2.out.then f3 (by intro b hb; simp at hb; omega))
  clear f3 a3
  go_wp2_with (refine wpl_store_one (.tmp 11) (.const (.slice none 0 0)) rfl rfl (.slice none 0 0) rfl rfl HG1.out (by simp [actC]) (by kernel_rfl) (by rfl) ?_)
  intro w4 f4 a4 _
  replace HG1 := Lib.hid (show At w4 g1 (actO y (.slice none 0 0) 39) from a4)
  replace HG0 := Lib.hid (HG0.out.keep f4 (by simp; omega))
  replace HA2 := Lib.hid (HA2.out.keep f4 (by simp; omega))
  replace HB2 := Lib.hid (HB2.out.keep f4 (by simp; omega))
  replace BX := Lib.hid (BX.out.keep f4 (by simp; omega))
  replace BY := Lib.hid (BY.out.keep f4 (by simp; omega))
  replace F2 := Lib.hid (F2.out.then f4 (by intro b hb; simp at hb; omega))
  clear f4 a4
  obtain ⟨p0, p1, p2, p3, p4, p5, p6, p7, p8, p9, p10, p11, p12, p13, p14, p15⟩ := actCells HG0.out
  obtain ⟨r0, r1, r2, r3, r4, r5, r6, r7, r8, r9, r10, r11, r12, r13, r14, r15⟩ := actCells HG1.out
  have q6 := (actCells HA2.out).2.2.2.2.2.2.1
  have s6 := (actCells HB2.out).2.2.2.2.2.2.1
  go_wp2_with fail
  refine (beq_no _ _ _ _ x.bytes y.bytes BX.out BY.out H_bytes.out).mono ?_
  rintro e w5 ⟨rfl, f5⟩
  replace F2 := Lib.hid (F2.out.trans f5)
  clear f5
  go_wp2
  go_ret
  exact ⟨rfl, F2.out⟩

set_option maxRecDepth 1000000 in
set_option maxHeartbeats 8000000 in
theorem ssame_all (A : Nat → Prop) (w : World) (x y : ActP) (bx bv : Value) (hx : Bs A w bx x.bytes) (hy : Bs A w bv y.bytes) (h_head : (x.kind = y.kind ∧ x.n = y.n ∧ x.i = y.i ∧ x.at_ = y.at_ ∧ x.by_ = y.by_)) (h_name : (x.name = y.name)) (h_par : (x.p0 = y.p0 ∧ x.p1 = y.p1 ∧ x.p2 = y.p2 ∧ x.p3 = y.p3 ∧ x.p4 = y.p4 ∧ x.p5 = y.p5)) (h_crash : (x.kept = y.kept ∧ x.torn = y.torn ∧ x.scat = y.scat)) (h_bytes : (x.bytes = y.bytes)) :
    Calls Try.prog 13 #[.agg (actC x bx), .agg (actC y bv)] w fun e w' => e = .returned (.bool true) ∧ Fr [] w w' := by
  have BX := Lib.hid hx
  have BY := Lib.hid hy
  obtain ⟨ao, an, ac, rfl⟩ := bs_shape hx
  obtain ⟨eo, en, ec, rfl⟩ := bs_shape hy
  clear hx hy
  have HA := Lib.hid (show At ((w.alloc (actO x (.slice ao an ac) 39)).alloc (actO y (.slice eo en ec) 39)) w.heap.size (actO x (.slice ao an ac) 39) from (At.new rfl).al)
  have HB := Lib.hid (show At ((w.alloc (actO x (.slice ao an ac) 39)).alloc (actO y (.slice eo en ec) 39)) (w.heap.size + 1) (actO y (.slice eo en ec) 39) from At.new (by simp))
  have HF := Lib.hid (show Fr [] w ((w.alloc (actO x (.slice ao an ac) 39)).alloc (actO y (.slice eo en ec) 39)) from Fr.al (Fr.alloc _ _))
  have q_head := fun w => eq_arr x.kind x.n x.i x.at_ x.by_ y.kind y.n y.i y.at_ y.by_ w true (by simp [h_head])
  have q_name : (x.name.toList == y.name.toList) = true := tl_yes h_name
  have q_par := fun w => eq_p34 x.p0 x.p1 x.p2 x.p3 x.p4 x.p5 y.p0 y.p1 y.p2 y.p3 y.p4 y.p5 w true (by simp [h_par])
  have q_crash := fun w => eq_crash x.kept x.torn x.scat y.kept y.torn y.scat w true (by simp [h_crash])
  have H_bytes := Lib.hid h_bytes
  clear h_bytes
  clear h_head h_name h_par h_crash
  go_enter Try.func13, Try.ntmps13
  go_wp2_with fail
  refine ssame_reg _ w.heap.size (w.heap.size + 1) (actC x (.slice ao an ac)) (actC y (.slice eo en ec)) _ _ _ _ _ _ _ _ _ _ _ _ _ _ _ _ _ _ _ _ _ _ _ _ _ _ _ _ _ _ _ _ _ _ _ _ _ _ _ _ _ _ _ _ _ _ _ _ _ _ _ _ _ _ _ _ _ _ _ _ _ _ _ rfl rfl (by simp [actC, Value.oneCell']) (by simp [actC, Value.oneCell']) HA.out HB.out ?_
  intro g0 g1 u8 u9 w2 hf2 l0 l1 hne hA0 hA1
  have HA2 := Lib.hid (HA.out.keep0 hf2)
  have HB2 := Lib.hid (HB.out.keep0 hf2)
  have F2 := Lib.hid (HF.out.trans hf2)
  have HG0 := Lib.hid hA0
  have HG1 := Lib.hid hA1
  simp only [World.alloc, Array.size_push] at l0 l1
  replace BX := Lib.hid (BX.out.mono (A' := fun b => w.heap.size ≤ b) F2.out (by simp) (fun b h => .inr h))
  replace BY := Lib.hid (BY.out.mono (A' := fun b => w.heap.size ≤ b) F2.out (by simp) (fun b h => .inr h))
  clear hf2 hA0 hA1 HA HB HF
  go_wp2_with (refine wpl_store_one (.tmp 10) (.const (.slice none 0 0)) rfl rfl (.slice none 0 0) rfl rfl HG0.out (by simp [actC]) (by kernel_rfl) (by rfl) ?_)
  intro w3 f3 a3 _
  replace HG0 := Lib.hid (show At w3 g0 (actO x (.slice none 0 0) 39) from a3)
  replace HG1 := Lib.hid (HG1.out.keep f3 (by simp; omega))
  replace HA2 := Lib.hid (HA2.out.keep f3 (by simp; omega))
  replace HB2 := Lib.hid (HB2.out.keep f3 (by simp; omega))
  replace BX := Lib.hid (BX.out.keep f3 (by simp; omega))
  replace BY := Lib.hid (BY.out.keep f3 (by simp; omega))
  replace F2 := Lib.hid (F2.out.then f3 (by intro b hb; simp at hb; omega))
  clear f3 a3
  go_wp2_with (refine wpl_store_one (.tmp 11) (.const (.slice none 0 0)) rfl rfl (.slice none 0 0) rfl rfl HG1.out (by simp [actC]) (by kernel_rfl) (by rfl) ?_)
  intro w4 f4 a4 _
  replace HG1 := Lib.hid (show At w4 g1 (actO y (.slice none 0 0) 39) from a4)
  replace HG0 := Lib.hid (HG0.out.keep f4 (by simp; omega))
  replace HA2 := Lib.hid (HA2.out.keep f4 (by simp; omega))
  replace HB2 := Lib.hid (HB2.out.keep f4 (by simp; omega))
  replace BX := Lib.hid (BX.out.keep f4 (by simp; omega))
  replace BY := Lib.hid (BY.out.keep f4 (by simp; omega))
  replace F2 := Lib.hid (F2.out.then f4 (by intro b hb; simp at hb; omega))
  clear f4 a4
  obtain ⟨p0, p1, p2, p3, p4, p5, p6, p7, p8, p9, p10, p11, p12, p13, p14, p15⟩ := actCells HG0.out
  obtain ⟨r0, r1, r2, r3, r4, r5, r6, r7, r8, r9, r10, r11, r12, r13, r14, r15⟩ := actCells HG1.out
  have q6 := (actCells HA2.out).2.2.2.2.2.2.1
  have s6 := (actCells HB2.out).2.2.2.2.2.2.1
  go_wp2_with fail
  refine (beq_yes _ _ _ _ x.bytes BX.out (by rw [H_bytes.out]; exact BY.out)).mono ?_
  rintro e w5 ⟨rfl, f5⟩
  replace F2 := Lib.hid (F2.out.trans f5)
  clear f5
  go_wp2
  go_ret
  exact ⟨rfl, F2.out⟩
end Go.Proofs.Ytbohmnblegljkaa
