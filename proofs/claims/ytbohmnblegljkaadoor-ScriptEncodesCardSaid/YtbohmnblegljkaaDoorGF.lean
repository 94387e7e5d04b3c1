/-
  Layer 31: parameters' bytes.
  Layer 31: an act's bytes. (printed by genent.py)
-/
import Derived.Test.YtbohmnblegljkaaDoorGD
import Derived.Test.YtbohmnblegljkaaDoorPl1
import Derived.Laws.IdiomStrings
namespace Go.Proofs.YtbohmnblegljkaaDoor
open Go.RowKit Go.Bl
set_option linter.unusedVariables false

def laidL (p0 p1 p2 p3 p4 p5 : Int) : List UInt8 := be2 p0 ++ ([b8 p1, b8 p2] ++ (be2 p3 ++ (be2 p4 ++ [b8 p5])))

/-- bytes that lie in a block -/
theorem bs_block {A : Nat → Prop} {w : World} {b : Nat} {xs : List UInt8} {c : Array Value} {t : TypeId} (h : At w b (.cells c t)) (hc : c.toList = xs.map u8v) (hA : ¬ A b) (hl : xs.length ≤ 1000) : Bs A w (.slice (some ⟨b, 0, none⟩) xs.length xs.length) xs :=
  ⟨_, _, rfl, Nat.le_refl _, by simp [maxLen]; omega, by
    have := Row.of_block h hA
    rwa [hc] at this⟩
theorem vs_block {A : Nat → Prop} {w : World} {b : Nat} {cs : List Value} {c : Array Value} {t : TypeId} (h : At w b (.cells c t)) (hc : c.toList = cs) (hA : ¬ A b) (hl : cs.length ≤ 1000) : Vs A w (.slice (some ⟨b, 0, none⟩) cs.length cs.length) cs :=
  ⟨_, _, rfl, Nat.le_refl _, by simp [maxLen]; omega, by
    have := Row.of_block h hA
    rwa [hc] at this⟩

set_option maxRecDepth 100000 in
set_option maxHeartbeats 4000000 in
theorem laid_any (w : World) (p0 p1 p2 p3 p4 p5 : Int) :
    Calls Tryd.prog 71 #[.agg #[.int .i64 p0, .int .i64 p1, .int .i64 p2, .int .i64 p3, .int .i64 p4, .int .i64 p5]] w fun e w' => ∃ u, e = .returned u ∧ OwnB 5 w.heap.size w' u (laidL p0 p1 p2 p3 p4 p5) ∧ Fr [] w w' := by
  have HA := Lib.hid (show At (w.alloc (.cells #[.int .i64 p0, .int .i64 p1, .int .i64 p2, .int .i64 p3, .int .i64 p4, .int .i64 p5] 36)) w.heap.size (.cells #[.int .i64 p0, .int .i64 p1, .int .i64 p2, .int .i64 p3, .int .i64 p4, .int .i64 p5] 36) from At.new rfl)
  have HF := Lib.hid (show Fr [] w (w.alloc (.cells #[.int .i64 p0, .int .i64 p1, .int .i64 p2, .int .i64 p3, .int .i64 p4, .int .i64 p5] 36)) from Fr.alloc _ _)
  go_enter Tryd.func71, Tryd.ntmps71
  go_wp2_with fail
  refine wp_region_pf [(.val, 0), (.val, 1), (.call, 2), (.val, 10), (.val, 11), (.call, 12), (.val, 13), (.val, 14), (.call, 15), (.val, 3), (.val, 4), (.val, 5), (.val, 6), (.val, 7), (.val, 8), (.mem, 9), (.val, 16), (.val, 17), (.val, 18), (.mem, 19), (.mem, 20), (.call, 21), (.val, 22)] (by kernel_rfl) (by kernel_rfl) ?_
  intro wa ha
  replace HA := Lib.hid (HA.out.keep0 ha)
  replace HF := Lib.hid (HF.out.trans ha)
  clear ha
  have e0 := fun z : Kin wa => (HA.out.keep0 z.fr).cell 0
  have e1 := fun z : Kin wa => (HA.out.keep0 z.fr).cell 1
  have e2 := fun z : Kin wa => (HA.out.keep0 z.fr).cell 2
  have e3 := fun z : Kin wa => (HA.out.keep0 z.fr).cell 3
  have e4 := fun z : Kin wa => (HA.out.keep0 z.fr).cell 4
  have e5 := fun z : Kin wa => (HA.out.keep0 z.fr).cell 5
  simp only [List.getElem?_toArray, List.getElem?_cons_zero, List.getElem?_cons_succ] at e0 e1 e2 e3 e4 e5
  have G := Lib.hid (Fr.refl [] wa)
  refine poF_vals 2 _ _ _ (by kernel_rfl) ?_
  simp only [opersOf, List.take_succ_cons, List.take_zero, List.filterMap_cons, List.filterMap_nil, List.getElem?_toArray, List.getElem?_cons_succ, List.getElem?_cons_zero, List.drop_succ_cons, List.drop_zero]
  show wpQuiet _ _ _ _ [_, _] _
  iterate 2 go_big_quiet_step (fail)
  refine wpQuiet_nil ?_
  refine poF_call _ (by simp only [List.getElem?_toArray, List.getElem?_cons_succ, List.getElem?_cons_zero]; rfl) ?_
  intro u hu
  go_wp2_with fail
  refine (pair_any _ _).mono ?_
  rintro e u0 ⟨v0, rfl, ho, hf⟩
  rename_i K hK
  refine hK _ _ ?_
  refine ⟨rfl, rfl, hf, ?_⟩
  clear hK K
  replace G := Lib.hid ((G.out.trans hu).trans hf)
  have B0 := Lib.hid (ho.bs (A := fun _ => False) (by simp))
  obtain ⟨o0, n0, c0, rfl⟩ := bs_shape B0.out
  clear hu hf ho
  refine poF_vals 2 _ _ _ (by kernel_rfl) ?_
  simp only [opersOf, List.take_succ_cons, List.take_zero, List.filterMap_cons, List.filterMap_nil, List.getElem?_toArray, List.getElem?_cons_succ, List.getElem?_cons_zero, List.drop_succ_cons, List.drop_zero]
  show wpQuiet _ _ _ _ [_, _] _
  iterate 2 go_big_quiet_step (fail)
  refine wpQuiet_nil ?_
  refine poF_call _ (by simp only [List.getElem?_toArray, List.getElem?_cons_succ, List.getElem?_cons_zero]; rfl) ?_
  intro u hu
  go_wp2_with fail
  refine (pair_any _ _).mono ?_
  rintro e u1 ⟨v1, rfl, ho, hf⟩
  rename_i K hK
  refine hK _ _ ?_
  refine ⟨rfl, rfl, hf, ?_⟩
  clear hK K
  replace G := Lib.hid ((G.out.trans hu).trans hf)
  have B1 := Lib.hid (ho.bs (A := fun _ => False) (by simp))
  replace B0 := Lib.hid (B0.out.keep (hu.trans hf) (by simp))
  obtain ⟨o1, n1, c1, rfl⟩ := bs_shape B1.out
  clear hu hf ho
  refine poF_vals 2 _ _ _ (by kernel_rfl) ?_
  simp only [opersOf, List.take_succ_cons, List.take_zero, List.filterMap_cons, List.filterMap_nil, List.getElem?_toArray, List.getElem?_cons_succ, List.getElem?_cons_zero, List.drop_succ_cons, List.drop_zero]
  show wpQuiet _ _ _ _ [_, _] _
  iterate 2 go_big_quiet_step (fail)
  refine wpQuiet_nil ?_
  refine poF_call _ (by simp only [List.getElem?_toArray, List.getElem?_cons_succ, List.getElem?_cons_zero]; rfl) ?_
  intro u hu
  go_wp2_with fail
  refine (pair_any _ _).mono ?_
  rintro e u2 ⟨v2, rfl, ho, hf⟩
  rename_i K hK
  refine hK _ _ ?_
  refine ⟨rfl, rfl, hf, ?_⟩
  clear hK K
  replace G := Lib.hid ((G.out.trans hu).trans hf)
  have B2 := Lib.hid (ho.bs (A := fun _ => False) (by simp))
  replace B0 := Lib.hid (B0.out.keep (hu.trans hf) (by simp))
  replace B1 := Lib.hid (B1.out.keep (hu.trans hf) (by simp))
  obtain ⟨o2, n2, c2, rfl⟩ := bs_shape B2.out
  clear hu hf ho
  refine poF_vals 6 _ _ _ (by kernel_rfl) ?_
  simp only [opersOf, List.take_succ_cons, List.take_zero, List.filterMap_cons, List.filterMap_nil, List.getElem?_toArray, List.getElem?_cons_succ, List.getElem?_cons_zero, List.drop_succ_cons, List.drop_zero]
  show wpQuiet _ _ _ _ [_, _, _, _, _, _] _
  iterate 6 go_big_quiet_step (fail)
  refine wpQuiet_nil ?_
  refine poF_new _ (by simp only [List.getElem?_toArray, List.getElem?_cons_succ, List.getElem?_cons_zero]; rfl) rfl (.cells #[.int .u8 (p1 % 256), .int .u8 (p2 % 256)] 5) (fun b => .slice (some ⟨b, 0, none⟩) 2 2) (fun _ => by kernel_rfl) ?_
  intro b1 wb _ hwb hAt1
  go_frame
  replace G := Lib.hid (G.out.trans hwb)
  replace B0 := Lib.hid (B0.out.keep hwb (by simp))
  replace B1 := Lib.hid (B1.out.keep hwb (by simp))
  replace B2 := Lib.hid (B2.out.keep hwb (by simp))
  have H1 := Lib.hid hAt1
  clear hwb hAt1
  refine poF_vals 3 _ _ _ (by kernel_rfl) ?_
  simp only [opersOf, List.take_succ_cons, List.take_zero, List.filterMap_cons, List.filterMap_nil, List.getElem?_toArray, List.getElem?_cons_succ, List.getElem?_cons_zero, List.drop_succ_cons, List.drop_zero]
  show wpQuiet _ _ _ _ [_, _, _] _
  iterate 3 go_big_quiet_step (fail)
  refine wpQuiet_nil ?_
  refine poF_new _ (by simp only [List.getElem?_toArray, List.getElem?_cons_succ, List.getElem?_cons_zero]; rfl) rfl (.cells #[.int .u8 (p5 % 256)] 5) (fun b => .slice (some ⟨b, 0, none⟩) 1 1) (fun _ => by kernel_rfl) ?_
  intro b2 wc _ hwc hAt2
  go_frame
  replace G := Lib.hid (G.out.trans hwc)
  replace B0 := Lib.hid (B0.out.keep hwc (by simp))
  replace B1 := Lib.hid (B1.out.keep hwc (by simp))
  replace B2 := Lib.hid (B2.out.keep hwc (by simp))
  replace H1 := Lib.hid (H1.out.keep0 hwc)
  have H2 := Lib.hid hAt2
  clear hwc hAt2
  refine poF_new _ (by simp only [List.getElem?_toArray, List.getElem?_cons_succ, List.getElem?_cons_zero]; rfl) rfl (.cells #[.slice o0 n0 c0, .slice (some ⟨b1, 0, none⟩) 2 2, .slice o1 n1 c1, .slice o2 n2 c2, .slice (some ⟨b2, 0, none⟩) 1 1] 59) (fun b => .slice (some ⟨b, 0, none⟩) 5 5) (fun _ => by kernel_rfl) ?_
  intro b3 wd _ hwd hAt3
  go_frame
  replace G := Lib.hid (G.out.trans hwd)
  replace B0 := Lib.hid (B0.out.keep hwd (by simp))
  replace B1 := Lib.hid (B1.out.keep hwd (by simp))
  replace B2 := Lib.hid (B2.out.keep hwd (by simp))
  replace H1 := Lib.hid (H1.out.keep0 hwd)
  replace H2 := Lib.hid (H2.out.keep0 hwd)
  have H3 := Lib.hid hAt3
  clear hwd hAt3
  refine poF_call _ (by simp only [List.getElem?_toArray, List.getElem?_cons_succ, List.getElem?_cons_zero]; rfl) ?_
  intro u hu
  replace G := Lib.hid (G.out.trans hu)
  replace B0 := Lib.hid (B0.out.keep hu (by simp))
  replace B1 := Lib.hid (B1.out.keep hu (by simp))
  replace B2 := Lib.hid (B2.out.keep hu (by simp))
  have X1 := Lib.hid (bs_block (A := fun _ => False) (xs := [b8 p1, b8 p2]) (H1.out.keep0 hu) (by simp [b8v]) (by simp) (by simp))
  have X2 := Lib.hid (bs_block (A := fun _ => False) (xs := [b8 p5]) (H2.out.keep0 hu) (by simp [b8v]) (by simp) (by simp))
  have HL := Lib.hid (show RdL (fun _ => False) u (.slice (some ⟨b3, 0, none⟩) 5 5) [(.slice o0 n0 c0, be2 p0), (.slice (some ⟨b1, 0, none⟩) 2 2, [b8 p1, b8 p2]), (.slice o1 n1 c1, be2 p3), (.slice o2 n2 c2, be2 p4), (.slice (some ⟨b2, 0, none⟩) 1 1, [b8 p5])] from by
    refine ⟨vs_block (H3.out.keep0 hu) rfl (by simp) (by simp), fun x hx => ?_⟩
    simp only [List.mem_cons, List.not_mem_nil, or_false] at hx
    rcases hx with rfl | rfl | rfl | rfl | rfl
    · exact B0.out
    · exact X1.out
    · exact B1.out
    · exact B2.out
    · exact X2.out)
  clear H1 H2 H3 X1 X2 hu B0 B1 B2
  go_wp2_with fail
  refine (concat_any (fun _ => False) _ _ _ HL.out (by simp) (by simp [cat, be2])).mono ?_
  rintro e u3 ⟨q, rfl, ho, hf⟩
  rename_i K hK
  refine hK _ _ ?_
  refine ⟨rfl, rfl, hf, ?_⟩
  clear hK K
  have HQ := Lib.hid (show OwnB 5 w.heap.size u3 q (laidL p0 p1 p2 p3 p4 p5) from by
    have h1 := ho.base (base' := w.heap.size) (by have := HF.out.size; have := G.out.size; omega)
    simpa [cat, laidL, be2] using h1)
  replace G := Lib.hid (G.out.trans hf)
  clear ho hf HL
  refine poF_vals 1 _ _ _ (by kernel_rfl) ?_
  simp only [opersOf, List.take_succ_cons, List.take_zero, List.filterMap_cons, List.filterMap_nil, List.getElem?_toArray, List.getElem?_cons_succ, List.getElem?_cons_zero, List.drop_succ_cons, List.drop_zero]
  show wpQuiet _ _ _ _ [_] _
  iterate 1 go_big_quiet_step (fail)
  refine wpQuiet_nil ?_
  refine poF_end ?_
  intro wz hz
  have HZ := Lib.hid (HQ.out.keep hz (by simp))
  have GZ := Lib.hid ((HF.out.trans G.out).trans hz)
  clear hz
  go_wp2
  go_ret
  exact ⟨_, rfl, HZ.out, GZ.out⟩
end Go.Proofs.YtbohmnblegljkaaDoor
namespace Go.Proofs.YtbohmnblegljkaaDoor
open Go.RowKit Go.Bl
set_option linter.unusedVariables false

def entBase (a : ActP) : List UInt8 := b8 a.kind :: (be2 a.n ++ (be2 a.i ++ (be2 a.at_ ++ [b8 a.by_])))
def entTail (a : ActP) : List UInt8 := be2 a.bytes.length ++ a.bytes
/-- an act's bytes -/
def entryL (a : ActP) : List UInt8 :=
  if a.kind = 10 then entBase a ++ ([b8 a.kept, b8 a.torn] ++ beK 8 (wrap64 a.scat))
  else if a.kind = 1 then entBase a ++ (b8 a.name.size :: (a.name.data.toList ++ (laidL a.p0 a.p1 a.p2 a.p3 a.p4 a.p5 ++ entTail a)))
  else if a.kind = 9 ∨ a.kind = 13 then entBase a ++ entTail a
  else entBase a
theorem poF_val1 {P : Program} {ops : Array Oper} {Q : Exit → Go.Act → World → Prop} {w0 : World} {i : Nat} {π : List (Kind × Nat)} {a : Go.Act} {w : World} (o : Oper) (ho : ops[i]? = some o) (hg : o.guard = none) (v : Value)
    (hr : ∀ u : World, (execOp a.eval o).run P u = .ok (.value v) u) (h : poF P ops Q w0 π (a.put o.dst v) w) : poF P ops Q w0 ((.val, i) :: π) a w := by
  refine ⟨v, fun u _ => ?_, ?_⟩
  · unfold runV
    have hw : Region.wanted o (yielded ops a.tmps) = true := by simp [Region.wanted, hg]
    simp only [ho, hw, if_true, hr]
  · have hd : dstOf ops i = o.dst := by simp [dstOf, ho]
    rw [hd]
    exact h
/-- a value that reads memory which stands -/
theorem poF_val2 {P : Program} {ops : Array Oper} {Q : Exit → Go.Act → World → Prop} {w0 : World} {i : Nat} {π : List (Kind × Nat)} {a : Go.Act} {w : World} (o : Oper) (ho : ops[i]? = some o) (hg : o.guard = none) (v : Value)
    (hr : ∀ u : World, Fr [] w0 u → (execOp a.eval o).run P u = .ok (.value v) u) (h : poF P ops Q w0 π (a.put o.dst v) w) : poF P ops Q w0 ((.val, i) :: π) a w := by
  refine ⟨v, fun u hu => ?_, ?_⟩
  · unfold runV
    have hw : Region.wanted o (yielded ops a.tmps) = true := by simp [Region.wanted, hg]
    simp only [ho, hw, if_true, hr u hu]
  · have hd : dstOf ops i = o.dst := by simp [dstOf, ho]
    rw [hd]
    exact h
/-- memory is made, of a size that the world chooses -/
theorem poF_mem {P : Program} {ops : Array Oper} {Q : Exit → Go.Act → World → Prop} {w0 : World} {i : Nat} {π : List (Kind × Nat)} {a : Go.Act} {w : World} (o : Oper) (ho : ops[i]? = some o) (hg : o.guard = none) (R : Value → World → Prop) (hR : ∀ v p p', R v p → Fr [] p p' → R v p')
    (hr : ∀ u : World, ∃ v p, (execOp a.eval o).run P u = .ok (.value v) p ∧ Fr [] u p ∧ R v p) (h : ∀ (v : Value) (w' : World), Fr [] w w' → R v w' → poF P ops Q w0 π (a.put o.dst v) w') : poF P ops Q w0 ((.mem, i) :: π) a w := by
  intro u hu
  have hd : dstOf ops i = o.dst := by simp [dstOf, ho]
  obtain ⟨v, p, h1, h2, h3⟩ := hr u
  refine ⟨v, p, ?_, h2, fun w' h4 h5 => ?_⟩
  · unfold runV
    have hw : Region.wanted o (yielded ops a.tmps) = true := by simp [Region.wanted, hg]
    simp only [ho, hw, if_true, h1]
  · rw [hd]
    exact h v w' h4 (hR v p w' h3 h5)
def StrB (s : ByteArray) (v : Value) (p : World) : Prop := (∃ so sc, v = .slice so s.size sc) ∧ Bs (fun _ => False) p v s.data.toList
theorem run_str_bytes (s : ByteArray) (ρ : Operand → Value) (k : Nat) (o : Oper) (h : ρ (.tmp k) = .string s) (ho : o.op = .convert 9 59 (.tmp k)) (hs : s.size ≤ 1000) (u : World) :
    ∃ v p, (execOp ρ o).run Tryd.prog u = .ok (.value v) p ∧ Fr [] u p ∧ StrB s v p := by
  have hr := run_bytes_of_string (P := Tryd.prog) u 9 59 5 s Tryd.underlying9 Tryd.underlying59 Tryd.underlying5
  obtain ⟨cap, hcap⟩ : ∃ cap, grownCap u s.size 0 5 = cap := ⟨_, rfl⟩
  have h1 := grownCap_ge u s.size 0 5
  have h2 := grownCap_le_maxLen u s.size 0 5 (by simp [maxLen]; omega)
  rw [hcap] at hr h1 h2
  refine ⟨.slice (some ⟨u.heap.size, 0, none⟩) s.size cap, u.drew.alloc (.cells (bytesRow s cap) 5 ((bytesRow s cap).size, (bytesRow s cap).size + 1)), ?_, (Fr.drew u).trans (Fr.alloc _ _), ⟨_, _, rfl⟩, ?_⟩
  · unfold execOp
    simp only [ho, h, Sem.run_bind, hr, Result.andThen_ok, Sem.run_pure]
  · have hl : s.data.toList.length = s.size := by simp
    refine ⟨some ⟨u.heap.size, 0, none⟩, cap, by rw [hl], by rw [hl]; exact h1, h2, .inr ⟨u.heap.size, 0, bytesRow s cap, 5, _, rfl, fun h => h, heap_alloc_at (w := u.drew) rfl, fun i hi => ?_⟩⟩
    have hi' : i < s.data.size := by simpa using hi
    rw [Nat.zero_add]
    have hi2 : i < s.size := hi'
    simp [bytesRow, Array.getElem?_append, hi2]
    rfl
theorem run_len_sl (w : World) (ρ : Operand → Value) (k : Nat) (a : Option Addr) (n c : Nat) (o : Oper) (h : ρ (.tmp k) = .slice a n c) (ho : o.op = .call { callee := .builtin .len, args := #[.tmp k], argTypes := #[59] }) :
    (execOp ρ o).run Tryd.prog w = .ok (.value (.int .i64 n)) w := by
  unfold execOp
  simp only [ho, resolve, invoke, builtin, Sem.run_bind, Sem.run_pure, Result.andThen_ok, List.map_toArray, List.map_cons, List.map_nil, h]
  simp [go_sem]
end Go.Proofs.YtbohmnblegljkaaDoor
