/-
  Layer 31: the document's Same on equal acts.
-/
import Derived.Test.YtbohmnblegljkaaSam
namespace Go.Proofs.Ytbohmnblegljkaa
open Go.RowKit Go.Bl
set_option linter.unusedVariables false

theorem get_fst {l1 l2 : List AV} (h : l1.map (·.1) = l2.map (·.1)) {j : Nat} {x y : AV} (h1 : l1[j]? = some x) (h2 : l2[j]? = some y) : x.1 = y.1 := by
  have := congrArg (·[j]?) h
  simp [h1, h2] at this
  exact this

/-- bytes as a string, behind a guard that lets it run -/
theorem wpl_str_g {P : Program} {A : Nat → Prop} {w : World} {ops : Array Oper} {rest : List Oper} {o : Oper} {a : Go.Act} {Q : Exit → Go.Act → World → Prop} {src dst e : TypeId} {v : Value} {xs : List UInt8} (hs : P.underlying src = some (.slice e)) (he : P.underlying e = some (.int .u8)) (hd : P.underlying dst = some .string)
    (x : Operand) (ho : o.op = .convert src dst x) (hw : Region.wanted o (yielded ops a.tmps) = true) (hx : a.eval x = v) (hb : Bs A w v xs) (h : wpList P ops Q rest (a.put o.dst (.string ⟨xs.toArray⟩)) w) : wpList P ops Q (o :: rest) a w := by
  refine wpList_step fun K hK => ?_
  rw [if_pos hw]
  unfold Oper.wp execOp
  simp only [ho, hx, Sem.run_bind, run_str_bs hs he hd hb, Result.andThen_ok, Sem.run_pure]
  exact hK _ _ h

set_option maxRecDepth 1000000 in
set_option maxHeartbeats 8000000 in
theorem rsame_eq (A : Nat → Prop) (w : World) (v1 v2 : Value) (l1 l2 : List AV) (hr1 : RdA A w v1 l1) (hr2 : RdA A w v2 l2) (hl : l1.length ≤ 1000000) (he : l1.map (·.1) = l2.map (·.1)) :
    Calls Try.prog 7 #[v1, v2] w fun e w' => e = .returned (.bool true) ∧ Fr [] w w' := by
  have HR1 := Lib.hid hr1
  have HR2 := Lib.hid hr2
  obtain ⟨a1, cap1, rfl, g1, g2, g3⟩ := hr1.shape
  obtain ⟨a2, cap2, rfl, q1, q2, q3⟩ := hr2.shape
  have hll : l2.length = l1.length := by have := congrArg List.length he; simpa using this.symm
  obtain ⟨N, hN⟩ : ∃ N, l1.length = N := ⟨_, rfl⟩
  rw [hN] at hll
  rw [hN] at HR1 g1 g3 hl ⊢
  rw [hll] at HR2 q1 q3 ⊢
  have HN := Lib.hid (And.intro hN hll)
  have HE := Lib.hid he
  have G3 := Lib.hid g3
  have Q3 := Lib.hid q3
  clear hr1 hr2 hN hll he g3 q3
  unfold maxLen at g2 q2
  go_enter Try.func7, Try.ntmps7
  go_wp2
  go_loopw [15] (fun i wr => ∃ j : Nat, j ≤ N ∧ i = .int .i64 j ∧ Hid (Fr [] w wr)) (fun i _ => N - (intOf i).toNat)
  case atStart => exact ⟨0, by omega, rfl, Fr.refl _ _⟩
  case round =>
    obtain ⟨j, hj, rfl, HF⟩ := hrel
    by_cases hjn : j < N
    · obtain ⟨b0, o0, rfl, hnA, hc0⟩ := G3.out (by omega)
      obtain ⟨b1, o1, rfl, hnA1, hc1⟩ := Q3.out (by omega)
      obtain ⟨x, hx⟩ : ∃ x, l1[j]? = some x := ⟨_, List.getElem?_eq_getElem (by have := HN.out; omega)⟩
      obtain ⟨y, hy⟩ : ∃ y, l2[j]? = some y := ⟨_, List.getElem?_eq_getElem (by have := HN.out; omega)⟩
      have hxy := get_fst HE.out hx hy
      have HC0 := Lib.hid (range_keep (hc0 j x hx) HF.out)
      have HC1 := Lib.hid (range_keep (hc1 j y hy) HF.out)
      have hbx := HR1.out.2 x (List.mem_of_getElem? hx)
      have hby := HR2.out.2 y (List.mem_of_getElem? hy)
      obtain ⟨x, bx⟩ := x
      obtain ⟨y, bv⟩ := y
      obtain ⟨ao, an, ac, rfl⟩ := bs_shape hbx
      obtain ⟨eo, en, ec, rfl⟩ := bs_shape hby
      simp only at hxy hbx hby
      subst hxy
      have BX := Lib.hid (hbx.keep HF.out (by simp))
      have BY := Lib.hid (hby.keep HF.out (by simp))
      clear hc0 hc1 hx hy hbx hby
      go_wp2_with fail
      refine same_reg wr b0 o0 N cap1 b1 o1 N cap2 j ao eo an ac en ec x x _ _ _ _ _ _ _ _ _ _ _ _ _ _ _ _ _ _ _ _ _ _ _ _ _ _ _ _ _ _ _ _ _ _ _ _ _ _ _ _ _ _ _ _ _ _ _ _ _ _ _ _ _ _ _ _ _ _ _ _ _ _ _ _ _ _ _ _ _ _ _ _ _ _ _ _ _ _ _ _ _ _ _ _ _ _ _ _ _ _ _ _ _ _ _ _ _ _ _ _ _ _ hjn hjn hl hl HC0.out HC1.out ?_
      intro g0 g1 u18 u19 u20 u21 u22 u23 u24 u25 w2 hf2 hg hA0 hA1
      have hz : ∃ z0 z1 : Value, At w2 g0 (actO x z0 44) ∧ At w2 g1 (actO x z1 44) ∧ Bs A w2 z0 x.bytes ∧ Bs A w2 z1 x.bytes :=
        ⟨_, _, hA0, hA1, BX.out.keep hf2 (by simp), BY.out.keep hf2 (by simp)⟩
      obtain ⟨z0, z1, hz0, hz1, hb0, hb1⟩ := hz
      obtain ⟨zo0, zn0, zc0, rfl⟩ := bs_shape hb0
      obtain ⟨zo1, zn1, zc1, rfl⟩ := bs_shape hb1
      have B0 := Lib.hid hb0
      have B1 := Lib.hid hb1
      have HF2 := Lib.hid (HF.out.trans hf2)
      obtain ⟨p0, p1, p2, p3, p4, p5, p6, p7, p8, p9, p10, p11, p12, p13, p14, p15⟩ := actCells hz0
      obtain ⟨r0, r1, r2, r3, r4, r5, r6, r7, r8, r9, r10, r11, r12, r13, r14, r15⟩ := actCells hz1
      clear hA0 hA1 hz0 hz1 hb0 hb1 hf2 HC0 HC1 BX BY HF
      go_wp2_with (first | (refine wpl_str_g (src := 22) (dst := 9) Try.underlying22 Try.underlying5 Try.underlying9 (.tmp 96) rfl rfl rfl B0.out ?_) | (refine wpl_str_g (src := 22) (dst := 9) Try.underlying22 Try.underlying5 Try.underlying9 (.tmp 99) rfl rfl rfl B1.out ?_))
      go_roundw
      case rel => exact ⟨j + 1, by omega, by go_num, HF2.out⟩
      case measure => simp [intOf]; omega
    · obtain rfl : j = N := by omega
      go_wp2
      go_ret
      exact ⟨rfl, HF.out⟩
end Go.Proofs.Ytbohmnblegljkaa
