/-
  Layer 31: the document's Same on equal acts.
-/
import Derived.Test.YtbohmnblegljkaaSame
import Derived.Test.YtbohmnblegljkaaSc0
import Derived.Test.YtbohmnblegljkaaSc1
import Derived.Test.YtbohmnblegljkaaSc2
import Derived.Test.YtbohmnblegljkaaSc3
import Derived.Test.YtbohmnblegljkaaSc4
namespace Go.Proofs.Ytbohmnblegljkaa
open Go.RowKit Go.Bl
set_option linter.unusedVariables false
set_option maxRecDepth 1000000 in
set_option maxHeartbeats 8000000 in
theorem rsame_no (A : Nat → Prop) (w : World) (v1 v2 : Value) (l1 l2 : List AV) (hr1 : RdA A w v1 l1) (hr2 : RdA A w v2 l2) (x0 y0 : AV) (he1 : l1 = [x0]) (he2 : l2 = [y0]) (hne : x0.1 ≠ y0.1) :
    Calls Try.prog 7 #[v1, v2] w fun e w' => e = .returned (.bool false) ∧ Fr [] w w' := by
  have HR1 := Lib.hid hr1
  have HR2 := Lib.hid hr2
  obtain ⟨a1, cap1, rfl, g1, g2, g3⟩ := hr1.shape
  obtain ⟨a2, cap2, rfl, q1, q2, q3⟩ := hr2.shape
  subst he1
  subst he2
  have hll : [y0].length = [x0].length := rfl
  have hl : [x0].length ≤ 1000000 := by simp
  have hN1 : [x0].length = 1 := rfl
  obtain ⟨N, hN⟩ : ∃ N, [x0].length = N := ⟨_, rfl⟩
  rw [hN] at hN1
  have HN1 := Lib.hid hN1
  clear hN1
  rw [hN] at hll
  rw [hN] at HR1 g1 g3 hl ⊢
  rw [hll] at HR2 q1 q3 ⊢
  have HN := Lib.hid (And.intro hN hll)
  have HE := Lib.hid hne
  have G3 := Lib.hid g3
  have Q3 := Lib.hid q3
  clear hr1 hr2 hN hll hne g3 q3
  unfold maxLen at g2 q2
  go_enter Try.func7, Try.ntmps7
  go_wp2
  go_loopw [15] (fun i wr => ∃ j : Nat, Hid (j = 0) ∧ i = .int .i64 j ∧ Hid (Fr [] w wr)) (fun i _ => N - (intOf i).toNat)
  case atStart => exact ⟨0, rfl, rfl, Fr.refl _ _⟩
  case round =>
    obtain ⟨j, hj0, rfl, HF⟩ := hrel
    have hjn : j < N := by have := HN1.out; have := hj0.out; omega
    obtain ⟨b0, o0, rfl, hnA, hc0⟩ := G3.out (by omega)
    obtain ⟨b1, o1, rfl, hnA1, hc1⟩ := Q3.out (by omega)
    have HC0 := Lib.hid (range_keep (hc0 j x0 (by rw [hj0.out]; rfl)) HF.out)
    have HC1 := Lib.hid (range_keep (hc1 j y0 (by rw [hj0.out]; rfl)) HF.out)
    have hbx := HR1.out.2 x0 (by simp)
    have hby := HR2.out.2 y0 (by simp)
    obtain ⟨x, bx⟩ := x0
    obtain ⟨y, bv⟩ := y0
    obtain ⟨ao, an, ac, rfl⟩ := bs_shape hbx
    obtain ⟨eo, en, ec, rfl⟩ := bs_shape hby
    simp only at hbx hby
    have BX := Lib.hid (hbx.keep HF.out (by simp))
    have BY := Lib.hid (hby.keep HF.out (by simp))
    clear hc0 hc1 hbx hby G3 Q3 HR1 HR2
    go_wp2_with fail
    refine same_reg wr b0 o0 N cap1 b1 o1 N cap2 j ao eo an ac en ec x y _ _ _ _ _ _ _ _ _ _ _ _ _ _ _ _ _ _ _ _ _ _ _ _ _ _ _ _ _ _ _ _ _ _ _ _ _ _ _ _ _ _ _ _ _ _ _ _ _ _ _ _ _ _ _ _ _ _ _ _ _ _ _ _ _ _ _ _ _ _ _ _ _ _ _ _ _ _ _ _ _ _ _ _ _ _ _ _ _ _ _ _ _ _ _ _ _ _ _ _ _ _ hjn hjn hl hl HC0.out HC1.out ?_
    intro g0 g1 u18 u19 u20 u21 u22 u23 u24 u25 w2 hf2 hg hA0 hA1
    have HZ0 := Lib.hid (show At w2 g0 (actO x (.slice ao an ac) 44) from hA0)
    have HZ1 := Lib.hid (show At w2 g1 (actO y (.slice eo en ec) 44) from hA1)
    have B0 := Lib.hid (BX.out.keep hf2 (by simp))
    have B1 := Lib.hid (BY.out.keep hf2 (by simp))
    have HF2 := Lib.hid (HF.out.trans hf2)
    clear hA0 hA1 hf2 HC0 HC1 BX BY HF
    rename_i K hK
    refine hK _ _ ?_
    clear hK
    refine wp_seq ?_
    obtain ⟨p0, p1, p2, p3, p4, p5, p6, p7, p8, p9, p10, p11, p12, p13, p14, p15⟩ := actCells HZ0.out
    obtain ⟨r0, r1, r2, r3, r4, r5, r6, r7, r8, r9, r10, r11, r12, r13, r14, r15⟩ := actCells HZ1.out
    by_cases e_kind : x.kind = y.kind
    rotate_left
    · refine tests_0 A w2 g0 g1 ao eo an ac en ec x y _ _ _ _ _ _ _ _ _ _ _ _ _ _ _ _ _ _ _ _ _ _ _ _ _ _ _ _ _ _ _ _ _ _ _ _ _ _ _ _ _ _ _ _ _ _ _ _ _ _ _ _ _ _ _ _ _ _ _ _ _ _ _ _ _ _ _ _ _ _ _ _ _ _ _ _ _ _ _ _ _ _ _ _ _ _ _ _ _ _ _ _ _ _ _ _ _ _ _ _ _ _ _ B0.out B1.out e_kind p0 p1 p2 p3 p4 p5 p6 p7 p8 p9 p10 p11 p12 p13 p14 p15 r0 r1 r2 r3 r4 r5 r6 r7 r8 r9 r10 r11 r12 r13 r14 r15 ?_
      intro v0 v1 v2 v3 v4 v5 v6 v7 v8 v9 v10 v11 v12 v13 v14 v15 v16 v17 v18 v19 v20 v21 v22 v23 v24 v25 v26 v27 v28 v29 v30 v31 v32 v33 v34 v35 v36 v37 v38 v39 v40 v41 v42 v43 v44 v45 v46 v47 v48 v49 v50 v51 v52 v53 v54 v55 v56 v57 v58 v59 v60 v61 v62 v63 v64 v65 v66 v67 v68 v69 v70 v71 v72 v73 v74 v75
      clear e_kind p0 p1 p2 p3 p4 p5 p6 p7 p8 p9 p10 p11 p12 p13 p14 p15 r0 r1 r2 r3 r4 r5 r6 r7 r8 r9 r10 r11 r12 r13 r14 r15
      go_wp2
      go_ret
      exact ⟨rfl, HF2.out⟩
    by_cases e_n : x.n = y.n
    rotate_left
    · refine tests_1 A w2 g0 g1 ao eo an ac en ec x y _ _ _ _ _ _ _ _ _ _ _ _ _ _ _ _ _ _ _ _ _ _ _ _ _ _ _ _ _ _ _ _ _ _ _ _ _ _ _ _ _ _ _ _ _ _ _ _ _ _ _ _ _ _ _ _ _ _ _ _ _ _ _ _ _ _ _ _ _ _ _ _ _ _ _ _ _ _ _ _ _ _ _ _ _ _ _ _ _ _ _ _ _ _ _ _ _ _ _ _ _ _ _ B0.out B1.out e_n p0 p1 p2 p3 p4 p5 p6 p7 p8 p9 p10 p11 p12 p13 p14 p15 (by rw [e_kind]; exact r0) r1 r2 r3 r4 r5 r6 r7 r8 r9 r10 r11 r12 r13 r14 r15 ?_
      intro v0 v1 v2 v3 v4 v5 v6 v7 v8 v9 v10 v11 v12 v13 v14 v15 v16 v17 v18 v19 v20 v21 v22 v23 v24 v25 v26 v27 v28 v29 v30 v31 v32 v33 v34 v35 v36 v37 v38 v39 v40 v41 v42 v43 v44 v45 v46 v47 v48 v49 v50 v51 v52 v53 v54 v55 v56 v57 v58 v59 v60 v61 v62 v63 v64 v65 v66 v67 v68 v69 v70 v71 v72 v73 v74 v75
      clear e_n p0 p1 p2 p3 p4 p5 p6 p7 p8 p9 p10 p11 p12 p13 p14 p15 r0 r1 r2 r3 r4 r5 r6 r7 r8 r9 r10 r11 r12 r13 r14 r15
      go_wp2
      go_ret
      exact ⟨rfl, HF2.out⟩
    by_cases e_i : x.i = y.i
    rotate_left
    · refine tests_2 A w2 g0 g1 ao eo an ac en ec x y _ _ _ _ _ _ _ _ _ _ _ _ _ _ _ _ _ _ _ _ _ _ _ _ _ _ _ _ _ _ _ _ _ _ _ _ _ _ _ _ _ _ _ _ _ _ _ _ _ _ _ _ _ _ _ _ _ _ _ _ _ _ _ _ _ _ _ _ _ _ _ _ _ _ _ _ _ _ _ _ _ _ _ _ _ _ _ _ _ _ _ _ _ _ _ _ _ _ _ _ _ _ _ B0.out B1.out e_i p0 p1 p2 p3 p4 p5 p6 p7 p8 p9 p10 p11 p12 p13 p14 p15 (by rw [e_kind]; exact r0) (by rw [e_n]; exact r1) r2 r3 r4 r5 r6 r7 r8 r9 r10 r11 r12 r13 r14 r15 ?_
      intro v0 v1 v2 v3 v4 v5 v6 v7 v8 v9 v10 v11 v12 v13 v14 v15 v16 v17 v18 v19 v20 v21 v22 v23 v24 v25 v26 v27 v28 v29 v30 v31 v32 v33 v34 v35 v36 v37 v38 v39 v40 v41 v42 v43 v44 v45 v46 v47 v48 v49 v50 v51 v52 v53 v54 v55 v56 v57 v58 v59 v60 v61 v62 v63 v64 v65 v66 v67 v68 v69 v70 v71 v72 v73 v74 v75
      clear e_i p0 p1 p2 p3 p4 p5 p6 p7 p8 p9 p10 p11 p12 p13 p14 p15 r0 r1 r2 r3 r4 r5 r6 r7 r8 r9 r10 r11 r12 r13 r14 r15
      go_wp2
      go_ret
      exact ⟨rfl, HF2.out⟩
    by_cases e_at : x.at_ = y.at_
    rotate_left
    · refine tests_3 A w2 g0 g1 ao eo an ac en ec x y _ _ _ _ _ _ _ _ _ _ _ _ _ _ _ _ _ _ _ _ _ _ _ _ _ _ _ _ _ _ _ _ _ _ _ _ _ _ _ _ _ _ _ _ _ _ _ _ _ _ _ _ _ _ _ _ _ _ _ _ _ _ _ _ _ _ _ _ _ _ _ _ _ _ _ _ _ _ _ _ _ _ _ _ _ _ _ _ _ _ _ _ _ _ _ _ _ _ _ _ _ _ _ B0.out B1.out e_at p0 p1 p2 p3 p4 p5 p6 p7 p8 p9 p10 p11 p12 p13 p14 p15 (by rw [e_kind]; exact r0) (by rw [e_n]; exact r1) (by rw [e_i]; exact r2) r3 r4 r5 r6 r7 r8 r9 r10 r11 r12 r13 r14 r15 ?_
      intro v0 v1 v2 v3 v4 v5 v6 v7 v8 v9 v10 v11 v12 v13 v14 v15 v16 v17 v18 v19 v20 v21 v22 v23 v24 v25 v26 v27 v28 v29 v30 v31 v32 v33 v34 v35 v36 v37 v38 v39 v40 v41 v42 v43 v44 v45 v46 v47 v48 v49 v50 v51 v52 v53 v54 v55 v56 v57 v58 v59 v60 v61 v62 v63 v64 v65 v66 v67 v68 v69 v70 v71 v72 v73 v74 v75
      clear e_at p0 p1 p2 p3 p4 p5 p6 p7 p8 p9 p10 p11 p12 p13 p14 p15 r0 r1 r2 r3 r4 r5 r6 r7 r8 r9 r10 r11 r12 r13 r14 r15
      go_wp2
      go_ret
      exact ⟨rfl, HF2.out⟩
    by_cases e_by : x.by_ = y.by_
    rotate_left
    · refine tests_4 A w2 g0 g1 ao eo an ac en ec x y _ _ _ _ _ _ _ _ _ _ _ _ _ _ _ _ _ _ _ _ _ _ _ _ _ _ _ _ _ _ _ _ _ _ _ _ _ _ _ _ _ _ _ _ _ _ _ _ _ _ _ _ _ _ _ _ _ _ _ _ _ _ _ _ _ _ _ _ _ _ _ _ _ _ _ _ _ _ _ _ _ _ _ _ _ _ _ _ _ _ _ _ _ _ _ _ _ _ _ _ _ _ _ B0.out B1.out e_by p0 p1 p2 p3 p4 p5 p6 p7 p8 p9 p10 p11 p12 p13 p14 p15 (by rw [e_kind]; exact r0) (by rw [e_n]; exact r1) (by rw [e_i]; exact r2) (by rw [e_at]; exact r3) r4 r5 r6 r7 r8 r9 r10 r11 r12 r13 r14 r15 ?_
      intro v0 v1 v2 v3 v4 v5 v6 v7 v8 v9 v10 v11 v12 v13 v14 v15 v16 v17 v18 v19 v20 v21 v22 v23 v24 v25 v26 v27 v28 v29 v30 v31 v32 v33 v34 v35 v36 v37 v38 v39 v40 v41 v42 v43 v44 v45 v46 v47 v48 v49 v50 v51 v52 v53 v54 v55 v56 v57 v58 v59 v60 v61 v62 v63 v64 v65 v66 v67 v68 v69 v70 v71 v72 v73 v74 v75
      clear e_by p0 p1 p2 p3 p4 p5 p6 p7 p8 p9 p10 p11 p12 p13 p14 p15 r0 r1 r2 r3 r4 r5 r6 r7 r8 r9 r10 r11 r12 r13 r14 r15
      go_wp2
      go_ret
      exact ⟨rfl, HF2.out⟩
    by_cases e_name : x.name = y.name
    rotate_left
    · refine tests_5 A w2 g0 g1 ao eo an ac en ec x y _ _ _ _ _ _ _ _ _ _ _ _ _ _ _ _ _ _ _ _ _ _ _ _ _ _ _ _ _ _ _ _ _ _ _ _ _ _ _ _ _ _ _ _ _ _ _ _ _ _ _ _ _ _ _ _ _ _ _ _ _ _ _ _ _ _ _ _ _ _ _ _ _ _ _ _ _ _ _ _ _ _ _ _ _ _ _ _ _ _ _ _ _ _ _ _ _ _ _ _ _ _ _ B0.out B1.out e_name p0 p1 p2 p3 p4 p5 p6 p7 p8 p9 p10 p11 p12 p13 p14 p15 (by rw [e_kind]; exact r0) (by rw [e_n]; exact r1) (by rw [e_i]; exact r2) (by rw [e_at]; exact r3) (by rw [e_by]; exact r4) r5 r6 r7 r8 r9 r10 r11 r12 r13 r14 r15 ?_
      intro v0 v1 v2 v3 v4 v5 v6 v7 v8 v9 v10 v11 v12 v13 v14 v15 v16 v17 v18 v19 v20 v21 v22 v23 v24 v25 v26 v27 v28 v29 v30 v31 v32 v33 v34 v35 v36 v37 v38 v39 v40 v41 v42 v43 v44 v45 v46 v47 v48 v49 v50 v51 v52 v53 v54 v55 v56 v57 v58 v59 v60 v61 v62 v63 v64 v65 v66 v67 v68 v69 v70 v71 v72 v73 v74 v75
      clear e_name p0 p1 p2 p3 p4 p5 p6 p7 p8 p9 p10 p11 p12 p13 p14 p15 r0 r1 r2 r3 r4 r5 r6 r7 r8 r9 r10 r11 r12 r13 r14 r15
      go_wp2
      go_ret
      exact ⟨rfl, HF2.out⟩
    by_cases e_par : x.p0 = y.p0 ∧ x.p1 = y.p1 ∧ x.p2 = y.p2 ∧ x.p3 = y.p3 ∧ x.p4 = y.p4 ∧ x.p5 = y.p5
    rotate_left
    · refine tests_6 A w2 g0 g1 ao eo an ac en ec x y _ _ _ _ _ _ _ _ _ _ _ _ _ _ _ _ _ _ _ _ _ _ _ _ _ _ _ _ _ _ _ _ _ _ _ _ _ _ _ _ _ _ _ _ _ _ _ _ _ _ _ _ _ _ _ _ _ _ _ _ _ _ _ _ _ _ _ _ _ _ _ _ _ _ _ _ _ _ _ _ _ _ _ _ _ _ _ _ _ _ _ _ _ _ _ _ _ _ _ _ _ _ _ B0.out B1.out e_par p0 p1 p2 p3 p4 p5 p6 p7 p8 p9 p10 p11 p12 p13 p14 p15 (by rw [e_kind]; exact r0) (by rw [e_n]; exact r1) (by rw [e_i]; exact r2) (by rw [e_at]; exact r3) (by rw [e_by]; exact r4) (by rw [e_name]; exact r5) r6 r7 r8 r9 r10 r11 r12 r13 r14 r15 ?_
      intro v0 v1 v2 v3 v4 v5 v6 v7 v8 v9 v10 v11 v12 v13 v14 v15 v16 v17 v18 v19 v20 v21 v22 v23 v24 v25 v26 v27 v28 v29 v30 v31 v32 v33 v34 v35 v36 v37 v38 v39 v40 v41 v42 v43 v44 v45 v46 v47 v48 v49 v50 v51 v52 v53 v54 v55 v56 v57 v58 v59 v60 v61 v62 v63 v64 v65 v66 v67 v68 v69 v70 v71 v72 v73 v74 v75
      clear e_par p0 p1 p2 p3 p4 p5 p6 p7 p8 p9 p10 p11 p12 p13 p14 p15 r0 r1 r2 r3 r4 r5 r6 r7 r8 r9 r10 r11 r12 r13 r14 r15
      go_wp2
      go_ret
      exact ⟨rfl, HF2.out⟩
    obtain ⟨e_p0, e_p1, e_p2, e_p3, e_p4, e_p5⟩ := e_par
    by_cases e_kept : x.kept = y.kept
    rotate_left
    · refine tests_7 A w2 g0 g1 ao eo an ac en ec x y _ _ _ _ _ _ _ _ _ _ _ _ _ _ _ _ _ _ _ _ _ _ _ _ _ _ _ _ _ _ _ _ _ _ _ _ _ _ _ _ _ _ _ _ _ _ _ _ _ _ _ _ _ _ _ _ _ _ _ _ _ _ _ _ _ _ _ _ _ _ _ _ _ _ _ _ _ _ _ _ _ _ _ _ _ _ _ _ _ _ _ _ _ _ _ _ _ _ _ _ _ _ _ B0.out B1.out e_kept p0 p1 p2 p3 p4 p5 p6 p7 p8 p9 p10 p11 p12 p13 p14 p15 (by rw [e_kind]; exact r0) (by rw [e_n]; exact r1) (by rw [e_i]; exact r2) (by rw [e_at]; exact r3) (by rw [e_by]; exact r4) (by rw [e_name]; exact r5) r6 (by rw [e_p0]; exact r7) (by rw [e_p1]; exact r8) (by rw [e_p2]; exact r9) (by rw [e_p3]; exact r10) (by rw [e_p4]; exact r11) (by rw [e_p5]; exact r12) r13 r14 r15 ?_
      intro v0 v1 v2 v3 v4 v5 v6 v7 v8 v9 v10 v11 v12 v13 v14 v15 v16 v17 v18 v19 v20 v21 v22 v23 v24 v25 v26 v27 v28 v29 v30 v31 v32 v33 v34 v35 v36 v37 v38 v39 v40 v41 v42 v43 v44 v45 v46 v47 v48 v49 v50 v51 v52 v53 v54 v55 v56 v57 v58 v59 v60 v61 v62 v63 v64 v65 v66 v67 v68 v69 v70 v71 v72 v73 v74 v75
      clear e_kept p0 p1 p2 p3 p4 p5 p6 p7 p8 p9 p10 p11 p12 p13 p14 p15 r0 r1 r2 r3 r4 r5 r6 r7 r8 r9 r10 r11 r12 r13 r14 r15
      go_wp2
      go_ret
      exact ⟨rfl, HF2.out⟩
    by_cases e_torn : x.torn = y.torn
    rotate_left
    · refine tests_8 A w2 g0 g1 ao eo an ac en ec x y _ _ _ _ _ _ _ _ _ _ _ _ _ _ _ _ _ _ _ _ _ _ _ _ _ _ _ _ _ _ _ _ _ _ _ _ _ _ _ _ _ _ _ _ _ _ _ _ _ _ _ _ _ _ _ _ _ _ _ _ _ _ _ _ _ _ _ _ _ _ _ _ _ _ _ _ _ _ _ _ _ _ _ _ _ _ _ _ _ _ _ _ _ _ _ _ _ _ _ _ _ _ _ B0.out B1.out e_torn p0 p1 p2 p3 p4 p5 p6 p7 p8 p9 p10 p11 p12 p13 p14 p15 (by rw [e_kind]; exact r0) (by rw [e_n]; exact r1) (by rw [e_i]; exact r2) (by rw [e_at]; exact r3) (by rw [e_by]; exact r4) (by rw [e_name]; exact r5) r6 (by rw [e_p0]; exact r7) (by rw [e_p1]; exact r8) (by rw [e_p2]; exact r9) (by rw [e_p3]; exact r10) (by rw [e_p4]; exact r11) (by rw [e_p5]; exact r12) (by rw [e_kept]; exact r13) r14 r15 ?_
      intro v0 v1 v2 v3 v4 v5 v6 v7 v8 v9 v10 v11 v12 v13 v14 v15 v16 v17 v18 v19 v20 v21 v22 v23 v24 v25 v26 v27 v28 v29 v30 v31 v32 v33 v34 v35 v36 v37 v38 v39 v40 v41 v42 v43 v44 v45 v46 v47 v48 v49 v50 v51 v52 v53 v54 v55 v56 v57 v58 v59 v60 v61 v62 v63 v64 v65 v66 v67 v68 v69 v70 v71 v72 v73 v74 v75
      clear e_torn p0 p1 p2 p3 p4 p5 p6 p7 p8 p9 p10 p11 p12 p13 p14 p15 r0 r1 r2 r3 r4 r5 r6 r7 r8 r9 r10 r11 r12 r13 r14 r15
      go_wp2
      go_ret
      exact ⟨rfl, HF2.out⟩
    by_cases e_scat : x.scat = y.scat
    rotate_left
    · refine tests_9 A w2 g0 g1 ao eo an ac en ec x y _ _ _ _ _ _ _ _ _ _ _ _ _ _ _ _ _ _ _ _ _ _ _ _ _ _ _ _ _ _ _ _ _ _ _ _ _ _ _ _ _ _ _ _ _ _ _ _ _ _ _ _ _ _ _ _ _ _ _ _ _ _ _ _ _ _ _ _ _ _ _ _ _ _ _ _ _ _ _ _ _ _ _ _ _ _ _ _ _ _ _ _ _ _ _ _ _ _ _ _ _ _ _ B0.out B1.out e_scat p0 p1 p2 p3 p4 p5 p6 p7 p8 p9 p10 p11 p12 p13 p14 p15 (by rw [e_kind]; exact r0) (by rw [e_n]; exact r1) (by rw [e_i]; exact r2) (by rw [e_at]; exact r3) (by rw [e_by]; exact r4) (by rw [e_name]; exact r5) r6 (by rw [e_p0]; exact r7) (by rw [e_p1]; exact r8) (by rw [e_p2]; exact r9) (by rw [e_p3]; exact r10) (by rw [e_p4]; exact r11) (by rw [e_p5]; exact r12) (by rw [e_kept]; exact r13) (by rw [e_torn]; exact r14) r15 ?_
      intro v0 v1 v2 v3 v4 v5 v6 v7 v8 v9 v10 v11 v12 v13 v14 v15 v16 v17 v18 v19 v20 v21 v22 v23 v24 v25 v26 v27 v28 v29 v30 v31 v32 v33 v34 v35 v36 v37 v38 v39 v40 v41 v42 v43 v44 v45 v46 v47 v48 v49 v50 v51 v52 v53 v54 v55 v56 v57 v58 v59 v60 v61 v62 v63 v64 v65 v66 v67 v68 v69 v70 v71 v72 v73 v74 v75
      clear e_scat p0 p1 p2 p3 p4 p5 p6 p7 p8 p9 p10 p11 p12 p13 p14 p15 r0 r1 r2 r3 r4 r5 r6 r7 r8 r9 r10 r11 r12 r13 r14 r15
      go_wp2
      go_ret
      exact ⟨rfl, HF2.out⟩
    by_cases e_bytes : x.bytes = y.bytes
    rotate_left
    · refine tests_10 A w2 g0 g1 ao eo an ac en ec x y _ _ _ _ _ _ _ _ _ _ _ _ _ _ _ _ _ _ _ _ _ _ _ _ _ _ _ _ _ _ _ _ _ _ _ _ _ _ _ _ _ _ _ _ _ _ _ _ _ _ _ _ _ _ _ _ _ _ _ _ _ _ _ _ _ _ _ _ _ _ _ _ _ _ _ _ _ _ _ _ _ _ _ _ _ _ _ _ _ _ _ _ _ _ _ _ _ _ _ _ _ _ _ B0.out B1.out e_bytes p0 p1 p2 p3 p4 p5 p6 p7 p8 p9 p10 p11 p12 p13 p14 p15 (by rw [e_kind]; exact r0) (by rw [e_n]; exact r1) (by rw [e_i]; exact r2) (by rw [e_at]; exact r3) (by rw [e_by]; exact r4) (by rw [e_name]; exact r5) r6 (by rw [e_p0]; exact r7) (by rw [e_p1]; exact r8) (by rw [e_p2]; exact r9) (by rw [e_p3]; exact r10) (by rw [e_p4]; exact r11) (by rw [e_p5]; exact r12) (by rw [e_kept]; exact r13) (by rw [e_torn]; exact r14) (by rw [e_scat]; exact r15) ?_
      intro v0 v1 v2 v3 v4 v5 v6 v7 v8 v9 v10 v11 v12 v13 v14 v15 v16 v17 v18 v19 v20 v21 v22 v23 v24 v25 v26 v27 v28 v29 v30 v31 v32 v33 v34 v35 v36 v37 v38 v39 v40 v41 v42 v43 v44 v45 v46 v47 v48 v49 v50 v51 v52 v53 v54 v55 v56 v57 v58 v59 v60 v61 v62 v63 v64 v65 v66 v67 v68 v69 v70 v71 v72 v73 v74 v75
      clear e_bytes p0 p1 p2 p3 p4 p5 p6 p7 p8 p9 p10 p11 p12 p13 p14 p15 r0 r1 r2 r3 r4 r5 r6 r7 r8 r9 r10 r11 r12 r13 r14 r15
      go_wp2
      go_ret
      exact ⟨rfl, HF2.out⟩
    exfalso
    refine HE.out ?_
    clear HE p0 p1 p2 p3 p4 p5 p6 p7 p8 p9 p10 p11 p12 p13 p14 p15 r0 r1 r2 r3 r4 r5 r6 r7 r8 r9 r10 r11 r12 r13 r14 r15 HZ0 HZ1 B0 B1
    obtain ⟨x0, x1, x2, x3, x4, x5, x6, x7, x8, x9, x10, x11, x12, x13, x14, x15⟩ := x
    obtain ⟨y0, y1, y2, y3, y4, y5, y6, y7, y8, y9, y10, y11, y12, y13, y14, y15⟩ := y
    simp only at e_kind e_n e_i e_at e_by e_name e_p0 e_p1 e_p2 e_p3 e_p4 e_p5 e_kept e_torn e_scat e_bytes
    subst e_kind e_n e_i e_at e_by e_name e_p0 e_p1 e_p2 e_p3 e_p4 e_p5 e_kept e_torn e_scat e_bytes
    rfl
end Go.Proofs.Ytbohmnblegljkaa
