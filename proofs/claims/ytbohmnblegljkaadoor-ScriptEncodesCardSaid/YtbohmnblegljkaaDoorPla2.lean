/-
  Layer 31: an act's plain form. (printed by genpln.py)
-/
import Derived.Test.YtbohmnblegljkaaDoorGE
namespace Go.Proofs.YtbohmnblegljkaaDoor
open Go.RowKit Go.Bl
set_option linter.unusedVariables false

set_option maxRecDepth 100000 in
set_option maxHeartbeats 8000000 in
theorem Plain_9 (A : Nat → Prop) (w : World) (a : ActP) (bo : Option Addr) (bn bc : Nat) (hb : Bs A w (.slice bo bn bc) a.bytes) (hlen : a.bytes.length ≤ 4000000) (kq : a.kind = 9) :
    Calls Tryd.prog 33 #[.agg (actC a (.slice bo bn bc))] w fun e w' => ∃ bv, e = .returned (.agg (actC (plainA a) bv)) ∧ OwnB 5 w.heap.size w' bv (plainA a).bytes ∧ Fr [] w w' := by
  have HA := Lib.hid (show At ((w.alloc (actO a (.slice bo bn bc) 71)).alloc (.cells #[.int .i64 0, .int .i64 0, .int .i64 0, .int .i64 0, .int .i64 0, .string ⟨#[]⟩, .slice none 0 0, .int .i64 0, .int .i64 0, .int .i64 0, .int .i64 0, .int .i64 0, .int .i64 0, .int .i64 0, .int .i64 0, .int .u64 0] 71)) w.heap.size (actO a (.slice bo bn bc) 71) from (At.new rfl).al)
  have HB := Lib.hid (show At ((w.alloc (actO a (.slice bo bn bc) 71)).alloc (.cells #[.int .i64 0, .int .i64 0, .int .i64 0, .int .i64 0, .int .i64 0, .string ⟨#[]⟩, .slice none 0 0, .int .i64 0, .int .i64 0, .int .i64 0, .int .i64 0, .int .i64 0, .int .i64 0, .int .i64 0, .int .i64 0, .int .u64 0] 71)) (w.heap.size + 1) (.cells #[.int .i64 0, .int .i64 0, .int .i64 0, .int .i64 0, .int .i64 0, .string ⟨#[]⟩, .slice none 0 0, .int .i64 0, .int .i64 0, .int .i64 0, .int .i64 0, .int .i64 0, .int .i64 0, .int .i64 0, .int .i64 0, .int .u64 0] 71) from At.new (by simp))
  have HF := Lib.hid (show Fr [] w ((w.alloc (actO a (.slice bo bn bc) 71)).alloc (.cells #[.int .i64 0, .int .i64 0, .int .i64 0, .int .i64 0, .int .i64 0, .string ⟨#[]⟩, .slice none 0 0, .int .i64 0, .int .i64 0, .int .i64 0, .int .i64 0, .int .i64 0, .int .i64 0, .int .i64 0, .int .i64 0, .int .u64 0] 71)) from Fr.al (Fr.alloc _ _))
  have BX := Lib.hid (hb.mono (A' := fun b => A b ∨ w.heap.size ≤ b) HF.out (by simp) (fun b h => h))
  clear hb
  have HK := Lib.hid kq
  have HP := Lib.hid (show plainA a = _ from by unfold plainA; rw [if_neg (by omega), if_neg (by omega), if_pos (by omega)])
  clear kq
  go_enter Tryd.func33, Tryd.ntmps33
  go_wp2_with fail
  refine wp_region_pf [(.val, 2), (.val, 3), (.call, 4), (.val, 5), (.val, 6), (.call, 7), (.val, 8), (.val, 9), (.call, 10), (.val, 11), (.val, 12), (.call, 13), (.val, 0), (.val, 1), (.val, 14), (.mem, 15), (.tail, 16)] (by kernel_rfl) (by kernel_rfl) ?_
  intro wa ha
  replace HA := Lib.hid (HA.out.keep0 ha)
  replace HB := Lib.hid (HB.out.keep0 ha)
  replace HF := Lib.hid (HF.out.trans ha)
  replace BX := Lib.hid (BX.out.keep ha (by simp))
  have hsa := HA.out.lt
  have hsb := HB.out.lt
  clear ha
  have e := fun z : Kin wa => actCells (HA.out.keep0 z.fr)
  have e0 := fun z : Kin wa => (e z).1
  have e1 := fun z : Kin wa => (e z).2.1
  have e2 := fun z : Kin wa => (e z).2.2.1
  have e3 := fun z : Kin wa => (e z).2.2.2.1
  have e4 := fun z : Kin wa => (e z).2.2.2.2.1
  clear e
  have G := Lib.hid (Fr.refl [] wa)
  refine poF_vals 2 _ _ _ (by kernel_rfl) ?_
  simp only [opersOf, List.take_succ_cons, List.take_zero, List.filterMap_cons, List.filterMap_nil, List.getElem?_toArray, List.getElem?_cons_succ, List.getElem?_cons_zero, List.drop_succ_cons, List.drop_zero]
  show wpQuiet _ _ _ _ [_, _] _
  iterate 2 go_big_quiet_step (fail)
  refine wpQuiet_nil ?_
  refine poF_call _ (by simp only [List.getElem?_toArray, List.getElem?_cons_succ, List.getElem?_cons_zero]; rfl) ?_
  intro u hu
  go_wp2_with fail
  refine (rest_any _ _ _ (by omega)).mono ?_
  rintro e u0 ⟨rfl, hf⟩
  rename_i K hK
  refine hK _ _ ?_
  refine ⟨rfl, rfl, hf, ?_⟩
  clear hK K
  replace G := Lib.hid ((G.out.trans hu).trans hf)
  clear hu hf
  refine poF_vals 2 _ _ _ (by kernel_rfl) ?_
  simp only [opersOf, List.take_succ_cons, List.take_zero, List.filterMap_cons, List.filterMap_nil, List.getElem?_toArray, List.getElem?_cons_succ, List.getElem?_cons_zero, List.drop_succ_cons, List.drop_zero]
  show wpQuiet _ _ _ _ [_, _] _
  iterate 2 go_big_quiet_step (fail)
  refine wpQuiet_nil ?_
  refine poF_call _ (by simp only [List.getElem?_toArray, List.getElem?_cons_succ, List.getElem?_cons_zero]; rfl) ?_
  intro u hu
  go_wp2_with fail
  refine (rest_any _ _ _ (by omega)).mono ?_
  rintro e u1 ⟨rfl, hf⟩
  rename_i K hK
  refine hK _ _ ?_
  refine ⟨rfl, rfl, hf, ?_⟩
  clear hK K
  replace G := Lib.hid ((G.out.trans hu).trans hf)
  clear hu hf
  refine poF_vals 2 _ _ _ (by kernel_rfl) ?_
  simp only [opersOf, List.take_succ_cons, List.take_zero, List.filterMap_cons, List.filterMap_nil, List.getElem?_toArray, List.getElem?_cons_succ, List.getElem?_cons_zero, List.drop_succ_cons, List.drop_zero]
  show wpQuiet _ _ _ _ [_, _] _
  iterate 2 go_big_quiet_step (fail)
  refine wpQuiet_nil ?_
  refine poF_call _ (by simp only [List.getElem?_toArray, List.getElem?_cons_succ, List.getElem?_cons_zero]; rfl) ?_
  intro u hu
  go_wp2_with fail
  refine (rest_any _ _ _ (by omega)).mono ?_
  rintro e u2 ⟨rfl, hf⟩
  rename_i K hK
  refine hK _ _ ?_
  refine ⟨rfl, rfl, hf, ?_⟩
  clear hK K
  replace G := Lib.hid ((G.out.trans hu).trans hf)
  clear hu hf
  refine poF_vals 2 _ _ _ (by kernel_rfl) ?_
  simp only [opersOf, List.take_succ_cons, List.take_zero, List.filterMap_cons, List.filterMap_nil, List.getElem?_toArray, List.getElem?_cons_succ, List.getElem?_cons_zero, List.drop_succ_cons, List.drop_zero]
  show wpQuiet _ _ _ _ [_, _] _
  iterate 2 go_big_quiet_step (fail)
  refine wpQuiet_nil ?_
  refine poF_call _ (by simp only [List.getElem?_toArray, List.getElem?_cons_succ, List.getElem?_cons_zero]; rfl) ?_
  intro u hu
  go_wp2_with fail
  refine (rest_any _ _ _ (by omega)).mono ?_
  rintro e u3 ⟨rfl, hf⟩
  rename_i K hK
  refine hK _ _ ?_
  refine ⟨rfl, rfl, hf, ?_⟩
  clear hK K
  replace G := Lib.hid ((G.out.trans hu).trans hf)
  clear hu hf
  refine poF_vals 3 _ _ _ (by kernel_rfl) ?_
  simp only [opersOf, List.take_succ_cons, List.take_zero, List.filterMap_cons, List.filterMap_nil, List.getElem?_toArray, List.getElem?_cons_succ, List.getElem?_cons_zero, List.drop_succ_cons, List.drop_zero]
  show wpQuiet _ _ _ _ [_, _, _] _
  iterate 3 go_big_quiet_step (fail)
  refine wpQuiet_nil ?_
  refine poF_new _ (by simp only [List.getElem?_toArray, List.getElem?_cons_succ, List.getElem?_cons_zero]; rfl) rfl (.cells #[.int .i64 0, .int .i64 0, .int .i64 0, .int .i64 0, .int .i64 0, .string ⟨#[]⟩, .slice none 0 0, .int .i64 0, .int .i64 0, .int .i64 0, .int .i64 0, .int .i64 0, .int .i64 0, .int .i64 0, .int .i64 0, .int .u64 0] 71) (fun b => .pointer (some ⟨b, 0, none⟩)) (fun _ => by kernel_rfl) ?_
  intro b3 wb hb3 hwb hAt
  go_frame
  refine poF_tail _ (by simp only [List.getElem?_toArray, List.getElem?_cons_succ, List.getElem?_cons_zero]; rfl) ?_
  intro u hu
  have HC := Lib.hid (hAt.keep0 hu)
  replace G := Lib.hid ((G.out.trans hwb).trans hu)
  clear hwb hAt hu e0 e1 e2 e3 e4
  refine wpl_store_whole (.tmp 3) (.tmp 18) rfl rfl (actC (plainBase a) (.slice none 0 0)) rfl rfl (by kernel_rfl) HC.out rfl (by simp [actC, Value.oneCell']) ?_
  intro wz hf hA _
  refine ⟨rfl, rfl, ?_⟩
  go_frame
  refine poF_end ?_
  intro wy hy
  replace HC := Lib.hid (show At wy b3 (actO (plainBase a) (.slice none 0 0) 71) from hA.keep0 hy)
  have F1 := Lib.hid (show Fr [] wa wy from (G.out.then hf (by intro b hb; simp at hb; omega)).trans hy)
  replace HA := Lib.hid (HA.out.keep0 F1.out)
  replace HB := Lib.hid (HB.out.keep0 F1.out)
  replace HF := Lib.hid (HF.out.trans F1.out)
  replace BX := Lib.hid (BX.out.keep F1.out (by simp))
  clear hf hA hy G F1
  have z0 := (actCells HA.out).1
  have t10 : (a.kind == 10) = false := by have := HK.out; rw [beq_eq_false_iff_ne]; omega
  have t1 : (a.kind == 1) = false := by have := HK.out; rw [beq_eq_false_iff_ne]; omega
  have t9 : (a.kind == 9) = true := by have := HK.out; rw [beq_iff_eq]; omega
  have t13 : (a.kind == 13) = false := by have := HK.out; rw [beq_eq_false_iff_ne]; omega
  have z6 := (actCells HA.out).2.2.2.2.2.2.1
  have hsw := HF.out.size
  obtain ⟨a0, cp, hsl, hcap, hmx, -⟩ := id BX.out
  cases hsl
  obtain ⟨BN, hBN⟩ : ∃ BN, a.bytes.length = BN := ⟨_, rfl⟩
  rw [hBN] at z6 hcap hlen BX
  unfold maxLen at hmx
  have HBN := Lib.hid hBN
  clear hBN
  obtain ⟨mn, hmn⟩ : ∃ mn : Nat, (BN ≤ 65535 ∧ mn = BN) ∨ (65535 < BN ∧ mn = 65535) := by
    rcases Nat.lt_or_ge 65535 BN with h | h
    · exact ⟨65535, .inr ⟨h, rfl⟩⟩
    · exact ⟨BN, .inl ⟨h, rfl⟩⟩
  have hmi : min (BN : Int) 65535 = mn := by omega
  have BT := Lib.hid (show Bs (fun b => A b ∨ w.heap.size ≤ b) wy (.slice bo mn bc) (a.bytes.take 65535) from by
    have h1 := BX.out.take mn (by omega)
    rcases hmn with ⟨h, rfl⟩ | ⟨h, rfl⟩
    · rw [List.take_of_length_le (by have := HBN.out; omega)]
      rwa [List.take_of_length_le (by have := HBN.out; omega)] at h1
    · exact h1)
  rcases hmn with ⟨h, rfl⟩ | ⟨h, rfl⟩
  · go_wp2_with fail
    refine (clone_any (fun b => A b ∨ w.heap.size ≤ b) wy _ _ BT.out (by simp; omega)).mono ?_
    rintro e w5 ⟨v', rfl, ho, hf⟩
    obtain ⟨vo, vc, rfl, -⟩ := ho.bs (A := fun _ => False) (by simp)
    obtain ⟨vn, hvn⟩ : ∃ vn, (a.bytes.take 65535).length = vn := ⟨_, rfl⟩
    rw [hvn] at ho ⊢
    have HV := Lib.hid (ho.base (base' := b3 + 1) (by have := HC.out.lt; omega))
    replace HB := Lib.hid (HB.out.keep0 hf)
    replace HC := Lib.hid (HC.out.keep0 hf)
    replace HF := Lib.hid (HF.out.trans hf)
    clear ho hf hvn z6 BT
    go_wp2_with (refine wpl_store_one (.tmp 61) (.tmp 60) rfl rfl (.slice vo vn vc) rfl rfl HC.out (by simp [actC]) (by kernel_rfl) (by rfl) ?_)
    intro w6 hf hA _
    replace HC := Lib.hid (show At w6 b3 (actO ({ plainBase a with bytes := a.bytes.take 65535 }) (.slice vo vn vc) 71) from hA)
    replace HB := Lib.hid (HB.out.keep hf (by simp; omega))
    replace HV := Lib.hid (HV.out.keep hf (by simp))
    replace HF := Lib.hid (HF.out.then hf (by intro b hb; simp at hb; omega))
    clear hf hA
    have HRG := Lib.hid (range_at' HC.out)
    clear z0
    go_wp2_with (first | (refine wpl_load_row (.tmp 3) rfl rfl b3 0 (actC ({ plainBase a with bytes := a.bytes.take 65535 }) (.slice vo vn vc)) rfl HRG.out Tryd.underlying71 rfl (by kernel_rfl) ?_) | (refine wpl_store_whole (.tmp 2) (.tmp 62) rfl rfl (actC ({ plainBase a with bytes := a.bytes.take 65535 }) (.slice vo vn vc)) rfl rfl (by kernel_rfl) HB.out rfl (by simp [actC, Value.oneCell']) ?_))
    intro wq hf hA _
    have HW := Lib.hid ((HV.out.keep hf (by simp; omega)).base (base' := w.heap.size) (by omega))
    have HD := Lib.hid (show At wq (w.heap.size + 1) (actO ({ plainBase a with bytes := a.bytes.take 65535 }) (.slice vo vn vc) 71) from hA)
    obtain ⟨d0, d1, d2, d3, d4, d5, d6, d7, d8, d9, d10, d11, d12, d13, d14, d15⟩ := actCells HD.out
    have G := Lib.hid (HF.out.then hf (by intro b hb; simp at hb; omega))
    clear hf hA HRG
    go_wp2
    rw [HP.out]
    exact bodyPost_ret (v := .agg (actC ({ plainBase a with bytes := a.bytes.take 65535 }) (.slice vo vn vc))) (by simp [results, Tryd.results33, go_sem, d0, d1, d2, d3, d4, d5, d6, d7, d8, d9, d10, d11, d12, d13, d14, d15, actC]) rfl ⟨_, rfl, HW.out, G.out⟩
  · go_wp2_with fail
    refine (clone_any (fun b => A b ∨ w.heap.size ≤ b) wy _ _ BT.out (by simp; omega)).mono ?_
    rintro e w5 ⟨v', rfl, ho, hf⟩
    obtain ⟨vo, vc, rfl, -⟩ := ho.bs (A := fun _ => False) (by simp)
    obtain ⟨vn, hvn⟩ : ∃ vn, (a.bytes.take 65535).length = vn := ⟨_, rfl⟩
    rw [hvn] at ho ⊢
    have HV := Lib.hid (ho.base (base' := b3 + 1) (by have := HC.out.lt; omega))
    replace HB := Lib.hid (HB.out.keep0 hf)
    replace HC := Lib.hid (HC.out.keep0 hf)
    replace HF := Lib.hid (HF.out.trans hf)
    clear ho hf hvn z6 BT
    go_wp2_with (refine wpl_store_one (.tmp 61) (.tmp 60) rfl rfl (.slice vo vn vc) rfl rfl HC.out (by simp [actC]) (by kernel_rfl) (by rfl) ?_)
    intro w6 hf hA _
    replace HC := Lib.hid (show At w6 b3 (actO ({ plainBase a with bytes := a.bytes.take 65535 }) (.slice vo vn vc) 71) from hA)
    replace HB := Lib.hid (HB.out.keep hf (by simp; omega))
    replace HV := Lib.hid (HV.out.keep hf (by simp))
    replace HF := Lib.hid (HF.out.then hf (by intro b hb; simp at hb; omega))
    clear hf hA
    have HRG := Lib.hid (range_at' HC.out)
    clear z0
    go_wp2_with (first | (refine wpl_load_row (.tmp 3) rfl rfl b3 0 (actC ({ plainBase a with bytes := a.bytes.take 65535 }) (.slice vo vn vc)) rfl HRG.out Tryd.underlying71 rfl (by kernel_rfl) ?_) | (refine wpl_store_whole (.tmp 2) (.tmp 62) rfl rfl (actC ({ plainBase a with bytes := a.bytes.take 65535 }) (.slice vo vn vc)) rfl rfl (by kernel_rfl) HB.out rfl (by simp [actC, Value.oneCell']) ?_))
    intro wq hf hA _
    have HW := Lib.hid ((HV.out.keep hf (by simp; omega)).base (base' := w.heap.size) (by omega))
    have HD := Lib.hid (show At wq (w.heap.size + 1) (actO ({ plainBase a with bytes := a.bytes.take 65535 }) (.slice vo vn vc) 71) from hA)
    obtain ⟨d0, d1, d2, d3, d4, d5, d6, d7, d8, d9, d10, d11, d12, d13, d14, d15⟩ := actCells HD.out
    have G := Lib.hid (HF.out.then hf (by intro b hb; simp at hb; omega))
    clear hf hA HRG
    go_wp2
    rw [HP.out]
    exact bodyPost_ret (v := .agg (actC ({ plainBase a with bytes := a.bytes.take 65535 }) (.slice vo vn vc))) (by simp [results, Tryd.results33, go_sem, d0, d1, d2, d3, d4, d5, d6, d7, d8, d9, d10, d11, d12, d13, d14, d15, actC]) rfl ⟨_, rfl, HW.out, G.out⟩
end Go.Proofs.YtbohmnblegljkaaDoor
