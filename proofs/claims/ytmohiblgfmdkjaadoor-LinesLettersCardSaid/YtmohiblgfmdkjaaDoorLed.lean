/-
  Layer 35: the document's line of a letter. (printed by genlin.py)
-/
import Derived.Test.YtmohiblgfmdkjaaDoorLeh
import Derived.Test.YtmohiblgfmdkjaaDoorLrd
import Derived.Test.YtmohiblgfmdkjaaDoorGB
import Derived.Maps.RangeWalk
namespace Go.Proofs.YtmohiblgfmdkjaaDoor
open Go.RowKit Go.Bl
set_option linter.unusedVariables false
theorem joinTail_append (sep : List UInt8) (a b : List (List UInt8)) : Lib.joinTail sep (a ++ b) = Lib.joinTail sep a ++ Lib.joinTail sep b := by
  simp [Lib.joinTail]
theorem lineL_append {H X : List LP} (h : H ≠ []) : lineL (H ++ X) = lineL H ++ Lib.joinTail [32] (X.map lpT) := by
  cases H with
  | nil => exact absurd rfl h
  | cons p r =>
    unfold lineL
    rw [List.cons_append, List.map_cons, List.map_cons, Lib.join_cons, Lib.join_cons, List.map_append, joinTail_append, List.append_assoc]
def numsL (ps : List Int) : List UInt8 := Lib.joinTail [32] ((ps.map LP.num).map lpT)
theorem numsL_up (ps : List Int) (k : Nat) (x : Int) (h : ps[k]? = some x) : numsL (ps.take (k + 1)) = numsL (ps.take k) ++ (32 :: Lib.itoa x) := by
  unfold numsL
  rw [List.take_add_one, h]
  simp [Lib.joinTail, lpT]
theorem numsL_len (ps : List Int) (h : ∀ x ∈ ps, inI x) (k : Nat) : (numsL (ps.take k)).length ≤ k * 21 := by
  induction k with
  | zero => simp [numsL, Lib.joinTail]
  | succ k ih =>
    cases hx : ps[k]? with
    | none =>
      have hl : ps.length ≤ k := by
        rcases Nat.lt_or_ge k ps.length with h1 | h1
        · rw [List.getElem?_eq_getElem h1] at hx; cases hx
        · exact h1
      rw [List.take_of_length_le (by omega)]
      rw [List.take_of_length_le hl] at ih
      omega
    | some x =>
      have hb := h x (List.mem_of_getElem? hx)
      have := itoa_len x hb.1 hb.2
      rw [numsL_up ps k x hx, List.length_append, List.length_cons]
      omega
set_option maxRecDepth 100000 in
set_option maxHeartbeats 8000000 in
theorem letter_doc (w : World) (kd id ob fr co cd : Int) (pa sa ba : Option Addr) (PN pc SN sc BN bc : Nat) (ps : List Int) (hps : Is (fun _ => False) w (.slice pa PN pc) ps) (hpl : ps.length = PN) (hPN : PN ≤ 100) (hSN : SN ≤ 30) (hBN : BN ≤ 600) (hk : inI kd) (hi : inI id) (ho : inI ob) (hfr : inI fr) (hco : inI co) (hcd : inI cd) (hpb : ∀ x ∈ ps, inI x) :
    Calls Tryd.prog 13 #[.agg (letC kd id ob (.slice pa PN pc) (.slice sa SN sc) fr co (.slice ba BN bc) cd)] w fun r w' => r = .returned (.string (bA (letL kd id ob fr co cd ps SN BN))) ∧ Fr [] w w' := by
  have HA := Lib.hid (show At (w.alloc (.cells (letC kd id ob (.slice pa PN pc) (.slice sa SN sc) fr co (.slice ba BN bc) cd) 55)) w.heap.size (.cells (letC kd id ob (.slice pa PN pc) (.slice sa SN sc) fr co (.slice ba BN bc) cd) 55) from At.new rfl)
  have HF := Lib.hid (show Fr [] w (w.alloc (.cells (letC kd id ob (.slice pa PN pc) (.slice sa SN sc) fr co (.slice ba BN bc) cd) 55)) from Fr.alloc _ _)
  have HPS := Lib.hid hps
  have HPL := Lib.hid hpl
  have HPB := Lib.hid hpb
  have hkb := hk
  unfold inI at hkb
  have K1 := itoa_len id hi.1 hi.2
  have K2 := itoa_len ob ho.1 ho.2
  have K3 := itoa_len fr hfr.1 hfr.2
  have K4 := itoa_len co hco.1 hco.2
  have K5 := itoa_len cd hcd.1 hcd.2
  have K6 := itoa_len (BN : Int) (by omega) (by omega)
  have K7 := itoa_len (SN : Int) (by omega) (by omega)
  have HNI := Lib.hid (fun w => num_any35 id w hi.1 hi.2)
  have HNO := Lib.hid (fun w => num_any35 ob w ho.1 ho.2)
  have HNF := Lib.hid (fun w => num_any35 fr w hfr.1 hfr.2)
  have HNC := Lib.hid (fun w => num_any35 co w hco.1 hco.2)
  have HND := Lib.hid (fun w => num_any35 cd w hcd.1 hcd.2)
  have HNB := Lib.hid (fun w => num_any35 (BN : Int) w (by omega) (by omega))
  have HNS := Lib.hid (fun w => num_any35 (SN : Int) w (by omega) (by omega))
  have KW : (qwd (atL lWords kd)).length ≤ 20 := qwd_len (lWords_len kd) (by omega)
  have HLN := Lib.hid (lWords_len kd)
  have hex := bA_tail 32 (qwd (atL lWords kd))
  have hsz : (1 : Int) ≤ ((bA (32 :: qwd (atL lWords kd))).size : Int) := by rw [bA_size, List.length_cons]; omega
  obtain ⟨XW, hXW⟩ : ∃ x, atL lWords kd = x := ⟨_, rfl⟩
  have HXW := Lib.hid hXW
  rw [hXW] at KW HLN hex hsz
  obtain ⟨QW, hQW⟩ : ∃ x, qwd XW = x := ⟨_, rfl⟩
  have HQW := Lib.hid hQW
  rw [hQW] at KW hex hsz
  obtain ⟨S1, hS1⟩ : ∃ S, QW ++ (32 :: Lib.itoa id) = S := ⟨_, rfl⟩
  have L1 : S1.length ≤ 50 := by rw [← hS1]; simp only [List.length_append, List.length_cons, List.length_nil]; omega
  have C1 : ∀ w, (Op.stringOp .add (bA QW) (bA (32 :: Lib.itoa id))).run Tryd.prog w = .ok (.string (bA S1)) w := fun w => by rw [← hS1]; exact run_cat QW ((32 :: Lib.itoa id)) (by first | omega | (simp only [List.length_append, List.length_cons, List.length_nil]; omega)) w
  have HS1 := Lib.hid hS1
  clear hS1
  obtain ⟨S2, hS2⟩ : ∃ S, S1 ++ ([32, 111, 98, 106, 101, 99, 116] : List UInt8) = S := ⟨_, rfl⟩
  have L2 : S2.length ≤ 70 := by rw [← hS2]; simp only [List.length_append, List.length_cons, List.length_nil]; omega
  have C2 : ∀ w, (Op.stringOp .add (bA S1) ⟨#[32, 111, 98, 106, 101, 99, 116]⟩).run Tryd.prog w = .ok (.string (bA S2)) w := fun w => by rw [← hS2]; exact run_cat S1 (([32, 111, 98, 106, 101, 99, 116] : List UInt8)) (by first | omega | (simp only [List.length_append, List.length_cons, List.length_nil]; omega)) w
  have HS2 := Lib.hid hS2
  clear hS2
  obtain ⟨S3, hS3⟩ : ∃ S, S2 ++ (32 :: Lib.itoa ob) = S := ⟨_, rfl⟩
  have L3 : S3.length ≤ 100 := by rw [← hS3]; simp only [List.length_append, List.length_cons, List.length_nil]; omega
  have C3 : ∀ w, (Op.stringOp .add (bA S2) (bA (32 :: Lib.itoa ob))).run Tryd.prog w = .ok (.string (bA S3)) w := fun w => by rw [← hS3]; exact run_cat S2 ((32 :: Lib.itoa ob)) (by first | omega | (simp only [List.length_append, List.length_cons, List.length_nil]; omega)) w
  have HS3 := Lib.hid hS3
  clear hS3
  have HB3 := Lib.hid (show lineL (letH kd id ob) = S3 by
    rw [← HS3.out, ← HS2.out, ← HS1.out, ← HQW.out, ← HXW.out]
    simp [lineL, letH, lpT, Lib.join_cons, Lib.joinTail, qwd])
  obtain ⟨S4, hS4⟩ : ∃ S, S3 ++ (32 :: Lib.itoa (BN : Int)) = S := ⟨_, rfl⟩
  have L4 : S4.length ≤ 130 := by rw [← hS4]; simp only [List.length_append, List.length_cons, List.length_nil]; omega
  have C4 : ∀ w, (Op.stringOp .add (bA S3) (bA (32 :: Lib.itoa (BN : Int)))).run Tryd.prog w = .ok (.string (bA S4)) w := fun w => by rw [← hS4]; exact run_cat S3 ((32 :: Lib.itoa (BN : Int))) (by first | omega | (simp only [List.length_append, List.length_cons, List.length_nil]; omega)) w
  have HS4 := Lib.hid hS4
  clear hS4
  obtain ⟨S5, hS5⟩ : ∃ S, S3 ++ (32 :: Lib.itoa (SN : Int)) = S := ⟨_, rfl⟩
  have L5 : S5.length ≤ 130 := by rw [← hS5]; simp only [List.length_append, List.length_cons, List.length_nil]; omega
  have C5 : ∀ w, (Op.stringOp .add (bA S3) (bA (32 :: Lib.itoa (SN : Int)))).run Tryd.prog w = .ok (.string (bA S5)) w := fun w => by rw [← hS5]; exact run_cat S3 ((32 :: Lib.itoa (SN : Int))) (by first | omega | (simp only [List.length_append, List.length_cons, List.length_nil]; omega)) w
  have HS5 := Lib.hid hS5
  clear hS5
  obtain ⟨S6, hS6⟩ : ∃ S, (32 :: Lib.itoa fr) ++ (32 :: Lib.itoa co) = S := ⟨_, rfl⟩
  have L6 : S6.length ≤ 50 := by rw [← hS6]; simp only [List.length_append, List.length_cons, List.length_nil]; omega
  have C6 : ∀ w, (Op.stringOp .add (bA (32 :: Lib.itoa fr)) (bA (32 :: Lib.itoa co))).run Tryd.prog w = .ok (.string (bA S6)) w := fun w => by rw [← hS6]; exact run_cat (32 :: Lib.itoa fr) ((32 :: Lib.itoa co)) (by first | omega | (simp only [List.length_append, List.length_cons, List.length_nil]; omega)) w
  have HS6 := Lib.hid hS6
  clear hS6
  obtain ⟨S7, hS7⟩ : ∃ S, S3 ++ S6 = S := ⟨_, rfl⟩
  have L7 : S7.length ≤ 160 := by rw [← hS7]; simp only [List.length_append, List.length_cons, List.length_nil]; omega
  have C7 : ∀ w, (Op.stringOp .add (bA S3) (bA S6)).run Tryd.prog w = .ok (.string (bA S7)) w := fun w => by rw [← hS7]; exact run_cat S3 (S6) (by first | omega | (simp only [List.length_append, List.length_cons, List.length_nil]; omega)) w
  have HS7 := Lib.hid hS7
  clear hS7
  obtain ⟨S8, hS8⟩ : ∃ S, S3 ++ (32 :: Lib.itoa cd) = S := ⟨_, rfl⟩
  have L8 : S8.length ≤ 130 := by rw [← hS8]; simp only [List.length_append, List.length_cons, List.length_nil]; omega
  have C8 : ∀ w, (Op.stringOp .add (bA S3) (bA (32 :: Lib.itoa cd))).run Tryd.prog w = .ok (.string (bA S8)) w := fun w => by rw [← hS8]; exact run_cat S3 ((32 :: Lib.itoa cd)) (by first | omega | (simp only [List.length_append, List.length_cons, List.length_nil]; omega)) w
  have HS8 := Lib.hid hS8
  clear hS8
  have HL3 := Lib.hid L3
  obtain ⟨W0, hW0⟩ : ∃ x, w.heap.size = x := ⟨_, rfl⟩
  have HW0 := Lib.hid hW0
  rw [hW0] at HA
  clear hps hpl hpb hk hi ho hfr hco hcd K1 K2 K3 K4 K5 K6 K7 KW L1 L2 L3 L4 L5 L6 L7 L8 hXW hQW hW0
  have hw0 := HW0.out
  go_enter Tryd.func13, Tryd.ntmps13
  go_wp2_with fail
  refine wp_region_pf [(.mem, 0), (.val, 1), (.val, 2), (.call, 3), (.call, 4), (.val, 6), (.val, 7), (.call, 8), (.val, 11), (.val, 12), (.call, 13), (.val, 5), (.val, 9), (.val, 10), (.val, 14), (.val, 15)] (by kernel_rfl) (by kernel_rfl) ?_
  intro wa ha
  replace HA := Lib.hid (HA.out.keep0 ha)
  replace HF := Lib.hid (HF.out.trans ha)
  clear ha hw0
  have e0 : ∀ z : Kin wa, z.w.cell? ⟨W0, 0, none⟩ = some (.int .i64 kd) := fun z => (HA.out.keep0 z.fr).cell 0
  have e1 : ∀ z : Kin wa, z.w.cell? ⟨W0, 1, none⟩ = some (.int .i64 id) := fun z => (HA.out.keep0 z.fr).cell 1
  have e2 : ∀ z : Kin wa, z.w.cell? ⟨W0, 2, none⟩ = some (.int .i64 ob) := fun z => (HA.out.keep0 z.fr).cell 2
  have G := Lib.hid (Fr.refl [] wa)
  refine poF_new _ (by simp only [List.getElem?_toArray, List.getElem?_cons_succ, List.getElem?_cons_zero]; rfl) rfl (.cells #[.string ⟨#[112, 117, 116]⟩, .string ⟨#[97, 99, 107]⟩, .string ⟨#[97, 115, 107]⟩, .string ⟨#[97, 110, 115, 119, 101, 114]⟩, .string ⟨#[102, 101, 116, 99, 104]⟩, .string ⟨#[103, 105, 118, 101]⟩, .string ⟨#[114, 101, 102, 117, 115, 101]⟩] 9) (fun b => .slice (some ⟨b, 0, none⟩) 7 7) (fun _ => by kernel_rfl) ?_
  intro b1 wb _ hwb hAt1
  go_frame
  replace G := Lib.hid (G.out.trans hwb)
  have H1 := Lib.hid hAt1
  clear hwb hAt1
  refine poF_vals 2 _ _ _ (by kernel_rfl) ?_
  simp only [opersOf, List.take_succ_cons, List.take_zero, List.filterMap_cons, List.filterMap_nil, List.getElem?_toArray, List.getElem?_cons_succ, List.getElem?_cons_zero, List.drop_succ_cons, List.drop_zero]
  show wpQuiet _ _ _ _ [_, _] _
  iterate 2 go_big_quiet_step (fail)
  refine wpQuiet_nil ?_
  refine poF_call _ (by simp only [List.getElem?_toArray, List.getElem?_cons_succ, List.getElem?_cons_zero]; rfl) ?_
  intro u hu
  replace G := Lib.hid (G.out.trans hu)
  go_wp2_with fail
  refine (at_any35 _ b1 7 lWords kd rfl (by omega) (words_of (H1.out.keep0 hu) rfl)).mono ?_
  rintro r u0 ⟨rfl, rfl⟩
  rw [HXW.out]
  rename_i K hK
  refine hK _ _ ?_
  refine ⟨rfl, rfl, (Fr.refl [] _), ?_⟩
  clear hK K
  clear hu H1
  refine poF_call _ (by simp only [List.getElem?_toArray, List.getElem?_cons_succ, List.getElem?_cons_zero]; rfl) ?_
  intro u hu
  replace G := Lib.hid (G.out.trans hu)
  go_wp2_with fail
  refine (word_any35 XW _ (by have := HLN.out; omega)).mono ?_
  rintro r u0 ⟨rfl, rfl⟩
  rw [HQW.out]
  rename_i K hK
  refine hK _ _ ?_
  refine ⟨rfl, rfl, (Fr.refl [] _), ?_⟩
  clear hK K
  clear hu
  refine poF_vals 2 _ _ _ (by kernel_rfl) ?_
  simp only [opersOf, List.take_succ_cons, List.take_zero, List.filterMap_cons, List.filterMap_nil, List.getElem?_toArray, List.getElem?_cons_succ, List.getElem?_cons_zero, List.drop_succ_cons, List.drop_zero]
  show wpQuiet _ _ _ _ [_, _] _
  iterate 2 go_big_quiet_step (fail)
  refine wpQuiet_nil ?_
  refine poF_call _ (by simp only [List.getElem?_toArray, List.getElem?_cons_succ, List.getElem?_cons_zero]; rfl) ?_
  intro u hu
  replace G := Lib.hid (G.out.trans hu)
  go_wp2_with fail
  refine (HNI.out _).mono ?_
  rintro r u0 ⟨rfl, rfl⟩
  rename_i K hK
  refine hK _ _ ?_
  refine ⟨rfl, rfl, (Fr.refl [] _), ?_⟩
  clear hK K
  clear hu
  refine poF_vals 2 _ _ _ (by kernel_rfl) ?_
  simp only [opersOf, List.take_succ_cons, List.take_zero, List.filterMap_cons, List.filterMap_nil, List.getElem?_toArray, List.getElem?_cons_succ, List.getElem?_cons_zero, List.drop_succ_cons, List.drop_zero]
  show wpQuiet _ _ _ _ [_, _] _
  iterate 2 go_big_quiet_step (fail)
  refine wpQuiet_nil ?_
  refine poF_call _ (by simp only [List.getElem?_toArray, List.getElem?_cons_succ, List.getElem?_cons_zero]; rfl) ?_
  intro u hu
  replace G := Lib.hid (G.out.trans hu)
  go_wp2_with fail
  refine (HNO.out _).mono ?_
  rintro r u0 ⟨rfl, rfl⟩
  rename_i K hK
  refine hK _ _ ?_
  refine ⟨rfl, rfl, (Fr.refl [] _), ?_⟩
  clear hK K
  clear hu
  refine poF_vals 5 _ _ _ (by kernel_rfl) ?_
  simp only [opersOf, List.take_succ_cons, List.take_zero, List.filterMap_cons, List.filterMap_nil, List.getElem?_toArray, List.getElem?_cons_succ, List.getElem?_cons_zero, List.drop_succ_cons, List.drop_zero]
  show wpQuiet _ _ _ _ [_, _, _, _, _] _
  iterate 5 go_big_quiet_step (fail)
  refine wpQuiet_nil ?_
  refine poF_end ?_
  intro wz hz
  replace G := Lib.hid (G.out.trans hz)
  replace HA := Lib.hid (HA.out.keep0 G.out)
  replace HF := Lib.hid (HF.out.trans G.out)
  clear hz G e0 e1 e2 hex hsz C1 C2 C3
  have c0 : wz.cell? ⟨W0, 0, none⟩ = some (.int .i64 kd) := HA.out.cell 0
  have c3 : wz.cell? ⟨W0, 3, none⟩ = some (.slice pa PN pc) := HA.out.cell 3
  have c4 : wz.cell? ⟨W0, 4, none⟩ = some (.slice sa SN sc) := HA.out.cell 4
  have c7 : wz.cell? ⟨W0, 7, none⟩ = some (.slice ba BN bc) := HA.out.cell 7
  have c8 : wz.cell? ⟨W0, 8, none⟩ = some (.int .i64 cd) := HA.out.cell 8
  by_cases k1 : kd = 1
  · have HK := Lib.hid k1
    rw [k1] at c0
    clear k1
    have HQ := Lib.hid (show letL kd id ob fr co cd ps SN BN = S4 by unfold letL; rw [lineL_append (by simp [letH]), HB3.out]; unfold letX; rw [if_pos (.inl HK.out), ← HS4.out]; simp [Lib.joinTail, lpT])
    go_wp2_with (go_at_call 42; fail)
    refine (HNB.out _).mono ?_
    rintro r u0 ⟨rfl, rfl⟩
    go_wp2
    go_ret
    exact ⟨by rw [HQ.out]; rfl, HF.out⟩
  by_cases k6 : kd = 6
  · have HK := Lib.hid k6
    rw [k6] at c0
    clear k6 k1
    have HQ := Lib.hid (show letL kd id ob fr co cd ps SN BN = S4 by unfold letL; rw [lineL_append (by simp [letH]), HB3.out]; unfold letX; rw [if_pos (.inr HK.out), ← HS4.out]; simp [Lib.joinTail, lpT])
    go_wp2_with (go_at_call 42; fail)
    refine (HNB.out _).mono ?_
    rintro r u0 ⟨rfl, rfl⟩
    go_wp2
    go_ret
    exact ⟨by rw [HQ.out]; rfl, HF.out⟩
  have HK16 := Lib.hid (show ¬ (kd = 1 ∨ kd = 6) from fun h => h.elim k1 k6)
  by_cases k3 : kd = 3
  · have HK := Lib.hid k3
    rw [k3] at c0
    clear k3 k1 k6
    have HQ := Lib.hid (show letL kd id ob fr co cd ps SN BN = S3 ++ numsL ps by unfold letL; rw [lineL_append (by simp [letH]), HB3.out]; unfold letX; rw [if_neg HK16.out, if_pos HK.out]; rfl)
    go_wp2
    go_loopw [3, 41] (fun s i wr => ∃ k : Nat, k ≤ PN ∧ i = .int .i64 k ∧ s = .string (bA (S3 ++ numsL (ps.take k))) ∧ wr = wz) (fun _ i _ => PN - (intOf i).toNat)
    case atStart => exact ⟨0, by omega, rfl, by simp [numsL, Lib.joinTail], rfl⟩
    case round =>
      obtain ⟨k, hk, rfl, rfl, rfl⟩ := hrel
      have HX := Lib.hid (HPS.out.keep0 HF.out)
      by_cases hkN : k < PN
      · obtain ⟨x, hx⟩ : ∃ x, ps[k]? = some x := ⟨_, List.getElem?_eq_getElem (by have := HPL.out; omega)⟩
        obtain ⟨pa', cap', e, -, -, hcell⟩ := HX.out.shape
        have hxk : ps.getD k 0 = x := by rw [List.getD_eq_getElem?_getD, hx]; rfl
        rw [HPL.out] at e hcell
        cases e
        obtain ⟨pb, po, e, -, hcc⟩ := hcell (by omega)
        subst e
        have hcx := hcc k hkN
        rw [hxk] at hcx
        have hb := HPB.out x (List.mem_of_getElem? hx)
        have HNX := Lib.hid (fun w => num_any35 x w hb.1 hb.2)
        have hup := numsL_up ps k x hx
        have hnl := numsL_len ps HPB.out k
        have hxl := itoa_len x hb.1 hb.2
        obtain ⟨SA, hSA⟩ : ∃ l, S3 ++ numsL (ps.take k) = l := ⟨_, rfl⟩
        have HUP := Lib.hid (show S3 ++ numsL (ps.take (k + 1)) = SA ++ (32 :: Lib.itoa x) by rw [hup, ← List.append_assoc, hSA])
        have hsl : SA.length ≤ 3000 := by rw [← hSA, List.length_append]; have := HL3.out; omega
        rw [hSA]
        obtain ⟨SB, hSB⟩ : ∃ l, SA ++ (32 :: Lib.itoa x) = l := ⟨_, rfl⟩
        have hcat : ∀ w, (Op.stringOp .add (bA SA) (bA (32 :: Lib.itoa x))).run Tryd.prog w = .ok (.string (bA SB)) w := fun w => by rw [← hSB]; exact run_cat _ _ (by simp only [List.length_cons]; omega) w
        rw [hSB] at HUP
        have hki : (k : Int) < PN := by omega
        clear hx hxk hcell hcc HX hup hnl hxl hSA hsl hSB hb
        go_wp2_with (go_at_call 42; fail)
        refine (HNX.out _).mono ?_
        rintro r u0 ⟨rfl, rfl⟩
        go_wp2
        go_roundw
        case rel => exact ⟨k + 1, by omega, by go_num, by rw [HUP.out], trivial⟩
        case measure => simp [intOf]; omega
      · obtain rfl : k = PN := by omega
        have hki : ¬ (k : Int) < k := by omega
        rw [List.take_of_length_le (by rw [HPL.out]; exact Nat.le_refl _), ← HQ.out]
        clear HX
        go_wp2
        go_ret
        exact ⟨rfl, HF.out⟩
  by_cases k4 : kd = 4
  · have HK := Lib.hid k4
    have HK3 := Lib.hid k3
    rw [k4] at c0
    clear k4 k3 k1 k6
    have HQ := Lib.hid (show letL kd id ob fr co cd ps SN BN = S5 by unfold letL; rw [lineL_append (by simp [letH]), HB3.out]; unfold letX; rw [if_neg HK16.out, if_neg HK3.out, if_pos HK.out, ← HS5.out]; simp [Lib.joinTail, lpT])
    go_wp2_with (go_at_call 42; fail)
    refine (HNS.out _).mono ?_
    rintro r u0 ⟨rfl, rfl⟩
    go_wp2
    go_ret
    exact ⟨by rw [HQ.out]; rfl, HF.out⟩
  by_cases k5 : kd = 5
  · have HK := Lib.hid k5
    have HK3 := Lib.hid k3
    have HK4 := Lib.hid k4
    rw [k5] at c0
    clear k5 k4 k3 k1 k6
    have HQ := Lib.hid (show letL kd id ob fr co cd ps SN BN = S7 by unfold letL; rw [lineL_append (by simp [letH]), HB3.out]; unfold letX; rw [if_neg HK16.out, if_neg HK3.out, if_neg HK4.out, if_pos HK.out, ← HS7.out, ← HS6.out]; simp [Lib.joinTail, lpT])
    go_wp2_with fail
    clear c0 c3 c4 c7 c8
    refine wp_region_pf [(.val, 1), (.val, 2), (.call, 3), (.val, 4), (.val, 5), (.call, 6), (.val, 0), (.val, 7), (.val, 8), (.val, 9)] (by kernel_rfl) (by kernel_rfl) ?_
    intro wa ha
    replace HA := Lib.hid (HA.out.keep0 ha)
    replace HF := Lib.hid (HF.out.trans ha)
    clear ha
    have e0 : ∀ z : Kin wa, z.w.cell? ⟨W0, 0, none⟩ = some (.int .i64 5) := fun z => by rw [(HA.out.keep0 z.fr).cell 0, ← HK.out]; rfl
    have e5 : ∀ z : Kin wa, z.w.cell? ⟨W0, 5, none⟩ = some (.int .i64 fr) := fun z => (HA.out.keep0 z.fr).cell 5
    have e6 : ∀ z : Kin wa, z.w.cell? ⟨W0, 6, none⟩ = some (.int .i64 co) := fun z => (HA.out.keep0 z.fr).cell 6
    have e8 : ∀ z : Kin wa, z.w.cell? ⟨W0, 8, none⟩ = some (.int .i64 cd) := fun z => (HA.out.keep0 z.fr).cell 8
    have G := Lib.hid (Fr.refl [] wa)
    refine poF_vals 2 _ _ _ (by kernel_rfl) ?_
    simp only [opersOf, List.take_succ_cons, List.take_zero, List.filterMap_cons, List.filterMap_nil, List.getElem?_toArray, List.getElem?_cons_succ, List.getElem?_cons_zero, List.drop_succ_cons, List.drop_zero]
    show wpQuiet _ _ _ _ [_, _] _
    iterate 2 go_big_quiet_step (fail)
    refine wpQuiet_nil ?_
    refine poF_call _ (by simp only [List.getElem?_toArray, List.getElem?_cons_succ, List.getElem?_cons_zero]; rfl) ?_
    intro u hu
    replace G := Lib.hid (G.out.trans hu)
    go_wp2_with fail
    refine (HNF.out _).mono ?_
    rintro r u0 ⟨rfl, rfl⟩
    rename_i K hK
    refine hK _ _ ?_
    refine ⟨rfl, rfl, (Fr.refl [] _), ?_⟩
    clear hK K
    clear hu
    refine poF_vals 2 _ _ _ (by kernel_rfl) ?_
    simp only [opersOf, List.take_succ_cons, List.take_zero, List.filterMap_cons, List.filterMap_nil, List.getElem?_toArray, List.getElem?_cons_succ, List.getElem?_cons_zero, List.drop_succ_cons, List.drop_zero]
    show wpQuiet _ _ _ _ [_, _] _
    iterate 2 go_big_quiet_step (fail)
    refine wpQuiet_nil ?_
    refine poF_call _ (by simp only [List.getElem?_toArray, List.getElem?_cons_succ, List.getElem?_cons_zero]; rfl) ?_
    intro u hu
    replace G := Lib.hid (G.out.trans hu)
    go_wp2_with fail
    refine (HNC.out _).mono ?_
    rintro r u0 ⟨rfl, rfl⟩
    rename_i K hK
    refine hK _ _ ?_
    refine ⟨rfl, rfl, (Fr.refl [] _), ?_⟩
    clear hK K
    clear hu
    refine poF_vals 4 _ _ _ (by kernel_rfl) ?_
    simp only [opersOf, List.take_succ_cons, List.take_zero, List.filterMap_cons, List.filterMap_nil, List.getElem?_toArray, List.getElem?_cons_succ, List.getElem?_cons_zero, List.drop_succ_cons, List.drop_zero]
    show wpQuiet _ _ _ _ [_, _, _, _] _
    iterate 4 go_big_quiet_step (fail)
    refine wpQuiet_nil ?_
    refine poF_end ?_
    intro wy hy
    replace G := Lib.hid (G.out.trans hy)
    replace HA := Lib.hid (HA.out.keep0 G.out)
    replace HF := Lib.hid (HF.out.trans G.out)
    have c0 : wy.cell? ⟨W0, 0, none⟩ = some (.int .i64 5) := by rw [HA.out.cell 0, ← HK.out]; rfl
    clear hy G e0 e5 e6 e8
    go_wp2
    go_ret
    exact ⟨by rw [HQ.out]; rfl, HF.out⟩
  by_cases k7 : kd = 7
  · have HK := Lib.hid k7
    have HK3 := Lib.hid k3
    have HK4 := Lib.hid k4
    have HK5 := Lib.hid k5
    rw [k7] at c0
    clear k7 k5 k4 k3 k1 k6
    have HQ := Lib.hid (show letL kd id ob fr co cd ps SN BN = S8 by unfold letL; rw [lineL_append (by simp [letH]), HB3.out]; unfold letX; rw [if_neg HK16.out, if_neg HK3.out, if_neg HK4.out, if_neg HK5.out, if_pos HK.out, ← HS8.out]; simp [Lib.joinTail, lpT])
    go_wp2_with (go_at_call 42; fail)
    refine (HND.out _).mono ?_
    rintro r u0 ⟨rfl, rfl⟩
    go_wp2
    go_ret
    exact ⟨by rw [HQ.out]; rfl, HF.out⟩
  have HK3 := Lib.hid k3
  have HK4 := Lib.hid k4
  have HK5 := Lib.hid k5
  have HK7 := Lib.hid k7
  have HQ := Lib.hid (show letL kd id ob fr co cd ps SN BN = S3 by unfold letL; rw [lineL_append (by simp [letH]), HB3.out]; unfold letX; rw [if_neg HK16.out, if_neg HK3.out, if_neg HK4.out, if_neg HK5.out, if_neg HK7.out]; simp [Lib.joinTail])
  have b1 : (kd == 1) = false := by simpa using k1
  have b6 : (kd == 6) = false := by simpa using k6
  have b3 : (kd == 3) = false := by simpa using k3
  have b4 : (kd == 4) = false := by simpa using k4
  have b5 : (kd == 5) = false := by simpa using k5
  have b7 : (kd == 7) = false := by simpa using k7
  clear k1 k6 k3 k4 k5 k7
  go_wp2
  go_ret
  exact ⟨by rw [HQ.out]; rfl, HF.out⟩
end Go.Proofs.YtmohiblgfmdkjaaDoor
