/-
  Layer 35: the document's line of an entry. (printed by genlin.py)
-/
import Derived.Test.YtdkhgpnidamalaaDoorHB
import Derived.Test.YtdkhgpnidamalaaDoorGB
import Derived.Maps.RangeWalk
namespace Go.Proofs.YtdkhgpnidamalaaDoor
open Go.RowKit Go.Bl
set_option linter.unusedVariables false
theorem words_of {u : World} {b : Nat} {c : Array Value} {t : TypeId} {ls : List (List UInt8)} (h : At u b (.cells c t)) (hc : c = (ls.map fun l => Value.string (bA l)).toArray) : ∀ i l, ls[i]? = some l → u.cell? ⟨b, i, none⟩ = some (.string (bA l)) := fun i l hx => by
  rw [h.cell i, hc, List.getElem?_toArray, List.getElem?_map, hx]
  rfl
def numC (n : Int) : Prop := ∀ w, Calls Tryd.prog 18 #[.int .i64 n] w fun e w' => e = .returned (.string (bA (32 :: Lib.itoa n))) ∧ w = w'
set_option maxRecDepth 100000 in
set_option maxHeartbeats 8000000 in
theorem entry_doc (w : World) (e : EntP) (hok : e.ok) : Calls Tryd.prog 9 #[.agg (entC e)] w fun r w' => r = .returned (.string (bA (entL e))) ∧ Fr [] w w' := by
  have HA := Lib.hid (show At (w.alloc (.cells (entC e) 43)) w.heap.size (.cells (entC e) 43) from At.new rfl)
  have HF := Lib.hid (show Fr [] w (w.alloc (.cells (entC e) 43)) from Fr.alloc _ _)
  obtain ⟨h0, h1, h2, h3, h5, h6⟩ := hok
  have K0 := itoa_len e.id h0.1 h0.2
  have K1 := itoa_len e.obj h1.1 h1.2
  have K3 := itoa_len e.idx h3.1 h3.2
  have K6 := itoa_len e.at_ h6.1 h6.2
  have KW : (qwd (atL rWays e.way)).length ≤ 20 := qwd_len (rWays_len e.way) (by omega)
  have KV : (qwd (atL rWords e.verd)).length ≤ 20 := qwd_len (rWords_len e.verd) (by omega)
  have HN0 := Lib.hid (fun w => num_any35 e.id w h0.1 h0.2)
  have HN1 := Lib.hid (fun w => num_any35 e.obj w h1.1 h1.2)
  have HN3 := Lib.hid (fun w => num_any35 e.idx w h3.1 h3.2)
  have HN6 := Lib.hid (fun w => num_any35 e.at_ w h6.1 h6.2)
  have HWW := Lib.hid (rWays_len e.way)
  have HWV := Lib.hid (rWords_len e.verd)
  have hver := h5
  unfold inI at hver
  obtain ⟨S1, hS1⟩ : ∃ S, ([101, 110, 116, 114, 121] : List UInt8) ++ (32 :: Lib.itoa e.id) = S := ⟨_, rfl⟩
  have L1 : S1.length ≤ 40 := by rw [← hS1]; simp only [List.length_append, List.length_cons, List.length_nil]; omega
  have C1 : ∀ w, (Op.stringOp .add ⟨#[101, 110, 116, 114, 121]⟩ (bA (32 :: Lib.itoa e.id))).run Tryd.prog w = .ok (.string (bA S1)) w := fun w => by rw [← hS1]; exact run_cat ([101, 110, 116, 114, 121] : List UInt8) ((32 :: Lib.itoa e.id)) (by first | omega | (simp only [List.length_append, List.length_cons, List.length_nil]; omega)) w
  have HS1 := Lib.hid hS1
  clear hS1
  obtain ⟨S2, hS2⟩ : ∃ S, S1 ++ ([32, 111, 98, 106, 101, 99, 116] : List UInt8) = S := ⟨_, rfl⟩
  have L2 : S2.length ≤ 60 := by rw [← hS2]; simp only [List.length_append, List.length_cons, List.length_nil]; omega
  have C2 : ∀ w, (Op.stringOp .add (bA S1) ⟨#[32, 111, 98, 106, 101, 99, 116]⟩).run Tryd.prog w = .ok (.string (bA S2)) w := fun w => by rw [← hS2]; exact run_cat S1 (([32, 111, 98, 106, 101, 99, 116] : List UInt8)) (by first | omega | (simp only [List.length_append, List.length_cons, List.length_nil]; omega)) w
  have HS2 := Lib.hid hS2
  clear hS2
  obtain ⟨S3, hS3⟩ : ∃ S, S2 ++ (32 :: Lib.itoa e.obj) = S := ⟨_, rfl⟩
  have L3 : S3.length ≤ 90 := by rw [← hS3]; simp only [List.length_append, List.length_cons, List.length_nil]; omega
  have C3 : ∀ w, (Op.stringOp .add (bA S2) (bA (32 :: Lib.itoa e.obj))).run Tryd.prog w = .ok (.string (bA S3)) w := fun w => by rw [← hS3]; exact run_cat S2 ((32 :: Lib.itoa e.obj)) (by first | omega | (simp only [List.length_append, List.length_cons, List.length_nil]; omega)) w
  have HS3 := Lib.hid hS3
  clear hS3
  obtain ⟨S4, hS4⟩ : ∃ S, S3 ++ (32 :: qwd (atL rWays e.way)) = S := ⟨_, rfl⟩
  have L4 : S4.length ≤ 120 := by rw [← hS4]; simp only [List.length_append, List.length_cons, List.length_nil]; omega
  have C4 : ∀ w, (Op.stringOp .add (bA S3) (bA (32 :: qwd (atL rWays e.way)))).run Tryd.prog w = .ok (.string (bA S4)) w := fun w => by rw [← hS4]; exact run_cat S3 ((32 :: qwd (atL rWays e.way))) (by first | omega | (simp only [List.length_append, List.length_cons, List.length_nil]; omega)) w
  have HS4 := Lib.hid hS4
  clear hS4
  obtain ⟨S5, hS5⟩ : ∃ S, S4 ++ (32 :: Lib.itoa e.idx) = S := ⟨_, rfl⟩
  have L5 : S5.length ≤ 150 := by rw [← hS5]; simp only [List.length_append, List.length_cons, List.length_nil]; omega
  have C5 : ∀ w, (Op.stringOp .add (bA S4) (bA (32 :: Lib.itoa e.idx))).run Tryd.prog w = .ok (.string (bA S5)) w := fun w => by rw [← hS5]; exact run_cat S4 ((32 :: Lib.itoa e.idx)) (by first | omega | (simp only [List.length_append, List.length_cons, List.length_nil]; omega)) w
  have HS5 := Lib.hid hS5
  clear hS5
  obtain ⟨S6, hS6⟩ : ∃ S, S5 ++ ([32, 111, 112, 101, 110] : List UInt8) = S := ⟨_, rfl⟩
  have L6 : S6.length ≤ 170 := by rw [← hS6]; simp only [List.length_append, List.length_cons, List.length_nil]; omega
  have C6 : ∀ w, (Op.stringOp .add (bA S5) ⟨#[32, 111, 112, 101, 110]⟩).run Tryd.prog w = .ok (.string (bA S6)) w := fun w => by rw [← hS6]; exact run_cat S5 (([32, 111, 112, 101, 110] : List UInt8)) (by first | omega | (simp only [List.length_append, List.length_cons, List.length_nil]; omega)) w
  have HS6 := Lib.hid hS6
  clear hS6
  obtain ⟨S7, hS7⟩ : ∃ S, S5 ++ (32 :: qwd (atL rWords e.verd)) = S := ⟨_, rfl⟩
  have L7 : S7.length ≤ 180 := by rw [← hS7]; simp only [List.length_append, List.length_cons, List.length_nil]; omega
  have C7 : ∀ w, (Op.stringOp .add (bA S5) (bA (32 :: qwd (atL rWords e.verd)))).run Tryd.prog w = .ok (.string (bA S7)) w := fun w => by rw [← hS7]; exact run_cat S5 ((32 :: qwd (atL rWords e.verd))) (by first | omega | (simp only [List.length_append, List.length_cons, List.length_nil]; omega)) w
  have HS7 := Lib.hid hS7
  clear hS7
  obtain ⟨S8, hS8⟩ : ∃ S, S7 ++ ([32, 97, 116] : List UInt8) = S := ⟨_, rfl⟩
  have L8 : S8.length ≤ 190 := by rw [← hS8]; simp only [List.length_append, List.length_cons, List.length_nil]; omega
  have C8 : ∀ w, (Op.stringOp .add (bA S7) ⟨#[32, 97, 116]⟩).run Tryd.prog w = .ok (.string (bA S8)) w := fun w => by rw [← hS8]; exact run_cat S7 (([32, 97, 116] : List UInt8)) (by first | omega | (simp only [List.length_append, List.length_cons, List.length_nil]; omega)) w
  have HS8 := Lib.hid hS8
  clear hS8
  obtain ⟨S9, hS9⟩ : ∃ S, S8 ++ (32 :: Lib.itoa e.at_) = S := ⟨_, rfl⟩
  have L9 : S9.length ≤ 220 := by rw [← hS9]; simp only [List.length_append, List.length_cons, List.length_nil]; omega
  have C9 : ∀ w, (Op.stringOp .add (bA S8) (bA (32 :: Lib.itoa e.at_))).run Tryd.prog w = .ok (.string (bA S9)) w := fun w => by rw [← hS9]; exact run_cat S8 ((32 :: Lib.itoa e.at_)) (by first | omega | (simp only [List.length_append, List.length_cons, List.length_nil]; omega)) w
  have HS9 := Lib.hid hS9
  clear hS9
  clear h0 h1 h2 h3 h5 h6 K0 K1 K3 K6 KW KV L1 L2 L3 L4 L5 L6 L7 L8 L9
  go_enter Tryd.func9, Tryd.ntmps9
  go_wp2_with fail
  refine wp_region_pf [(.val, 0), (.val, 1), (.call, 2), (.val, 5), (.val, 6), (.call, 7), (.mem, 9), (.val, 10), (.val, 11), (.call, 12), (.call, 13), (.val, 15), (.val, 16), (.call, 17), (.val, 3), (.val, 4), (.val, 8), (.val, 14), (.val, 18), (.val, 19)] (by kernel_rfl) (by kernel_rfl) ?_
  intro wa ha
  replace HA := Lib.hid (HA.out.keep0 ha)
  replace HF := Lib.hid (HF.out.trans ha)
  clear ha
  have e0 : ∀ z : Kin wa, z.w.cell? ⟨w.heap.size, 0, none⟩ = some (.int .i64 e.id) := fun z => (HA.out.keep0 z.fr).cell 0
  have e1 : ∀ z : Kin wa, z.w.cell? ⟨w.heap.size, 1, none⟩ = some (.int .i64 e.obj) := fun z => (HA.out.keep0 z.fr).cell 1
  have e2 : ∀ z : Kin wa, z.w.cell? ⟨w.heap.size, 2, none⟩ = some (.int .i64 e.way) := fun z => (HA.out.keep0 z.fr).cell 2
  have e3 : ∀ z : Kin wa, z.w.cell? ⟨w.heap.size, 3, none⟩ = some (.int .i64 e.idx) := fun z => (HA.out.keep0 z.fr).cell 3
  have G := Lib.hid (Fr.refl [] wa)
  refine poF_vals 2 _ _ _ (by kernel_rfl) ?_
  simp only [opersOf, List.take_succ_cons, List.take_zero, List.filterMap_cons, List.filterMap_nil, List.getElem?_toArray, List.getElem?_cons_succ, List.getElem?_cons_zero, List.drop_succ_cons, List.drop_zero]
  show wpQuiet _ _ _ _ [_, _] _
  iterate 2 go_big_quiet_step (fail)
  refine wpQuiet_nil ?_
  refine poF_call _ (by simp only [List.getElem?_toArray, List.getElem?_cons_succ, List.getElem?_cons_zero]; rfl) ?_
  intro u hu
  go_wp2_with fail
  refine (HN0.out _).mono ?_
  rintro r u0 ⟨rfl, rfl⟩
  rename_i K hK
  refine hK _ _ ?_
  refine ⟨rfl, rfl, (Fr.refl [] _), ?_⟩
  clear hK K
  replace G := Lib.hid (G.out.trans hu)
  clear hu
  refine poF_vals 2 _ _ _ (by kernel_rfl) ?_
  simp only [opersOf, List.take_succ_cons, List.take_zero, List.filterMap_cons, List.filterMap_nil, List.getElem?_toArray, List.getElem?_cons_succ, List.getElem?_cons_zero, List.drop_succ_cons, List.drop_zero]
  show wpQuiet _ _ _ _ [_, _] _
  iterate 2 go_big_quiet_step (fail)
  refine wpQuiet_nil ?_
  refine poF_call _ (by simp only [List.getElem?_toArray, List.getElem?_cons_succ, List.getElem?_cons_zero]; rfl) ?_
  intro u hu
  go_wp2_with fail
  refine (HN1.out _).mono ?_
  rintro r u0 ⟨rfl, rfl⟩
  rename_i K hK
  refine hK _ _ ?_
  refine ⟨rfl, rfl, (Fr.refl [] _), ?_⟩
  clear hK K
  replace G := Lib.hid (G.out.trans hu)
  clear hu
  refine poF_new _ (by simp only [List.getElem?_toArray, List.getElem?_cons_succ, List.getElem?_cons_zero]; rfl) rfl (.cells #[.string ⟨#[115, 112, 111, 116]⟩, .string ⟨#[115, 101, 110, 116, 105, 110, 101, 108]⟩] 9) (fun b => .slice (some ⟨b, 0, none⟩) 2 2) (fun _ => by kernel_rfl) ?_
  intro b1 wb _ hwb hAt1
  go_frame
  replace G := Lib.hid (G.out.trans hwb)
  have H1 := Lib.hid hAt1
  clear hwb hAt1
  refine poF_vals 2 _ _ _ (by kernel_rfl) ?_
  simp only [opersOf, List.take_succ_cons, List.take_zero, List.filterMap_cons, List.filterMap_nil, List.getElem?_toArray, List.getElem?_cons_succ, List.getElem?_cons_zero, List.drop_succ_cons, List.drop_zero]
  show wpQuiet _ _ _ _ [_, _] _
  iterate 2 go_big_quiet_step (fail)
  refine wpQuiet_nil ?_
  refine poF_call _ (by simp only [List.getElem?_toArray, List.getElem?_cons_succ, List.getElem?_cons_zero]; rfl) ?_
  intro u hu
  replace G := Lib.hid (G.out.trans hu)
  go_wp2_with fail
  refine (at_any35 _ b1 2 rWays e.way rfl (by omega) (words_of (H1.out.keep0 hu) rfl)).mono ?_
  rintro r u0 ⟨rfl, rfl⟩
  rename_i K hK
  refine hK _ _ ?_
  refine ⟨rfl, rfl, (Fr.refl [] _), ?_⟩
  clear hK K
  clear hu H1
  refine poF_call _ (by simp only [List.getElem?_toArray, List.getElem?_cons_succ, List.getElem?_cons_zero]; rfl) ?_
  intro u hu
  replace G := Lib.hid (G.out.trans hu)
  go_wp2_with fail
  refine (word_any35 (atL rWays e.way) _ (by have := HWW.out; omega)).mono ?_
  rintro r u0 ⟨rfl, rfl⟩
  rename_i K hK
  refine hK _ _ ?_
  refine ⟨rfl, rfl, (Fr.refl [] _), ?_⟩
  clear hK K
  clear hu
  refine poF_vals 2 _ _ _ (by kernel_rfl) ?_
  simp only [opersOf, List.take_succ_cons, List.take_zero, List.filterMap_cons, List.filterMap_nil, List.getElem?_toArray, List.getElem?_cons_succ, List.getElem?_cons_zero, List.drop_succ_cons, List.drop_zero]
  show wpQuiet _ _ _ _ [_, _] _
  iterate 2 go_big_quiet_step (fail)
  refine wpQuiet_nil ?_
  refine poF_call _ (by simp only [List.getElem?_toArray, List.getElem?_cons_succ, List.getElem?_cons_zero]; rfl) ?_
  intro u hu
  replace G := Lib.hid (G.out.trans hu)
  go_wp2_with fail
  refine (HN3.out _).mono ?_
  rintro r u0 ⟨rfl, rfl⟩
  rename_i K hK
  refine hK _ _ ?_
  refine ⟨rfl, rfl, (Fr.refl [] _), ?_⟩
  clear hK K
  clear hu
  refine poF_vals 6 _ _ _ (by kernel_rfl) ?_
  simp only [opersOf, List.take_succ_cons, List.take_zero, List.filterMap_cons, List.filterMap_nil, List.getElem?_toArray, List.getElem?_cons_succ, List.getElem?_cons_zero, List.drop_succ_cons, List.drop_zero]
  show wpQuiet _ _ _ _ [_, _, _, _, _, _] _
  iterate 6 go_big_quiet_step (fail)
  refine wpQuiet_nil ?_
  refine poF_end ?_
  intro wz hz
  replace G := Lib.hid (G.out.trans hz)
  replace HA := Lib.hid (HA.out.keep0 G.out)
  replace HF := Lib.hid (HF.out.trans G.out)
  clear hz G e0 e1 e2 e3
  have c5 : wz.cell? ⟨w.heap.size, 5, none⟩ = some (.int .i64 e.verd) := HA.out.cell 5
  by_cases hv : e.verd = 0
  · have HQ := Lib.hid (show entL e = S6 by
      unfold entL
      rw [if_pos hv, ← HS6.out, ← HS5.out, ← HS4.out, ← HS3.out, ← HS2.out, ← HS1.out]
      simp [lineL, entH, lpT, Lib.join_cons, Lib.joinTail, qwd])
    rw [hv] at c5
    clear hv
    go_wp2
    go_ret
    exact ⟨by rw [HQ.out]; rfl, HF.out⟩
  · have HQ := Lib.hid (show entL e = S9 by
      unfold entL
      rw [if_neg hv, ← HS9.out, ← HS8.out, ← HS7.out, ← HS5.out, ← HS4.out, ← HS3.out, ← HS2.out, ← HS1.out]
      simp [lineL, entH, lpT, Lib.join_cons, Lib.joinTail, qwd])
    go_wp2_with fail
    clear c5
    refine wp_region_pf [(.mem, 1), (.val, 2), (.val, 3), (.call, 4), (.call, 5), (.val, 8), (.val, 9), (.call, 10), (.val, 0), (.val, 6), (.val, 7), (.val, 11), (.val, 12)] (by kernel_rfl) (by kernel_rfl) ?_
    intro wa ha
    replace HA := Lib.hid (HA.out.keep0 ha)
    replace HF := Lib.hid (HF.out.trans ha)
    clear ha
    have e5 : ∀ z : Kin wa, z.w.cell? ⟨w.heap.size, 5, none⟩ = some (.int .i64 e.verd) := fun z => (HA.out.keep0 z.fr).cell 5
    have e6 : ∀ z : Kin wa, z.w.cell? ⟨w.heap.size, 6, none⟩ = some (.int .i64 e.at_) := fun z => (HA.out.keep0 z.fr).cell 6
    have G := Lib.hid (Fr.refl [] wa)
    refine poF_new _ (by simp only [List.getElem?_toArray, List.getElem?_cons_succ, List.getElem?_cons_zero]; rfl) rfl (.cells #[.string ⟨#[112, 97, 115, 115]⟩, .string ⟨#[102, 97, 105, 108]⟩, .string ⟨#[116, 105, 109, 101, 111, 117, 116]⟩] 9) (fun b => .slice (some ⟨b, 0, none⟩) 3 3) (fun _ => by kernel_rfl) ?_
    intro b1 wb _ hwb hAt1
    go_frame
    replace G := Lib.hid (G.out.trans hwb)
    have H1 := Lib.hid hAt1
    clear hwb hAt1
    refine poF_vals 2 _ _ _ (by kernel_rfl) ?_
    simp only [opersOf, List.take_succ_cons, List.take_zero, List.filterMap_cons, List.filterMap_nil, List.getElem?_toArray, List.getElem?_cons_succ, List.getElem?_cons_zero, List.drop_succ_cons, List.drop_zero]
    show wpQuiet _ _ _ _ [_, _] _
    iterate 2 go_big_quiet_step (fail)
    refine wpQuiet_nil ?_
    refine poF_call _ (by simp only [List.getElem?_toArray, List.getElem?_cons_succ, List.getElem?_cons_zero]; rfl) ?_
    intro u hu
    replace G := Lib.hid (G.out.trans hu)
    go_wp2_with fail
    refine (at_any35 _ b1 3 rWords e.verd rfl (by omega) (words_of (H1.out.keep0 hu) rfl)).mono ?_
    rintro r u0 ⟨rfl, rfl⟩
    rename_i K hK
    refine hK _ _ ?_
    refine ⟨rfl, rfl, (Fr.refl [] _), ?_⟩
    clear hK K
    clear hu H1
    refine poF_call _ (by simp only [List.getElem?_toArray, List.getElem?_cons_succ, List.getElem?_cons_zero]; rfl) ?_
    intro u hu
    replace G := Lib.hid (G.out.trans hu)
    go_wp2_with fail
    refine (word_any35 (atL rWords e.verd) _ (by have := HWV.out; omega)).mono ?_
    rintro r u0 ⟨rfl, rfl⟩
    rename_i K hK
    refine hK _ _ ?_
    refine ⟨rfl, rfl, (Fr.refl [] _), ?_⟩
    clear hK K
    clear hu
    refine poF_vals 2 _ _ _ (by kernel_rfl) ?_
    simp only [opersOf, List.take_succ_cons, List.take_zero, List.filterMap_cons, List.filterMap_nil, List.getElem?_toArray, List.getElem?_cons_succ, List.getElem?_cons_zero, List.drop_succ_cons, List.drop_zero]
    show wpQuiet _ _ _ _ [_, _] _
    iterate 2 go_big_quiet_step (fail)
    refine wpQuiet_nil ?_
    refine poF_call _ (by simp only [List.getElem?_toArray, List.getElem?_cons_succ, List.getElem?_cons_zero]; rfl) ?_
    intro u hu
    replace G := Lib.hid (G.out.trans hu)
    go_wp2_with fail
    refine (HN6.out _).mono ?_
    rintro r u0 ⟨rfl, rfl⟩
    rename_i K hK
    refine hK _ _ ?_
    refine ⟨rfl, rfl, (Fr.refl [] _), ?_⟩
    clear hK K
    clear hu
    refine poF_vals 5 _ _ _ (by kernel_rfl) ?_
    simp only [opersOf, List.take_succ_cons, List.take_zero, List.filterMap_cons, List.filterMap_nil, List.getElem?_toArray, List.getElem?_cons_succ, List.getElem?_cons_zero, List.drop_succ_cons, List.drop_zero]
    show wpQuiet _ _ _ _ [_, _, _, _, _] _
    iterate 5 go_big_quiet_step (fail)
    refine wpQuiet_nil ?_
    refine poF_end ?_
    intro wz2 hz
    replace HF := Lib.hid (HF.out.trans (G.out.trans hz))
    clear hz G e5 e6
    go_wp2
    go_ret
    exact ⟨by rw [HQ.out]; rfl, HF.out⟩
end Go.Proofs.YtdkhgpnidamalaaDoor
