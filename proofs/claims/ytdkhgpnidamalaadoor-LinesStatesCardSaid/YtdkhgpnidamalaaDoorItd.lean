/-
  Layer 35: the document's line of an item. (printed by genlst.py)
-/
import Derived.Test.YtdkhgpnidamalaaDoorItm
import Derived.Test.YtdkhgpnidamalaaDoorGB
import Derived.Maps.RangeWalk
namespace Go.Proofs.YtdkhgpnidamalaaDoor
open Go.RowKit Go.Bl
set_option linter.unusedVariables false
set_option maxRecDepth 100000 in
set_option maxHeartbeats 8000000 in
theorem item_doc (w : World) (x : ItP) (hok : x.wf) (hn : x.name.length ≤ 100) : Calls Tryd.prog 6 #[.agg (itC x).toArray] w fun r w' => r = .returned (.string (bA (itemL x))) ∧ Fr [] w w' := by
  have HA := Lib.hid (show At (w.alloc (.cells (itC x).toArray 37)) w.heap.size (.cells (itC x).toArray 37) from At.new rfl)
  have HF := Lib.hid (show Fr [] w (w.alloc (.cells (itC x).toArray 37)) from Fr.alloc _ _)
  have HOK := Lib.hid hok
  have Knum := itoa_len x.num hok.num.1 hok.num.2
  have HNnum := Lib.hid (fun w => num_any35 x.num w hok.num.1 hok.num.2)
  have Ksz := itoa_len x.sz hok.sz.1 hok.sz.2
  have HNsz := Lib.hid (fun w => num_any35 x.sz w hok.sz.1 hok.sz.2)
  have Kused := itoa_len x.used hok.used.1 hok.used.2
  have HNused := Lib.hid (fun w => num_any35 x.used w hok.used.1 hok.used.2)
  have Kse := itoa_len x.se hok.se.1 hok.se.2
  have HNse := Lib.hid (fun w => num_any35 x.se w hok.se.1 hok.se.2)
  have Krnds := itoa_len x.rnds hok.rnds.1 hok.rnds.2
  have HNrnds := Lib.hid (fun w => num_any35 x.rnds w hok.rnds.1 hok.rnds.2)
  have KW : (qwd x.name).length ≤ 100 := qwd_len hn (by omega)
  have HNM := Lib.hid hn
  clear hn hok
  have c73 := HA.out.cell 73
  rw [itC_73 HOK.out] at c73
  cases hk : x.kept
  · obtain ⟨S1, hS1⟩ : ∃ S, ([105, 116, 101, 109] : List UInt8) ++ (32 :: Lib.itoa x.num) = S := ⟨_, rfl⟩
    have L1 : S1.length ≤ 40 := by rw [← hS1]; simp only [List.length_append, List.length_cons, List.length_nil]; omega
    have C1 : ∀ w, (Op.stringOp .add ⟨#[105, 116, 101, 109]⟩ (bA (32 :: Lib.itoa x.num))).run Tryd.prog w = .ok (.string (bA S1)) w := fun w => by rw [← hS1]; exact run_cat ([105, 116, 101, 109] : List UInt8) ((32 :: Lib.itoa x.num)) (by first | omega | (simp only [List.length_append, List.length_cons, List.length_nil]; omega)) w
    have HS1 := Lib.hid hS1
    clear hS1
    obtain ⟨S2, hS2⟩ : ∃ S, S1 ++ (32 :: qwd x.name) = S := ⟨_, rfl⟩
    have L2 : S2.length ≤ 160 := by rw [← hS2]; simp only [List.length_append, List.length_cons, List.length_nil]; omega
    have C2 : ∀ w, (Op.stringOp .add (bA S1) (bA (32 :: qwd x.name))).run Tryd.prog w = .ok (.string (bA S2)) w := fun w => by rw [← hS2]; exact run_cat S1 ((32 :: qwd x.name)) (by first | omega | (simp only [List.length_append, List.length_cons, List.length_nil]; omega)) w
    have HS2 := Lib.hid hS2
    clear hS2
    obtain ⟨S3, hS3⟩ : ∃ S, S2 ++ ([32, 115, 105, 122, 101] : List UInt8) = S := ⟨_, rfl⟩
    have L3 : S3.length ≤ 170 := by rw [← hS3]; simp only [List.length_append, List.length_cons, List.length_nil]; omega
    have C3 : ∀ w, (Op.stringOp .add (bA S2) ⟨#[32, 115, 105, 122, 101]⟩).run Tryd.prog w = .ok (.string (bA S3)) w := fun w => by rw [← hS3]; exact run_cat S2 (([32, 115, 105, 122, 101] : List UInt8)) (by first | omega | (simp only [List.length_append, List.length_cons, List.length_nil]; omega)) w
    have HS3 := Lib.hid hS3
    clear hS3
    obtain ⟨S4, hS4⟩ : ∃ S, S3 ++ (32 :: Lib.itoa x.sz) = S := ⟨_, rfl⟩
    have L4 : S4.length ≤ 200 := by rw [← hS4]; simp only [List.length_append, List.length_cons, List.length_nil]; omega
    have C4 : ∀ w, (Op.stringOp .add (bA S3) (bA (32 :: Lib.itoa x.sz))).run Tryd.prog w = .ok (.string (bA S4)) w := fun w => by rw [← hS4]; exact run_cat S3 ((32 :: Lib.itoa x.sz)) (by first | omega | (simp only [List.length_append, List.length_cons, List.length_nil]; omega)) w
    have HS4 := Lib.hid hS4
    clear hS4
    obtain ⟨S5, hS5⟩ : ∃ S, S4 ++ ([32, 119, 97, 105, 116, 105, 110, 103] : List UInt8) = S := ⟨_, rfl⟩
    have L5 : S5.length ≤ 210 := by rw [← hS5]; simp only [List.length_append, List.length_cons, List.length_nil]; omega
    have C5 : ∀ w, (Op.stringOp .add (bA S4) ⟨#[32, 119, 97, 105, 116, 105, 110, 103]⟩).run Tryd.prog w = .ok (.string (bA S5)) w := fun w => by rw [← hS5]; exact run_cat S4 (([32, 119, 97, 105, 116, 105, 110, 103] : List UInt8)) (by first | omega | (simp only [List.length_append, List.length_cons, List.length_nil]; omega)) w
    have HS5 := Lib.hid hS5
    clear hS5
    obtain ⟨S6, hS6⟩ : ∃ S, S5 ++ ([32, 117, 115, 101, 100] : List UInt8) = S := ⟨_, rfl⟩
    have L6 : S6.length ≤ 220 := by rw [← hS6]; simp only [List.length_append, List.length_cons, List.length_nil]; omega
    have C6 : ∀ w, (Op.stringOp .add (bA S5) ⟨#[32, 117, 115, 101, 100]⟩).run Tryd.prog w = .ok (.string (bA S6)) w := fun w => by rw [← hS6]; exact run_cat S5 (([32, 117, 115, 101, 100] : List UInt8)) (by first | omega | (simp only [List.length_append, List.length_cons, List.length_nil]; omega)) w
    have HS6 := Lib.hid hS6
    clear hS6
    obtain ⟨S7, hS7⟩ : ∃ S, S6 ++ (32 :: Lib.itoa x.used) = S := ⟨_, rfl⟩
    have L7 : S7.length ≤ 250 := by rw [← hS7]; simp only [List.length_append, List.length_cons, List.length_nil]; omega
    have C7 : ∀ w, (Op.stringOp .add (bA S6) (bA (32 :: Lib.itoa x.used))).run Tryd.prog w = .ok (.string (bA S7)) w := fun w => by rw [← hS7]; exact run_cat S6 ((32 :: Lib.itoa x.used)) (by first | omega | (simp only [List.length_append, List.length_cons, List.length_nil]; omega)) w
    have HS7 := Lib.hid hS7
    clear hS7
    obtain ⟨S8, hS8⟩ : ∃ S, S7 ++ ([32, 111, 102] : List UInt8) = S := ⟨_, rfl⟩
    have L8 : S8.length ≤ 260 := by rw [← hS8]; simp only [List.length_append, List.length_cons, List.length_nil]; omega
    have C8 : ∀ w, (Op.stringOp .add (bA S7) ⟨#[32, 111, 102]⟩).run Tryd.prog w = .ok (.string (bA S8)) w := fun w => by rw [← hS8]; exact run_cat S7 (([32, 111, 102] : List UInt8)) (by first | omega | (simp only [List.length_append, List.length_cons, List.length_nil]; omega)) w
    have HS8 := Lib.hid hS8
    clear hS8
    obtain ⟨S9, hS9⟩ : ∃ S, S8 ++ (32 :: Lib.itoa x.se) = S := ⟨_, rfl⟩
    have L9 : S9.length ≤ 290 := by rw [← hS9]; simp only [List.length_append, List.length_cons, List.length_nil]; omega
    have C9 : ∀ w, (Op.stringOp .add (bA S8) (bA (32 :: Lib.itoa x.se))).run Tryd.prog w = .ok (.string (bA S9)) w := fun w => by rw [← hS9]; exact run_cat S8 ((32 :: Lib.itoa x.se)) (by first | omega | (simp only [List.length_append, List.length_cons, List.length_nil]; omega)) w
    have HS9 := Lib.hid hS9
    clear hS9
    obtain ⟨S10, hS10⟩ : ∃ S, S9 ++ ([32, 114, 111, 117, 110, 100, 115] : List UInt8) = S := ⟨_, rfl⟩
    have L10 : S10.length ≤ 300 := by rw [← hS10]; simp only [List.length_append, List.length_cons, List.length_nil]; omega
    have C10 : ∀ w, (Op.stringOp .add (bA S9) ⟨#[32, 114, 111, 117, 110, 100, 115]⟩).run Tryd.prog w = .ok (.string (bA S10)) w := fun w => by rw [← hS10]; exact run_cat S9 (([32, 114, 111, 117, 110, 100, 115] : List UInt8)) (by first | omega | (simp only [List.length_append, List.length_cons, List.length_nil]; omega)) w
    have HS10 := Lib.hid hS10
    clear hS10
    obtain ⟨S11, hS11⟩ : ∃ S, S10 ++ (32 :: Lib.itoa x.rnds) = S := ⟨_, rfl⟩
    have L11 : S11.length ≤ 330 := by rw [← hS11]; simp only [List.length_append, List.length_cons, List.length_nil]; omega
    have C11 : ∀ w, (Op.stringOp .add (bA S10) (bA (32 :: Lib.itoa x.rnds))).run Tryd.prog w = .ok (.string (bA S11)) w := fun w => by rw [← hS11]; exact run_cat S10 ((32 :: Lib.itoa x.rnds)) (by first | omega | (simp only [List.length_append, List.length_cons, List.length_nil]; omega)) w
    have HS11 := Lib.hid hS11
    clear hS11
    have HQ := Lib.hid (show itemL x = S11 by
      unfold itemL
      rw [← HS11.out, ← HS10.out, ← HS9.out, ← HS8.out, ← HS7.out, ← HS6.out, ← HS5.out, ← HS4.out, ← HS3.out, ← HS2.out, ← HS1.out]
      simp [lineL, itL, lpT, Lib.join_cons, Lib.joinTail, qwd, keptL, hk])
    clear L1 L2 L3 L4 L5 L6 L7 L8 L9 L10 L11 Knum Ksz Kse Kused Krnds KW
    rw [hk] at c73
    clear hk
    go_enter Tryd.func6, Tryd.ntmps6
    go_wp2_with fail
    clear c73
    refine wp_region_pf [(.val, 0), (.val, 1), (.call, 2), (.val, 4), (.val, 5), (.call, 6), (.val, 9), (.val, 10), (.val, 11), (.call, 12), (.val, 17), (.val, 18), (.call, 19), (.val, 22), (.val, 23), (.val, 24), (.call, 25), (.val, 28), (.val, 29), (.call, 30), (.val, 3), (.val, 7), (.val, 8), (.val, 13), (.val, 14), (.val, 15), (.val, 16), (.val, 20), (.val, 21), (.val, 26), (.val, 27), (.val, 31), (.val, 32)] (by kernel_rfl) (by kernel_rfl) ?_
    intro wa ha
    replace HA := Lib.hid (HA.out.keep0 ha)
    replace HF := Lib.hid (HF.out.trans ha)
    clear ha
    have e0 : ∀ z : Kin wa, z.w.cell? ⟨w.heap.size, 0, none⟩ = some (.int .i64 x.num) := fun z => ((HA.out.keep0 z.fr).cell 0).trans (itC_0 x)
    have e1 : ∀ z : Kin wa, z.w.cell? ⟨w.heap.size, 1, none⟩ = some (.string (bA x.name)) := fun z => ((HA.out.keep0 z.fr).cell 1).trans (itC_1 x)
    have e2 : ∀ z : Kin wa, z.w.cell? ⟨w.heap.size, 2, none⟩ = some (.int .i64 x.sz) := fun z => ((HA.out.keep0 z.fr).cell 2).trans (itC_2 x)
    have e3 : ∀ z : Kin wa, z.w.cell? ⟨w.heap.size, 3, none⟩ = some (.int .i64 x.se) := fun z => ((HA.out.keep0 z.fr).cell 3).trans (itC_3 x)
    have e74 : ∀ z : Kin wa, z.w.cell? ⟨w.heap.size, 74, none⟩ = some (.int .i64 x.used) := fun z => ((HA.out.keep0 z.fr).cell 74).trans (itC_74 HOK.out)
    have e75 : ∀ z : Kin wa, z.w.cell? ⟨w.heap.size, 75, none⟩ = some (.int .i64 x.rnds) := fun z => ((HA.out.keep0 z.fr).cell 75).trans (itC_75 HOK.out)
    have G := Lib.hid (Fr.refl [] wa)
    refine poF_vals 2 _ _ _ (by kernel_rfl) ?_
    simp only [opersOf, List.take_succ_cons, List.take_zero, List.filterMap_cons, List.filterMap_nil, List.getElem?_toArray, List.getElem?_cons_succ, List.getElem?_cons_zero, List.drop_succ_cons, List.drop_zero]
    show wpQuiet _ _ _ _ [_, _] _
    iterate 2 go_big_quiet_step (fail)
    refine wpQuiet_nil ?_
    refine poF_call _ (by simp only [List.getElem?_toArray, List.getElem?_cons_succ, List.getElem?_cons_zero]; rfl) ?_
    intro u hu
    replace G := Lib.hid (G.out.trans hu)
    go_wp2_with fail
    refine (HNnum.out _).mono ?_
    rintro r u0 ⟨rfl, rfl⟩
    rename_i K hK
    refine hK _ _ ?_
    refine ⟨rfl, rfl, (Fr.refl [] _), ?_⟩
    clear hK K
    clear hu
    refine poF_vals 2 _ _ _ (by kernel_rfl) ?_
    simp only [opersOf, List.take_succ_cons, List.take_zero, List.filterMap_cons, List.filterMap_nil, List.getElem?_toArray, List.getElem?_cons_succ, List.getElem?_cons_zero, List.drop_succ_cons, List.drop_zero]
    show wpQuiet _ _ _ _ [_, _] _
    iterate 2 go_big_quiet_step (fail)
    refine wpQuiet_nil ?_
    refine poF_call _ (by simp only [List.getElem?_toArray, List.getElem?_cons_succ, List.getElem?_cons_zero]; rfl) ?_
    intro u hu
    replace G := Lib.hid (G.out.trans hu)
    go_wp2_with fail
    refine (word_any35 x.name _ (by have := HNM.out; omega)).mono ?_
    rintro r u0 ⟨rfl, rfl⟩
    rename_i K hK
    refine hK _ _ ?_
    refine ⟨rfl, rfl, (Fr.refl [] _), ?_⟩
    clear hK K
    clear hu
    refine poF_vals 3 _ _ _ (by kernel_rfl) ?_
    simp only [opersOf, List.take_succ_cons, List.take_zero, List.filterMap_cons, List.filterMap_nil, List.getElem?_toArray, List.getElem?_cons_succ, List.getElem?_cons_zero, List.drop_succ_cons, List.drop_zero]
    show wpQuiet _ _ _ _ [_, _, _] _
    iterate 3 go_big_quiet_step (fail)
    refine wpQuiet_nil ?_
    refine poF_call _ (by simp only [List.getElem?_toArray, List.getElem?_cons_succ, List.getElem?_cons_zero]; rfl) ?_
    intro u hu
    replace G := Lib.hid (G.out.trans hu)
    go_wp2_with fail
    refine (HNsz.out _).mono ?_
    rintro r u0 ⟨rfl, rfl⟩
    rename_i K hK
    refine hK _ _ ?_
    refine ⟨rfl, rfl, (Fr.refl [] _), ?_⟩
    clear hK K
    clear hu
    refine poF_vals 2 _ _ _ (by kernel_rfl) ?_
    simp only [opersOf, List.take_succ_cons, List.take_zero, List.filterMap_cons, List.filterMap_nil, List.getElem?_toArray, List.getElem?_cons_succ, List.getElem?_cons_zero, List.drop_succ_cons, List.drop_zero]
    show wpQuiet _ _ _ _ [_, _] _
    iterate 2 go_big_quiet_step (fail)
    refine wpQuiet_nil ?_
    refine poF_call _ (by simp only [List.getElem?_toArray, List.getElem?_cons_succ, List.getElem?_cons_zero]; rfl) ?_
    intro u hu
    replace G := Lib.hid (G.out.trans hu)
    go_wp2_with fail
    refine (HNused.out _).mono ?_
    rintro r u0 ⟨rfl, rfl⟩
    rename_i K hK
    refine hK _ _ ?_
    refine ⟨rfl, rfl, (Fr.refl [] _), ?_⟩
    clear hK K
    clear hu
    refine poF_vals 3 _ _ _ (by kernel_rfl) ?_
    simp only [opersOf, List.take_succ_cons, List.take_zero, List.filterMap_cons, List.filterMap_nil, List.getElem?_toArray, List.getElem?_cons_succ, List.getElem?_cons_zero, List.drop_succ_cons, List.drop_zero]
    show wpQuiet _ _ _ _ [_, _, _] _
    iterate 3 go_big_quiet_step (fail)
    refine wpQuiet_nil ?_
    refine poF_call _ (by simp only [List.getElem?_toArray, List.getElem?_cons_succ, List.getElem?_cons_zero]; rfl) ?_
    intro u hu
    replace G := Lib.hid (G.out.trans hu)
    go_wp2_with fail
    refine (HNse.out _).mono ?_
    rintro r u0 ⟨rfl, rfl⟩
    rename_i K hK
    refine hK _ _ ?_
    refine ⟨rfl, rfl, (Fr.refl [] _), ?_⟩
    clear hK K
    clear hu
    refine poF_vals 2 _ _ _ (by kernel_rfl) ?_
    simp only [opersOf, List.take_succ_cons, List.take_zero, List.filterMap_cons, List.filterMap_nil, List.getElem?_toArray, List.getElem?_cons_succ, List.getElem?_cons_zero, List.drop_succ_cons, List.drop_zero]
    show wpQuiet _ _ _ _ [_, _] _
    iterate 2 go_big_quiet_step (fail)
    refine wpQuiet_nil ?_
    refine poF_call _ (by simp only [List.getElem?_toArray, List.getElem?_cons_succ, List.getElem?_cons_zero]; rfl) ?_
    intro u hu
    replace G := Lib.hid (G.out.trans hu)
    go_wp2_with fail
    refine (HNrnds.out _).mono ?_
    rintro r u0 ⟨rfl, rfl⟩
    rename_i K hK
    refine hK _ _ ?_
    refine ⟨rfl, rfl, (Fr.refl [] _), ?_⟩
    clear hK K
    clear hu
    refine poF_vals 13 _ _ _ (by kernel_rfl) ?_
    simp only [opersOf, List.take_succ_cons, List.take_zero, List.filterMap_cons, List.filterMap_nil, List.getElem?_toArray, List.getElem?_cons_succ, List.getElem?_cons_zero, List.drop_succ_cons, List.drop_zero]
    show wpQuiet _ _ _ _ [_, _, _, _, _, _, _, _, _, _, _, _, _] _
    iterate 13 go_big_quiet_step (fail)
    refine wpQuiet_nil ?_
    refine poF_end ?_
    intro wz hz
    replace HF := Lib.hid (HF.out.trans (G.out.trans hz))
    clear hz G e0 e1 e2 e3 e74 e75
    go_wp2
    go_ret
    exact ⟨by rw [HQ.out]; rfl, HF.out⟩
  · obtain ⟨S1, hS1⟩ : ∃ S, ([105, 116, 101, 109] : List UInt8) ++ (32 :: Lib.itoa x.num) = S := ⟨_, rfl⟩
    have L1 : S1.length ≤ 40 := by rw [← hS1]; simp only [List.length_append, List.length_cons, List.length_nil]; omega
    have C1 : ∀ w, (Op.stringOp .add ⟨#[105, 116, 101, 109]⟩ (bA (32 :: Lib.itoa x.num))).run Tryd.prog w = .ok (.string (bA S1)) w := fun w => by rw [← hS1]; exact run_cat ([105, 116, 101, 109] : List UInt8) ((32 :: Lib.itoa x.num)) (by first | omega | (simp only [List.length_append, List.length_cons, List.length_nil]; omega)) w
    have HS1 := Lib.hid hS1
    clear hS1
    obtain ⟨S2, hS2⟩ : ∃ S, S1 ++ (32 :: qwd x.name) = S := ⟨_, rfl⟩
    have L2 : S2.length ≤ 160 := by rw [← hS2]; simp only [List.length_append, List.length_cons, List.length_nil]; omega
    have C2 : ∀ w, (Op.stringOp .add (bA S1) (bA (32 :: qwd x.name))).run Tryd.prog w = .ok (.string (bA S2)) w := fun w => by rw [← hS2]; exact run_cat S1 ((32 :: qwd x.name)) (by first | omega | (simp only [List.length_append, List.length_cons, List.length_nil]; omega)) w
    have HS2 := Lib.hid hS2
    clear hS2
    obtain ⟨S3, hS3⟩ : ∃ S, S2 ++ ([32, 115, 105, 122, 101] : List UInt8) = S := ⟨_, rfl⟩
    have L3 : S3.length ≤ 170 := by rw [← hS3]; simp only [List.length_append, List.length_cons, List.length_nil]; omega
    have C3 : ∀ w, (Op.stringOp .add (bA S2) ⟨#[32, 115, 105, 122, 101]⟩).run Tryd.prog w = .ok (.string (bA S3)) w := fun w => by rw [← hS3]; exact run_cat S2 (([32, 115, 105, 122, 101] : List UInt8)) (by first | omega | (simp only [List.length_append, List.length_cons, List.length_nil]; omega)) w
    have HS3 := Lib.hid hS3
    clear hS3
    obtain ⟨S4, hS4⟩ : ∃ S, S3 ++ (32 :: Lib.itoa x.sz) = S := ⟨_, rfl⟩
    have L4 : S4.length ≤ 200 := by rw [← hS4]; simp only [List.length_append, List.length_cons, List.length_nil]; omega
    have C4 : ∀ w, (Op.stringOp .add (bA S3) (bA (32 :: Lib.itoa x.sz))).run Tryd.prog w = .ok (.string (bA S4)) w := fun w => by rw [← hS4]; exact run_cat S3 ((32 :: Lib.itoa x.sz)) (by first | omega | (simp only [List.length_append, List.length_cons, List.length_nil]; omega)) w
    have HS4 := Lib.hid hS4
    clear hS4
    obtain ⟨S5, hS5⟩ : ∃ S, S4 ++ ([32, 107, 101, 112, 116] : List UInt8) = S := ⟨_, rfl⟩
    have L5 : S5.length ≤ 210 := by rw [← hS5]; simp only [List.length_append, List.length_cons, List.length_nil]; omega
    have C5 : ∀ w, (Op.stringOp .add (bA S4) ⟨#[32, 107, 101, 112, 116]⟩).run Tryd.prog w = .ok (.string (bA S5)) w := fun w => by rw [← hS5]; exact run_cat S4 (([32, 107, 101, 112, 116] : List UInt8)) (by first | omega | (simp only [List.length_append, List.length_cons, List.length_nil]; omega)) w
    have HS5 := Lib.hid hS5
    clear hS5
    obtain ⟨S6, hS6⟩ : ∃ S, S5 ++ ([32, 117, 115, 101, 100] : List UInt8) = S := ⟨_, rfl⟩
    have L6 : S6.length ≤ 220 := by rw [← hS6]; simp only [List.length_append, List.length_cons, List.length_nil]; omega
    have C6 : ∀ w, (Op.stringOp .add (bA S5) ⟨#[32, 117, 115, 101, 100]⟩).run Tryd.prog w = .ok (.string (bA S6)) w := fun w => by rw [← hS6]; exact run_cat S5 (([32, 117, 115, 101, 100] : List UInt8)) (by first | omega | (simp only [List.length_append, List.length_cons, List.length_nil]; omega)) w
    have HS6 := Lib.hid hS6
    clear hS6
    obtain ⟨S7, hS7⟩ : ∃ S, S6 ++ (32 :: Lib.itoa x.used) = S := ⟨_, rfl⟩
    have L7 : S7.length ≤ 250 := by rw [← hS7]; simp only [List.length_append, List.length_cons, List.length_nil]; omega
    have C7 : ∀ w, (Op.stringOp .add (bA S6) (bA (32 :: Lib.itoa x.used))).run Tryd.prog w = .ok (.string (bA S7)) w := fun w => by rw [← hS7]; exact run_cat S6 ((32 :: Lib.itoa x.used)) (by first | omega | (simp only [List.length_append, List.length_cons, List.length_nil]; omega)) w
    have HS7 := Lib.hid hS7
    clear hS7
    obtain ⟨S8, hS8⟩ : ∃ S, S7 ++ ([32, 111, 102] : List UInt8) = S := ⟨_, rfl⟩
    have L8 : S8.length ≤ 260 := by rw [← hS8]; simp only [List.length_append, List.length_cons, List.length_nil]; omega
    have C8 : ∀ w, (Op.stringOp .add (bA S7) ⟨#[32, 111, 102]⟩).run Tryd.prog w = .ok (.string (bA S8)) w := fun w => by rw [← hS8]; exact run_cat S7 (([32, 111, 102] : List UInt8)) (by first | omega | (simp only [List.length_append, List.length_cons, List.length_nil]; omega)) w
    have HS8 := Lib.hid hS8
    clear hS8
    obtain ⟨S9, hS9⟩ : ∃ S, S8 ++ (32 :: Lib.itoa x.se) = S := ⟨_, rfl⟩
    have L9 : S9.length ≤ 290 := by rw [← hS9]; simp only [List.length_append, List.length_cons, List.length_nil]; omega
    have C9 : ∀ w, (Op.stringOp .add (bA S8) (bA (32 :: Lib.itoa x.se))).run Tryd.prog w = .ok (.string (bA S9)) w := fun w => by rw [← hS9]; exact run_cat S8 ((32 :: Lib.itoa x.se)) (by first | omega | (simp only [List.length_append, List.length_cons, List.length_nil]; omega)) w
    have HS9 := Lib.hid hS9
    clear hS9
    obtain ⟨S10, hS10⟩ : ∃ S, S9 ++ ([32, 114, 111, 117, 110, 100, 115] : List UInt8) = S := ⟨_, rfl⟩
    have L10 : S10.length ≤ 300 := by rw [← hS10]; simp only [List.length_append, List.length_cons, List.length_nil]; omega
    have C10 : ∀ w, (Op.stringOp .add (bA S9) ⟨#[32, 114, 111, 117, 110, 100, 115]⟩).run Tryd.prog w = .ok (.string (bA S10)) w := fun w => by rw [← hS10]; exact run_cat S9 (([32, 114, 111, 117, 110, 100, 115] : List UInt8)) (by first | omega | (simp only [List.length_append, List.length_cons, List.length_nil]; omega)) w
    have HS10 := Lib.hid hS10
    clear hS10
    obtain ⟨S11, hS11⟩ : ∃ S, S10 ++ (32 :: Lib.itoa x.rnds) = S := ⟨_, rfl⟩
    have L11 : S11.length ≤ 330 := by rw [← hS11]; simp only [List.length_append, List.length_cons, List.length_nil]; omega
    have C11 : ∀ w, (Op.stringOp .add (bA S10) (bA (32 :: Lib.itoa x.rnds))).run Tryd.prog w = .ok (.string (bA S11)) w := fun w => by rw [← hS11]; exact run_cat S10 ((32 :: Lib.itoa x.rnds)) (by first | omega | (simp only [List.length_append, List.length_cons, List.length_nil]; omega)) w
    have HS11 := Lib.hid hS11
    clear hS11
    have HQ := Lib.hid (show itemL x = S11 by
      unfold itemL
      rw [← HS11.out, ← HS10.out, ← HS9.out, ← HS8.out, ← HS7.out, ← HS6.out, ← HS5.out, ← HS4.out, ← HS3.out, ← HS2.out, ← HS1.out]
      simp [lineL, itL, lpT, Lib.join_cons, Lib.joinTail, qwd, keptL, hk])
    clear L1 L2 L3 L4 L5 L6 L7 L8 L9 L10 L11 Knum Ksz Kse Kused Krnds KW
    rw [hk] at c73
    clear hk
    go_enter Tryd.func6, Tryd.ntmps6
    go_wp2_with fail
    clear c73
    refine wp_region_pf [(.val, 0), (.val, 1), (.call, 2), (.val, 4), (.val, 5), (.call, 6), (.val, 9), (.val, 10), (.val, 11), (.call, 12), (.val, 17), (.val, 18), (.call, 19), (.val, 22), (.val, 23), (.val, 24), (.call, 25), (.val, 28), (.val, 29), (.call, 30), (.val, 3), (.val, 7), (.val, 8), (.val, 13), (.val, 14), (.val, 15), (.val, 16), (.val, 20), (.val, 21), (.val, 26), (.val, 27), (.val, 31), (.val, 32)] (by kernel_rfl) (by kernel_rfl) ?_
    intro wa ha
    replace HA := Lib.hid (HA.out.keep0 ha)
    replace HF := Lib.hid (HF.out.trans ha)
    clear ha
    have e0 : ∀ z : Kin wa, z.w.cell? ⟨w.heap.size, 0, none⟩ = some (.int .i64 x.num) := fun z => ((HA.out.keep0 z.fr).cell 0).trans (itC_0 x)
    have e1 : ∀ z : Kin wa, z.w.cell? ⟨w.heap.size, 1, none⟩ = some (.string (bA x.name)) := fun z => ((HA.out.keep0 z.fr).cell 1).trans (itC_1 x)
    have e2 : ∀ z : Kin wa, z.w.cell? ⟨w.heap.size, 2, none⟩ = some (.int .i64 x.sz) := fun z => ((HA.out.keep0 z.fr).cell 2).trans (itC_2 x)
    have e3 : ∀ z : Kin wa, z.w.cell? ⟨w.heap.size, 3, none⟩ = some (.int .i64 x.se) := fun z => ((HA.out.keep0 z.fr).cell 3).trans (itC_3 x)
    have e74 : ∀ z : Kin wa, z.w.cell? ⟨w.heap.size, 74, none⟩ = some (.int .i64 x.used) := fun z => ((HA.out.keep0 z.fr).cell 74).trans (itC_74 HOK.out)
    have e75 : ∀ z : Kin wa, z.w.cell? ⟨w.heap.size, 75, none⟩ = some (.int .i64 x.rnds) := fun z => ((HA.out.keep0 z.fr).cell 75).trans (itC_75 HOK.out)
    have G := Lib.hid (Fr.refl [] wa)
    refine poF_vals 2 _ _ _ (by kernel_rfl) ?_
    simp only [opersOf, List.take_succ_cons, List.take_zero, List.filterMap_cons, List.filterMap_nil, List.getElem?_toArray, List.getElem?_cons_succ, List.getElem?_cons_zero, List.drop_succ_cons, List.drop_zero]
    show wpQuiet _ _ _ _ [_, _] _
    iterate 2 go_big_quiet_step (fail)
    refine wpQuiet_nil ?_
    refine poF_call _ (by simp only [List.getElem?_toArray, List.getElem?_cons_succ, List.getElem?_cons_zero]; rfl) ?_
    intro u hu
    replace G := Lib.hid (G.out.trans hu)
    go_wp2_with fail
    refine (HNnum.out _).mono ?_
    rintro r u0 ⟨rfl, rfl⟩
    rename_i K hK
    refine hK _ _ ?_
    refine ⟨rfl, rfl, (Fr.refl [] _), ?_⟩
    clear hK K
    clear hu
    refine poF_vals 2 _ _ _ (by kernel_rfl) ?_
    simp only [opersOf, List.take_succ_cons, List.take_zero, List.filterMap_cons, List.filterMap_nil, List.getElem?_toArray, List.getElem?_cons_succ, List.getElem?_cons_zero, List.drop_succ_cons, List.drop_zero]
    show wpQuiet _ _ _ _ [_, _] _
    iterate 2 go_big_quiet_step (fail)
    refine wpQuiet_nil ?_
    refine poF_call _ (by simp only [List.getElem?_toArray, List.getElem?_cons_succ, List.getElem?_cons_zero]; rfl) ?_
    intro u hu
    replace G := Lib.hid (G.out.trans hu)
    go_wp2_with fail
    refine (word_any35 x.name _ (by have := HNM.out; omega)).mono ?_
    rintro r u0 ⟨rfl, rfl⟩
    rename_i K hK
    refine hK _ _ ?_
    refine ⟨rfl, rfl, (Fr.refl [] _), ?_⟩
    clear hK K
    clear hu
    refine poF_vals 3 _ _ _ (by kernel_rfl) ?_
    simp only [opersOf, List.take_succ_cons, List.take_zero, List.filterMap_cons, List.filterMap_nil, List.getElem?_toArray, List.getElem?_cons_succ, List.getElem?_cons_zero, List.drop_succ_cons, List.drop_zero]
    show wpQuiet _ _ _ _ [_, _, _] _
    iterate 3 go_big_quiet_step (fail)
    refine wpQuiet_nil ?_
    refine poF_call _ (by simp only [List.getElem?_toArray, List.getElem?_cons_succ, List.getElem?_cons_zero]; rfl) ?_
    intro u hu
    replace G := Lib.hid (G.out.trans hu)
    go_wp2_with fail
    refine (HNsz.out _).mono ?_
    rintro r u0 ⟨rfl, rfl⟩
    rename_i K hK
    refine hK _ _ ?_
    refine ⟨rfl, rfl, (Fr.refl [] _), ?_⟩
    clear hK K
    clear hu
    refine poF_vals 2 _ _ _ (by kernel_rfl) ?_
    simp only [opersOf, List.take_succ_cons, List.take_zero, List.filterMap_cons, List.filterMap_nil, List.getElem?_toArray, List.getElem?_cons_succ, List.getElem?_cons_zero, List.drop_succ_cons, List.drop_zero]
    show wpQuiet _ _ _ _ [_, _] _
    iterate 2 go_big_quiet_step (fail)
    refine wpQuiet_nil ?_
    refine poF_call _ (by simp only [List.getElem?_toArray, List.getElem?_cons_succ, List.getElem?_cons_zero]; rfl) ?_
    intro u hu
    replace G := Lib.hid (G.out.trans hu)
    go_wp2_with fail
    refine (HNused.out _).mono ?_
    rintro r u0 ⟨rfl, rfl⟩
    rename_i K hK
    refine hK _ _ ?_
    refine ⟨rfl, rfl, (Fr.refl [] _), ?_⟩
    clear hK K
    clear hu
    refine poF_vals 3 _ _ _ (by kernel_rfl) ?_
    simp only [opersOf, List.take_succ_cons, List.take_zero, List.filterMap_cons, List.filterMap_nil, List.getElem?_toArray, List.getElem?_cons_succ, List.getElem?_cons_zero, List.drop_succ_cons, List.drop_zero]
    show wpQuiet _ _ _ _ [_, _, _] _
    iterate 3 go_big_quiet_step (fail)
    refine wpQuiet_nil ?_
    refine poF_call _ (by simp only [List.getElem?_toArray, List.getElem?_cons_succ, List.getElem?_cons_zero]; rfl) ?_
    intro u hu
    replace G := Lib.hid (G.out.trans hu)
    go_wp2_with fail
    refine (HNse.out _).mono ?_
    rintro r u0 ⟨rfl, rfl⟩
    rename_i K hK
    refine hK _ _ ?_
    refine ⟨rfl, rfl, (Fr.refl [] _), ?_⟩
    clear hK K
    clear hu
    refine poF_vals 2 _ _ _ (by kernel_rfl) ?_
    simp only [opersOf, List.take_succ_cons, List.take_zero, List.filterMap_cons, List.filterMap_nil, List.getElem?_toArray, List.getElem?_cons_succ, List.getElem?_cons_zero, List.drop_succ_cons, List.drop_zero]
    show wpQuiet _ _ _ _ [_, _] _
    iterate 2 go_big_quiet_step (fail)
    refine wpQuiet_nil ?_
    refine poF_call _ (by simp only [List.getElem?_toArray, List.getElem?_cons_succ, List.getElem?_cons_zero]; rfl) ?_
    intro u hu
    replace G := Lib.hid (G.out.trans hu)
    go_wp2_with fail
    refine (HNrnds.out _).mono ?_
    rintro r u0 ⟨rfl, rfl⟩
    rename_i K hK
    refine hK _ _ ?_
    refine ⟨rfl, rfl, (Fr.refl [] _), ?_⟩
    clear hK K
    clear hu
    refine poF_vals 13 _ _ _ (by kernel_rfl) ?_
    simp only [opersOf, List.take_succ_cons, List.take_zero, List.filterMap_cons, List.filterMap_nil, List.getElem?_toArray, List.getElem?_cons_succ, List.getElem?_cons_zero, List.drop_succ_cons, List.drop_zero]
    show wpQuiet _ _ _ _ [_, _, _, _, _, _, _, _, _, _, _, _, _] _
    iterate 13 go_big_quiet_step (fail)
    refine wpQuiet_nil ?_
    refine poF_end ?_
    intro wz hz
    replace HF := Lib.hid (HF.out.trans (G.out.trans hz))
    clear hz G e0 e1 e2 e3 e74 e75
    go_wp2
    go_ret
    exact ⟨by rw [HQ.out]; rfl, HF.out⟩
end Go.Proofs.YtdkhgpnidamalaaDoor
