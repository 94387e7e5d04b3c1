/-
  Layer 4: the document's Solve.
-/
import Derived.Test.YtmohiblgfmdkjaaGreatDoorHS
import Derived.Test.YtmohiblgfmdkjaaGreatDoorHR
import Derived.Test.YtmohiblgfmdkjaaGreatDoorGen
namespace Go.Proofs.YtmohiblgfmdkjaaGreatDoor
open Go.RowKit Go.Bl
set_option linter.unusedVariables false

theorem Tryz.infoIntS : (Tryz.prog.info? 3).map (fun i => (i.zero, i.size, i.bytes)) = some (some (.int .i64 0), 1, 8) := by kernel_rfl
theorem made_zeros2 (n : Nat) : (madeCells #[.int .u8 0] n).toList = (List.replicate n (0 : UInt8)).map u8v := by
  apply List.ext_getElem
  · simp [madeCells]
  · intro i h1 h2
    simp [madeCells, u8v, Nat.mod_one]
theorem own_neT2 {e te : TypeId} {base size n b : Nat} {w : World} {v : Value} {xs : List Value} {c : Array Value} {fz : Nat × Nat} (h : w.ownsRow base e size v n xs) (hb : At w b (.cells c te fz)) (hne : te ≠ e) : v.ownBlock = some b → False := by
  intro hg
  rcases h.2 with ⟨rfl, -⟩ | ⟨g, cap, cur, rfl, hbg, hh, -⟩
  · simp [Value.ownBlock] at hg
  · simp [Value.ownBlock] at hg
    subst hg
    have := hh.symm.trans hb
    simp at this
    exact hne this.2.1.symm
set_option maxRecDepth 100000 in
set_option maxHeartbeats 16000000 in
theorem solve_any (w : World) (v : Value) (ls : List (Value × List UInt8)) (many : Nat) (hv : RdB (fun _ => False) w v ls) (hWW : ∀ x ∈ ls, x.2.length = many + 1) (hm : many ≤ 60) (hn : ls.length ≤ 60) :
    Calls Tryz.prog 60 #[v, .int .i64 many] w fun e w' => ((e = .returned (.tuple #[.slice none 0 0, .bool false]) ∧ ∀ x, ¬ sol many (ls.map (·.2)) x) ∨
      ∃ u x, e = .returned (.tuple #[u, .bool true]) ∧ OwnB 5 w.heap.size w' u x ∧ x.length = many ∧ sol many (ls.map (·.2)) (cf x)) ∧ Fr [] w w' := by
  have HV := Lib.hid hv
  obtain ⟨a, cap, rfl, c2, c3⟩ := rdb_shape hv
  unfold maxLen at c3
  obtain ⟨N, hN⟩ : ∃ N, ls.length = N := ⟨_, rfl⟩
  rw [hN] at HV c2 hn ⊢
  have HN := Lib.hid hN
  have HWW := Lib.hid hWW
  obtain ⟨W, hWm⟩ : ∃ W, W = many + 1 := ⟨_, rfl⟩
  have hW : 0 < W := by omega
  rw [← hWm] at HWW
  have HWM := Lib.hid hWm
  have hW1 : many < W := by omega
  have hW2 : W ≤ many + 1 := by omega
  obtain ⟨rows, hrows⟩ : ∃ rows, ls.map (·.2) = rows := ⟨_, rfl⟩
  have HRW := Lib.hid hrows
  have HRL := Lib.hid (show rows.length = N by rw [← hrows, List.length_map, hN])
  have HRI := Lib.hid (show ∀ i, i < rows.length → (rw_ rows i).length = many + 1 from fun i hi => by
    obtain ⟨x, hx, e⟩ := List.mem_map.1 (show rw_ rows i ∈ ls.map (·.2) by rw [hrows]; exact rw_mem hi)
    rw [← e]; exact hWW x hx)
  rw [hrows]
  obtain ⟨B, hB⟩ : ∃ B, w.heap.size = B := ⟨_, rfl⟩
  have HBB := Lib.hid hB
  have HM0 := Lib.hid (show Mat B (w.alloc (.cells #[] 22)) B 0 0 W [] (rows.take 0) from by
    refine ⟨?_, rfl, by simp, fun i hi => by omega, fun i k g c g' c' h => by simp at h⟩
    have h := OwnV.lit 22 B w #[] (by omega) (by simp [maxLen])
    rw [hB] at h
    exact h)
  have HF0 := Lib.hid (show Fr [] w (w.alloc (.cells #[] 22)) from Fr.alloc _ _)
  have hb0 : B ≤ (w.alloc (.cells #[] 22)).heap.size := by simp; omega
  clear hv hN hWW hrows hWm
  go_enter Tryz.func60, Tryz.ntmps60
  go_wp2
  clear hB
  go_loopw [6, 25] (fun mv i wr => ∃ (k lb lc : Nat) (us : List Value), k ≤ N ∧ i = .int .i64 k ∧ mv = .slice (some ⟨lb, 0, none⟩) k lc ∧ B ≤ wr.heap.size ∧ Hid (Mat B wr lb k lc W us (rows.take k)) ∧ Hid (Fr [] w wr)) (fun _ i _ => N - (intOf i).toNat)
  case atStart => exact ⟨0, B, 0, [], Nat.zero_le _, rfl, rfl, hb0, HM0, HF0⟩
  case round =>
    clear HM0 HF0 hb0
    obtain ⟨k, lb, lc, us, hk, rfl, rfl, hBw, HM, HF⟩ := hrel
    by_cases hkn : k < N
    · obtain ⟨x, hx⟩ : ∃ x, ls[k]? = some x := ⟨_, List.getElem?_eq_getElem (by have := HN.out; omega)⟩
      obtain ⟨b1, o1, rfl, hcx, hbx⟩ := rdb_cell (HV.out.keep HF.out (by simp)) k x hx
      have h8 := HWW.out x (List.mem_of_getElem? hx)
      obtain ⟨xv, row⟩ := x
      simp only at hcx hbx h8
      have HRK := Lib.hid (show rows.take (k + 1) = rows.take k ++ [row] by
        rw [List.take_add_one, ← HRW.out, List.getElem?_map, hx]; rfl)
      obtain ⟨xa, xc, rfl, x2, x3, -⟩ := id hbx
      rw [h8] at hbx x2 hcx
      unfold maxLen at x3
      obtain ⟨BW, hBW⟩ : ∃ BW, wr.heap.size = BW := ⟨_, rfl⟩
      have hBB : B ≤ BW := by omega
      have hfa : Fr [] wr (wr.alloc (.cells #[] 5)) := Fr.alloc _ _
      have HE := Lib.hid (show OwnB 5 BW (wr.alloc (.cells #[] 5)) (.slice (some ⟨BW, 0, none⟩) 0 0) [] by
        have h := OwnB.empty 5 BW wr (by omega)
        rwa [hBW] at h)
      have HSL := Lib.hid (hbx.keep hfa (by simp))
      have H8 := Lib.hid h8
      have hbs : BW ≤ (wr.alloc (.cells #[] 5)).heap.size := by simp; omega
      clear h8 hx hbx
      go_wp2_with (at_builtin; refine wpl_append_bs (A := fun _ => False) (ys := row) (base := BW) Tryz.underlying22 Tryz.infoByte rfl (.tmp 30) (.tmp 31) rfl rfl rfl HE.out HSL.out (by simp [H8.out]; omega) hbs ?_)
      intro v5 w5 h5 h6
      have HO5 := Lib.hid (show OwnB 5 BW w5 v5 row by simpa using h5)
      have hf5 : Fr [] wr w5 := OwnB.fr HE.out hfa h6 (by omega)
      obtain ⟨g5, c5, rfl, g50, -⟩ := HO5.out.shape (by rw [H8.out]; omega)
      have hs5 : BW ≤ w5.heap.size := by have := hf5.size; omega
      rw [H8.out] at HO5 ⊢
      obtain ⟨W5, hW5⟩ : ∃ W5, w5.heap.size = W5 := ⟨_, rfl⟩
      rw [hW5] at hs5
      have hf6 : Fr [] w5 (w5.alloc (.cells #[.slice (some ⟨g5, 0, none⟩) W c5] 22)) := Fr.alloc _ _
      have HL6 := Lib.hid (show (w5.alloc (.cells #[.slice (some ⟨g5, 0, none⟩) W c5] 22)).heap[W5]? = some (.cells #[.slice (some ⟨g5, 0, none⟩) W c5] 22 (0, 0)) from heap_alloc_at hW5.symm)
      have HF6 := Lib.hid (hf5.trans hf6)
      have HO6 := Lib.hid (show OwnB 5 B (w5.alloc (.cells #[.slice (some ⟨g5, 0, none⟩) W c5] 22)) (slW g5 W c5) row from (HO5.out.keep hf6 (by simp)).base hBB)
      have HV6 := Lib.hid (HM.out.list.keep0 HF6.out)
      have hul : us.length ≤ 60 := by rw [HM.out.ln]; omega
      have hs6 : B ≤ (w5.alloc (.cells #[.slice (some ⟨g5, 0, none⟩) W c5] 22)).heap.size := by simp; omega
      have HG5 := Lib.hid (show wr.heap.size ≤ g5 by omega)
      clear h5 h6 hf5 hf6 HE HSL hfa hbs hcx
      go_wp2_with (at_builtin; refine wpl_append_1 Tryz.underlying41 Tryz.infoBytes rfl rfl (.tmp 29) (.tmp 33) rfl rfl rfl HL6.out rfl HV6.out (by omega) (by unfold maxLen; omega) hs6 ?_)
      intro v7 w7 h7 h8
      obtain ⟨lb', lc', rfl, hm7⟩ := Mat.snoc HM.out hW HF6.out HG5.out HO6.out H8.out h7 h8
      have HM7 := Lib.hid (show Mat B w7 lb' (k + 1) lc' W _ (rows.take (k + 1)) by rw [HRK.out]; exact hm7)
      have HF7 := Lib.hid (show Fr [] w w7 from OwnV.fr HV6.out (HF.out.trans HF6.out) h8 (by have := HBB.out; omega))
      have hsz7 : B ≤ w7.heap.size := by have := h8.size; omega
      clear h7 h8 hm7 HM HF HO5 HL6 HF6 HO6 HV6 hs6 HG5
      unfold slW
      go_wp2
      go_roundw
      case rel => exact ⟨k + 1, lb', lc', _, by omega, by go_num, rfl, hsz7, HM7, HF7⟩
      case measure => simp [intOf]; omega
    · obtain rfl : N = k := by omega
      have HM2 := Lib.hid (show Mat B wr lb N lc W us rows by have h := HM.out; rwa [List.take_of_length_le (by have := HRL.out; omega)] at h)
      have HG2 := Lib.hid (GS.start HRI.out)
      have hfa : Fr [] wr (wr.alloc (.cells #[] 3)) := Fr.alloc _ _
      have HL2 := Lib.hid (show OwnI 3 B (wr.alloc (.cells #[] 3)) (.slice (some ⟨wr.heap.size, 0, none⟩) 0 0) (([] : List Nat).map fun x : Nat => (x : Int)) from OwnV.lit 3 B wr #[] hBw (by simp [maxLen]))
      have HM3 := Lib.hid (HM2.out.keep0 hfa)
      have HF3 := Lib.hid (HF.out.trans hfa)
      have hb3 : B ≤ (wr.alloc (.cells #[] 3)).heap.size := by simp; omega
      clear HM HM2 HF hfa
      go_wp2
      go_loopw [9, 10, 11] (fun lv ai ci wr => ∃ (at_ c : Nat) (lead : List Nat) (us : List Value) (m : List (List UInt8)), ai = .int .i64 at_ ∧ ci = .int .i64 c ∧ c ≤ many ∧ at_ ≤ N ∧ B ≤ wr.heap.size ∧ Hid (GS many rows c at_ m lead) ∧ Hid (Mat B wr lb N lc W us m) ∧
        Hid (OwnI 3 B wr lv (lead.map fun x : Nat => (x : Int))) ∧ Hid (Fr [] w wr)) (fun _ _ ci _ => many - (intOf ci).toNat)
      case atStart => exact ⟨0, 0, [], us, rows, rfl, rfl, Nat.zero_le _, Nat.zero_le _, hb3, HG2, HM3, HL2, HF3⟩
      case round =>
        clear HG2 HM3 HL2 HF3 hb3
        obtain ⟨at_, c, lead, us, m, rfl, rfl, hcm, han, hBl, HG, HM, HL, HF⟩ := hrel
        obtain ⟨wl, rfl⟩ : ∃ wl, wl = wr := ⟨wr, rfl⟩
        by_cases hcc : c < many
        · have hcci : (c : Int) < many := by omega
          by_cases hat : at_ < N
          · have hati : (at_ : Int) < N := by omega
            go_wp2
            go_loopw [12] (fun ki wr => ∃ k : Nat, at_ ≤ k ∧ k ≤ N ∧ ki = .int .i64 k ∧ Hid (∀ r, at_ ≤ r → r < k → cf (rw_ m r) c = 0) ∧ Hid (Fr [] wl wr)) (fun ki _ => N - (intOf ki).toNat)
            case atStart => exact ⟨at_, Nat.le_refl _, han, rfl, Lib.hid (fun r h1 h2 => by omega), Lib.hid (Fr.refl _ _)⟩
            case round =>
              obtain ⟨k, hak, hkN, rfl, HZ, HFk⟩ := hrel
              obtain ⟨wk, rfl⟩ : ∃ wk, wk = wr := ⟨wr, rfl⟩
              have HMk := Lib.hid (HM.out.keep0 HFk.out)
              by_cases hkn : k < N
              · have hkni : (k : Int) < N := by omega
                obtain ⟨g, gc, hu, hcell, ho, hwl, hlg, hBg, hgw, hgc1, hgc2⟩ := HMk.out.row hW k hkn
                unfold slW at hcell ho
                have hcb := own_cellB ho (i := c) (by omega)
                obtain ⟨y, hy⟩ : ∃ y, cf (rw_ m k) c = y := ⟨_, rfl⟩
                rw [show (rw_ m k).getD c 0 = y from hy] at hcb
                by_cases hy0 : y = 0
                · subst hy0
                  have HZ2 := Lib.hid (show ∀ r, at_ ≤ r → r < k + 1 → cf (rw_ m r) c = 0 from fun r h1 h2 => by
                    rcases Nat.lt_or_ge r k with h | h
                    · exact HZ.out r h1 h
                    · obtain rfl : r = k := by omega
                      exact hy)
                  clear HZ hu ho hy
                  go_wp2
                  go_roundw
                  case rel => exact ⟨k + 1, by omega, by omega, by go_num, HZ2, HFk⟩
                  case measure => simp [intOf]; omega
                · have hy0u : ((y.toNat : Int) == 0) = false := by rw [beq_eq_false_iff_ne]; intro e; exact hy0 (UInt8.toNat_inj.1 (show y.toNat = 0 by omega))
                  have hkne : ((k : Int) == (N : Int)) = false := by rw [beq_eq_false_iff_ne]; omega
                  have HPV := Lib.hid (show cf (rw_ m k) c ≠ 0 by rw [hy]; exact hy0)
                  obtain ⟨g2, gc2, hu2, -, -, -, -, -, -, -, -⟩ := HMk.out.row hW at_ hat
                  have HU := Lib.hid hu
                  have HU2 := Lib.hid hu2
                  clear ho hu hu2
                  go_wp2_with fail
                  refine sol_swap wk _ rfl lb N lc at_ k B us (slW g2 W gc2) (slW g W gc) HMk.out.list HMk.out.ln hkn hat HU.out HU2.out rfl rfl rfl rfl rfl _ ?_
                  intro b p k1 k2 k3 hf hlist
                  obtain ⟨f, hb⟩ := putsX b _ _ k1 k2 k3
                  have HM1 := Lib.hid (Mat.swap HMk.out hW hat hkn HU2.out HU.out hf hlist)
                  obtain ⟨us1, hus1⟩ : ∃ us1, (us.set at_ (slW g W gc)).set k (slW g2 W gc2) = us1 := ⟨_, rfl⟩
                  obtain ⟨m1, hm1⟩ : ∃ m1, swapR m at_ k = m1 := ⟨_, rfl⟩
                  rw [hus1, hm1] at HM1
                  have HSW := Lib.hid hm1
                  have HF1 := Lib.hid ((HF.out.trans HFk.out).then hf (by intro b hb; simp at hb; have := HMk.out.list; have := (this.lt lb (by simp [slW, Value.ownBlock])).1; have := HBB.out; omega))
                  have hB1 : B ≤ p.heap.size := by have := hf.size; have := HFk.out.size; omega
                  have HL1 := Lib.hid (show OwnI 3 B p u9 (lead.map fun x : Nat => (x : Int)) from by
                    refine own_keep (OwnI.keep0 HL.out HFk.out) hf ?_
                    intro g' hg' hg2
                    obtain ⟨cur, e1, -, -, -⟩ := own_blkV HMk.out.list
                    simp only [List.mem_singleton] at hg2
                    subst hg2
                    exact own_neT2 (OwnI.keep0 HL.out HFk.out) e1 (by decide) hg')
                  clear k1 k2 k3 hf hlist hcell hcb hus1 hm1 HMk HU HU2 HM HF HL HFk HZ
                  subst hb
                  simp only [List.foldl_cons, List.foldl_nil, Go.Act.put, List.setIfInBounds_toArray, List.set_cons_succ, List.set_cons_zero]
                  obtain ⟨g1, gc1, hu, hcell, ho, hwl1, hlg1, hBg1, hgw1, hgc3, hgc4⟩ := HM1.out.row hW at_ hat
                  unfold slW at hcell ho
                  obtain ⟨r0, hr0⟩ : ∃ r0, rw_ m1 at_ = r0 := ⟨_, rfl⟩
                  rw [hr0] at ho hwl1
                  have hcb := own_cellB ho (i := c) (by omega)
                  obtain ⟨y1, hy1⟩ : ∃ y1, cf r0 c = y1 := ⟨_, rfl⟩
                  rw [show r0.getD c 0 = y1 from hy1] at hcb
                  have HR0 := Lib.hid hr0
                  have HY1 := Lib.hid hy1
                  have HWL := Lib.hid hwl1
                  clear ho hu hr0 hy1 hwl1
                  go_wp2_with fail
                  refine (rinv_any p y1).mono ?_
                  rintro e w5 ⟨rfl, hf⟩
                  obtain ⟨b5, hb5⟩ : ∃ b5, ginv y1 = b5 := ⟨_, rfl⟩
                  have HB5 := Lib.hid hb5
                  rw [hb5]
                  have HM5 := Lib.hid (show Mat B w5 lb N lc W us1 (m1.set at_ (rowScale b5 0 r0)) from by
                    rw [rowScale_zero, ← HR0.out]
                    have e : m1.set at_ (rw_ m1 at_) = m1 := rows_ext (by simp) fun i hi => by
                      rw [List.length_set] at hi
                      rw [rw_set _ _ _ _ (by rw [HM1.out.lm]; exact hat)]
                      split
                      · rename_i h; rw [h]
                      · rfl
                    rw [e]
                    exact HM1.out.keep0 hf)
                  have HF5 := Lib.hid (HF1.out.trans hf)
                  have HL5 := Lib.hid (OwnI.keep0 HL1.out hf)
                  have hB5 : B ≤ w5.heap.size := by have := hf.size; omega
                  have hcell5 := cell_mono hf hcell
                  have HLM := Lib.hid (show m1.length = N from HM1.out.lm)
                  clear hf hcell hcb hb5 HM1 HF1 HL1
                  go_wp2
                  clear hcell5
                  go_loopw [96] (fun ji wr => ∃ j : Nat, j ≤ W ∧ ji = .int .i64 j ∧ B ≤ wr.heap.size ∧ Hid (Mat B wr lb N lc W us1 (m1.set at_ (rowScale b5 j r0))) ∧ Hid (OwnI 3 B wr u9 (lead.map fun x : Nat => (x : Int))) ∧ Hid (Fr [] w wr)) (fun ji _ => W - (intOf ji).toNat)
                  case atStart => exact ⟨0, Nat.zero_le _, rfl, hB5, HM5, HL5, HF5⟩
                  case round =>
                    clear HM5 HL5 HF5 hB5
                    obtain ⟨j, hj, rfl, hBj, HM, HL, HF⟩ := hrel
                    obtain ⟨wj, rfl⟩ : ∃ wj, wj = wr := ⟨wr, rfl⟩
                    by_cases hjW : j < W
                    · have hjWi : (j : Int) < W := by omega
                      obtain ⟨g3, gc3, hu3, hcell3, ho3, hwl3, hlg3, hBg3, hgw3, -, -⟩ := HM.out.row hW at_ hat
                      have hrw : rw_ (m1.set at_ (rowScale b5 j r0)) at_ = rowScale b5 j r0 := by rw [rw_set _ _ _ _ (by rw [HLM.out]; exact hat), if_pos rfl]
                      rw [hrw] at ho3 hwl3
                      have HST := Lib.hid (rowScale_step b5 j r0 (by rw [HWL.out]; exact hjW))
                      obtain ⟨row, hrow⟩ : ∃ row, rowScale b5 j r0 = row := ⟨_, rfl⟩
                      have HU3 := Lib.hid hu3
                      have HM' := Lib.hid (show Mat B wj lb N lc W us1 (m1.set at_ row) by rw [← hrow]; exact HM.out)
                      rw [hrow] at ho3 hwl3 HST
                      have HO3 := Lib.hid ho3
                      have HC3 := Lib.hid hcell3
                      clear hu3 ho3 hcell3 hrw hrow HM
                      go_wp2_with fail
                      refine sol_scale wj _ rfl lb N lc at_ g3 W gc3 j B row b5 HO3.out hwl3 hat hjW HC3.out hlg3 rfl rfl rfl rfl _ ?_
                      intro b p k1 k2 k3 hf ho
                      obtain ⟨f, hb⟩ := putsX b _ _ k1 k2 k3
                      have HM2 := Lib.hid (show Mat B p lb N lc W us1 (m1.set at_ (rowScale b5 (j + 1) r0)) from by
                        have h := HM'.out.set hW hat HU3.out hf ho (by rw [List.length_set]; exact hwl3)
                        rw [List.set_set, HST.out] at h
                        exact h)
                      have HF2 := Lib.hid (HF.out.then hf (by intro b hb; simp at hb; have := HBB.out; omega))
                      have HL2 := Lib.hid (show OwnI 3 B p u9 (lead.map fun x : Nat => (x : Int)) from by
                        refine own_keep HL.out hf ?_
                        intro g' hg' hg2
                        obtain ⟨cur, e1, -, -, -⟩ := own_blk HO3.out
                        simp only [List.mem_singleton] at hg2
                        subst hg2
                        exact own_neT2 HL.out e1 (by decide) hg')
                      have hB2 : B ≤ p.heap.size := by have := hf.size; omega
                      clear k1 k2 k3 hf ho HM' HU3 HO3 HC3 HF HL HST hwl3
                      subst hb
                      simp only [List.foldl_cons, List.foldl_nil, Go.Act.put, List.setIfInBounds_toArray, List.set_cons_succ, List.set_cons_zero]
                      go_wp2
                      go_roundw
                      case rel => exact ⟨j + 1, by omega, by go_num, hB2, HM2, HL2, HF2⟩
                      case measure => simp [intOf]; omega
                    · have hjWi : ¬ (j : Int) < W := by omega
                      have hjW2 : j = W := by omega
                      obtain ⟨pv, hpv⟩ : ∃ pv, rowScale b5 W r0 = pv := ⟨_, rfl⟩
                      have HPVR := Lib.hid hpv
                      obtain ⟨m2, hm2⟩ : ∃ m2, m1.set at_ pv = m2 := ⟨_, rfl⟩
                      have HM2D := Lib.hid hm2
                      have HMb := Lib.hid (show Mat B wj lb N lc W us1 (elimK at_ c pv 0 m2) from by
                        have h := HM.out
                        rw [hjW2] at h
                        rw [elimK_zero, ← hm2, ← hpv]
                        exact h)
                      have HLM2 := Lib.hid (show m2.length = N by rw [← hm2, List.length_set, HLM.out])
                      have HPL := Lib.hid (show pv.length = W by rw [← hpv, rowScale_len, HWL.out])
                      have HPR := Lib.hid (show rw_ m2 at_ = pv by rw [← hm2, rw_set _ _ _ _ (by rw [HLM.out]; exact hat), if_pos rfl])
                      have HWM2 := Lib.hid (show ∀ i, i < N → (rw_ m2 i).length = W from fun i hi => by
                        have h := HMb.out
                        rw [elimK_zero] at h
                        obtain ⟨g, gc, -, -, h3⟩ := h.rows i hi
                        exact h3)
                      clear hjW2 hpv hm2 HM
                      go_wp2
                      go_loopw [117] (fun ii wr => ∃ i : Nat, i ≤ N ∧ ii = .int .i64 i ∧ B ≤ wr.heap.size ∧ Hid (Mat B wr lb N lc W us1 (elimK at_ c pv i m2)) ∧ Hid (OwnI 3 B wr u9 (lead.map fun x : Nat => (x : Int))) ∧ Hid (Fr [] w wr)) (fun ii _ => N - (intOf ii).toNat)
                      case atStart => exact ⟨0, Nat.zero_le _, rfl, hBj, HMb, HL, HF⟩
                      case round =>
                        clear HMb HL HF hBj
                        obtain ⟨i, hi, rfl, hBi, HM, HL, HF⟩ := hrel
                        obtain ⟨wi, rfl⟩ : ∃ wi, wi = wr := ⟨wr, rfl⟩
                        by_cases hiN : i < N
                        · have hiNi : (i : Int) < N := by omega
                          obtain ⟨gi, gci, hui, hcelli, hoi, hwli, hlgi, hBgi, hgwi, -, -⟩ := HM.out.row hW i hiN
                          have hrwi : rw_ (elimK at_ c pv i m2) i = rw_ m2 i := by rw [elimK_rw _ _ _ _ _ _ (by rw [HLM2.out]; exact hiN), if_neg (by omega)]
                          rw [hrwi] at hoi hwli
                          obtain ⟨r1, hr1⟩ : ∃ r1, rw_ m2 i = r1 := ⟨_, rfl⟩
                          have HR1 := Lib.hid hr1
                          rw [hr1] at hoi hwli
                          have HWI := Lib.hid hwli
                          unfold slW at hcelli hoi
                          have hcbi := own_cellB hoi (i := c) (by omega)
                          obtain ⟨f1, hf1⟩ : ∃ f1, cf r1 c = f1 := ⟨_, rfl⟩
                          rw [show r1.getD c 0 = f1 from hf1] at hcbi
                          have HF1' := Lib.hid hf1
                          clear hui hoi hrwi hr1 hf1 hwli
                          by_cases hskip : i = at_ ∨ f1 = 0
                          · have HSK := Lib.hid (elimK_skip at_ c pv i m2 (by rw [HLM2.out]; exact hiN) (by rw [HR1.out, HF1'.out]; exact hskip))
                            have HM2 := Lib.hid (show Mat B wi lb N lc W us1 (elimK at_ c pv (i + 1) m2) by rw [HSK.out]; exact HM.out)
                            clear HM HSK
                            by_cases hia : i = at_
                            · subst hia
                              go_wp2
                              go_roundw
                              case rel => exact ⟨i + 1, by omega, by go_num, hBi, HM2, HL, HF⟩
                              case measure => simp [intOf]; omega
                            · have hiai : ((i : Int) == (at_ : Int)) = false := by rw [beq_eq_false_iff_ne]; omega
                              obtain rfl : f1 = 0 := by rcases hskip with h | h; exact absurd h hia; exact h
                              go_wp2
                              go_roundw
                              case rel => exact ⟨i + 1, by omega, by go_num, hBi, HM2, HL, HF⟩
                              case measure => simp [intOf]; omega
                          · have hia : i ≠ at_ := fun h => hskip (.inl h)
                            have hf0 : f1 ≠ 0 := fun h => hskip (.inr h)
                            have hiai : ((i : Int) == (at_ : Int)) = false := by rw [beq_eq_false_iff_ne]; omega
                            have hf0u : ((f1.toNat : Int) == 0) = false := by rw [beq_eq_false_iff_ne]; intro e; exact hf0 (UInt8.toNat_inj.1 (show f1.toNat = 0 by omega))
                            have HSP := Lib.hid (elimK_step at_ c pv i m2 (by rw [HLM2.out]; exact hiN) hia)
                            have HM0 := Lib.hid (show Mat B wi lb N lc W us1 ((elimK at_ c pv i m2).set i (rowElim f1 pv 0 r1)) from by
                              have e : (elimK at_ c pv i m2).set i (rowElim f1 pv 0 r1) = elimK at_ c pv i m2 := rows_ext (by simp) fun k hk => by
                                rw [List.length_set, elimK_len] at hk
                                rw [rw_set _ _ _ _ (by rw [elimK_len, HLM2.out]; exact hiN)]
                                split
                                · rename_i h
                                  rw [h, rowElim_zero, elimK_rw _ _ _ _ _ _ (by rw [HLM2.out]; exact hiN), if_neg (by omega), HR1.out]
                                · rfl
                              rw [e]
                              exact HM.out)
                            clear HM hskip
                            go_wp2
                            clear hcelli hcbi
                            go_loopw [139] (fun ji wr => ∃ j : Nat, j ≤ W ∧ ji = .int .i64 j ∧ B ≤ wr.heap.size ∧ Hid (Mat B wr lb N lc W us1 ((elimK at_ c pv i m2).set i (rowElim f1 pv j r1))) ∧ Hid (OwnI 3 B wr u9 (lead.map fun x : Nat => (x : Int))) ∧ Hid (Fr [] w wr)) (fun ji _ => W - (intOf ji).toNat)
                            case atStart => exact ⟨0, Nat.zero_le _, rfl, hBi, HM0, HL, HF⟩
                            case round =>
                              clear HM0 HL HF hBi
                              obtain ⟨j, hj, rfl, hBj, HM, HL, HF⟩ := hrel
                              obtain ⟨wj, rfl⟩ : ∃ wj, wj = wr := ⟨wr, rfl⟩
                              by_cases hjW : j < W
                              · have hjWi : (j : Int) < W := by omega
                                obtain ⟨g3, gc3, hu3, hcell3, ho3, hwl3, hlg3, hBg3, hgw3, -, -⟩ := HM.out.row hW i hiN
                                obtain ⟨g4, gc4, hu4, hcell4, ho4, hwl4, hlg4, hBg4, hgw4, -, -⟩ := HM.out.row hW at_ hat
                                have hne43 : g4 ≠ g3 := HM.out.apart at_ i g4 gc4 g3 gc3 hu4 hu3 (Ne.symm hia)
                                have hrw : rw_ ((elimK at_ c pv i m2).set i (rowElim f1 pv j r1)) i = rowElim f1 pv j r1 := by rw [rw_set _ _ _ _ (by rw [elimK_len, HLM2.out]; exact hiN), if_pos rfl]
                                have hrw4 : rw_ ((elimK at_ c pv i m2).set i (rowElim f1 pv j r1)) at_ = pv := by
                                  rw [rw_set _ _ _ _ (by rw [elimK_len, HLM2.out]; exact hiN), if_neg (Ne.symm hia), elimK_rw _ _ _ _ _ _ (by rw [HLM2.out]; exact hat), if_neg (by omega), HPR.out]
                                rw [hrw] at ho3 hwl3
                                rw [hrw4] at ho4
                                unfold slW at ho4
                                have hyc := own_cellB ho4 (i := j) (by rw [HPL.out]; exact hjW)
                                have HST := Lib.hid (rowElim_step f1 pv j r1 (by rw [HWI.out]; exact hjW))
                                obtain ⟨row, hrow⟩ : ∃ row, rowElim f1 pv j r1 = row := ⟨_, rfl⟩
                                have HU3 := Lib.hid hu3
                                have HM' := Lib.hid (show Mat B wj lb N lc W us1 ((elimK at_ c pv i m2).set i row) by rw [← hrow]; exact HM.out)
                                rw [hrow] at ho3 hwl3 HST
                                have HO3 := Lib.hid ho3
                                have HC3 := Lib.hid hcell3
                                have HC4 := Lib.hid hcell4
                                have HYC := Lib.hid hyc
                                clear hu3 ho3 hcell3 hrw hrow HM hu4 ho4 hcell4 hrw4 hyc
                                go_wp2_with fail
                                refine sol_elim wj _ rfl lb N lc at_ g3 W gc3 g4 W gc4 i j B row f1 (cf pv j) HO3.out hwl3 hat hiN hjW hjW HC3.out HC4.out HYC.out hlg3 hne43 rfl rfl rfl rfl rfl _ ?_
                                intro b p k1 k2 k3 hf ho
                                obtain ⟨f, hb⟩ := putsX b _ _ k1 k2 k3
                                have HM2 := Lib.hid (show Mat B p lb N lc W us1 ((elimK at_ c pv i m2).set i (rowElim f1 pv (j + 1) r1)) from by
                                  have h := HM'.out.set hW hiN HU3.out hf ho (by rw [List.length_set]; exact hwl3)
                                  rw [List.set_set, HST.out] at h
                                  exact h)
                                have HF2 := Lib.hid (HF.out.then hf (by intro b hb; simp at hb; have := HBB.out; omega))
                                have HL2 := Lib.hid (show OwnI 3 B p u9 (lead.map fun x : Nat => (x : Int)) from by
                                  refine own_keep HL.out hf ?_
                                  intro g' hg' hg2
                                  obtain ⟨cur, e1, -, -, -⟩ := own_blk HO3.out
                                  simp only [List.mem_singleton] at hg2
                                  subst hg2
                                  exact own_neT2 HL.out e1 (by decide) hg')
                                have hB2 : B ≤ p.heap.size := by have := hf.size; omega
                                clear k1 k2 k3 hf ho HM' HU3 HO3 HC3 HC4 HYC HF HL HST hwl3 hwl4
                                subst hb
                                simp only [List.foldl_cons, List.foldl_nil, Go.Act.put, List.setIfInBounds_toArray, List.set_cons_succ, List.set_cons_zero]
                                go_wp2
                                go_roundw
                                case rel => exact ⟨j + 1, by omega, by go_num, hB2, HM2, HL2, HF2⟩
                                case measure => simp [intOf]; omega
                              · have hjWi : ¬ (j : Int) < W := by omega
                                have HM2 := Lib.hid (show Mat B wj lb N lc W us1 (elimK at_ c pv (i + 1) m2) from by
                                  have h := HM.out
                                  rw [show j = W by omega] at h
                                  rw [← HSP.out, HR1.out, HF1'.out, HWI.out]
                                  exact h)
                                clear HM
                                go_wp2
                                go_roundw
                                case rel => exact ⟨i + 1, by omega, by go_num, hBj, HM2, HL, HF⟩
                                case measure => simp [intOf]; omega
                        · have hiNi : ¬ (i : Int) < N := by omega
                          have HMg := Lib.hid (show Mat B wi lb N lc W us1 (gsStep at_ c k m) from by
                            have h := HM.out
                            rw [show i = N by omega] at h
                            unfold gsStep
                            rw [HSW.out, HR0.out, HY1.out, HB5.out, HWL.out, HPVR.out, HM2D.out, show m.length = N from by rw [← HLM.out, ← HSW.out, swapR_len]]
                            exact h)
                          have HGg := Lib.hid (HG.out.step hcc hak (by rw [show m.length = N from by rw [← HLM.out, ← HSW.out, swapR_len]]; exact hkn) HPV.out)
                          clear HM HG
                          have hll : lead.length ≤ 60 := by
                            have h := HGg.out.ll
                            simp at h
                            omega
                          go_wp2_with (at_builtin; refine wpl_append_i Tryz.underlying23 Tryz.infoIntS rfl (.tmp 167) (.tmp 169) rfl rfl rfl HL.out (by simp; omega) hBi ?_)
                          intro v9 w9 h9 g9
                          have hfa9 : Fr [] wi (wi.alloc (.cells #[.int .i64 (c : Int)] 3)) := Fr.alloc _ _
                          have HLa := Lib.hid (OwnI.keep0 HL.out hfa9)
                          have HF9 := Lib.hid (OwnI.fr HLa.out (HF.out.trans hfa9) g9 (by have := HBB.out; omega))
                          have HM9 := Lib.hid (show Mat B w9 lb N lc W us1 (gsStep at_ c k m) from (HMg.out.keep0 hfa9).grownI HLa.out g9)
                          have HL9 := Lib.hid (show OwnI 3 B w9 v9 ((lead ++ [c]).map fun x : Nat => (x : Int)) by rw [List.map_append]; exact h9)
                          have hB9 : B ≤ w9.heap.size := by have := g9.size; have := hfa9.size; omega
                          clear h9 g9 hfa9 HLa HMg HL HF
                          go_wp2
                          go_roundw
                          case rel => exact ⟨at_ + 1, c + 1, lead ++ [c], us1, gsStep at_ c k m, by go_num, by go_num, by omega, by omega, hB9, HGg, HM9, HL9, HF9⟩
                          case measure => simp [intOf]; omega
              · have hkni : ¬ (k : Int) < N := by omega
                obtain rfl : N = k := by omega
                have HG2 := Lib.hid (HG.out.skip hcc (fun r h1 h2 => HZ.out r h1 (by rw [HMk.out.lm] at h2; exact h2)))
                have HL2 := Lib.hid (OwnI.keep0 HL.out HFk.out)
                have HF2 := Lib.hid (HF.out.trans HFk.out)
                have hB2 : B ≤ wk.heap.size := by have := HFk.out.size; omega
                clear HG HL HF HM HZ
                go_wp2
                go_roundw
                case rel => exact ⟨at_, c + 1, lead, us, m, rfl, by go_num, by omega, han, hB2, HG2, HMk, HL2, HF2⟩
                case measure => simp [intOf]; omega
          · have hati : ¬ (at_ : Int) < N := by omega
            have he : c = many ∨ at_ = m.length := by have := HM.out.lm; omega
            have HS := Lib.hid (HL.out.is (A := fun _ => False) (by simp))
            obtain ⟨la, lcp, rfl, l3, l4, hlc⟩ := HS.out.shape
            have hlen : (lead.map fun x : Nat => (x : Int)).length = at_ := by rw [List.length_map, HG.out.ll]
            rw [hlen] at hlc l3 HS
            unfold maxLen at l4
            have HE := Lib.hid he
            have HLC := Lib.hid hlc
            rw [hlen]
            clear he hlc HL hlen
            go_wp2
            go_loopw [18] (fun ii wr => ∃ i : Nat, at_ ≤ i ∧ i ≤ N ∧ ii = .int .i64 i ∧ Hid (∀ r, at_ ≤ r → r < i → cf (rw_ m r) many = 0) ∧ Hid (Fr [] wl wr)) (fun ii _ => N - (intOf ii).toNat)
            case atStart => exact ⟨at_, Nat.le_refl _, han, rfl, Lib.hid (fun r h1 h2 => by omega), Lib.hid (Fr.refl _ _)⟩
            case round =>
              obtain ⟨i, hai, hiN, rfl, HZ, HFi⟩ := hrel
              obtain ⟨wi, rfl⟩ : ∃ wi, wi = wr := ⟨wr, rfl⟩
              have HMi := Lib.hid (HM.out.keep0 HFi.out)
              by_cases hin : i < N
              · have hini : (i : Int) < N := by omega
                obtain ⟨g, gc, hu, hcell, ho, hwl, hlg, hBg, hgw, hgc1, hgc2⟩ := HMi.out.row hW i hin
                unfold slW at hcell ho
                have hcb := own_cellB ho (i := many) (by omega)
                obtain ⟨y, hy⟩ : ∃ y, cf (rw_ m i) many = y := ⟨_, rfl⟩
                rw [show (rw_ m i).getD many 0 = y from hy] at hcb
                by_cases hy0 : y = 0
                · subst hy0
                  have HZ2 := Lib.hid (show ∀ r, at_ ≤ r → r < i + 1 → cf (rw_ m r) many = 0 from fun r h1 h2 => by
                    rcases Nat.lt_or_ge r i with h | h
                    · exact HZ.out r h1 h
                    · obtain rfl : r = i := by omega
                      exact hy)
                  clear HZ hu ho hy
                  go_wp2
                  go_roundw
                  case rel => exact ⟨i + 1, by omega, by omega, by go_num, HZ2, HFi⟩
                  case measure => simp [intOf]; omega
                · have hy0u : ((y.toNat : Int) != 0) = true := by rw [bne_iff_ne]; intro e; exact hy0 (UInt8.toNat_inj.1 (show y.toNat = 0 by omega))
                  have HNO := Lib.hid (HG.out.none HE.out i hai (by rw [HMi.out.lm]; exact hin) (by rw [hy]; exact hy0))
                  have HFr := Lib.hid (HF.out.trans HFi.out)
                  clear hu ho hy
                  go_wp2
                  go_ret2
                  exact ⟨.inl ⟨rfl, HNO.out⟩, HFr.out⟩
              · have hini : ¬ (i : Int) < N := by omega
                have HSO := Lib.hid (HG.out.some HE.out (fun r h1 h2 => HZ.out r h1 (by rw [HMi.out.lm] at h2; omega)))
                obtain ⟨i0, hi0, hz0, hsz0, hby0⟩ := info_bytes Tryz.infoByte
                obtain ⟨BO, hBO⟩ : ∃ BO, wi.heap.size = BO := ⟨_, rfl⟩
                have hBB : B ≤ BO := by have := HFi.out.size; omega
                have HO0 := Lib.hid (show OwnB 5 BO (wi.alloc (.cells (madeCells #[.int .u8 0] many) 5)) (.slice (some ⟨BO, 0, none⟩) many many) (outK many m lead 0) by
                  have h := own_lit (e := 5) (base := BO) wi (madeCells #[.int .u8 0] many) (List.replicate many 0) (by omega) (by rw [made_zeros2]) (by simp; omega)
                  rw [List.length_replicate, hBO] at h
                  exact h)
                have hfa : Fr [] wi (wi.alloc (.cells (madeCells #[.int .u8 0] many) 5)) := Fr.alloc _ _
                have HF0 := Lib.hid (show Fr [] wl (wi.alloc (.cells (madeCells #[.int .u8 0] many) 5)) from HFi.out.trans hfa)
                have HBO := Lib.hid hBO
                clear hfa HZ HMi
                go_wp2_with (refine wpList_make_row _ rfl (.tmp 188) (.tmp 188) 22 rfl 5 i0 (.int .u8 0) Tryz.underlying22 hi0 hz0 hsz0 rfl .i64 .i64 many rfl rfl (by rw [hby0]; omega) (by omega) ?_)
                clear hBO hi0 hz0 hsz0 hby0
                go_loopw [192] (fun qi wr => ∃ q : Nat, q ≤ at_ ∧ qi = .int .i64 q ∧ Hid (OwnB 5 BO wr (.slice (some ⟨BO, 0, none⟩) many many) (outK many m lead q)) ∧ Hid (Fr [] wl wr)) (fun qi _ => at_ - (intOf qi).toNat)
                case atStart => exact ⟨0, Nat.zero_le _, rfl, HO0, HF0⟩
                case round =>
                  clear HO0 HF0
                  obtain ⟨q, hq, rfl, HO, HFq⟩ := hrel
                  obtain ⟨wq, rfl⟩ : ∃ wq, wq = wr := ⟨wr, rfl⟩
                  by_cases hqa : q < at_
                  · have hqai : (q : Int) < at_ := by omega
                    obtain ⟨lb1, lo1, rfl, -, hcl⟩ := HLC.out (by omega)
                    have hcq := cell_mono HFq.out (hcl q hqa)
                    obtain ⟨cq, hcqe⟩ : ∃ x : Nat, lead.getD q 0 = x := ⟨_, rfl⟩
                    have hcqv : ((lead.map fun x : Nat => (x : Int)).getD q 0) = (cq : Int) := by
                      rw [← hcqe]
                      simp only [List.getD_eq_getElem?_getD, List.getElem?_map]
                      cases lead[q]? <;> rfl
                    rw [hcqv] at hcq
                    have hcqm : cq < many := by have := (HG.out.ld q hqa).1; rw [hcqe] at this; omega
                    have HMq := Lib.hid (HM.out.keep0 HFq.out)
                    obtain ⟨g, gc, hu, hcell, ho, hwl, hlg, hBg, hgw, hgc1, hgc2⟩ := HMq.out.row hW q (by omega)
                    unfold slW at hcell ho
                    have hcb := own_cellB ho (i := many) (by omega)
                    obtain ⟨y, hy⟩ : ∃ y, cf (rw_ m q) many = y := ⟨_, rfl⟩
                    rw [show (rw_ m q).getD many 0 = y from hy] at hcb
                    obtain ⟨cur, k1, k2, -, k4⟩ := own_blk HO.out
                    rw [outK_len] at k2
                    have HST := Lib.hid (show (outK many m lead q).set cq y = outK many m lead (q + 1) by rw [← hcqe, ← hy]; rfl)
                    have HK1 := Lib.hid k1
                    have HK4 := Lib.hid (k4 · cq y)
                    have hcs : cq < cur.size := by omega
                    clear hu ho hy k1 k4 HMq hcqv hcqe hcl
                    go_wp2_with (refine wpl_store_one (.tmp 206) (.tmp 205) rfl rfl (.int .u8 (y.toNat : Int)) rfl rfl HK1.out hcs (by kernel_rfl) rfl ?_)
                    intro w5 f5 a5 _
                    have HO5 := Lib.hid (show OwnB 5 BO w5 (.slice (some ⟨BO, 0, none⟩) many many) (outK many m lead (q + 1)) by rw [← HST.out]; exact HK4.out w5 a5)
                    have HF5 := Lib.hid (HFq.out.then f5 (by intro b hb; simp at hb; have := HBO.out; have := HFi.out.size; omega))
                    clear f5 a5 HO HFq HST HK1 HK4
                    go_wp2
                    go_roundw
                    case rel => exact ⟨q + 1, by omega, by go_num, HO5, HF5⟩
                    case measure => simp [intOf]; omega
                  · have hqai : ¬ (q : Int) < at_ := by omega
                    have HOF := Lib.hid (show OwnB 5 w.heap.size wq (.slice (some ⟨BO, 0, none⟩) many many) (outK many m lead at_) by
                      have h := HO.out
                      rw [show q = at_ by omega] at h
                      exact h.base (by have := HBB.out; omega))
                    have HFF := Lib.hid (HF.out.trans HFq.out)
                    clear HO
                    go_wp2
                    go_ret2
                    first | exact ⟨.inr ⟨_, outK many m lead at_, rfl, HOF.out, outK_len _ _ _ _, HSO.out⟩, HFF.out⟩ | exact ⟨.inr ⟨_, rfl, outK many m lead at_, HOF.out, outK_len _ _ _ _, HSO.out⟩, HFF.out⟩
        · have hcci : ¬ (c : Int) < many := by omega
          · have he : c = many ∨ at_ = m.length := by have := HM.out.lm; omega
            have HS := Lib.hid (HL.out.is (A := fun _ => False) (by simp))
            obtain ⟨la, lcp, rfl, l3, l4, hlc⟩ := HS.out.shape
            have hlen : (lead.map fun x : Nat => (x : Int)).length = at_ := by rw [List.length_map, HG.out.ll]
            rw [hlen] at hlc l3 HS
            unfold maxLen at l4
            have HE := Lib.hid he
            have HLC := Lib.hid hlc
            rw [hlen]
            clear he hlc HL hlen
            go_wp2
            go_loopw [18] (fun ii wr => ∃ i : Nat, at_ ≤ i ∧ i ≤ N ∧ ii = .int .i64 i ∧ Hid (∀ r, at_ ≤ r → r < i → cf (rw_ m r) many = 0) ∧ Hid (Fr [] wl wr)) (fun ii _ => N - (intOf ii).toNat)
            case atStart => exact ⟨at_, Nat.le_refl _, han, rfl, Lib.hid (fun r h1 h2 => by omega), Lib.hid (Fr.refl _ _)⟩
            case round =>
              obtain ⟨i, hai, hiN, rfl, HZ, HFi⟩ := hrel
              obtain ⟨wi, rfl⟩ : ∃ wi, wi = wr := ⟨wr, rfl⟩
              have HMi := Lib.hid (HM.out.keep0 HFi.out)
              by_cases hin : i < N
              · have hini : (i : Int) < N := by omega
                obtain ⟨g, gc, hu, hcell, ho, hwl, hlg, hBg, hgw, hgc1, hgc2⟩ := HMi.out.row hW i hin
                unfold slW at hcell ho
                have hcb := own_cellB ho (i := many) (by omega)
                obtain ⟨y, hy⟩ : ∃ y, cf (rw_ m i) many = y := ⟨_, rfl⟩
                rw [show (rw_ m i).getD many 0 = y from hy] at hcb
                by_cases hy0 : y = 0
                · subst hy0
                  have HZ2 := Lib.hid (show ∀ r, at_ ≤ r → r < i + 1 → cf (rw_ m r) many = 0 from fun r h1 h2 => by
                    rcases Nat.lt_or_ge r i with h | h
                    · exact HZ.out r h1 h
                    · obtain rfl : r = i := by omega
                      exact hy)
                  clear HZ hu ho hy
                  go_wp2
                  go_roundw
                  case rel => exact ⟨i + 1, by omega, by omega, by go_num, HZ2, HFi⟩
                  case measure => simp [intOf]; omega
                · have hy0u : ((y.toNat : Int) != 0) = true := by rw [bne_iff_ne]; intro e; exact hy0 (UInt8.toNat_inj.1 (show y.toNat = 0 by omega))
                  have HNO := Lib.hid (HG.out.none HE.out i hai (by rw [HMi.out.lm]; exact hin) (by rw [hy]; exact hy0))
                  have HFr := Lib.hid (HF.out.trans HFi.out)
                  clear hu ho hy
                  go_wp2
                  go_ret2
                  exact ⟨.inl ⟨rfl, HNO.out⟩, HFr.out⟩
              · have hini : ¬ (i : Int) < N := by omega
                have HSO := Lib.hid (HG.out.some HE.out (fun r h1 h2 => HZ.out r h1 (by rw [HMi.out.lm] at h2; omega)))
                obtain ⟨i0, hi0, hz0, hsz0, hby0⟩ := info_bytes Tryz.infoByte
                obtain ⟨BO, hBO⟩ : ∃ BO, wi.heap.size = BO := ⟨_, rfl⟩
                have hBB : B ≤ BO := by have := HFi.out.size; omega
                have HO0 := Lib.hid (show OwnB 5 BO (wi.alloc (.cells (madeCells #[.int .u8 0] many) 5)) (.slice (some ⟨BO, 0, none⟩) many many) (outK many m lead 0) by
                  have h := own_lit (e := 5) (base := BO) wi (madeCells #[.int .u8 0] many) (List.replicate many 0) (by omega) (by rw [made_zeros2]) (by simp; omega)
                  rw [List.length_replicate, hBO] at h
                  exact h)
                have hfa : Fr [] wi (wi.alloc (.cells (madeCells #[.int .u8 0] many) 5)) := Fr.alloc _ _
                have HF0 := Lib.hid (show Fr [] wl (wi.alloc (.cells (madeCells #[.int .u8 0] many) 5)) from HFi.out.trans hfa)
                have HBO := Lib.hid hBO
                clear hfa HZ HMi
                go_wp2_with (refine wpList_make_row _ rfl (.tmp 188) (.tmp 188) 22 rfl 5 i0 (.int .u8 0) Tryz.underlying22 hi0 hz0 hsz0 rfl .i64 .i64 many rfl rfl (by rw [hby0]; omega) (by omega) ?_)
                clear hBO hi0 hz0 hsz0 hby0
                go_loopw [192] (fun qi wr => ∃ q : Nat, q ≤ at_ ∧ qi = .int .i64 q ∧ Hid (OwnB 5 BO wr (.slice (some ⟨BO, 0, none⟩) many many) (outK many m lead q)) ∧ Hid (Fr [] wl wr)) (fun qi _ => at_ - (intOf qi).toNat)
                case atStart => exact ⟨0, Nat.zero_le _, rfl, HO0, HF0⟩
                case round =>
                  clear HO0 HF0
                  obtain ⟨q, hq, rfl, HO, HFq⟩ := hrel
                  obtain ⟨wq, rfl⟩ : ∃ wq, wq = wr := ⟨wr, rfl⟩
                  by_cases hqa : q < at_
                  · have hqai : (q : Int) < at_ := by omega
                    obtain ⟨lb1, lo1, rfl, -, hcl⟩ := HLC.out (by omega)
                    have hcq := cell_mono HFq.out (hcl q hqa)
                    obtain ⟨cq, hcqe⟩ : ∃ x : Nat, lead.getD q 0 = x := ⟨_, rfl⟩
                    have hcqv : ((lead.map fun x : Nat => (x : Int)).getD q 0) = (cq : Int) := by
                      rw [← hcqe]
                      simp only [List.getD_eq_getElem?_getD, List.getElem?_map]
                      cases lead[q]? <;> rfl
                    rw [hcqv] at hcq
                    have hcqm : cq < many := by have := (HG.out.ld q hqa).1; rw [hcqe] at this; omega
                    have HMq := Lib.hid (HM.out.keep0 HFq.out)
                    obtain ⟨g, gc, hu, hcell, ho, hwl, hlg, hBg, hgw, hgc1, hgc2⟩ := HMq.out.row hW q (by omega)
                    unfold slW at hcell ho
                    have hcb := own_cellB ho (i := many) (by omega)
                    obtain ⟨y, hy⟩ : ∃ y, cf (rw_ m q) many = y := ⟨_, rfl⟩
                    rw [show (rw_ m q).getD many 0 = y from hy] at hcb
                    obtain ⟨cur, k1, k2, -, k4⟩ := own_blk HO.out
                    rw [outK_len] at k2
                    have HST := Lib.hid (show (outK many m lead q).set cq y = outK many m lead (q + 1) by rw [← hcqe, ← hy]; rfl)
                    have HK1 := Lib.hid k1
                    have HK4 := Lib.hid (k4 · cq y)
                    have hcs : cq < cur.size := by omega
                    clear hu ho hy k1 k4 HMq hcqv hcqe hcl
                    go_wp2_with (refine wpl_store_one (.tmp 206) (.tmp 205) rfl rfl (.int .u8 (y.toNat : Int)) rfl rfl HK1.out hcs (by kernel_rfl) rfl ?_)
                    intro w5 f5 a5 _
                    have HO5 := Lib.hid (show OwnB 5 BO w5 (.slice (some ⟨BO, 0, none⟩) many many) (outK many m lead (q + 1)) by rw [← HST.out]; exact HK4.out w5 a5)
                    have HF5 := Lib.hid (HFq.out.then f5 (by intro b hb; simp at hb; have := HBO.out; have := HFi.out.size; omega))
                    clear f5 a5 HO HFq HST HK1 HK4
                    go_wp2
                    go_roundw
                    case rel => exact ⟨q + 1, by omega, by go_num, HO5, HF5⟩
                    case measure => simp [intOf]; omega
                  · have hqai : ¬ (q : Int) < at_ := by omega
                    have HOF := Lib.hid (show OwnB 5 w.heap.size wq (.slice (some ⟨BO, 0, none⟩) many many) (outK many m lead at_) by
                      have h := HO.out
                      rw [show q = at_ by omega] at h
                      exact h.base (by have := HBB.out; omega))
                    have HFF := Lib.hid (HF.out.trans HFq.out)
                    clear HO
                    go_wp2
                    go_ret2
                    first | exact ⟨.inr ⟨_, outK many m lead at_, rfl, HOF.out, outK_len _ _ _ _, HSO.out⟩, HFF.out⟩ | exact ⟨.inr ⟨_, rfl, outK many m lead at_, HOF.out, outK_len _ _ _ _, HSO.out⟩, HFF.out⟩
end Go.Proofs.YtmohiblgfmdkjaaGreatDoor
