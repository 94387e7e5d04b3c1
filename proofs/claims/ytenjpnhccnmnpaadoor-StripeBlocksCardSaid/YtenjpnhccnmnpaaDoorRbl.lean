/-
  The document's layer 6: baileeref06.Blocks.
-/
import Derived.Test.YtenjpnhccnmnpaaDoorBlo
import Derived.Test.YtenjpnhccnmnpaaDoorRpr
import Derived.Test.YtenjpnhccnmnpaaDoorRpd
import Derived.Test.YtenjpnhccnmnpaaDoorRsh
namespace Go.Proofs.YtenjpnhccnmnpaaDoor
open Go.RowKit Go.Bl
set_option linter.unusedVariables false

theorem bst_own {w : World} {base : Nat} {v : Value} {xs : List UInt8} (h : OwnB 5 base w v xs) (hx : 0 < xs.length) : BsT w v xs := by
  obtain ⟨h1, h2⟩ := h
  rcases h2 with ⟨-, h2⟩ | ⟨g, cap, cur, rfl, hg, hh, hn, hm, hs, ht⟩
  · exfalso; rw [List.length_eq_zero_iff.1 h2] at hx; simp at hx
  · refine ⟨g, 0, cap, cur, rfl, hn, hm, hh, fun i hi => ?_⟩
    rw [List.length_map] at hi
    have e : (cur.toList.take (xs.length * 1))[i]? = (xs.map u8v)[i]? := by rw [ht]
    rw [List.getElem?_take, if_pos (by omega), Array.getElem?_toList] at e
    rw [Nat.zero_add, e]

/-- a piece of bytes -/
theorem bs_sub {A : Nat → Prop} {w : World} {b o n c : Nat} {xs : List UInt8} (h : Bs A w (.slice (some ⟨b, o, none⟩) n c) xs) (k m : Nat) (hk : k + m ≤ n) : Bs A w (.slice (some ⟨b, o + k, none⟩) m (c - k)) ((xs.drop k).take m) := by
  obtain ⟨a, cap, e, h2, h3, h4⟩ := h
  cases e
  have hl : ((xs.drop k).take m).length = m := by rw [List.length_take, List.length_drop]; omega
  have hr := (h4.drop k).take m
  rw [← List.map_drop, ← List.map_take] at hr
  exact ⟨_, c - k, by rw [hl], by rw [hl]; omega, by omega, hr⟩

/-- a column of the bytes R -/
def colB (R : List UInt8) (k j : Nat) : List UInt8 := (List.range k).map fun i => R.getD (8 * i + j) 0
theorem colB_len (R : List UInt8) (k j : Nat) : (colB R k j).length = k := by simp [colB]
theorem colB_eq {d : List (List UInt8)} {R : List UInt8} {k : Nat} (h : ∀ i, i < k → d[i]? = some ((R.drop (8 * i)).take 8)) (hl : d.length = k) (j : Nat) (hj : j < 8) : d.map (fun b => b.getD j 0) = colB R k j := by
  apply List.ext_getElem?
  intro i
  unfold colB
  rw [List.getElem?_map, List.getElem?_map]
  by_cases hi : i < k
  · rw [h i hi, List.getElem?_range hi]
    simp [List.getD_eq_getElem?_getD, List.getElem?_take, hj]
  · rw [List.getElem?_eq_none (by omega), List.getElem?_eq_none (by simp; omega)]
    rfl
theorem bst_ne {w w' : World} {v : Value} {xs : List UInt8} {g : Nat} {c : Array Value} {te : TypeId} {fz : Nat × Nat} (h : BsT w v xs) (hf : Fr [g] w w') (hg : At w g (.cells c te fz)) (hne : te ≠ 5) : BsT w' v xs := by
  obtain ⟨b, off, cap, c', rfl, h1, h2, h3, h4⟩ := h
  refine ⟨b, off, cap, c', rfl, h1, h2, h3.keep hf ?_, h4⟩
  simp only [List.mem_singleton]
  rintro rfl
  have := Option.some.inj (h3.symm.trans hg)
  simp only [Obj.cells.injEq] at this
  exact hne this.2.1.symm
/-- cells of nil rows -/
def nils (n : Nat) : List Value := List.replicate n (.slice none 0 0)
theorem bst_cell {w : World} {b off n cap : Nat} {xs : List UInt8} (h : BsT w (.slice (some ⟨b, off, none⟩) n cap) xs) (i : Nat) (hi : i < xs.length) : w.cell? ⟨b, off + i, none⟩ = some (.int .u8 ((xs.getD i 0).toNat : Int)) := by
  obtain ⟨b', off', cap', c, e, h1, h2, h3, h4⟩ := h
  cases e
  rw [h3.cell, h4 i (by simpa using hi)]
  simp [List.getD_eq_getElem?_getD, hi, u8v]
theorem range_snoc {α : Type} (f : Nat → α) (i : Nat) : (List.range (i + 1)).map f = (List.range i).map f ++ [f i] := by rw [List.range_succ, List.map_append]; rfl
theorem parB_get (d : List (List UInt8)) (n : Nat) (hn : n < 32) : (parB d)[n]? = some ((List.range 8).map fun j => (parL (d.map fun b => b.getD j 0)).getD n 0) := by
  unfold parB
  rw [List.getElem?_map, List.getElem?_range hn]
  rfl

set_option maxRecDepth 100000 in
set_option maxHeartbeats 4000000 in
theorem rblocks_any (w : World) (v : Value) (xs : List UInt8) (hb : Bs (fun _ => False) w v xs) (hl : xs.length ≤ 2000) :
    Calls Tryd.prog 10 #[v] w fun e w' => ∃ (u : Value) (ls : List (Value × List UInt8)), e = .returned (.tuple #[u, .int .i64 0]) ∧ OwnV 22 w.heap.size w' u (ls.map (·.1)) ∧ (∀ x ∈ ls, BsT w' x.1 x.2) ∧ ls.map (·.2) = blocksL xs ∧ Fr [] w w' := by
  have HB := Lib.hid hb
  obtain ⟨a, cap, rfl, h2, h3, -⟩ := hb
  unfold maxLen at h3
  obtain ⟨M, hM⟩ : ∃ M, nB xs.length = M := ⟨_, rfl⟩
  have hM1 : 1 ≤ M ∧ M ≤ 250 := by rw [← hM]; unfold nB; omega
  have HPL := Lib.hid (show (padL xs).length = 8 * M by rw [← hM]; exact padL_len xs)
  have HSH := Lib.hid (fun w => rshape_ok w (xs.length : Int) (by omega) (by omega))
  have HNB := Lib.hid (show shapeOf (nblk (xs.length : Int)) = (shN M).map (fun k : Nat => (k : Int)) by rw [nblk_nB, hM, shapeOf_shN])
  have HBL := Lib.hid (show blkGo (chunkN M (padL xs)) (shN M) = blocksL xs by unfold blocksL dataL; rw [hM])
  obtain ⟨N, hN⟩ : ∃ N, xs.length = N := ⟨_, rfl⟩
  rw [hN] at HB h2 hl HSH HNB ⊢
  have HN := Lib.hid hN
  clear hM hN
  go_enter Tryd.func10, Tryd.ntmps10
  go_wp2_with fail
  refine (HSH.out w).mono ?_
  rintro e w1 ⟨sv, rfl, ho, hf⟩
  rw [HNB.out] at ho
  have HF1 := Lib.hid hf
  have HS1 := Lib.hid (ho.is (A := fun _ => False) (by simp))
  obtain ⟨sa, sc, rfl, s3, s4, -⟩ := HS1.out.shape
  rw [List.length_map] at s3 HS1 ⊢
  have hsl := shN_len M
  clear ho hf HSH
  go_wp2_with fail
  refine (rpad_any w1 _ xs (HB.out.keep HF1.out (by simp)) (by have := HN.out; omega)).mono ?_
  rintro e w2 ⟨pv, rfl, ho, hf⟩
  have HF2 := Lib.hid (HF1.out.trans hf)
  have HS2 := Lib.hid (HS1.out.keep hf (by simp))
  have HP2 := Lib.hid (ho.bs (A := fun _ => False) (by simp))
  obtain ⟨pa, pc, rfl, pc1, pc2, -⟩ := HP2.out
  rw [HPL.out] at HP2 pc1 ⊢
  unfold maxLen at pc2
  obtain ⟨B4, hB4⟩ : ∃ B4, w2.heap.size = B4 := ⟨_, rfl⟩
  have hwB : w.heap.size ≤ B4 := by have := HF2.out.size; omega
  have hfa : Fr [] w2 (w2.alloc (.cells #[] 22)) := Fr.alloc _ _
  have hA : ∀ b, B4 ≤ b → False ∨ w2.heap.size ≤ b := fun b h => .inr (by rw [hB4]; exact h)
  have HP4 := Lib.hid (show Bs (fun b => B4 ≤ b) (w2.alloc (.cells #[] 22)) (.slice pa (8 * M) pc) (padL xs) from HP2.out.mono hfa (by simp) hA)
  have HS4 := Lib.hid (show Is (fun b => B4 ≤ b) (w2.alloc (.cells #[] 22)) (.slice sa (shN M).length sc) ((shN M).map fun k : Nat => (k : Int)) from Vs.mono HS2.out hfa (by simp) hA)
  have HF4 := Lib.hid (show Fr [] w (w2.alloc (.cells #[] 22)) from HF2.out.trans hfa)
  have HO4 := Lib.hid (show OwnV 22 B4 (w2.alloc (.cells #[] 22)) (.slice (some ⟨B4, 0, none⟩) 0 0) [] from by
    have h := OwnV.lit 22 B4 w2 #[] (by omega) (by simp [maxLen])
    rw [hB4] at h
    exact h)
  have hbs : B4 ≤ (w2.alloc (.cells #[] 22)).heap.size := by simp; omega
  clear ho hf HS1 HF1 HS2 HP2 HF2 hfa hA
  go_wp2
  clear hB4
  go_loopw [6, 7, 32] (fun d o i wr => ∃ (q s L : Nat) (ea : Option Addr) (ec : Nat) (lsO : List (Value × List UInt8)), q ≤ (shN M).length ∧ i = .int .i64 q ∧ s = ((shN M).take q).sum ∧ s ≤ M ∧ L = 8 * (M - s) ∧ d = .slice ea L ec ∧ L ≤ ec ∧ ec ≤ 2 ^ 63 - 1 ∧
      B4 ≤ wr.heap.size ∧ Hid (Bs (fun b => B4 ≤ b) wr (.slice ea L ec) ((padL xs).drop (8 * s))) ∧ Hid (OwnV 22 B4 wr o (lsO.map (·.1))) ∧ Hid (∀ x ∈ lsO, BsT wr x.1 x.2) ∧ Hid (lsO.map (·.2) = blkGo (chunkN M (padL xs)) ((shN M).take q)) ∧
      Hid (Is (fun b => B4 ≤ b) wr (.slice sa (shN M).length sc) ((shN M).map fun k : Nat => (k : Int))) ∧ Hid (Fr [] w wr)) (fun _ _ i _ => (shN M).length - (intOf i).toNat)
  case atStart => exact ⟨0, 0, 8 * M, pa, pc, [], by omega, rfl, rfl, by omega, by omega, rfl, by omega, by omega, hbs, Lib.hid (by simpa using HP4.out), HO4, Lib.hid (fun x hx => by simp at hx), Lib.hid (by simp [blkGo]), HS4, HF4⟩
  case round =>
    clear HP4 HS4 HF4 HO4 hbs
    obtain ⟨q, s, L, ea, ec, lsO, hq, rfl, hsq, hsM, hL, rfl, e1, e2, hBw, HD, HO, HOB, HOS, HS, HF⟩ := hrel
    have HSQ := Lib.hid hsq
    have HLL := Lib.hid hL
    clear hsq hL
    by_cases hqn : q < (shN M).length
    · obtain ⟨k, hk⟩ : ∃ k, (shN M)[q]? = some k := ⟨_, List.getElem?_eq_getElem hqn⟩
      have hkb := shN_bd M hM1.1 hM1.2 k (List.mem_of_getElem? hk)
      have hsum : ((shN M).take (q + 1)).sum = s + k := by rw [List.take_add_one, hk, HSQ.out]; simp
      have hle := sum_take_le (shN M) (q + 1)
      rw [hsum, shN_sum] at hle
      obtain ⟨a', c', e, -, -, hc⟩ := HS.out.shape
      rw [List.length_map] at e hc
      cases e
      obtain ⟨b1, o1, rfl, -, hc1⟩ := hc (Nat.lt_of_le_of_lt (Nat.zero_le _) hqn)
      have g1 := hc1 q hqn
      rw [show ((shN M).map fun k : Nat => (k : Int)).getD q 0 = (k : Int) by simp [List.getD_eq_getElem?_getD, hk]] at g1
      have HK := Lib.hid hk
      have HSUM := Lib.hid hsum
      obtain ⟨d, hd⟩ : ∃ d, ((chunkN M (padL xs)).drop s).take k = d := ⟨_, rfl⟩
      obtain ⟨R, hR⟩ : ∃ R, (padL xs).drop (8 * s) = R := ⟨_, rfl⟩
      obtain ⟨X, hX⟩ : ∃ X, blkGo (chunkN M (padL xs)) ((shN M).take q) = X := ⟨_, rfl⟩
      have HRL := Lib.hid (show R.length = L by rw [← hR, List.length_drop, HPL.out, HLL.out]; omega)
      have HDG := Lib.hid (show ∀ i, i < k → d[i]? = some ((R.drop (8 * i)).take 8) from fun i hi => by
        rw [← hd, ← hR, List.getElem?_take, if_pos hi, List.getElem?_drop, chunkN_get _ _ _ (by omega), List.drop_drop, Nat.mul_add])
      have HDL := Lib.hid (show d.length = k by rw [← hd]; simp [chunkN_len]; omega)
      have HXL := Lib.hid (show X.length ≤ 300 by
        rw [← hX, blkGo_len [] _ _ (by rw [chunkN_len, ← HSQ.out]; omega), ← HSQ.out]
        have h2 : ((shN M).take q).length ≤ 1 := by rw [List.length_take]; omega
        omega)
      have HXX := Lib.hid (show blkGo (chunkN M (padL xs)) ((shN M).take (q + 1)) = X ++ grpB d by
        rw [blk_step _ _ q k HK.out (by rw [shN_sum, chunkN_len]; omega), ← HSQ.out, hX, hd])
      rw [hR] at HD
      rw [hX] at HOS
      have hRd := Lib.hid hR
      obtain ⟨b2, o2, rfl⟩ : ∃ b2 o2, ea = some ⟨b2, o2, none⟩ := by
        obtain ⟨a', c', e, -, -, h4⟩ := HD.out
        cases e
        obtain ⟨b, off, e, -⟩ := Row.some_of h4 (by rw [List.length_map, HRL.out, HLL.out]; omega)
        exact ⟨b, off, e⟩
      have h8k : 8 * k ≤ L := by have := HLL.out; omega
      clear hk hsum hc hc1 hd hR hX
      go_wp2
      go_loopw [7, 10] (fun o i wr => ∃ (j : Nat) (ls1 : List (Value × List UInt8)), j ≤ k ∧ i = .int .i64 j ∧ B4 ≤ wr.heap.size ∧ Hid (Bs (fun b => B4 ≤ b) wr (.slice (some ⟨b2, o2, none⟩) L ec) R) ∧
        Hid (OwnV 22 B4 wr o (ls1.map (·.1))) ∧ Hid (∀ x ∈ ls1, BsT wr x.1 x.2) ∧ Hid (ls1.map (·.2) = X ++ d.take j) ∧
        Hid (Is (fun b => B4 ≤ b) wr (.slice (some ⟨b1, o1, none⟩) (shN M).length sc) ((shN M).map fun k : Nat => (k : Int))) ∧ Hid (Fr [] w wr)) (fun _ i _ => k - (intOf i).toNat)
      case atStart => exact ⟨0, lsO, by omega, rfl, hBw, HD, HO, HOB, Lib.hid (by rw [HOS.out]; simp), HS, HF⟩
      case round =>
        clear HD HO HOB HOS HS HF g1 hBw
        obtain ⟨j, ls1, hj, rfl, hBw, HD, HO, HOB, HOS, HS, HF⟩ := hrel
        have hlen1 : ls1.length ≤ 600 := by
          have h := congrArg List.length HOS.out
          rw [List.length_map, List.length_append, List.length_take] at h
          have := HXL.out
          omega
        by_cases hjk : j < k
        · obtain ⟨BW, hBW⟩ : ∃ BW, wr.heap.size = BW := ⟨_, rfl⟩
          have hBB : B4 ≤ BW := by omega
          have hfa : Fr [] wr (wr.alloc (.cells #[] 5)) := Fr.alloc _ _
          have HE := Lib.hid (show OwnB 5 BW (wr.alloc (.cells #[] 5)) (.slice (some ⟨BW, 0, none⟩) 0 0) [] by
            have h := OwnB.empty 5 BW wr (by omega)
            rwa [hBW] at h)
          have HSL := Lib.hid (show Bs (fun b => B4 ≤ b) (wr.alloc (.cells #[] 5)) (.slice (some ⟨b2, o2 + 8 * j, none⟩) (8 * j + 8 - 8 * j) (ec - 8 * j)) ((R.drop (8 * j)).take 8) from by
            rw [Nat.add_sub_cancel_left]
            exact bs_sub (HD.out.keep hfa (by simp)) (8 * j) 8 (by omega))
          have h8 : ((R.drop (8 * j)).take 8).length = 8 := by rw [List.length_take, List.length_drop, HRL.out]; omega
          have hbs : BW ≤ (wr.alloc (.cells #[] 5)).heap.size := by simp; omega
          have hDj := HDG.out j hjk
          obtain ⟨row, hrow⟩ : ∃ row, (R.drop (8 * j)).take 8 = row := ⟨_, rfl⟩
          rw [hrow] at HSL h8 hDj
          have H8 := Lib.hid h8
          have HDJ := Lib.hid hDj
          clear h8 hDj hrow
          go_wp2_with (at_builtin; refine wpl_append_bs (A := fun b => B4 ≤ b) (ys := row) (base := BW) Tryd.underlying22 Tryd.infoByte rfl (.tmp 42) (.tmp 49) rfl rfl rfl HE.out HSL.out (by simp [H8.out]) hbs ?_)
          intro v5 w5 h5 h6
          have HO5 := Lib.hid (show OwnB 5 BW w5 v5 row by simpa using h5)
          have hf5 : Fr [] wr w5 := OwnB.fr HE.out hfa h6 (by omega)
          have HX5 := Lib.hid (bst_own HO5.out (by rw [H8.out]; omega))
          have HF5 := Lib.hid hf5
          obtain ⟨g5, c5, rfl, g50, -⟩ := HO5.out.shape (by rw [H8.out]; omega)
          have hs5 : BW ≤ w5.heap.size := by have := hf5.size; omega
          obtain ⟨W5, hW5⟩ : ∃ W5, w5.heap.size = W5 := ⟨_, rfl⟩
          rw [hW5] at hs5
          have hf6 : Fr [] w5 (w5.alloc (.cells #[.slice (some ⟨g5, 0, none⟩) row.length c5] 22)) := Fr.alloc _ _
          have HL6 := Lib.hid (show (w5.alloc (.cells #[.slice (some ⟨g5, 0, none⟩) row.length c5] 22)).heap[W5]? = some (.cells #[.slice (some ⟨g5, 0, none⟩) row.length c5] 22 (0, 0)) from heap_alloc_at hW5.symm)
          have HF6 := Lib.hid (hf5.trans hf6)
          have HO6 := Lib.hid (HO.out.keep0 HF6.out)
          have hs6 : B4 ≤ (w5.alloc (.cells #[.slice (some ⟨g5, 0, none⟩) row.length c5] 22)).heap.size := by simp; omega
          clear h5 h6 hf5 hf6 HE HSL
          rw [H8.out] at HL6 HF6 HO6 hs6 HX5 HO5 ⊢
          go_wp2_with (at_builtin; refine wpl_append_1 Tryd.underlying29 Tryd.infoBytes rfl rfl (.tmp 41) (.tmp 51) rfl rfl rfl HL6.out rfl HO6.out (by rw [List.length_map]; omega) (by rw [List.length_map]; unfold maxLen; omega) hs6 ?_)
          intro v7 w7 h7 h8
          have hfg := Fr.grown (S := u7.ownBlock.toList) h8 (fun g hg => by simp [hg])
          have hfa6 : Fr [] wr (w5.alloc (.cells #[.slice (some ⟨g5, 0, none⟩) 8 c5] 22)) := HF6.out
          have HO7 := Lib.hid (show OwnV 22 B4 w7 v7 ((ls1 ++ [(Value.slice (some ⟨g5, 0, none⟩) 8 c5, row)]).map (·.1)) by rw [List.map_append]; exact h7)
          have HD7 := Lib.hid ((HD.out.keep hfa6 (by simp)).keep hfg (fun g hg => HO6.out.blk hg))
          have HS7 := Lib.hid ((HS.out.keep hfa6 (by simp)).keep hfg (fun g hg => HO6.out.blk hg))
          have HOB7 := Lib.hid (show ∀ x ∈ ls1 ++ [(Value.slice (some ⟨g5, 0, none⟩) 8 c5, row)], BsT w7 x.1 x.2 from fun x hx => by
            rcases List.mem_append.1 hx with hx | hx
            · exact ((HOB.out x hx).keep0 hfa6).grown HO6.out h8
            · rw [List.mem_singleton] at hx
              subst hx
              exact (HX5.out.keep0 (Fr.alloc _ _)).grown HO6.out h8)
          have HOS7 := Lib.hid (show (ls1 ++ [(Value.slice (some ⟨g5, 0, none⟩) 8 c5, row)]).map (·.2) = X ++ d.take (j + 1) by
            rw [List.map_append, HOS.out, List.take_add_one, HDJ.out, List.append_assoc]; rfl)
          have HF7 := Lib.hid (show Fr [] w w7 from OwnV.fr HO6.out (HF.out.trans hfa6) h8 hwB)
          have hsz7 : B4 ≤ w7.heap.size := by have := h8.size; omega
          clear h7 h8 hfg hfa6 HO6 HO HD HS HOB HOS HF HX5 HO5 HL6 HF6 HF5
          go_wp2
          constructor
          · exact ⟨j + 1, _, by omega, by go_num, hsz7, HD7, HO7, HOB7, HOS7, HS7, HF7⟩
          · simp [intOf]; omega
        · obtain rfl : k = j := by omega
          have HOS2 := Lib.hid (show ls1.map (·.2) = X ++ d by rw [HOS.out, List.take_of_length_le (by have := HDL.out; omega)])
          obtain ⟨wg, rfl⟩ : ∃ wg, wg = wr := ⟨wr, rfl⟩
          obtain ⟨pr, hpr⟩ : ∃ pr, wg.heap.size = pr := ⟨_, rfl⟩
          have HPR := Lib.hid hpr
          have hBp : B4 ≤ pr := by omega
          have HA := Lib.hid (show At (wg.alloc (.cells #[.slice none 0 0, .slice none 0 0, .slice none 0 0, .slice none 0 0, .slice none 0 0, .slice none 0 0, .slice none 0 0, .slice none 0 0] 48)) pr (.cells (([] : List Value) ++ nils (8 - 0)).toArray 48) from At.new hpr.symm)
          have HFA := Lib.hid (show Fr [] wg (wg.alloc (.cells #[.slice none 0 0, .slice none 0 0, .slice none 0 0, .slice none 0 0, .slice none 0 0, .slice none 0 0, .slice none 0 0, .slice none 0 0] 48)) from Fr.alloc _ _)
          clear HOS
          go_wp2
          clear hpr
          go_loopw [12] (fun i wl => ∃ (jj : Nat) (us : List Value), jj ≤ 8 ∧ i = .int .i64 jj ∧ Hid (us.length = jj) ∧ Hid (At wl pr (.cells (us ++ nils (8 - jj)).toArray 48)) ∧ Hid (∀ m u, us[m]? = some u → BsT wl u (parL (colB R k m))) ∧ Hid (Fr [] wg wl)) (fun i _ => 8 - (intOf i).toNat)
          case atStart => exact ⟨0, [], by omega, rfl, Lib.hid rfl, HA, Lib.hid (fun m u h => by simp at h), HFA⟩
          case round =>
            clear HA HFA
            obtain ⟨jj, us, hjj, rfl, HUL, HA, HU, HFL⟩ := hrel
            obtain ⟨wl, rfl⟩ : ∃ wl, wl = wr := ⟨wr, rfl⟩
            by_cases hj8 : jj < 8
            · obtain ⟨BL, hBL⟩ : ∃ BL, wl.heap.size = BL := ⟨_, rfl⟩
              have hprl : pr < BL := by have := HA.out.lt; omega
              have HE := Lib.hid (show OwnB 5 BL (wl.alloc (.cells #[] 5)) (.slice (some ⟨BL, 0, none⟩) 0 0) ((List.range 0).map fun i => R.getD (8 * i + jj) 0) by
                have h := OwnB.empty 5 BL wl (by omega)
                rwa [hBL] at h)
              have HFE := Lib.hid (show Fr [] wl (wl.alloc (.cells #[] 5)) from Fr.alloc _ _)
              have HDl := Lib.hid (HD.out.keep HFL.out (by simp))
              have hbs : BL ≤ (wl.alloc (.cells #[] 5)).heap.size := by simp; omega
              have HBL := Lib.hid hBL
              have hj8i : (jj : Int) < 8 := by omega
              go_wp2
              clear hBL
              go_loopw [13, 14] (fun c i wr => ∃ i' : Nat, i' ≤ k ∧ i = .int .i64 i' ∧ BL ≤ wr.heap.size ∧ Hid (OwnB 5 BL wr c ((List.range i').map fun i => R.getD (8 * i + jj) 0)) ∧ Hid (Fr [] wl wr)) (fun _ i _ => k - (intOf i).toNat)
              case atStart => exact ⟨0, by omega, rfl, hbs, HE, HFE⟩
              case round =>
                clear HE HFE hbs
                obtain ⟨i', hi', rfl, hbc, HC, HFc⟩ := hrel
                obtain ⟨wc, rfl⟩ : ∃ wc, wc = wr := ⟨wr, rfl⟩
                have hcl : ((List.range i').map fun i => R.getD (8 * i + jj) 0).length = i' := by simp
                by_cases hik : i' < k
                · have hix : 8 * i' + jj < L := by omega
                  obtain ⟨x, hx⟩ : ∃ x, R[8 * i' + jj]? = some x := ⟨_, List.getElem?_eq_getElem (by rw [HRL.out]; exact hix)⟩
                  obtain ⟨b', o', e, hcx⟩ := bs_cell (HDl.out.keep HFc.out (by simp)) (8 * i' + jj) x hx
                  cases e
                  have HST := Lib.hid (show ((List.range i').map fun i => R.getD (8 * i + jj) 0) ++ [x] = (List.range (i' + 1)).map fun i => R.getD (8 * i + jj) 0 by
                    rw [range_snoc, List.getD_eq_getElem?_getD, hx]; rfl)
                  have hfa : Fr [] wc (wc.alloc (.cells #[.int .u8 (x.toNat : Int)] 5)) := Fr.alloc _ _
                  have HC1 := Lib.hid (HC.out.keep hfa (by simp))
                  have HL1 := Lib.hid (show Bs (fun _ => False) (wc.alloc (.cells #[.int .u8 (x.toNat : Int)] 5)) (.slice (some ⟨wc.heap.size, 0, none⟩) 1 1) [x] from bs_lit1 _ wc x 5 (by simp))
                  have HF1 := Lib.hid (HFc.out.trans hfa)
                  have hb1 : BL ≤ (wc.alloc (.cells #[.int .u8 (x.toNat : Int)] 5)).heap.size := by simp; omega
                  have HCL := Lib.hid hcl
                  clear hfa hx HC hcl
                  go_wp2_with (at_builtin; refine wpl_append_bs (A := fun _ => False) (ys := [x]) (base := BL) Tryd.underlying22 Tryd.infoByte rfl (.tmp 64) (.tmp 72) rfl rfl rfl HC1.out HL1.out (by rw [HCL.out]; simp; omega) hb1 ?_)
                  intro v' w' h5 h6
                  have HC2 := Lib.hid (show OwnB 5 BL w' v' ((List.range (i' + 1)).map fun i => R.getD (8 * i + jj) 0) by rw [← HST.out]; exact h5)
                  have HF2 := Lib.hid (show Fr [] wl w' from OwnB.fr HC1.out HF1.out h6 (by have := HBL.out; omega))
                  have hb2 : BL ≤ w'.heap.size := by have := h6.size; omega
                  clear h5 h6 HC1 HL1 HF1 HST hb1 HCL
                  go_wp2
                  go_roundw
                  case rel => exact ⟨i' + 1, by omega, by go_num, hb2, HC2, HF2⟩
                  case measure => simp [intOf]; omega
                · obtain rfl : k = i' := by omega
                  have HC3 := Lib.hid (show OwnB 5 BL wc u13 (colB R k jj) from HC.out)
                  have HFP := Lib.hid (rpar_any wc u13 (colB R k jj) (HC3.out.bs (by simp)) (by rw [colB_len]; omega) (by rw [colB_len]; omega))
                  clear hcl HC
                  go_wp2_with fail
                  refine HFP.out.mono ?_
                  rintro e w6 ⟨pb, po, pcp, rfl, hlb, hbt, hf⟩
                  have HF6 := Lib.hid ((HFL.out.trans HFc.out).trans hf)
                  have HA6 := Lib.hid (HA.out.keep0 (HFc.out.trans hf))
                  have HU6 := Lib.hid (show ∀ m u, us[m]? = some u → BsT w6 u (parL (colB R k m)) from fun m u hm => (HU.out m u hm).keep0 (HFc.out.trans hf))
                  have HN6 := Lib.hid hbt
                  have hcu : (us ++ nils (8 - jj)).length = 8 := by simp [nils, HUL.out]; omega
                  have HSET := Lib.hid (show (us ++ nils (8 - jj)).set jj (Value.slice (some ⟨pb, po, none⟩) 32 pcp) = (us ++ [Value.slice (some ⟨pb, po, none⟩) 32 pcp]) ++ nils (8 - (jj + 1)) by
                    unfold nils
                    rw [show 8 - jj = (8 - (jj + 1)) + 1 by omega, List.replicate_succ, List.set_append_right _ _ (by rw [HUL.out]; exact Nat.le_refl _), HUL.out, Nat.sub_self]
                    simp)
                  obtain ⟨cur, hcur⟩ : ∃ cur, us ++ nils (8 - jj) = cur := ⟨_, rfl⟩
                  rw [hcur] at HA6 hcu HSET
                  clear hcur hf hbt HFP HC3
                  go_wp2_with (refine wpl_store_one (.tmp 80) (.tmp 78) rfl rfl (.slice (some ⟨pb, po, none⟩) 32 pcp) rfl rfl HA6.out (by simp [hcu]; omega) (by kernel_rfl) rfl ?_)
                  intro w7 f7 a7 _
                  have HA7 := Lib.hid (show At w7 pr (.cells ((us ++ [Value.slice (some ⟨pb, po, none⟩) 32 pcp]) ++ nils (8 - (jj + 1))).toArray 48) by
                    rw [← HSET.out]
                    simpa using a7)
                  have HU7 := Lib.hid (show ∀ m u, (us ++ [Value.slice (some ⟨pb, po, none⟩) 32 pcp])[m]? = some u → BsT w7 u (parL (colB R k m)) from fun m u hm => by
                    rcases Nat.lt_or_ge m us.length with h | h
                    · rw [List.getElem?_append_left h] at hm
                      exact bst_ne (HU6.out m u hm) f7 HA6.out (by decide)
                    · rw [List.getElem?_append_right h] at hm
                      have h0 : m - us.length = 0 := by have := (List.getElem?_eq_some_iff.1 hm).1; simp at this; omega
                      rw [h0] at hm
                      have h1 : m = jj := by have := HUL.out; omega
                      simp at hm
                      subst hm h1
                      exact bst_ne HN6.out f7 HA6.out (by decide))
                  have HF7 := Lib.hid (show Fr [] wg w7 from HF6.out.then f7 (by intro b hb; simp at hb; have := HPR.out; omega))
                  have HUL7 := Lib.hid (show (us ++ [Value.slice (some ⟨pb, po, none⟩) 32 pcp]).length = jj + 1 by simp [HUL.out])
                  clear f7 a7 HF6 HA6 HU6 HN6 HSET hcu HA HU HFL HFc HDl
                  go_wp2
                  go_roundw
                  case rel => exact ⟨jj + 1, _, by omega, by go_num, HUL7, HA7, HU7, HF7⟩
                  case measure => simp [intOf]; omega
            · have HJ8 := Lib.hid (show jj = 8 by omega)
              have hj8i : ¬ ((jj : Int) < 8) := by omega
              have HAL := Lib.hid (show At wl pr (.cells us.toArray 48) by have h := HA.out; rw [HJ8.out] at h; simpa [nils] using h)
              have HUL8 := Lib.hid (show us.length = 8 by rw [HUL.out, HJ8.out])
              have HDm := Lib.hid (HD.out.keep HFL.out (by simp))
              have HSm := Lib.hid (HS.out.keep HFL.out (by simp))
              have HOm := Lib.hid (HO.out.keep0 HFL.out)
              have HOBm := Lib.hid (show ∀ x ∈ ls1, BsT wl x.1 x.2 from fun x hx => (HOB.out x hx).keep0 HFL.out)
              have HFm := Lib.hid (HF.out.trans HFL.out)
              have hszm : B4 ≤ wl.heap.size := by have := HFL.out.size; omega
              clear HD HS HO HOB HF HA HFL
              go_wp2
              go_loopw [7, 15] (fun o i wr => ∃ (n : Nat) (ls2 : List (Value × List UInt8)), n ≤ 32 ∧ i = .int .i64 n ∧ B4 ≤ wr.heap.size ∧ Hid (Bs (fun b => B4 ≤ b) wr (.slice (some ⟨b2, o2, none⟩) L ec) R) ∧
                Hid (OwnV 22 B4 wr o (ls2.map (·.1))) ∧ Hid (∀ x ∈ ls2, BsT wr x.1 x.2) ∧ Hid (ls2.map (·.2) = (X ++ d) ++ (parB d).take n) ∧
                Hid (Is (fun b => B4 ≤ b) wr (.slice (some ⟨b1, o1, none⟩) (shN M).length sc) ((shN M).map fun k : Nat => (k : Int))) ∧ Hid (At wr pr (.cells us.toArray 48)) ∧ Hid (∀ m u, us[m]? = some u → BsT wr u (parL (colB R k m))) ∧ Hid (Fr [] w wr)) (fun _ i _ => 32 - (intOf i).toNat)
              case atStart => exact ⟨0, ls1, by omega, rfl, hszm, HDm, HOm, HOBm, Lib.hid (by rw [HOS2.out]; simp), HSm, HAL, HU, HFm⟩
              case round =>
                clear HAL HU HDm HSm HOm HOBm HFm hszm
                obtain ⟨n, ls2, hn, rfl, hBm, HD, HO, HOB, HOS, HS, HA, HU, HF⟩ := hrel
                obtain ⟨wm, rfl⟩ : ∃ wm, wm = wr := ⟨wr, rfl⟩
                by_cases hn32 : n < 32
                · obtain ⟨BM, hBM⟩ : ∃ BM, wm.heap.size = BM := ⟨_, rfl⟩
                  have hBB : B4 ≤ BM := by omega
                  have HE := Lib.hid (show OwnB 5 BM (wm.alloc (.cells #[] 5)) (.slice (some ⟨BM, 0, none⟩) 0 0) ((List.range 0).map fun j => (parL (colB R k j)).getD n 0) by
                    have h := OwnB.empty 5 BM wm (by omega)
                    rwa [hBM] at h)
                  have HFE := Lib.hid (show Fr [] wm (wm.alloc (.cells #[] 5)) from Fr.alloc _ _)
                  have hbs : BM ≤ (wm.alloc (.cells #[] 5)).heap.size := by simp; omega
                  have hn32i : (n : Int) < 32 := by omega
                  have HBM := Lib.hid hBM
                  have hlen2 : ls2.length ≤ 900 := by
                    have h := congrArg List.length HOS.out
                    rw [List.length_map, List.length_append, List.length_append, List.length_take, HDL.out] at h
                    have := HXL.out
                    omega
                  go_wp2
                  clear hBM
                  go_loopw [16, 17] (fun c i wr => ∃ m : Nat, m ≤ 8 ∧ i = .int .i64 m ∧ BM ≤ wr.heap.size ∧ Hid (OwnB 5 BM wr c ((List.range m).map fun j => (parL (colB R k j)).getD n 0)) ∧ Hid (Fr [] wm wr)) (fun _ i _ => 8 - (intOf i).toNat)
                  case atStart => exact ⟨0, by omega, rfl, hbs, HE, HFE⟩
                  case round =>
                    clear HE HFE hbs
                    obtain ⟨m, hm, rfl, hbc, HC, HFc⟩ := hrel
                    obtain ⟨wc, rfl⟩ : ∃ wc, wc = wr := ⟨wr, rfl⟩
                    have hcl : ((List.range m).map fun j => (parL (colB R k j)).getD n 0).length = m := by simp
                    by_cases hm8 : m < 8
                    · obtain ⟨u, hu⟩ : ∃ u, us[m]? = some u := ⟨_, List.getElem?_eq_getElem (by rw [HUL8.out]; exact hm8)⟩
                      have hub := (HU.out m u hu).keep0 HFc.out
                      obtain ⟨rb, ro, rc, rfl⟩ := hub.shape
                      have hcr : wc.cell? ⟨pr, m, none⟩ = some (.slice (some ⟨rb, ro, none⟩) 32 rc) := by
                        rw [(HA.out.keep0 HFc.out).cell, List.getElem?_toArray, hu, parL_len]
                      have hcy := bst_cell hub n (by rw [parL_len]; exact hn32)
                      obtain ⟨y, hy⟩ : ∃ y, (parL (colB R k m)).getD n 0 = y := ⟨_, rfl⟩
                      rw [hy] at hcy
                      have HST := Lib.hid (show ((List.range m).map fun j => (parL (colB R k j)).getD n 0) ++ [y] = (List.range (m + 1)).map fun j => (parL (colB R k j)).getD n 0 by rw [range_snoc, hy])
                      have hfa : Fr [] wc (wc.alloc (.cells #[.int .u8 (y.toNat : Int)] 5)) := Fr.alloc _ _
                      have HC1 := Lib.hid (HC.out.keep hfa (by simp))
                      have HL1 := Lib.hid (show Bs (fun _ => False) (wc.alloc (.cells #[.int .u8 (y.toNat : Int)] 5)) (.slice (some ⟨wc.heap.size, 0, none⟩) 1 1) [y] from bs_lit1 _ wc y 5 (by simp))
                      have HF1 := Lib.hid (HFc.out.trans hfa)
                      have hb1 : BM ≤ (wc.alloc (.cells #[.int .u8 (y.toNat : Int)] 5)).heap.size := by simp; omega
                      have HCL := Lib.hid hcl
                      have hm8i : (m : Int) < 8 := by omega
                      clear hfa hy HC hcl hu hub
                      go_wp2_with (at_builtin; refine wpl_append_bs (A := fun _ => False) (ys := [y]) (base := BM) Tryd.underlying22 Tryd.infoByte rfl (.tmp 90) (.tmp 97) rfl rfl rfl HC1.out HL1.out (by rw [HCL.out]; simp; omega) hb1 ?_)
                      intro v' w' h5 h6
                      have HC2 := Lib.hid (show OwnB 5 BM w' v' ((List.range (m + 1)).map fun j => (parL (colB R k j)).getD n 0) by rw [← HST.out]; exact h5)
                      have HF2 := Lib.hid (show Fr [] wm w' from OwnB.fr HC1.out HF1.out h6 (by have := HBM.out; omega))
                      have hb2 : BM ≤ w'.heap.size := by have := h6.size; omega
                      clear h5 h6 HC1 HL1 HF1 HST hb1 HCL
                      go_wp2
                      go_roundw
                      case rel => exact ⟨m + 1, by omega, by go_num, hb2, HC2, HF2⟩
                      case measure => simp [intOf]; omega
                    · have hm8i : ¬ ((m : Int) < 8) := by omega
                      have h8m : m = 8 := by omega
                      rw [h8m] at hcl HC
                      clear h8m
                      obtain ⟨row, hrow⟩ : ∃ row, ((List.range 8).map fun j => (parL (colB R k j)).getD n 0) = row := ⟨_, rfl⟩
                      have H8 := Lib.hid (show row.length = 8 by rw [← hrow]; exact hcl)
                      have HRW := Lib.hid (show (parB d)[n]? = some row by
                        rw [parB_get d n hn32, ← hrow]
                        congr 1
                        apply List.map_congr_left
                        intro j hj
                        rw [colB_eq HDG.out HDL.out j (List.mem_range.1 hj)])
                      rw [hrow] at HC
                      have HX5 := Lib.hid (bst_own HC.out (by rw [H8.out]; omega))
                      obtain ⟨g5, c5, e5, g50, -⟩ := HC.out.shape (by rw [H8.out]; omega)
                      subst e5
                      obtain ⟨W5, hW5⟩ : ∃ W5, wc.heap.size = W5 := ⟨_, rfl⟩
                      have hf6 : Fr [] wc (wc.alloc (.cells #[.slice (some ⟨g5, 0, none⟩) row.length c5] 22)) := Fr.alloc _ _
                      have HL6 := Lib.hid (show (wc.alloc (.cells #[.slice (some ⟨g5, 0, none⟩) row.length c5] 22)).heap[W5]? = some (.cells #[.slice (some ⟨g5, 0, none⟩) row.length c5] 22 (0, 0)) from heap_alloc_at hW5.symm)
                      have HF6 := Lib.hid (HFc.out.trans hf6)
                      have HX6 := Lib.hid (HX5.out.keep0 hf6)
                      have HO6 := Lib.hid (HO.out.keep0 HF6.out)
                      have hs6 : B4 ≤ (wc.alloc (.cells #[.slice (some ⟨g5, 0, none⟩) row.length c5] 22)).heap.size := by simp; omega
                      clear hf6 hcl HC hrow HX5
                      rw [H8.out] at HL6 HF6 HO6 hs6 HX6 ⊢
                      go_wp2_with (at_builtin; refine wpl_append_1 Tryd.underlying29 Tryd.infoBytes rfl rfl (.tmp 99) (.tmp 101) rfl rfl rfl HL6.out rfl HO6.out (by rw [List.length_map]; omega) (by rw [List.length_map]; unfold maxLen; omega) hs6 ?_)
                      intro v7 w7 h7 h8
                      have hfg := Fr.grown (S := u7.ownBlock.toList) h8 (fun g hg => by simp [hg])
                      have hfa6 : Fr [] wm (wc.alloc (.cells #[.slice (some ⟨g5, 0, none⟩) 8 c5] 22)) := HF6.out
                      have HO7 := Lib.hid (show OwnV 22 B4 w7 v7 ((ls2 ++ [(Value.slice (some ⟨g5, 0, none⟩) 8 c5, row)]).map (·.1)) by rw [List.map_append]; exact h7)
                      have HD7 := Lib.hid ((HD.out.keep hfa6 (by simp)).keep hfg (fun g hg => HO6.out.blk hg))
                      have HS7 := Lib.hid ((HS.out.keep hfa6 (by simp)).keep hfg (fun g hg => HO6.out.blk hg))
                      have HA7 := Lib.hid ((HA.out.keep0 hfa6).grown h8 (own_neT HO6.out (HA.out.keep0 hfa6) (by decide)))
                      have HU7 := Lib.hid (show ∀ m u, us[m]? = some u → BsT w7 u (parL (colB R k m)) from fun m u hm => ((HU.out m u hm).keep0 hfa6).grown HO6.out h8)
                      have HOB7 := Lib.hid (show ∀ x ∈ ls2 ++ [(Value.slice (some ⟨g5, 0, none⟩) 8 c5, row)], BsT w7 x.1 x.2 from fun x hx => by
                        rcases List.mem_append.1 hx with hx | hx
                        · exact ((HOB.out x hx).keep0 hfa6).grown HO6.out h8
                        · rw [List.mem_singleton] at hx
                          subst hx
                          exact HX6.out.grown HO6.out h8)
                      have HOS7 := Lib.hid (show (ls2 ++ [(Value.slice (some ⟨g5, 0, none⟩) 8 c5, row)]).map (·.2) = (X ++ d) ++ (parB d).take (n + 1) by
                        rw [List.map_append, HOS.out, List.take_add_one, HRW.out, ← List.append_assoc]; rfl)
                      have HF7 := Lib.hid (show Fr [] w w7 from OwnV.fr HO6.out (HF.out.trans hfa6) h8 hwB)
                      have hsz7 : B4 ≤ w7.heap.size := by have := h8.size; omega
                      clear h7 h8 hfg hfa6 HO6 HO HD HS HOB HOS HF HX6 HL6 HF6 HA HU HFc
                      go_wp2
                      go_roundw
                      case rel => exact ⟨n + 1, _, by omega, by go_num, hsz7, HD7, HO7, HOB7, HOS7, HS7, HA7, HU7, HF7⟩
                      case measure => simp [intOf]; omega
                · have hn32i : ¬ ((n : Int) < 32) := by omega
                  have h32 : n = 32 := by omega
                  have HOS8 := Lib.hid (show ls2.map (·.2) = blkGo (chunkN M (padL xs)) ((shN M).take (q + 1)) by
                    rw [HOS.out, HXX.out, List.take_of_length_le (by rw [parB_len]; omega), List.append_assoc]; rfl)
                  clear h32
                  have HC6 := Lib.hid (HD.out.cut (8 * k) (by omega))
                  have hadd : (some (⟨b2, o2, none⟩ : Addr)).map (·.add (8 * k)) = some ⟨b2, o2 + 8 * k, none⟩ := by
                    simp only [Option.map_some, Addr.add]
                    split
                    · rename_i h0; rw [h0]; rfl
                    · rfl
                  rw [hadd] at HC6
                  clear hadd
                  obtain ⟨ez, hez⟩ : ∃ ez, (if ec = 8 * k then some (⟨b2, o2, none⟩ : Addr) else some ⟨b2, o2 + 8 * k, none⟩) = ez := ⟨_, rfl⟩
                  rw [hez] at HC6
                  have HEZ := Lib.hid hez
                  have HRD := Lib.hid (show R.drop (8 * k) = (padL xs).drop (8 * (s + k)) by rw [← hRd.out, List.drop_drop, Nat.mul_add])
                  rw [HRD.out] at HC6
                  clear HOS HD hez HA HU HUL
                  go_wp2
                  rw [HEZ.out]
                  constructor
                  · exact ⟨q + 1, s + k, L - 8 * k, ez, ec - 8 * k, ls2, by omega, by go_num, by rw [HSUM.out], by omega, by have := HLL.out; omega, rfl, by omega, by omega, hBm, HC6, HO, HOB, HOS8, HS, HF⟩
                  · simp [intOf]; omega
    · obtain rfl : q = (shN M).length := by omega
      have HE := Lib.hid (show lsO.map (·.2) = blocksL xs by have h := HOS.out; rw [List.take_length] at h; rw [h, HBL.out])
      go_wp2
      go_ret2
      exact ⟨_, lsO, rfl, HO.out.base hwB, HOB.out, HE.out, HF.out⟩
end Go.Proofs.YtenjpnhccnmnpaaDoor
