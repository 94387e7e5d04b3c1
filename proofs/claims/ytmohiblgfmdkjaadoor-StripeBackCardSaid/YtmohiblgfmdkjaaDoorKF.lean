/-
  Layer 6: stripe.Blocks: helpers.
  Layer 6: stripe.Blocks: all blocks of a file.
-/
import Derived.Test.YtmohiblgfmdkjaaDoorKC
import Derived.Test.YtmohiblgfmdkjaaDoorJH
namespace Go.Proofs.YtmohiblgfmdkjaaDoor
open Go.RowKit Go.Bl
set_option linter.unusedVariables false

theorem shapeOf_shN (n : Nat) : shapeOf n = (shN n).map (fun k : Nat => (k : Int)) := by
  unfold shapeOf shN
  split
  · rfl
  · simp; omega
theorem nblk_nB (n : Nat) : nblk (n : Int) = nB n := by unfold nblk nB; simp
def zipB (bs : List Nat) (rows : List (List UInt8)) : List (Value × List UInt8) := List.zipWith (fun b r => (sl8 b, r)) bs rows
theorem zipB_fst : ∀ (bs : List Nat) (rows : List (List UInt8)), bs.length = rows.length → (zipB bs rows).map (·.1) = bs.map sl8
  | [], [], _ => rfl
  | b :: bs, r :: rows, h => by
    have := zipB_fst bs rows (by simpa using h)
    simp only [zipB, List.zipWith_cons_cons, List.map_cons] at this ⊢
    rw [this]
theorem zipB_snd : ∀ (bs : List Nat) (rows : List (List UInt8)), bs.length = rows.length → (zipB bs rows).map (·.2) = rows
  | [], [], _ => rfl
  | b :: bs, r :: rows, h => by
    have := zipB_snd bs rows (by simpa using h)
    simp only [zipB, List.zipWith_cons_cons, List.map_cons] at this ⊢
    rw [this]
theorem zipB_bst {base : Nat} {w : World} {bs : List Nat} {rows : List (List UInt8)} (h : Rws base w bs rows) (h8 : ∀ r ∈ rows, r.length = 8) : ∀ x ∈ zipB bs rows, BsT w x.1 x.2 := by
  intro x hx
  obtain ⟨i, hi, rfl⟩ := List.getElem_of_mem hx
  have hl := h.len
  simp only [zipB, List.length_zipWith] at hi
  simp only [zipB, List.getElem_zipWith]
  exact rws_bst h h8 i _ _ (List.getElem?_eq_getElem (by omega)) (List.getElem?_eq_getElem (by omega))
theorem parB_eight (data : List (List UInt8)) : ∀ r ∈ parB data, r.length = 8 := by
  intro r hr
  obtain ⟨i, -, rfl⟩ := List.mem_map.1 hr
  simp
/-- a cut of a list of rows -/
theorem vs_take {A : Nat → Prop} {w : World} {a : Option Addr} {n cap : Nat} {us : List Value} (h : Vs A w (.slice a n cap) us) (k : Nat) (hk : k ≤ n) : Vs A w (.slice a k cap) (us.take k) := by
  obtain ⟨a', cap', h1, h2, h3, h4⟩ := h
  cases h1
  exact ⟨a, cap, by rw [List.length_take, Nat.min_eq_left hk], by rw [List.length_take]; omega, h3, h4.take k⟩
theorem vs_cut {A : Nat → Prop} {w : World} {a : Option Addr} {n cap : Nat} {us : List Value} (h : Vs A w (.slice a n cap) us) (k : Nat) (hk : k ≤ n) : Vs A w (.slice (if cap = k then a else a.map (·.add k)) (n - k) (cap - k)) (us.drop k) := by
  obtain ⟨a', cap', h1, h2, h3, h4⟩ := h
  cases h1
  refine ⟨_, cap - k, by rw [List.length_drop], by rw [List.length_drop]; omega, by omega, ?_⟩
  have := h4.cut k cap 1 (fun e => by subst e; simp; omega)
  simpa using this
/-- what stripe.Blocks has made behind i groups -/
theorem blk_step (data : List (List UInt8)) (sh : List Nat) (i k : Nat) (h : sh[i]? = some k) (hs : sh.sum ≤ data.length) :
    blkGo data (sh.take (i + 1)) = blkGo data (sh.take i) ++ grpB ((data.drop (sh.take i).sum).take k) := by
  induction sh generalizing data i with
  | nil => simp at h
  | cons x sh ih =>
    cases i with
    | zero => simp at h; subst h; simp [blkGo]
    | succ i =>
      simp only [List.sum_cons] at hs
      simp only [List.take_succ_cons, blkGo, List.sum_cons, List.append_assoc]
      rw [ih (data.drop x) i (by simpa using h) (by rw [List.length_drop]; omega), List.drop_drop]
end Go.Proofs.YtmohiblgfmdkjaaDoor
namespace Go.Proofs.YtmohiblgfmdkjaaDoor
open Go.RowKit Go.Bl
set_option linter.unusedVariables false

set_option maxRecDepth 100000 in
set_option maxHeartbeats 2000000 in
theorem blocks_any (w : World) (v : Value) (xs : List UInt8) (hb : Bs (fun _ => False) w v xs) (hl : xs.length ≤ 2000) :
    Calls Tryd.prog 7 #[v] w fun e w' => ∃ (u : Value) (ls : List (Value × List UInt8)), e = .returned (.tuple #[u, .nilIface]) ∧ OwnV 22 w.heap.size w' u (ls.map (·.1)) ∧ (∀ x ∈ ls, BsT w' x.1 x.2) ∧ ls.map (·.2) = blocksL xs ∧ Fr [] w w' := by
  have HB := Lib.hid hb
  obtain ⟨a, cap, rfl, h2, h3, -⟩ := hb
  unfold maxLen at h3
  obtain ⟨M, hM⟩ : ∃ M, nB xs.length = M := ⟨_, rfl⟩
  have hM1 : 1 ≤ M ∧ M ≤ 250 := by rw [← hM]; unfold nB; omega
  have HPL := Lib.hid (show (padL xs).length = 8 * M by rw [← hM]; exact padL_len xs)
  have HSH := Lib.hid (fun w => shape_ok w (xs.length : Int) (by omega) (by omega))
  have HNB := Lib.hid (show shapeOf (nblk (xs.length : Int)) = (shN M).map (fun k : Nat => (k : Int)) by rw [nblk_nB, hM, shapeOf_shN])
  have HBL := Lib.hid (show blkGo (chunkN M (padL xs)) (shN M) = blocksL xs by unfold blocksL dataL; rw [hM])
  obtain ⟨N, hN⟩ : ∃ N, xs.length = N := ⟨_, rfl⟩
  rw [hN] at HB h2 hl HSH HNB ⊢
  have HN := Lib.hid hN
  clear hM hN
  go_enter Tryd.func7, Tryd.ntmps7
  go_wp2_with fail
  refine (HSH.out w).mono ?_
  rintro e w1 ⟨sv, rfl, ho, hf⟩
  rw [HNB.out] at ho
  have HF1 := Lib.hid hf
  have HS1 := Lib.hid (ho.is (A := fun _ => False) (by simp))
  obtain ⟨sa, sc, rfl, s3, s4, -⟩ := HS1.out.shape
  rw [List.length_map] at s3 HS1 ⊢
  have hsl := shN_len M
  clear ho hf HSH
  go_wp2_with fail
  refine (pad_any (fun _ => False) w1 _ xs (HB.out.keep HF1.out (by simp)) (by have := HN.out; omega)).mono ?_
  rintro e w2 ⟨pv, rfl, ho, hf⟩
  have HF2 := Lib.hid (HF1.out.trans hf)
  have HS2 := Lib.hid (HS1.out.keep hf (by simp))
  have HP2 := Lib.hid ho
  obtain ⟨pb, pc, rfl, pc1, pc2⟩ : ∃ pb pc, pv = .slice (some ⟨pb, 0, none⟩) (8 * M) pc ∧ 8 * M ≤ pc ∧ pc ≤ maxLen := by
    rcases ho.2 with ⟨rfl, h0⟩ | ⟨g, cap', cur, rfl, hg, hh, hn, hm, -⟩
    · have := HPL.out; omega
    · rw [HPL.out] at hn ⊢
      exact ⟨g, cap', rfl, hn, hm⟩
  unfold maxLen at pc2
  clear ho hf HS1 HF1
  go_wp2_with fail
  refine (chunk_any w2 _ _ _).mono ?_
  rintro e w3' ⟨rfl, hw3⟩
  have hBs : w3'.cell? ⟨w2.heap.size, 0, none⟩ = some (.slice (some ⟨pb, 0, none⟩) (8 * M) pc) := by
    have h : At w3' w2.heap.size (.cells #[.slice (some ⟨pb, 0, none⟩) (8 * M) pc] 22) := by rw [hw3]; exact (At.new rfl).al
    rw [cell_of h]; rfl
  have hBn : w3'.cell? ⟨w2.heap.size + 1, 0, none⟩ = some (.int .i64 8) := by
    have h : At w3' (w2.heap.size + 1) (.cells #[.int .i64 8] 3) := by rw [hw3]; exact At.new (by simp)
    rw [cell_of h]; rfl
  have hf3 : Fr [] w2 w3' := by rw [hw3]; exact Fr.al (Fr.alloc _ _)
  have HCO := Lib.hid (collect_any w3' w2.heap.size (w2.heap.size + 1) pb M (8 * M) pc rfl (by omega) pc1 pc2 hBs hBn)
  have HF3 := Lib.hid (HF2.out.trans hf3)
  have HS3 := Lib.hid (HS2.out.keep hf3 (by simp))
  have HP3 := Lib.hid (HP2.out.keep hf3 (by simp))
  clear hw3 hBs hBn hf3 HF2 HS2 HP2
  go_wp2_with fail
  refine HCO.out.mono ?_
  rintro e w4 ⟨dv, rfl, ho, hf⟩
  have HF4 := Lib.hid (HF3.out.trans hf)
  have HS4 := Lib.hid (HS3.out.keep hf (by simp))
  have HP4 := Lib.hid (HP3.out.keep hf (by simp))
  have HD4 := Lib.hid (ho.vs (A := fun _ => False) (by simp))
  obtain ⟨da, dc, rfl, d1, d2, -⟩ := HD4.out
  have HCK := Lib.hid (show ∀ x ∈ ckL pb M (padL xs), BsT w4 x.1 x.2 from fun x hx => by
    obtain ⟨k, hk, rfl⟩ := List.mem_map.1 hx
    exact ck_bst HP4.out k (by have := HPL.out; have := List.mem_range.1 hk; omega))
  rw [List.length_map, List.length_range] at HD4 d1 ⊢
  unfold maxLen at d2
  obtain ⟨B4, hB4⟩ : ∃ B4, w4.heap.size = B4 := ⟨_, rfl⟩
  have hwB : w.heap.size ≤ B4 := by have := HF4.out.size; omega
  replace HD4 := Lib.hid (show Vs (fun b => B4 ≤ b) w4 (.slice da M dc) ((List.range M).map (ckV pb)) from HD4.out.mono (Fr.refl [] w4) (by simp) (fun b h => .inr (by omega)))
  replace HS4 := Lib.hid (show Is (fun b => B4 ≤ b) w4 (.slice sa (shN M).length sc) ((shN M).map fun k : Nat => (k : Int)) from Vs.mono HS4.out (Fr.refl [] w4) (by simp) (fun b h => .inr (by omega)))
  clear ho hf HCO HF3 HS3 HP3
  go_wp2
  go_loopw [6, 7, 27] (fun d o i wr => ∃ (q s : Nat) (ea : Option Addr) (ec : Nat) (lsO : List (Value × List UInt8)), q ≤ (shN M).length ∧ i = .int .i64 q ∧ s = ((shN M).take q).sum ∧ s ≤ M ∧ d = .slice ea (M - s) ec ∧ M - s ≤ ec ∧ ec ≤ 2 ^ 63 - 1 ∧
      B4 ≤ wr.heap.size ∧ Hid (Vs (fun b => B4 ≤ b) wr (.slice ea (M - s) ec) (((List.range M).map (ckV pb)).drop s)) ∧ Hid (OwnV 22 B4 wr o (lsO.map (·.1))) ∧ Hid (∀ x ∈ lsO, BsT wr x.1 x.2) ∧ Hid (lsO.map (·.2) = blkGo (chunkN M (padL xs)) ((shN M).take q)) ∧
      Hid (∀ x ∈ ckL pb M (padL xs), BsT wr x.1 x.2) ∧ Hid (Is (fun b => B4 ≤ b) wr (.slice sa (shN M).length sc) ((shN M).map fun k : Nat => (k : Int))) ∧ Hid (Fr [] w wr)) (fun _ _ i _ => (shN M).length - (intOf i).toNat)
  case atStart => exact ⟨0, 0, da, dc, [], by omega, rfl, rfl, by omega, rfl, by omega, by omega, by omega, Lib.hid (by simpa using HD4.out), OwnV.nil _ _ _, Lib.hid (fun x hx => by simp at hx), Lib.hid (by simp [blkGo]), HCK.out, HS4.out, HF4.out⟩
  case round =>
    clear HD4 HCK HS4 HF4 HP4
    obtain ⟨q, s, ea, ec, lsO, hq, rfl, hsq, hsM, rfl, e1, e2, hBw, HD, HO, HOB, HOS, HCK, HS, HF⟩ := hrel
    have HSQ := Lib.hid hsq
    clear hsq
    by_cases hqn : q < (shN M).length
    · obtain ⟨k, hk⟩ : ∃ k, (shN M)[q]? = some k := ⟨_, List.getElem?_eq_getElem hqn⟩
      have hkb := shN_bd M hM1.1 hM1.2 k (List.mem_of_getElem? hk)
      have hsum : ((shN M).take (q + 1)).sum = s + k := by rw [List.take_add_one, hk, HSQ.out]; simp
      have hle := sum_take_le (shN M) (q + 1)
      rw [hsum, shN_sum] at hle
      obtain ⟨a', c', e, -, -, hc⟩ := HS.out.shape
      rw [List.length_map] at e hc
      cases e
      obtain ⟨b1, o1, rfl, -, hc1⟩ := hc (Nat.lt_of_le_of_lt (Nat.zero_le _) hqn)
      have g1 := hc1 q hqn
      rw [show ((shN M).map fun k : Nat => (k : Int)).getD q 0 = (k : Int) by simp [List.getD_eq_getElem?_getD, hk]] at g1
      have HK := Lib.hid hk
      have HSUM := Lib.hid hsum
      have HRD := Lib.hid (show RdB (fun _ => False) wr (.slice ea k ec) (((ckL pb M (padL xs)).drop s).take k) from by
        refine ⟨?_, fun x hx => (HCK.out x (List.mem_of_mem_drop (List.mem_of_mem_take hx))).bs (fun _ h => h)⟩
        have h := (vs_take HD.out k (by omega)).mono (A' := fun _ => False) (Fr.refl [] wr) (fun b hb => by simp at hb) (fun b h => h.elim)
        rw [List.map_take, List.map_drop, show (ckL pb M (padL xs)).map (·.1) = (List.range M).map (ckV pb) by simp [ckL, Function.comp_def]]
        exact h)
      clear hk hsum hc hc1
      go_wp2_with fail
      have HLEN := Lib.hid (show (((ckL pb M (padL xs)).drop s).take k).length = k by simp [ckL]; omega)
      have HOL := Lib.hid (show lsO.length ≤ 400 by
        have h := congrArg List.length HOS.out
        rw [List.length_map, blkGo_len [] _ _ (by rw [chunkN_len, ← HSQ.out]; omega), ← HSQ.out] at h
        have := shN_len M
        have h2 : ((shN M).take q).length ≤ 2 := by rw [List.length_take]; omega
        omega)
      refine (grouped_any wr _ (((ckL pb M (padL xs)).drop s).take k) HRD.out (fun x hx => ?_) (by rw [HLEN.out]; omega) (by rw [HLEN.out]; omega)).mono ?_
      · obtain ⟨j, hj, rfl⟩ := List.mem_map.1 (List.mem_of_mem_drop (List.mem_of_mem_take hx))
        have := HPL.out
        have := List.mem_range.1 hj
        simp; omega
      rintro e w5 ⟨gu, bs, rfl, ho, hrw, hf⟩
      obtain ⟨ls, hls⟩ : ∃ ls, ((ckL pb M (padL xs)).drop s).take k = ls := ⟨_, rfl⟩
      rw [hls] at ho hrw HLEN
      have hbl : bs.length = 32 := by have := hrw.len; rwa [parB_len] at this
      have HD5 := Lib.hid (HD.out.keep hf (by simp))
      have HS5 := Lib.hid (HS.out.keep hf (by simp))
      have HO5 := Lib.hid (HO.out.keep hf (by simp))
      have HOB5 := Lib.hid (show ∀ x ∈ lsO, BsT w5 x.1 x.2 from fun x hx => (HOB.out x hx).keep0 hf)
      have HCK5 := Lib.hid (show ∀ x ∈ ckL pb M (padL xs), BsT w5 x.1 x.2 from fun x hx => (HCK.out x hx).keep0 hf)
      have HZ5 := Lib.hid (zipB_bst hrw (parB_eight _))
      have HF5 := Lib.hid (HF.out.trans hf)
      have HG := Lib.hid (ho.vs (A := fun _ => False) (by simp))
      have HSN := Lib.hid (zipB_snd bs (parB (ls.map (·.2))) hrw.len)
      have HFN := Lib.hid (zipB_fst bs (parB (ls.map (·.2))) hrw.len)
      have HONE := Lib.hid (show ∀ u ∈ ls.map (·.1) ++ bs.map sl8, u.oneCell' = true from fun u hu => by
        rcases List.mem_append.1 hu with hu | hu
        · obtain ⟨y, hy, rfl⟩ := List.mem_map.1 hu
          rw [← hls] at hy
          obtain ⟨b, off, cp, e⟩ := (HCK.out y (List.mem_of_mem_drop (List.mem_of_mem_take hy))).shape
          rw [e]; rfl
        · obtain ⟨y, hy, rfl⟩ := List.mem_map.1 hu
          rfl)
      have hs5 : B4 ≤ w5.heap.size := by have := hf.size; omega
      have HLS := Lib.hid hls
      obtain ⟨go, gn, gc, rfl⟩ : ∃ go gn gc, gu = .slice go gn gc := by
        obtain ⟨a', c', rfl, -⟩ := HG.out
        exact ⟨_, _, _, rfl⟩
      clear ho hrw hf hls HD HS HO HOB HCK HF HRD
      go_wp2_with (at_builtin; refine wpl_append_vs (ys := ls.map (·.1) ++ bs.map sl8) (base := B4) Tryd.underlying25 Tryd.infoBytes rfl rfl (.tmp 41) (.tmp 42) rfl rfl rfl HO5.out HG.out HONE.out (by have := HOL.out; have := HLEN.out; simp [maxLen]; omega) (by have := HOL.out; have := HLEN.out; simp; omega) hs5 ?_)
      intro v' w6 h5 h6
      obtain ⟨L6, hL6⟩ : ∃ L6, lsO ++ (ls ++ zipB bs (parB (ls.map (·.2)))) = L6 := ⟨_, rfl⟩
      have hfg := Fr.grown (S := u7.ownBlock.toList) h6 (fun g hg => by simp [hg])
      have hsz6 : B4 ≤ w6.heap.size := by have := h6.size; omega
      have HO6 := Lib.hid (show OwnV 22 B4 w6 v' (L6.map (·.1)) by
        rw [← hL6, List.map_append, List.map_append, HFN.out]; exact h5)
      have HD6 := Lib.hid (show Vs (fun b => B4 ≤ b) w6 (.slice ea (M - s) ec) (((List.range M).map (ckV pb)).drop s) from HD5.out.keep hfg (fun g hg => HO5.out.blk hg))
      have HS6 := Lib.hid (HS5.out.keep hfg (fun g hg => HO5.out.blk hg))
      have HCK6 := Lib.hid (show ∀ x ∈ ckL pb M (padL xs), BsT w6 x.1 x.2 from fun x hx => (HCK5.out x hx).grown HO5.out h6)
      have HOB6 := Lib.hid (show ∀ x ∈ L6, BsT w6 x.1 x.2 from fun x hx => by
        rw [← hL6] at hx
        rcases List.mem_append.1 hx with hx | hx
        · exact (HOB5.out x hx).grown HO5.out h6
        rcases List.mem_append.1 hx with hx | hx
        · rw [← HLS.out] at hx
          exact (HCK5.out x (List.mem_of_mem_drop (List.mem_of_mem_take hx))).grown HO5.out h6
        · exact (HZ5.out x hx).grown HO5.out h6)
      have HOS6 := Lib.hid (show L6.map (·.2) = blkGo (chunkN M (padL xs)) ((shN M).take (q + 1)) by
        rw [← hL6, List.map_append, List.map_append, HSN.out, HOS.out, blk_step _ _ q k HK.out (by rw [shN_sum, chunkN_len]; omega), ← HSQ.out]
        have : ls.map (·.2) = ((chunkN M (padL xs)).drop s).take k := by rw [← HLS.out, List.map_take, List.map_drop, ckL_data]
        rw [this]; rfl)
      have HF6 := Lib.hid (show Fr [] w w6 from Fr.own HF5.out h6 HO5.out hwB)
      have HC6 := Lib.hid (vs_cut HD6.out k (by omega))
      obtain ⟨ez, hez⟩ : ∃ ez, (if ec = k then ea else ea.map (·.add k)) = ez := ⟨_, rfl⟩
      rw [hez] at HC6
      have HEZ := Lib.hid hez
      have HDR := Lib.hid (show ((((List.range M).map (ckV pb)).drop s).drop k) = ((List.range M).map (ckV pb)).drop (s + k) by rw [List.drop_drop])
      rw [HDR.out, show M - s - k = M - (s + k) by omega] at HC6
      clear h5 h6 hfg HO5 HD5 HS5 HCK5 HOB5 HZ5 HF5 HG HSN HFN HONE hL6 HLEN HOL HOS HLS HD6 hez HDR
      go_wp2
      rw [HEZ.out]
      constructor
      · exact ⟨q + 1, s + k, ez, ec - k, L6, by omega, by go_num, by rw [HSUM.out], by omega, by rw [Nat.sub_sub], by omega, by omega, hsz6, HC6, HO6, HOB6, HOS6, HCK6, HS6, HF6⟩
      · simp [intOf]; omega
    · obtain rfl : q = (shN M).length := by omega
      have HE := Lib.hid (show lsO.map (·.2) = blocksL xs by have h := HOS.out; rw [List.take_length] at h; rw [h, HBL.out])
      go_wp2
      go_ret2
      exact ⟨_, lsO, rfl, HO.out.base hwB, HOB.out, HE.out, HF.out⟩
end Go.Proofs.YtmohiblgfmdkjaaDoor
