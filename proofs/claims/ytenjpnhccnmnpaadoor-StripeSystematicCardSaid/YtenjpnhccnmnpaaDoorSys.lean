/-
  The law StripeSystematic, walked: the data blocks of all groups are the padded file.
-/
import Derived.Test.YtenjpnhccnmnpaaDoorBlo2
import Derived.Test.YtenjpnhccnmnpaaDoorSyR
import Derived.Test.YtenjpnhccnmnpaaDoorSyH
namespace Go.Proofs.YtenjpnhccnmnpaaDoor
open Go.RowKit Go.Bl
set_option linter.unusedVariables false

theorem rdb_mono {A A' : Nat → Prop} {w w' : World} {S : List Nat} {v : Value} {ls : List (Value × List UInt8)} (h : RdB A w v ls) (hf : Fr S w w') (hS : ∀ b ∈ S, A b) (hA : ∀ b, A' b → A b ∨ w.heap.size ≤ b) : RdB A' w' v ls :=
  ⟨h.1.mono hf hS hA, fun x hx => (h.2 x hx).mono hf hS hA⟩
theorem rdb_cut {A : Nat → Prop} {w : World} {a : Option Addr} {n cap : Nat} {ls : List (Value × List UInt8)} (h : RdB A w (.slice a n cap) ls) (k : Nat) (hk : k ≤ n) : RdB A w (.slice (if cap = k then a else a.map (·.add k)) (n - k) (cap - k)) (ls.drop k) :=
  ⟨by rw [List.map_drop]; exact vs_cut h.1 k hk, fun x hx => h.2 x (List.mem_of_mem_drop hx)⟩
theorem sum_drop (sh : List Nat) (q : Nat) : (sh.take q).sum + (sh.drop q).sum = sh.sum := by
  rw [← List.sum_append, List.take_append_drop]

set_option maxRecDepth 100000 in
set_option maxHeartbeats 4000000 in
theorem sys_any (w : World) (v : Value) (xs : List UInt8) (hb : Bs (fun _ => False) w v xs) :
    Calls Tryd.prog 3 #[v] w fun e w' => e = .returned (.bool true) ∧ Fr [] w w' := by
  have HB := Lib.hid hb
  obtain ⟨a, cap, rfl, h2, h3, -⟩ := hb
  unfold maxLen at h3
  by_cases hl : xs.length ≤ 2000
  · obtain ⟨M, hM⟩ : ∃ M, nB xs.length = M := ⟨_, rfl⟩
    have hM1 : 1 ≤ M ∧ M ≤ 250 := by rw [← hM]; unfold nB; omega
    have HSH := Lib.hid (fun w => shape_ok w (xs.length : Int) (by omega) (by omega))
    have HNB := Lib.hid (show shapeOf (nblk (xs.length : Int)) = (shN M).map (fun k : Nat => (k : Int)) by rw [nblk_nB, hM, shapeOf_shN])
    have HBL := Lib.hid (show blocksL xs = blkGo (dataL xs) (shN M) by unfold blocksL; rw [hM])
    have hDL : (dataL xs).length = M := by rw [dataL_len, hM]
    have HD8 := Lib.hid (dataL_eight xs)
    have HFL := Lib.hid (dataL_flat xs)
    obtain ⟨D, hD⟩ : ∃ D, dataL xs = D := ⟨_, rfl⟩
    rw [hD] at HBL hDL HD8 HFL
    obtain ⟨N, hN⟩ : ∃ N, xs.length = N := ⟨_, rfl⟩
    rw [hN] at HB h2 hl HSH HNB ⊢
    have HN := Lib.hid hN
    clear hM hN hD
    go_enter Tryd.func3, Tryd.ntmps3
    go_wp2_with fail
    refine (alive06_any w).mono ?_
    rintro e w1 ⟨rfl, hf⟩
    have HF1 := Lib.hid hf
    have HB1 := Lib.hid (HB.out.keep hf (by simp))
    clear hf HB
    go_wp2_with fail
    refine (HSH.out w1).mono ?_
    rintro e w2 ⟨sv, rfl, ho, hf⟩
    rw [HNB.out] at ho
    have HF2 := Lib.hid (HF1.out.trans hf)
    have HB2 := Lib.hid (HB1.out.keep hf (by simp))
    have HS2 := Lib.hid (ho.is (A := fun _ => False) (by simp))
    obtain ⟨sa, sc, rfl, s3, s4, -⟩ := HS2.out.shape
    rw [List.length_map] at s3 HS2 ⊢
    have hsl := shN_len M
    clear ho hf HSH HF1 HB1
    go_wp2_with fail
    refine (blocks_any w2 _ xs HB2.out (by have := HN.out; omega)).mono ?_
    rintro e w3 ⟨bv, ls, rfl, ho, hbt, hsnd, hf⟩
    have HF3 := Lib.hid (HF2.out.trans hf)
    have HB3 := Lib.hid (HB2.out.keep hf (by simp))
    have HS3 := Lib.hid (HS2.out.keep hf (by simp))
    have HR3 := Lib.hid (show RdB (fun _ => False) w3 bv ls from ⟨ho.vs (by simp), fun x hx => (hbt x hx).bs (by simp)⟩)
    have HSN := Lib.hid (show ls.map (·.2) = blkGo D (shN M) from by rw [hsnd, HBL.out])
    obtain ⟨da, dc, rfl, d1, d2⟩ := rdb_shape HR3.out
    unfold maxLen at d2
    obtain ⟨B3, hB3⟩ : ∃ B3, w3.heap.size = B3 := ⟨_, rfl⟩
    have hwB : w.heap.size ≤ B3 := by have := HF3.out.size; omega
    have HZ3 := Lib.hid hB3
    clear ho hbt hsnd hf HF2 HB2 HS2 HBL HNB
    go_wp2
    go_loopw [5, 7, 37] (fun b o i wr => ∃ (q s : Nat) (ea : Option Addr) (ec L : Nat) (ls' : List (Value × List UInt8)), q ≤ (shN M).length ∧ i = .int .i64 q ∧ s = ((shN M).take q).sum ∧ s ≤ M ∧ b = .slice ea L ec ∧ L = ls'.length ∧
        B3 ≤ wr.heap.size ∧ Hid (RdB (fun b => B3 ≤ b) wr (.slice ea L ec) ls') ∧ Hid (ls'.map (·.2) = blkGo (D.drop s) ((shN M).drop q)) ∧ Hid (OwnB 5 B3 wr o (D.take s).flatten) ∧
        Hid (Is (fun b => B3 ≤ b) wr (.slice sa (shN M).length sc) ((shN M).map fun k : Nat => (k : Int))) ∧ Hid (Bs (fun b => B3 ≤ b) wr (.slice a N cap) xs) ∧ Hid (Fr [] w wr)) (fun _ _ i _ => (shN M).length - (intOf i).toNat)
    case atStart =>
      have hfa : Fr [] w3 (w3.alloc (.cells #[] 5)) := Fr.alloc _ _
      have hA : ∀ b, B3 ≤ b → False ∨ w3.heap.size ≤ b := fun b h => .inr (by rw [HZ3.out]; exact h)
      exact ⟨0, 0, da, dc, _, ls, by omega, rfl, rfl, by omega, rfl, rfl, by have := hfa.size; rw [HZ3.out] at this; exact this, Lib.hid (rdb_mono HR3.out hfa (by simp) hA), HSN, Lib.hid (by have h := OwnB.empty 5 B3 w3 (by rw [HZ3.out]; exact Nat.le_refl _); rw [HZ3.out] at h; rw [List.take_zero, List.flatten_nil]; exact h),
        Lib.hid (Vs.mono HS3.out hfa (by simp) hA), Lib.hid (HB3.out.mono hfa (by simp) hA), Lib.hid (HF3.out.trans hfa)⟩
    case round =>
      clear HF3 HB3 HS3 HR3 HSN
      obtain ⟨q, s, ea, ec, L, ls', hq, rfl, hsq, hsM, rfl, hL, hBw, HR, HSN, HO, HS, HB, HF⟩ := hrel
      have HSQ := Lib.hid hsq
      clear hsq
      have hdr := sum_drop (shN M) q
      rw [← HSQ.out, shN_sum] at hdr
      have hLL : L = (M - s) + 32 * ((shN M).length - q) := by
        have h := congrArg List.length HSN.out
        rw [List.length_map, blkGo_len [] _ _ (by rw [List.length_drop, hDL]; omega), List.length_drop] at h
        omega
      have hcap : L ≤ ec ∧ ec ≤ 2 ^ 63 - 1 := by
        obtain ⟨a', c', e, e1, e2⟩ := rdb_shape HR.out
        unfold maxLen at e2
        cases e
        omega
      have hLb : L ≤ 400 := by omega
      have HLE := Lib.hid hL
      have HLL := Lib.hid hLL
      clear hL hLL
      by_cases hqn : q < (shN M).length
      · obtain ⟨k, hk⟩ : ∃ k, (shN M)[q]? = some k := ⟨_, List.getElem?_eq_getElem hqn⟩
        have hkb := shN_bd M hM1.1 hM1.2 k (List.mem_of_getElem? hk)
        obtain ⟨g1, g2, g3, g4, g5⟩ := sys_step D (shN M) q k hk (by rw [shN_sum, hDL]; exact Nat.le_refl _)
        rw [← HSQ.out] at g1 g2 g4 g5
        have HG1 := Lib.hid g1
        have HSN' := Lib.hid (show ls'.map (·.2) = grpB ((D.drop s).take k) ++ blkGo (D.drop (s + k)) ((shN M).drop (q + 1)) from by rw [HSN.out, g4])
        rw [hDL] at g2
        have hdl : ((D.drop s).take k).length = k := by rw [List.length_take, List.length_drop]; omega
        have hkL : k + 32 ≤ L := by
          have h := congrArg List.length HSN'.out
          have h2 := (grp_take ((D.drop s).take k) k (blkGo (D.drop (s + k)) ((shN M).drop (q + 1))) hdl).2.2
          rw [List.length_map] at h
          have := HLE.out
          omega
        have HGD := Lib.hid ((grp_take ((D.drop s).take k) k (blkGo (D.drop (s + k)) ((shN M).drop (q + 1))) hdl).2.1)
        obtain ⟨a', c', e, -, -, hc⟩ := HS.out.shape
        rw [List.length_map] at e hc
        cases e
        obtain ⟨b1, o1, rfl, -, hc1⟩ := hc (Nat.lt_of_le_of_lt (Nat.zero_le _) hqn)
        have c1 := hc1 q hqn
        rw [show ((shN M).map fun k : Nat => (k : Int)).getD q 0 = (k : Int) by simp [List.getD_eq_getElem?_getD, hk]] at c1
        clear hk hc hc1 g1 g3 g4 g5 hdl HSN
        go_wp2
        go_loopw [7, 58] (fun o i wr => ∃ (j : Nat), j ≤ k ∧ i = .int .i64 j ∧
          B3 ≤ wr.heap.size ∧ Hid (RdB (fun b => B3 ≤ b) wr (.slice ea L ec) ls') ∧ Hid (OwnB 5 B3 wr o (D.take (s + j)).flatten) ∧
          Hid (Is (fun b => B3 ≤ b) wr (.slice (some ⟨b1, o1, none⟩) (shN M).length sc) ((shN M).map fun k : Nat => (k : Int))) ∧ Hid (Bs (fun b => B3 ≤ b) wr (.slice a N cap) xs) ∧ Hid (Fr [] w wr)) (fun _ i _ => k - (intOf i).toNat)
        case atStart => exact ⟨0, by omega, rfl, hBw, HR, HO, HS, HB, HF⟩
        case round =>
          clear HR HO HS HB HF c1 hBw
          obtain ⟨j, hj, rfl, hBw, HR, HO, HS, HB, HF⟩ := hrel
          by_cases hjk : j < k
          · obtain ⟨⟨xv, xb⟩, hx, hdx⟩ := sys_elem (s := s) (k := k) HSN'.out (by rw [hDL]; omega) hjk
            obtain ⟨b2, o2, he, c2, hbx⟩ := rdb_cell HR.out j _ hx
            have HX := Lib.hid hbx
            have HOL := Lib.hid (sflat_le HD8.out (by omega) (s + j))
            have hx8 : xb.length = 8 := HD8.out _ (List.mem_of_getElem? hdx)
            have HST := Lib.hid (sflat_step hdx)
            subst he
            clear hdx hbx hx
            go_wp2_with (at_builtin; refine wpl_append_bs (A := fun b => B3 ≤ b) (ys := xb) (base := B3) Tryd.underlying22 Tryd.infoByte rfl (.tmp 62) (.tmp 63) rfl rfl rfl HO.out HX.out (by have := HOL.out; omega) hBw ?_)
            intro v' w5 h5 h6
            have hfg := Fr.grown (S := u7.ownBlock.toList) h6 (fun g hg => by simp [hg])
            have hsz5 : B3 ≤ w5.heap.size := by have := h6.size; omega
            have HO5 := Lib.hid (show OwnB 5 B3 w5 v' (D.take (s + (j + 1))).flatten by
              have e := HST.out
              rw [show s + (j + 1) = s + j + 1 by omega, e]; exact h5)
            have HR5 := Lib.hid (HR.out.keep hfg (fun g hg => HO.out.blk hg))
            have HS5 := Lib.hid (HS.out.keep hfg (fun g hg => HO.out.blk hg))
            have HB5 := Lib.hid (HB.out.keep hfg (fun g hg => HO.out.blk hg))
            have HF5 := Lib.hid (show Fr [] w w5 from OwnB.fr HO.out HF.out h6 hwB)
            clear h5 h6 hfg HO HR HS HB HF HST HX HOL
            go_wp2
            constructor
            · exact ⟨j + 1, by omega, by go_num, hsz5, HR5, HO5, HS5, HB5, HF5⟩
            · simp [intOf]; omega
          · obtain rfl : j = k := by omega
            have HC := Lib.hid (rdb_cut HR.out (j + 32) hkL)
            obtain ⟨ez, hez⟩ : ∃ ez, (if ec = j + 32 then ea else ea.map (·.add (j + 32))) = ez := ⟨_, rfl⟩
            rw [hez] at HC
            have HEZ := Lib.hid hez
            have HSN2 := Lib.hid (show (ls'.drop (j + 32)).map (·.2) = blkGo (D.drop (s + j)) ((shN M).drop (q + 1)) from by rw [List.map_drop, HSN'.out, HGD.out])
            clear hez HR HSN' HGD
            go_wp2
            rw [HEZ.out]
            constructor
            · exact ⟨q + 1, s + j, ez, ec - (j + 32), L - (j + 32), ls'.drop (j + 32), by omega, by go_num, by rw [HG1.out], by omega, rfl, by rw [List.length_drop, HLE.out], hBw, HC, HSN2, HO, HS, HB, HF⟩
            · simp [intOf]; omega
      · obtain rfl : q = (shN M).length := by omega
        have hs0 : s = M := by have h := HSQ.out; rw [List.take_length, shN_sum] at h; exact h
        have hL0 : L = 0 := by have := HLL.out; omega
        have HA := Lib.hid (show OwnB 5 B3 wr u7 (padL xs) by have h := HO.out; rwa [hs0, ← hDL, List.take_length, HFL.out] at h)
        have HBA := Lib.hid (HA.out.bs (A := fun _ => False) (by simp))
        have HBF := Lib.hid (HB.out.mono (A' := fun _ => False) (Fr.refl [] wr) (by simp) (fun b h => h.elim))
        subst hL0
        obtain ⟨ao, ac, rfl, -⟩ := HBA.out
        clear HA HO HSQ HLL HLE hdr hLb HR HSN HS HB
        go_wp2
        refine sys_reg wr _ rfl rfl xs N _ a ao ea cap ac ec rfl rfl rfl HBF.out HBA.out HN.out hl rfl _ ?_
        intro c w' k1 k2 k3 hf
        have HF' := Lib.hid (HF.out.trans hf)
        clear hf
        rw [frame105 c k2 k1, k3]
        go_wp2
        go_ret
        exact ⟨rfl, HF'.out⟩
  · go_enter Tryd.func3, Tryd.ntmps3
    go_wp2_with fail
    refine (alive06_any w).mono ?_
    rintro e w1 ⟨rfl, hf⟩
    have HF1 := Lib.hid hf
    clear hf
    go_wp2
    go_ret
    exact ⟨rfl, HF1.out⟩
end Go.Proofs.YtenjpnhccnmnpaaDoor
