/-
  Layer 3: code.Parity: the register.
-/
import Derived.Test.YtenjpnhccnmnpaaDoorPar
namespace Go.Proofs.YtenjpnhccnmnpaaDoor
open Go.RowKit Go.Bl
set_option linter.unusedVariables false

theorem cell_lt {w : World} {b i : Nat} {v : Value} (h : w.cell? ⟨b, i, none⟩ = some v) : b < w.heap.size := by
  unfold World.cell? at h
  rcases Nat.lt_or_ge b w.heap.size with hb | hb
  · exact hb
  · rw [Array.getElem?_eq_none hb] at h; simp at h
theorem sized_ok (w : World) (n : Nat) (h1 : 1 ≤ n) (h2 : n ≤ 223) : Calls Tryd.prog 33 #[.int .i64 n] w fun e w' => e = .returned (.bool true) ∧ Fr [] w w' := by
  go_enter Tryd.func33, Tryd.ntmps33
  go_wp2
  go_ret
  refine ⟨?_, Fr.refl _ _⟩
  show Ending.returned (.bool (decide ((n : Int) ≤ 223))) = _
  rw [decide_eq_true (by omega)]
theorem made_zeros (n : Nat) : madeCells #[.int .u8 0] n = ((List.replicate n (0 : UInt8)).map u8v).toArray := by
  apply Array.ext
  · simp [madeCells]
  · intro i h1 h2
    simp [madeCells, u8v, Nat.mod_one]
theorem bs_apart {A : Nat → Prop} {w : World} {b0 o n c : Nat} {xs : List UInt8} (S : List Nat) (h : Bs A w (.slice (some ⟨b0, o, none⟩) n c) xs) (hn : b0 ∉ S) : Bs (fun b => b ∈ S) w (.slice (some ⟨b0, o, none⟩) n c) xs := by
  obtain ⟨a, cap, e, h1, h2, h3⟩ := h
  cases e
  refine ⟨_, _, rfl, h1, h2, ?_⟩
  rcases h3 with h | ⟨b, off, cc, e, fz, he, hA, hb, hc⟩
  · exact .inl h
  · cases he
    exact .inr ⟨b0, o, cc, e, fz, rfl, hn, hb, hc⟩
theorem reg_shift (R : List UInt8) (h : R.length = 32) : ((R.tail ++ R.drop 31).set 31 0) = R.tail ++ [0] := by
  have h1 : R.tail.length = 31 := by simp [h]
  rw [List.set_append_right _ _ (by omega), h1]
  congr 1
  obtain ⟨x, hx⟩ : ∃ x, R.drop 31 = [x] := by
    have : (R.drop 31).length = 1 := by simp [h]
    match hR : R.drop 31, this with
    | [x], _ => exact ⟨x, rfl⟩
  rw [hx]; rfl

theorem copy_shift (wr : World) (g : Nat) (R : List UInt8) (hR : R.length = 32) (hA : At wr g (.cells (R.map u8v).toArray 5)) :
    ∃ w5, (Builtin.copy_ #[22, 22] 3 #[.slice (some ⟨g, 0, none⟩) 32 32, .slice (some ⟨g, 1, none⟩) 31 31]).run Tryd.prog wr = .ok (.int .i64 31) w5 ∧ At w5 g (.cells ((R.tail ++ R.drop 31).map u8v).toArray 5) ∧ Fr [g] wr w5 := by
  have hcl : (R.tail.map u8v).length = 31 := by simp [hR]
  have hrun := run_copy_row (P := Tryd.prog) wr 22 22 3 5 g 0 32 32 ⟨g, 1, none⟩ 31 31 (R.map u8v).toArray 5 (R.tail.map u8v) Tryd.underlying22 (by kernel_rfl) hA (by rw [hcl]; rfl) (fun i v hv => by
    have ha : (⟨g, 1, none⟩ : Addr).add i = ⟨g, 1 + i, none⟩ := by unfold Addr.add; split <;> simp_all
    rw [ha, cell_of hA, ← hv]
    simp [List.getElem?_tail, Nat.add_comm]) (by simp [hR]) (fun v hv => u8v_one R.tail v hv)
  refine ⟨wr.setRow g ((R.map u8v).toArray.toList.take 0 ++ R.tail.map u8v ++ (R.map u8v).toArray.toList.drop (0 + (R.tail.map u8v).length)).toArray, hrun.trans (by rw [hcl]; rfl), ?_, ⟨rfl, rfl, rfl, by simp [World.setRow], fun k hk hn => setRow_other wr g k _ (by simpa using hn)⟩⟩
  have h := setRow_heap wr g (R.map u8v).toArray ((R.map u8v).toArray.toList.take 0 ++ R.tail.map u8v ++ (R.map u8v).toArray.toList.drop (0 + (R.tail.map u8v).length)).toArray 5 (0, 0) hA
  have e : ((R.map u8v).toArray.toList.take 0 ++ R.tail.map u8v ++ (R.map u8v).toArray.toList.drop (0 + (R.tail.map u8v).length)) = (R.tail ++ R.drop 31).map u8v := by
    rw [hcl]; simp [List.map_drop]
  rw [e] at h ⊢
  exact h

set_option maxRecDepth 100000 in
set_option maxHeartbeats 1500000 in
theorem par_any (A : Nat → Prop) (w : World) (v : Value) (ds : List UInt8) (hb : Bs A w v ds) (h1 : 1 ≤ ds.length) (h2 : ds.length ≤ 223) :
    Calls Tryd.prog 26 #[v] w fun e w' => ∃ u, e = .returned (.tuple #[u, .nilIface]) ∧ OwnB 5 w.heap.size w' u (parL ds) ∧ Fr [] w w' := by
  have HB := Lib.hid hb
  obtain ⟨da, dc, rfl, d2, d3, -⟩ := hb
  unfold maxLen at d3
  obtain ⟨i0, hi, hz, hsz, hby⟩ := info_bytes Tryd.infoByte
  obtain ⟨N, hN⟩ : ∃ N, ds.length = N := ⟨_, rfl⟩
  rw [hN] at HB d2 h1 h2 ⊢
  have HN := Lib.hid hN
  clear hN
  go_enter Tryd.func26, Tryd.ntmps26
  go_wp2_with fail
  refine (sized_ok _ N h1 h2).mono ?_
  rintro e w1 ⟨rfl, f1⟩
  have F1 := Lib.hid f1
  have hs1 := f1.size
  clear f1
  go_wp2_with fail
  refine (make_any _).mono ?_
  rintro e w2 ⟨rfl, hT, f2⟩
  have HT := Lib.hid hT
  have F2 := Lib.hid (F1.out.trans f2)
  have ht2 := hT.lt
  clear hT f2
  go_wp2_with fail
  refine (gen_any _).mono ?_
  rintro e w3 ⟨u, rfl, hg, f3⟩
  have hgb := hg.bs (A := fun _ => False) (by simp)
  obtain ⟨ga, gc, rfl, g2, g3, -⟩ := id hgb
  rw [genL_len] at hgb g2 ⊢
  obtain ⟨z0, hz0⟩ : ∃ z, genL[0]? = some z := ⟨_, List.getElem?_eq_getElem (by rw [genL_len]; omega)⟩
  obtain ⟨gb, go, rfl, hgc⟩ := bs_cell hgb 0 z0 hz0
  have hgl := cell_lt hgc
  replace HT := Lib.hid (HT.out.keep0 f3)
  have F3 := Lib.hid (F2.out.trans f3)
  have HG := Lib.hid hgb
  have hs3 := f3.size
  clear hg f3 hz0 hgc g2 g3 hgb
  go_wp2_with (refine wpList_make_row _ rfl (.const (.int .i64 32)) (.const (.int .i64 32)) 22 rfl 5 i0 (.int .u8 0) Tryd.underlying22 hi hz hsz rfl .i64 .i64 32 rfl rfl (by rw [hby]; omega) (by omega) ?_)
  have hcs := made_zeros 32
  have HA := Lib.hid (show At (w3.alloc (.cells (madeCells #[.int .u8 0] 32) 5)) w3.heap.size (.cells ((parL (ds.take 0)).map u8v).toArray 5) by rw [hcs]; exact At.new rfl)
  clear hcs
  replace HT := Lib.hid (show At (w3.alloc (.cells (madeCells #[.int .u8 0] 32) 5)) w1.heap.size (.cells tabF 83) from HT.out.al)
  have HF := Lib.hid (show Fr [] w (w3.alloc (.cells (madeCells #[.int .u8 0] 32) 5)) from Fr.al F3.out)
  replace HG := Lib.hid (HG.out.keep (Fr.alloc (S := []) w3 (.cells (madeCells #[.int .u8 0] 32) 5)) (by simp))
  obtain ⟨w4, hw4⟩ : ∃ w4, w3.alloc (.cells (madeCells #[.int .u8 0] 32) 5) = w4 := ⟨_, rfl⟩
  rw [hw4] at HA HT HF HG ⊢
  obtain ⟨tb, htb⟩ : ∃ tb, w1.heap.size = tb := ⟨_, rfl⟩
  have hs2 := F2.out.size
  rw [htb] at HT ht2 hs1 ⊢
  obtain ⟨g, hg⟩ : ∃ g, w3.heap.size = g := ⟨_, rfl⟩
  rw [hg] at HA hgl hs3 ⊢
  have hgw : w.heap.size ≤ g := by omega
  have hgt : g ≠ tb := by omega
  have hgg := Lib.hid (show gb ∉ [g] by simp; omega)
  clear hw4 hg htb hi hz hsz hby F1 F2 F3 hs1 hs2 hs3 ht2 hgl
  go_wp2
  go_loopw [21] (fun i wr => ∃ j : Nat, j ≤ N ∧ i = .int .i64 j ∧ Hid (At wr g (.cells ((parL (ds.take j)).map u8v).toArray 5)) ∧ Hid (At wr tb (.cells tabF 83)) ∧ Hid (Fr [] w wr) ∧ Hid (Bs (fun b => b ∈ [g]) wr (.slice (some ⟨gb, go, none⟩) 33 gc) genL)) (fun i _ => N - (intOf i).toNat)
  case atStart =>
    exact ⟨0, by omega, rfl, HA.out, HT.out, HF.out, bs_apart [g] HG.out hgg.out⟩
  case round =>
    clear HA HT HF HG
    obtain ⟨j, hj, rfl, HA, HT, HF, HG⟩ := hrel
    by_cases hjn : j < N
    · obtain ⟨x, hx⟩ : ∃ x, ds[j]? = some x := ⟨_, List.getElem?_eq_getElem (by have := HN.out; omega)⟩
      obtain ⟨db, dof, rfl, hcd⟩ := bs_cell HB.out j x hx
      have hcx := cell_mono HF.out hcd
      have HM := Lib.hid (parL_take ds j x hx)
      have HL := Lib.hid (parL_len (ds.take j))
      obtain ⟨R, hR⟩ : ∃ R, parL (ds.take j) = R := ⟨_, rfl⟩
      rw [hR] at HA HM HL
      have hc0 := byte_cell HA.out (show 0 < R.length by rw [HL.out]; omega)
      obtain ⟨r0, hr0⟩ : ∃ r0, R.getD 0 0 = r0 := ⟨_, rfl⟩
      rw [hr0] at hc0
      have hxx := u8_xor_u x r0
      have HST := Lib.hid (show ∀ n, n = 32 → parRow (x ^^^ r0) n (R.tail ++ [0]) = parStep R x by rintro n rfl; rw [← hr0]; exact parRow_step R x HL.out)
      obtain ⟨y, hy⟩ : ∃ y, x ^^^ r0 = y := ⟨_, rfl⟩
      rw [hy] at hxx HST
      clear hx hcd hR hr0 hy
      obtain ⟨w5, hrun, a5, f5⟩ := copy_shift wr g R HL.out HA.out
      have HS := Lib.hid (reg_shift R HL.out)
      have hl5 : (((R.tail ++ R.drop 31).map u8v).toArray).size = 32 := by simp [HL.out]
      go_wp2_with (first | (refine wpl_store_one (.tmp 35) (.const (.int .u8 0)) rfl rfl (.int .u8 0) rfl rfl a5 (by rw [hl5]; omega) (by kernel_rfl) rfl ?_))
      intro w6 f6 a6 hsz6
      clear hsz6
      have HA6 := Lib.hid (show At w6 g (.cells ((parRow y 0 (R.tail ++ [0])).map u8v).toArray 5) by
        show At w6 g (.cells ((R.tail ++ [0]).map u8v).toArray 5)
        rw [← HS.out, List.map_set]
        simpa [u8v] using a6)
      have HT6 := Lib.hid ((HT.out.keep f5 (by simpa using hgt.symm)).keep f6 (by simpa using hgt.symm))
      have HF6 := Lib.hid ((HF.out.then f5 (by intro b hb; simp at hb; omega)).then f6 (by intro b hb; simp at hb; omega))
      have HG6 := Lib.hid ((HG.out.keep f5 (fun b h => h)).keep f6 (fun b h => h))
      have HL6 := Lib.hid (show (R.tail ++ [(0 : UInt8)]).length = 32 by simp [HL.out])
      clear hrun a5 f5 a6 f6 HA HT HF HG hc0 hcx hxx hl5 HS
      obtain ⟨R2, hR2⟩ : ∃ R2, R.tail ++ [(0 : UInt8)] = R2 := ⟨_, rfl⟩
      rw [hR2] at HA6 HL6 HST
      clear hR2
      go_wp2
      go_loopw [38] (fun i wr => ∃ k : Nat, k ≤ 32 ∧ i = .int .i64 k ∧ Hid (At wr g (.cells ((parRow y k R2).map u8v).toArray 5)) ∧ Hid (At wr tb (.cells tabF 83)) ∧ Hid (Fr [] w wr) ∧ Hid (Bs (fun b => b ∈ [g]) wr (.slice (some ⟨gb, go, none⟩) 33 gc) genL)) (fun i _ => 32 - (intOf i).toNat)
      case atStart => exact ⟨0, by omega, rfl, HA6.out, HT6.out, HF6.out, HG6.out⟩
      case round =>
        clear HA6 HT6 HF6 HG6
        obtain ⟨k, hk, rfl, HA, HT, HF, HG⟩ := hrel
        by_cases hkn : k < 32
        · obtain ⟨z, hz⟩ : ∃ z, genL[31 - k]? = some z := ⟨_, List.getElem?_eq_getElem (by rw [genL_len]; omega)⟩
          obtain ⟨gb', go', he, hgc⟩ := bs_cell HG.out (31 - k) z hz
          cases he
          have HR := Lib.hid (show parRow y (k + 1) R2 = updX (parRow y k R2) k (gmul y z) by simp only [parRow]; rw [List.getD_eq_getElem?_getD, hz]; rfl)
          have HLc := Lib.hid (show (parRow y k R2).length = 32 by rw [parRow_len, HL6.out])
          obtain ⟨cur, hcur⟩ : ∃ cur, parRow y k R2 = cur := ⟨_, rfl⟩
          rw [hcur] at HA HR HLc
          clear hz hcur
          have HGC := Lib.hid hgc
          clear hgc
          go_wp2_with fail
          refine par_reg _ _ rfl g tb gb go gc k cur y z hkn HLc.out hgt hgg.out rfl rfl rfl rfl rfl HGC.out HA.out HT.out _ ?_
          intro b p h1 h2 h3 hf ha
          obtain ⟨f, hb⟩ := putsX b _ _ h1 h2 h3
          have HA2 := Lib.hid (show At p g (.cells ((parRow y (k + 1) R2).map u8v).toArray 5) by rw [HR.out]; exact ha)
          have HT2 := Lib.hid (HT.out.keep hf (by simpa using hgt.symm))
          have HF2 := Lib.hid (HF.out.then hf (by intro b hb; simp at hb; omega))
          have HG2 := Lib.hid (HG.out.keep hf (fun b h => h))
          clear h1 h2 h3 hf ha HA HT HF HG HGC HR
          subst hb
          simp only [List.foldl_cons, List.foldl_nil, Go.Act.put, List.setIfInBounds_toArray, List.set_cons_succ, List.set_cons_zero]
          go_wp2
          go_roundw
          case rel => exact ⟨k + 1, by omega, by go_num, HA2.out, HT2.out, HF2.out, HG2.out⟩
          case measure => simp [intOf]; omega
        · have hk32 : k = 32 := by omega
          have e := HM.out.trans (HST.out k hk32).symm
          have HA2 := Lib.hid (show At wr g (.cells ((parL (ds.take (j + 1))).map u8v).toArray 5) by rw [e]; exact HA.out)
          clear HA e HM HST
          subst hk32
          go_wp2
          go_roundw
          case rel => exact ⟨j + 1, by omega, by go_num, HA2.out, HT.out, HF.out, HG.out⟩
          case measure => simp [intOf]; omega
    · obtain rfl : j = N := by omega
      have HO := Lib.hid (show OwnB 5 w.heap.size wr (.slice (some ⟨g, 0, none⟩) 32 32) (parL (ds.take j)) from by
        have hl := parL_len (ds.take j)
        refine ⟨by simp, .inr ⟨g, 32, _, by rw [hl], hgw, HA.out, by rw [hl]; omega, by simp [maxLen], by simp [hl], ?_⟩⟩
        rw [List.take_of_length_le (by simp)])
      have HE := Lib.hid (show ds.take j = ds from List.take_of_length_le (by have := HN.out; omega))
      go_wp2
      go_ret2
      exact ⟨_, rfl, by have := HO.out; rwa [HE.out] at this, HF.out⟩
end Go.Proofs.YtenjpnhccnmnpaaDoor
