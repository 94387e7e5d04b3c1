/-
  The document's layer 3: baileeref03.Parity.
-/
import Derived.Test.YtenjpnhccnmnpaaDoorRgn
import Derived.Test.YtenjpnhccnmnpaaDoorBt
namespace Go.Proofs.YtenjpnhccnmnpaaDoor
open Go.RowKit Go.Bl
set_option linter.unusedVariables false

theorem gmul_zero_left (y : UInt8) : gmul 0 y = 0 := by simp [gmul]
theorem updX_zero (l : List UInt8) (i : Nat) : updX l i 0 = l := by
  unfold updX
  rw [UInt8.xor_zero]
  apply List.ext_getElem?
  intro j
  rw [List.getElem?_set]
  split
  · rename_i h
    subst h
    split
    · rename_i h2
      simp [List.getD_eq_getElem?_getD, h2]
    · rename_i h2
      rw [List.getElem?_eq_none (by omega)]
  · rfl

set_option maxRecDepth 100000 in
set_option maxHeartbeats 4000000 in
theorem rpar_any (w : World) (v : Value) (data : List UInt8) (hb : Bs (fun _ => False) w v data) (h1 : 1 ≤ data.length) (h2 : data.length ≤ 223) :
    Calls Tryd.prog 21 #[v] w fun e w' => ∃ (b off cap : Nat), e = .returned (.tuple #[.slice (some ⟨b, off, none⟩) 32 cap, .int .i64 0]) ∧ w.heap.size ≤ b ∧ BsT w' (.slice (some ⟨b, off, none⟩) 32 cap) (parL data) ∧ Fr [] w w' := by
  have HB := Lib.hid hb
  obtain ⟨a, cap, rfl, k2, k3, -⟩ := hb
  unfold maxLen at k3
  have HDP := Lib.hid (div_par data)
  obtain ⟨L, hL⟩ : ∃ L, data.length = L := ⟨_, rfl⟩
  rw [hL] at HB HDP k2 h1 h2 ⊢
  have HL := Lib.hid hL
  clear hL
  go_enter Tryd.func21, Tryd.ntmps21
  go_wp2_with fail
  refine (rgen_any w).mono ?_
  rintro e w1 ⟨gg, rfl, hwg, hgA, hf⟩
  have HG1 := Lib.hid hgA
  have HF1 := Lib.hid hf
  have HB1 := Lib.hid (HB.out.keep hf (by simp))
  have hgl := hgA.lt
  obtain ⟨B1, hB1⟩ : ∃ B1, w1.heap.size = B1 := ⟨_, rfl⟩
  have hwB : w.heap.size ≤ B1 := by have := hf.size; omega
  rw [hB1] at hgl
  have HE := Lib.hid (show OwnB 5 B1 (w1.alloc (.cells #[] 5)) (.slice (some ⟨B1, 0, none⟩) 0 0) [] by
    have h := OwnB.empty 5 B1 w1 (by omega)
    rwa [hB1] at h)
  have HBa := Lib.hid (show Bs (fun _ => False) (w1.alloc (.cells #[] 5)) (.slice a L cap) data from HB1.out.keep (Fr.alloc (S := []) _ _) (by simp))
  have hbs : B1 ≤ (w1.alloc (.cells #[] 5)).heap.size := by simp; omega
  clear hf hgA HB
  go_wp2_with (at_builtin; refine wpl_append_bs (A := fun _ => False) (ys := data) (base := B1) Tryd.underlying22 Tryd.infoByte rfl (.tmp 18) (.tmp 19) rfl rfl rfl HE.out HBa.out (by simp; have := HL.out; omega) hbs ?_)
  intro v2 w2 ho2 hg2
  have HO2 := Lib.hid ho2
  have HG2 := Lib.hid (show At w2 gg (.cells (genL.map u8v).toArray 5) from ((HG1.out.al (o' := .cells #[] 5)).grown hg2 (by simp [Value.ownBlock]; omega)))
  have HF2 := Lib.hid (show Fr [] w w2 from OwnB.fr HE.out (Fr.al HF1.out) hg2 hwB)
  have hs2 : B1 ≤ w2.heap.size := by have := hg2.size; omega
  clear ho2 hg2 HE HBa hbs HB1 HG1 HF1
  obtain ⟨z, hz⟩ : ∃ z, 32 = z := ⟨_, rfl⟩
  have HZ := Lib.hid hz
  rw [hz] at HDP
  have hzi : (32 : Int) = z := by omega
  have HZI := Lib.hid hzi
  clear hz hzi
  go_wp2_with (refine wpl_append_zeros_bs (kn := .i64) (k := z) Tryd.underlying22 Tryd.underlying3 Tryd.infoByte rfl (.tmp 20) (.const (.int .i64 32)) rfl rfl rfl HZI.out HO2.out (by have := HL.out; have := HZ.out; omega) hs2 ?_)
  intro v3 w3 ho3 hg3
  have HG3 := Lib.hid (show At w3 gg (.cells (genL.map u8v).toArray 5) from HG2.out.grown hg3 (fun h => by have := HO2.out.blk (g := gg) (by rw [h]; simp); omega))
  have HF3 := Lib.hid (show Fr [] w w3 from OwnB.fr HO2.out HF2.out hg3 hwB)
  obtain ⟨D, hD⟩ : ∃ D, data ++ List.replicate z (0 : UInt8) = D := ⟨_, rfl⟩
  have HDL := Lib.hid (show D.length = L + 32 by rw [← hD]; simp; have := HL.out; have := HZ.out; omega)
  rw [hD] at ho3 HDP
  obtain ⟨g, cp, rfl, hg0, hg1, hg2, -⟩ := ho3.shape (by have := HDL.out; omega)
  have HO3 := Lib.hid ho3
  rw [HDL.out] at hg1 HO3 ⊢
  unfold maxLen at hg2
  have hgg : gg ≠ g := by omega
  have hwg2 : w.heap.size ≤ g := by omega
  clear ho3 hg3 HO2 HG2 HF2 hD
  go_wp2
  go_loopw [24] (fun i wr => ∃ j, j ≤ L ∧ i = .int .i64 j ∧ Hid (OwnB 5 B1 wr (.slice (some ⟨g, 0, none⟩) (L + 32) cp) (divAll D j)) ∧ Hid (At wr gg (.cells (genL.map u8v).toArray 5)) ∧ Hid (Fr [] w wr)) (fun i _ => L - (intOf i).toNat)
  case atStart => exact ⟨0, by omega, rfl, HO3, HG3, HF3⟩
  case round =>
    clear HO3 HG3 HF3
    obtain ⟨j, hj, rfl, HO, HG, HF⟩ := hrel
    by_cases hjn : j < L
    · have HST := Lib.hid (show ∀ n, n = 33 → divAll D (j + 1) = divRow ((divAll D j).getD j 0) j n (divAll D j) from fun n hn => by subst hn; rfl)
      have HLE := Lib.hid (show (divAll D j).length = L + 32 by rw [divAll_len, HDL.out])
      obtain ⟨Z, hE⟩ : ∃ Z, divAll D j = Z := ⟨_, rfl⟩
      rw [hE] at HO HST HLE
      obtain ⟨x, hx⟩ : ∃ x, Z.getD j 0 = x := ⟨_, rfl⟩
      have hcx : wr.cell? ⟨g, j, none⟩ = some (.int .u8 (x.toNat : Int)) := by
        obtain ⟨cur, q1, q2, q3, -⟩ := own_blk HO.out
        rw [cell_of q1, q3 j (by have := HLE.out; omega), hx]
      rw [hx] at HST
      clear hE hx
      go_wp2
      go_loopw [8] (fun i wr => ∃ k : Nat, k ≤ 33 ∧ i = .int .i64 k ∧ Hid (OwnB 5 B1 wr (.slice (some ⟨g, 0, none⟩) (L + 32) cp) (divRow x j k Z)) ∧ Hid (At wr gg (.cells (genL.map u8v).toArray 5)) ∧ Hid (Fr [] w wr)) (fun i _ => 33 - (intOf i).toNat)
      case atStart => exact ⟨0, by omega, rfl, HO, HG, HF⟩
      case round =>
        clear HO HG HF hcx
        obtain ⟨k, hk, rfl, HO, HG, HF⟩ := hrel
        by_cases hkn : k < 33
        · obtain ⟨m, hm⟩ : ∃ m, m + k = 32 := ⟨32 - k, by omega⟩
          have HT := Lib.hid (show divRow x j (k + 1) Z = updX (divRow x j k Z) (j + k) (gmul x (genL.getD m 0)) by
            rw [show m = 32 - k by omega]; rfl)
          have HL2 := Lib.hid (show (divRow x j k Z).length = L + 32 by rw [divRow_len, HLE.out])
          obtain ⟨cur, hcur⟩ : ∃ cur, divRow x j k Z = cur := ⟨_, rfl⟩
          obtain ⟨y, hy⟩ : ∃ y, genL.getD m 0 = y := ⟨_, rfl⟩
          have hcy := byte_cell HG.out (i := m) (by rw [genL_len]; omega)
          rw [hy] at HT hcy
          have HCY := Lib.hid hcy
          rw [hcur] at HO HT HL2
          clear hcur hy hcy
          by_cases hx0 : x = 0
          · subst hx0
            have HT0 := Lib.hid (show divRow 0 j (k + 1) Z = cur by rw [HT.out, gmul_zero_left, updX_zero])
            clear HT
            have HO2 := Lib.hid (show OwnB 5 B1 wr (.slice (some ⟨g, 0, none⟩) (L + 32) cp) (divRow 0 j (k + 1) Z) by rw [HT0.out]; exact HO.out)
            clear HT0 HO
            go_wp2
            constructor
            · exact ⟨k + 1, by omega, by go_num, HO2, HG, HF⟩
            · simp [intOf]; omega
          · have hxn : x.toNat ≠ 0 := fun h => hx0 (UInt8.toNat_inj.1 h)
            go_wp2_with fail
            refine rpar_reg _ _ rfl B1 g gg (L + 32) cp 33 j k m cur x y (by omega) hm (by omega) HL2.out hgg rfl rfl rfl rfl rfl HCY.out HO.out _ ?_
            intro b' p q1 q2 q3 hf ha
            obtain ⟨f, hb⟩ := putsX b' _ _ q1 q2 q3
            have HF2 := Lib.hid (HF.out.then hf (by intro b hb; simp at hb; omega))
            have HG2 := Lib.hid (HG.out.keep hf (by simpa using hgg))
            have HO2 := Lib.hid (show OwnB 5 B1 p (.slice (some ⟨g, 0, none⟩) (L + 32) cp) (divRow x j (k + 1) Z) by rw [HT.out]; exact ha)
            clear q1 q2 q3 hf ha HO HG HF HCY HT HL2
            subst hb
            simp only [List.foldl_cons, List.foldl_nil, Go.Act.put, List.setIfInBounds_toArray, List.set_cons_succ, List.set_cons_zero]
            go_wp2
            go_roundw
            case rel => exact ⟨k + 1, by omega, by go_num, HO2, HG2, HF2⟩
            case measure => simp [intOf]; omega
        · have HX2 := Lib.hid (show OwnB 5 B1 wr (.slice (some ⟨g, 0, none⟩) (L + 32) cp) (divAll D (j + 1)) by rw [HST.out k (by omega)]; exact HO.out)
          clear HO
          go_wp2
          constructor
          · exact ⟨j + 1, by omega, by go_num, HX2, HG, HF⟩
          · simp [intOf]; omega
    · obtain rfl : j = L := by omega
      have HC := Lib.hid (show BsT wr (.slice (some ⟨g, j, none⟩) 32 (cp - j)) (parL data) by
        obtain ⟨cur, q1, q2, q3, -⟩ := own_blk HO.out
        have hl : (divAll D j).length = j + 32 := by rw [divAll_len, HDL.out]
        refine ⟨g, j, cp - j, cur, by rw [parL_len], by rw [parL_len]; omega, by unfold maxLen; omega, q1, fun i hi => ?_⟩
        rw [List.length_map, parL_len] at hi
        rw [q3 (j + i) (by omega), ← HDP.out, List.getElem?_map, List.getElem?_drop, List.getD_eq_getElem?_getD, List.getElem?_eq_getElem (by omega)]
        rfl)
      clear HO
      go_wp2
      go_ret2
      exact ⟨g, j, cp - j, rfl, hwg2, HC.out, HF.out⟩
end Go.Proofs.YtenjpnhccnmnpaaDoor
