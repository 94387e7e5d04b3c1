/-
  Layer 6: stripe.grouped: a group's blocks.
-/
import Derived.Test.YtfblhdomjnffcaaDoorCatV
import Derived.Test.YtfblhdomjnffcaaDoorPad
namespace Go.Proofs.YtfblhdomjnffcaaDoor
open Go.RowKit Go.Bl
set_option linter.unusedVariables false

def rwM (P : Nat → Nat → UInt8) (j i : Nat) : List (List UInt8) := (List.range 32).map fun r => (List.range 8).map fun m => if m < j ∨ (m = j ∧ r < i) then P m r else 0
theorem rwM_get (P : Nat → Nat → UInt8) (j i r : Nat) (h : r < 32) : (rwM P j i)[r]? = some ((List.range 8).map fun m => if m < j ∨ (m = j ∧ r < i) then P m r else 0) := by
  simp [rwM, h]
theorem rwM_len (P : Nat → Nat → UInt8) (j i : Nat) : (rwM P j i).length = 32 := by simp [rwM]
theorem rwM_step (P : Nat → Nat → UInt8) (j i : Nat) (hi : i < 32) (hj : j < 8) (row : List UInt8) (hr : (rwM P j i)[i]? = some row) : (rwM P j i).set i (row.set j (P j i)) = rwM P j (i + 1) := by
  rw [rwM_get P j i i hi] at hr
  cases hr
  apply List.ext_getElem?
  intro r
  rcases Nat.lt_or_ge r 32 with h | h
  · by_cases hri : r = i
    · subst hri
      rw [List.getElem?_set_self (by rw [rwM_len]; exact h), rwM_get P j (r + 1) r h]
      congr 1
      apply List.ext_getElem?
      intro m
      rcases Nat.lt_or_ge m 8 with hm | hm
      · by_cases hmj : m = j
        · subst hmj
          rw [List.getElem?_set_self (by simp; omega)]
          simp [hm]
        · rw [List.getElem?_set_ne (Ne.symm hmj)]
          simp [hm, hmj]
      · rw [List.getElem?_eq_none (by simp; omega), List.getElem?_eq_none (by simp; omega)]
    · rw [List.getElem?_set_ne (Ne.symm hri), rwM_get P j i r h, rwM_get P j (i + 1) r h]
      congr 1
      refine List.map_congr_left fun m hm => ?_
      by_cases h2 : m < j ∨ (m = j ∧ r < i)
      · rw [if_pos h2, if_pos (by omega)]
      · rw [if_neg h2, if_neg (by omega)]
  · rw [List.getElem?_eq_none (by rw [List.length_set, rwM_len]; exact h), List.getElem?_eq_none (by rw [rwM_len]; exact h)]
theorem rwM_next (P : Nat → Nat → UInt8) (j : Nat) : rwM P j 32 = rwM P (j + 1) 0 := by
  unfold rwM
  refine List.map_congr_left fun r hr => List.map_congr_left fun m hm => ?_
  have := List.mem_range.1 hr
  by_cases h : m < j ∨ (m = j ∧ r < 32)
  · rw [if_pos h, if_pos (by omega)]
  · rw [if_neg h, if_neg (by omega)]
theorem rwM_zero (P : Nat → Nat → UInt8) : rwM P 0 0 = List.replicate 32 (List.replicate 8 0) := by
  apply List.ext_getElem?
  intro r
  rcases Nat.lt_or_ge r 32 with h | h
  · rw [rwM_get P 0 0 r h, List.getElem?_replicate, if_pos h]
    congr 1
  · rw [List.getElem?_eq_none (by rw [rwM_len]; exact h), List.getElem?_eq_none (by rw [List.length_replicate]; exact h)]
theorem rwM_par (ds : List (List UInt8)) : rwM (fun m r => (parL (ds.map fun b => b.getD m 0)).getD r 0) 8 0 = parB ds := by
  unfold rwM parB
  refine List.map_congr_left fun r _ => List.map_congr_left fun m hm => ?_
  rw [if_pos (.inl (List.mem_range.1 hm))]

set_option maxRecDepth 100000 in
set_option maxHeartbeats 3000000 in
theorem grouped_any (w : World) (v : Value) (ls : List (Value × List UInt8)) (hr : RdB (fun _ => False) w v ls) (h8 : ∀ x ∈ ls, x.2.length = 8) (h1 : 1 ≤ ls.length) (h2 : ls.length ≤ 223) :
    Calls Tryd.prog 76 #[v] w fun e w' => ∃ (u : Value) (bs : List Nat), e = .returned (.tuple #[u, .nilIface]) ∧ OwnV 22 w.heap.size w' u (ls.map (·.1) ++ bs.map sl8) ∧ Rws w.heap.size w' bs (parB (ls.map (·.2))) ∧ Fr [] w w' := by
  have HR := Lib.hid hr
  have H8 := Lib.hid h8
  obtain ⟨a, cap, rfl, c2, c3⟩ := rdb_shape hr
  unfold maxLen at c3
  obtain ⟨P, hP⟩ : ∃ P : Nat → Nat → UInt8, (fun m r => (parL ((ls.map (·.2)).map fun b => b.getD m 0)).getD r 0) = P := ⟨_, rfl⟩
  have HP := Lib.hid (show ∀ m, parL (ls.map fun x => colF m x.2) = (List.range 32).map (P m) from fun m => by
    have hl := parL_len (ls.map fun x => colF m x.2)
    apply List.ext_getElem?
    intro r
    rcases Nat.lt_or_ge r 32 with h | h
    · rw [← hP]
      simp only [List.getElem?_map, List.getElem?_range h, Option.map_some, List.map_map]
      rw [List.getD_eq_getElem?_getD]
      have e : (ls.map fun x => colF m x.2) = ls.map ((fun b => b.getD m 0) ∘ fun x => x.2) := rfl
      rw [← e, List.getElem?_eq_getElem (by omega)]
      rfl
    · rw [List.getElem?_eq_none (by omega), List.getElem?_eq_none (by simp; omega)])
  have HQ := Lib.hid (show rwM P 8 0 = parB (ls.map (·.2)) by rw [← hP]; exact rwM_par _)
  obtain ⟨N, hN⟩ : ∃ N, ls.length = N := ⟨_, rfl⟩
  rw [hN] at HR c2 h1 h2 ⊢
  have HN := Lib.hid hN
  clear hN hr h8 hP
  go_enter Tryd.func76, Tryd.ntmps76
  go_wp2_with fail
  refine (blank_any w 32 (by omega)).mono ?_
  rintro e w1 ⟨g, bs, rfl, hg, hgb, hA, hR, hf⟩
  have HA := Lib.hid hA
  have HW := Lib.hid (show Rws w.heap.size w1 bs (rwM P 0 0) by rw [rwM_zero]; exact hR)
  have HF := Lib.hid hf
  have HGB := Lib.hid hgb
  have HBL := Lib.hid (show bs.length = 32 by have := hR.len; simpa using this)
  clear hA hR hf hgb
  go_wp2
  go_loopw [11] (fun i wr => ∃ j : Nat, j ≤ 8 ∧ i = .int .i64 j ∧ Hid (At wr g (.cells (bs.map sl8).toArray 22)) ∧ Hid (Rws w.heap.size wr bs (rwM P j 0)) ∧ Hid (Fr [] w wr)) (fun i _ => 8 - (intOf i).toNat)
  case atStart => exact ⟨0, by omega, rfl, HA.out, HW.out, HF.out⟩
  case round =>
    clear HA HW HF
    obtain ⟨j, hj, rfl, HA, HW, HF⟩ := hrel
    by_cases hjn : j < 8
    · go_wp2_with fail
      refine (column_any (fun _ => False) _ _ ls j (HR.out.keep HF.out (by simp)) hjn H8.out (by have := HN.out; omega)).mono ?_
      rintro e w2 ⟨cu, rfl, ho, hf⟩
      have HA2 := Lib.hid (HA.out.keep0 hf)
      have HW2 := Lib.hid (HW.out.keep hf (by simp))
      have HF2 := Lib.hid (HF.out.trans hf)
      have HC := Lib.hid (ho.bs (A := fun _ => False) (by simp))
      obtain ⟨co, cn, cc, rfl⟩ := bs_shp HC.out
      clear ho hf HA HW HF
      go_wp2_with fail
      refine (par_any (fun _ => False) _ _ _ HC.out (by have := HN.out; simp; omega) (by have := HN.out; simp; omega)).mono ?_
      rintro e w3 ⟨pu, rfl, ho, hf⟩
      have HA3 := Lib.hid (HA2.out.keep0 hf)
      have HW3 := Lib.hid (HW2.out.keep hf (by simp))
      have HF3 := Lib.hid (HF2.out.trans hf)
      have HPB := Lib.hid (show Bs (fun b => b ∈ bs) w3 pu ((List.range 32).map (P j)) from by
        have h := ho.bs (A := fun b => b ∈ bs) (fun b hb => HW2.out.lt b hb)
        rwa [HP.out j] at h)
      obtain ⟨po, pn, pc, rfl⟩ := bs_shp HPB.out
      obtain rfl : pn = 32 := by
        obtain ⟨a', c', e, -⟩ := HPB.out
        cases e
        simp
      clear ho hf HA2 HW2 HF2 HC
      go_wp2
      go_loopw [26] (fun i wr => ∃ k : Nat, k ≤ 32 ∧ i = .int .i64 k ∧ Hid (At wr g (.cells (bs.map sl8).toArray 22)) ∧ Hid (Rws w.heap.size wr bs (rwM P j k)) ∧ Hid (Fr [] w wr) ∧ Hid (Bs (fun b => b ∈ bs) wr (.slice po 32 pc) ((List.range 32).map (P j)))) (fun i _ => 32 - (intOf i).toNat)
      case atStart => exact ⟨0, by omega, rfl, HA3.out, HW3.out, HF3.out, HPB.out⟩
      case round =>
        clear HA3 HW3 HF3 HPB
        obtain ⟨k, hk, rfl, HA, HW, HF, HPB⟩ := hrel
        by_cases hkn : k < 32
        · obtain ⟨pb, pof, rfl, hcp⟩ := bs_cell HPB.out k (P j k) (by simp [hkn])
          obtain ⟨b, hb⟩ : ∃ b, bs[k]? = some b := ⟨_, List.getElem?_eq_getElem (by have := HBL.out; omega)⟩
          obtain ⟨row, hrow⟩ : ∃ row, (rwM P j k)[k]? = some row := ⟨_, rwM_get P j k k hkn⟩
          have hcg : wr.cell? ⟨g, k, none⟩ = some (.slice (some ⟨b, 0, none⟩) 8 8) := by
            rw [cell_of HA.out]
            simp [hb, sl8]
          have hbm := List.mem_of_getElem? hb
          have HAB := Lib.hid (HW.out.at_ k b row hb hrow)
          have hrl : row.length = 8 := by
            rw [rwM_get P j k k hkn] at hrow
            cases hrow
            simp
          have HST := Lib.hid (rwM_step P j k hkn hjn row hrow)
          have HLO := Lib.hid (HW.out.lo b hbm)
          have HGN := Lib.hid (show b ≠ g from fun e => HGB.out (e ▸ hbm))
          have HB := Lib.hid hb
          have HRW := Lib.hid hrow
          have HBM := Lib.hid hbm
          obtain ⟨c, hc⟩ : ∃ c, P j k = c := ⟨_, rfl⟩
          rw [hc] at hcp HST
          clear hb hrow hbm hc
          go_wp2_with (refine wpl_store_one (.tmp 37) (.tmp 36) rfl rfl (.int .u8 (c.toNat : Int)) rfl rfl HAB.out (by simp [hrl]; omega) (by kernel_rfl) rfl ?_)
          intro w5 f5 a5 _
          have HA5 := Lib.hid (HA.out.keep f5 (by simpa using HGN.out.symm))
          have HW5 := Lib.hid (show Rws w.heap.size w5 bs (rwM P j (k + 1)) by
            rw [← HST.out]
            refine HW.out.set k b j row c HB.out HRW.out f5 ?_
            rw [List.map_set]
            simpa [u8v] using a5)
          have HF5 := Lib.hid (HF.out.then f5 (by intro x hx; simp at hx; subst hx; exact .inr HLO.out))
          have HPB5 := Lib.hid (HPB.out.keep f5 (by intro x hx; simp at hx; subst hx; exact HBM.out))
          clear f5 a5 HA HW HF HPB hcp hcg HAB HST HLO HGN HB HRW HBM
          go_wp2
          go_roundw
          case rel => exact ⟨k + 1, by omega, by go_num, HA5.out, HW5.out, HF5.out, HPB5.out⟩
          case measure => simp [intOf]; omega
        · have hk32 : k = 32 := by omega
          have HW5 := Lib.hid (show Rws w.heap.size wr bs (rwM P (j + 1) 0) by rw [← rwM_next, ← hk32]; exact HW.out)
          subst hk32
          clear HW HPB
          go_wp2
          go_roundw
          case rel => exact ⟨j + 1, by omega, by go_num, HA.out, HW5.out, HF.out⟩
          case measure => simp [intOf]; omega
    · have hj8 : j = 8 := by omega
      have HW5 := Lib.hid (show Rws w.heap.size wr bs (parB (ls.map (·.2))) by rw [← HQ.out, ← hj8]; exact HW.out)
      subst hj8
      clear HW
      have HR2 := Lib.hid (HR.out.keep HF.out (by simp))
      go_wp2_with fail
      have hal : Fr [] wr (wr.alloc (.cells #[.slice a N cap, .slice (some ⟨g, 0, none⟩) 32 32] 77)) := Fr.alloc _ _
      have hsz := HF.out.size
      have hls : RdLV (fun _ => False) (wr.alloc (.cells #[.slice a N cap, .slice (some ⟨g, 0, none⟩) 32 32] 77)) (.slice (some ⟨wr.heap.size, 0, none⟩) 2 2) [(.slice a N cap, ls.map (·.1)), (.slice (some ⟨g, 0, none⟩) 32 32, bs.map sl8)] := by
        refine ⟨⟨_, 2, rfl, by simp, by simp [maxLen], Row.of_block (heap_alloc_new _ _) (by simp)⟩, fun x hx => ?_⟩
        simp only [List.mem_cons, List.not_mem_nil, or_false] at hx
        rcases hx with rfl | rfl
        · refine ⟨(HR2.out.keep hal (by simp)).1, fun u hu => ?_⟩
          obtain ⟨y, hy, rfl⟩ := List.mem_map.1 hu
          obtain ⟨bo, bn, bc, e⟩ := bs_shp (HR2.out.2 y hy)
          rw [e]; rfl
        · refine ⟨⟨some ⟨g, 0, none⟩, 32, by simp [HBL.out], by simp [HBL.out], by simp [maxLen], ?_⟩, fun u hu => ?_⟩
          · have h := Row.of_block (A := fun _ => False) (HA.out.keep0 hal) (by simp)
            simpa using h
          · obtain ⟨y, hy, rfl⟩ := List.mem_map.1 hu
            rfl
      refine (concatV_any (fun _ => False) _ _ _ hls (by simp) (by have := HN.out; have := HBL.out; simp [catV]; omega)).mono ?_
      rintro e w6 ⟨u, rfl, ho, hf⟩
      have HO := Lib.hid (show OwnV 22 w.heap.size w6 u (ls.map (·.1) ++ bs.map sl8) from by
        have h := ho.base (base' := w.heap.size) (by simp; omega)
        simpa [catV] using h)
      have HW6 := Lib.hid ((HW5.out.keep hal (by simp)).keep hf (by simp))
      have HF6 := Lib.hid ((HF.out.trans hal).trans hf)
      clear ho hf hls hal HW5
      go_wp2
      go_ret2
      exact ⟨_, bs, rfl, HO.out, HW6.out, HF6.out⟩
end Go.Proofs.YtfblhdomjnffcaaDoor
