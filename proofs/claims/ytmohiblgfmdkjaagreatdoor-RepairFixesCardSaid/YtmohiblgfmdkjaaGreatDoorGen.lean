/-
  Layers 2 and 3: poly.Roots, code.Generator.
-/
import Derived.Test.YtmohiblgfmdkjaaGreatDoorTrm
namespace Go.Proofs.YtmohiblgfmdkjaaGreatDoor
open Go.RowKit Go.Bl
set_option linter.unusedVariables false

theorem proots_len (rs : List UInt8) : ∀ k, (proots (rs.take k)).length ≤ 1 + 2 * k
  | 0 => by simp [proots]
  | k + 1 => by
    cases h : rs[k]? with
    | none =>
      have hl := List.getElem?_eq_none_iff.1 h
      rw [List.take_of_length_le (by omega)]
      have := proots_len rs k
      rw [List.take_of_length_le hl] at this
      omega
    | some r =>
      rw [proots_take rs k r h]
      have := pmul_len (proots (rs.take k)) [r, 1]
      have := proots_len rs k
      simp at *
      omega
theorem own_lit {e : TypeId} {base : Nat} (w : World) (c : Array Value) (xs : List UInt8) (hb : base ≤ w.heap.size) (hc : c.toList = xs.map u8v) (hl : xs.length ≤ 1000) : OwnB e base (w.alloc (.cells c e)) (.slice (some ⟨w.heap.size, 0, none⟩) xs.length xs.length) xs := by
  have hs : c.size = xs.length := by have := congrArg List.length hc; simpa using this
  refine ⟨by simp, .inr ⟨w.heap.size, xs.length, c, rfl, hb, heap_alloc_new _ _, Nat.le_refl _, by simp [maxLen]; omega, by omega, ?_⟩⟩
  rw [List.take_of_length_le (by simp; omega), hc]
theorem bs_lit {A : Nat → Prop} (w : World) (c : Array Value) (e : TypeId) (xs : List UInt8) (hA : ¬ A w.heap.size) (hc : c.toList = xs.map u8v) (hl : xs.length ≤ 1000) : Bs A (w.alloc (.cells c e)) (.slice (some ⟨w.heap.size, 0, none⟩) xs.length xs.length) xs :=
  ⟨_, _, rfl, Nat.le_refl _, by simp [maxLen]; omega, by
    have := Row.of_block (A := A) (show (w.alloc (.cells c e)).heap[w.heap.size]? = some (.cells c e (0, 0)) from heap_alloc_new _ _) hA
    rwa [hc] at this⟩

set_option maxRecDepth 100000 in
set_option maxHeartbeats 4000000 in
theorem roots_any (A : Nat → Prop) (w : World) (v : Value) (rs : List UInt8) (hb : Bs A w v rs) (hl : rs.length ≤ 32) :
    Calls Tryz.prog 88 #[v] w fun e w' => ∃ u, e = .returned u ∧ OwnB 5 w.heap.size w' u (proots rs) ∧ Fr [] w w' := by
  have HB := Lib.hid hb
  obtain ⟨a, cap, rfl, h2, h3, -⟩ := hb
  unfold maxLen at h3
  obtain ⟨N, hN⟩ : ∃ N, rs.length = N := ⟨_, rfl⟩
  rw [hN] at HB h2 hl ⊢
  have HN := Lib.hid hN
  clear hN
  have HO := Lib.hid (show OwnB 5 w.heap.size (w.alloc (.cells #[.int .u8 1] 5)) (.slice (some ⟨w.heap.size, 0, none⟩) 1 1) (proots (rs.take 0)) from own_lit w #[.int .u8 1] [1] (Nat.le_refl _) rfl (by simp))
  go_enter Tryz.func88, Tryz.ntmps88
  go_wp2
  go_loopw [3, 9] (fun o i wr => ∃ j : Nat, j ≤ N ∧ i = .int .i64 j ∧ Hid (OwnB 5 w.heap.size wr o (proots (rs.take j))) ∧ Hid (Fr [] w wr)) (fun _ i _ => N - (intOf i).toNat)
  case atStart => exact ⟨0, by omega, rfl, HO.out, Fr.alloc _ _⟩
  case round =>
    clear HO
    obtain ⟨j, hj, rfl, HO, HF⟩ := hrel
    by_cases hjn : j < N
    · obtain ⟨x, hx⟩ : ∃ x, rs[j]? = some x := ⟨_, List.getElem?_eq_getElem (by have := HN.out; omega)⟩
      obtain ⟨b, off, rfl, hc⟩ := bs_cell HB.out j x hx
      have hcx := cell_mono HF.out hc
      have HT := Lib.hid (proots_take rs j x hx)
      have HL := Lib.hid (proots_len rs j)
      obtain ⟨oo, on, oc, rfl⟩ := bs_shp (HO.out.bs (A := fun _ => False) (by simp))
      clear hx hc
      go_wp2_with fail
      have hbs := bs_lit (A := fun _ => False) wr #[.int .u8 (x.toNat : Int), .int .u8 1] 5 [x, 1] (by simp) rfl (by simp)
      have hal : Fr [] wr (wr.alloc (.cells #[.int .u8 (x.toNat : Int), .int .u8 1] 5)) := Fr.alloc _ _
      have hs := (HF.out.trans hal).size
      refine (pmul_any (fun _ => False) _ _ _ _ _ ((HO.out.keep hal (by simp)).bs (by simp)) hbs (by simp) (by have := HL.out; simp; omega)).mono ?_
      rintro e w2 ⟨u, rfl, ho, hf⟩
      have HO2 := Lib.hid (show OwnB 5 w.heap.size w2 u (proots (rs.take (j + 1))) by rw [HT.out]; exact ho.base hs)
      have HF2 := Lib.hid ((HF.out.trans hal).trans hf)
      clear ho hf hbs hal HO HF hcx
      go_wp2
      go_roundw
      case rel => exact ⟨j + 1, by omega, by go_num, HO2.out, HF2.out⟩
      case measure => simp [intOf]; omega
    · obtain rfl : j = N := by omega
      have HE := Lib.hid (show rs.take j = rs from List.take_of_length_le (by have := HN.out; omega))
      go_wp2
      go_ret
      exact ⟨_, rfl, by have := HO.out; rwa [HE.out] at this, HF.out⟩

set_option maxRecDepth 100000 in
set_option maxHeartbeats 4000000 in
theorem gen_any (w : World) : Calls Tryz.prog 68 #[] w fun e w' => ∃ u, e = .returned u ∧ OwnB 5 w.heap.size w' u genL ∧ Fr [] w w' := by
  go_enter Tryz.func68, Tryz.ntmps68
  go_wp2
  go_loopw [1, 3] (fun o i wr => ∃ j : Nat, j ≤ 32 ∧ i = .int .i64 j ∧ Hid (OwnB 5 w.heap.size wr o ((List.range j).map gexp)) ∧ Hid (Fr [] w wr)) (fun _ i _ => 32 - (intOf i).toNat)
  case atStart => exact ⟨0, by omega, rfl, OwnB.nil _ _ _, Fr.refl _ _⟩
  case round =>
    obtain ⟨j, hj, rfl, HO, HF⟩ := hrel
    by_cases hjn : j < 32
    · go_wp2_with fail
      refine (exp_any _ j (by omega)).mono ?_
      rintro e w2 ⟨rfl, hf⟩
      have HO2 := Lib.hid (HO.out.keep hf (by simp))
      have HF2 := Lib.hid (HF.out.trans hf)
      have HR := Lib.hid (show (List.range (j + 1)).map gexp = (List.range j).map gexp ++ [gexp j] by simp [List.range_succ])
      clear hf HO HF
      unfold u8v
      obtain ⟨x, hx⟩ : ∃ x, gexp j = x := ⟨_, rfl⟩
      rw [hx] at HR ⊢
      clear hx
      have HBL := Lib.hid (bs_lit (A := fun _ => False) w2 #[.int .u8 (x.toNat : Int)] 5 [x] (by simp) rfl (by simp))
      have HO3 := Lib.hid (HO2.out.keep (Fr.alloc (S := []) w2 (.cells #[.int .u8 (x.toNat : Int)] 5)) (by simp))
      have HF3 := Lib.hid (show Fr [] w (w2.alloc (.cells #[.int .u8 (x.toNat : Int)] 5)) from Fr.al HF2.out)
      have hs := HF3.out.size
      go_wp2_with (at_builtin; refine wpl_append_bs (A := fun _ => False) (ys := [x]) (base := w.heap.size) Tryz.underlying22 Tryz.infoByte rfl (.tmp 6) (.tmp 9) rfl rfl rfl HO3.out HBL.out (by simp; omega) hs ?_)
      intro v' w3 h5 h6
      have HO4 := Lib.hid (show OwnB 5 w.heap.size w3 v' ((List.range (j + 1)).map gexp) by rw [HR.out]; exact h5)
      have HF4 := Lib.hid (show Fr [] w w3 from OwnB.fr HO3.out HF3.out h6 (Nat.le_refl _))
      clear h5 h6 HO3 HF3 HBL HO2 HF2
      go_wp2
      go_roundw
      case rel => exact ⟨j + 1, by omega, by go_num, HO4.out, HF4.out⟩
      case measure => simp [intOf]; omega
    · obtain rfl : j = 32 := by omega
      have HB := Lib.hid (HO.out.bs (A := fun _ => False) (by simp))
      have hs := HF.out.size
      obtain ⟨oo, on, oc, rfl⟩ := bs_shp HB.out
      go_wp2_with fail
      refine (roots_any (fun _ => False) _ _ _ HB.out (by simp)).mono ?_
      rintro e w2 ⟨u, rfl, ho, hf⟩
      have HO2 := Lib.hid (ho.base hs)
      have HF2 := Lib.hid (HF.out.trans hf)
      clear ho hf
      go_wp2
      go_ret
      exact ⟨_, rfl, HO2.out, HF2.out⟩
end Go.Proofs.YtmohiblgfmdkjaaGreatDoor
