/-
  Layer 2: poly.Add, poly.Scale.
-/
import Derived.Test.YtmohiblgfmdkjaaGreatDoorTrz
import Derived.Test.YtmohiblgfmdkjaaGreatDoorHW
namespace Go.Proofs.YtmohiblgfmdkjaaGreatDoor
open Go.RowKit Go.Bl
set_option linter.unusedVariables false

/-- k entries have got those of q -/
def addK (p q : List UInt8) (k : Nat) : List UInt8 := (List.range p.length).map fun i => if i < k then cf p i ^^^ cf q i else cf p i
theorem addK_len (p q : List UInt8) (k : Nat) : (addK p q k).length = p.length := by simp [addK]
theorem addK_cf (p q : List UInt8) (k j : Nat) (hj : j < p.length) : cf (addK p q k) j = if j < k then cf p j ^^^ cf q j else cf p j := by
  unfold addK
  rw [cf_map_range, if_pos hj]
theorem addK_zero (p q : List UInt8) : addK p q 0 = p := list_ext_cf (addK_len _ _ _) fun j hj => by
  rw [addK_len] at hj
  rw [addK_cf _ _ _ _ hj, if_neg (by omega)]
theorem set_ext {l l' : List UInt8} {k : Nat} {x : UInt8} (hl : l'.length = l.length) (hk : k < l.length) (h : ∀ j, j < l.length → cf l' j = if j = k then x else cf l j) : l.set k x = l' := by
  refine list_ext_cf (by rw [List.length_set, hl]) fun j hj => ?_
  rw [List.length_set] at hj
  rw [h j hj]
  unfold cf
  rw [List.getD_eq_getElem?_getD, List.getElem?_set]
  by_cases hjk : k = j
  · subst hjk; simp [hk]
  · rw [if_neg hjk, if_neg (Ne.symm hjk)]; rfl
theorem addK_step (p q : List UInt8) (k : Nat) (hk : k < p.length) : (addK p q k).set k (cf p k ^^^ cf q k) = addK p q (k + 1) := by
  refine set_ext (by rw [addK_len, addK_len]) (by rw [addK_len]; exact hk) fun j hj => ?_
  rw [addK_len] at hj
  rw [addK_cf _ _ _ _ hj, addK_cf _ _ _ _ hj]
  by_cases h : j = k
  · subst h; rw [if_pos (by omega), if_pos rfl]
  · rw [if_neg h]
    by_cases h2 : j < k
    · rw [if_pos h2, if_pos (by omega)]
    · rw [if_neg h2, if_neg (by omega)]
theorem addK_all (p q : List UInt8) (h : q.length ≤ p.length) : ptrim (addK p q q.length) = padd p q := by
  unfold padd
  apply ptrim_ext
  intro j
  rw [cf_map_range, Nat.max_eq_left h]
  unfold addK
  rw [cf_map_range]
  split
  · split
    · rfl
    · rename_i h2; rw [cf_ge (p := q) (by omega), UInt8.xor_zero]
  · rfl
theorem padd_comm (p q : List UInt8) : padd p q = padd q p := by
  unfold padd
  apply ptrim_ext
  intro j
  rw [cf_map_range, cf_map_range, Nat.max_comm]
  split
  · exact UInt8.xor_comm _ _
  · rfl
set_option maxHeartbeats 400000 in
theorem fadd_any (w : World) (a b : UInt8) : Calls Tryz.prog 102 #[.int .u8 (a.toNat : Int), .int .u8 (b.toNat : Int)] w fun e w' => e = .returned (.int .u8 ((a ^^^ b).toNat : Int)) ∧ Fr [] w w' := by
  go_enter Tryz.func102, Tryz.ntmps102
  go_wp2
  go_ret
  exact ⟨by show Ending.returned (.int .u8 (bits .xor .u8 (a.toNat : Int) (b.toNat : Int))) = _; rw [u8_xor_u], Fr.refl _ _⟩

set_option maxRecDepth 100000 in
set_option maxHeartbeats 4000000 in
theorem padd_ge (A : Nat → Prop) (w : World) (x y : Value) (xs ys : List UInt8) (hx : Bs A w x xs) (hy : Bs A w y ys) (hl : xs.length ≤ 1000) (hc : ys.length ≤ xs.length) :
    Calls Tryz.prog 95 #[x, y] w fun e w' => ∃ u, e = .returned u ∧ OwnB 5 w.heap.size w' u (padd xs ys) ∧ Fr [] w w' := by
  have HX := Lib.hid hx
  have HY := Lib.hid hy
  obtain ⟨xa, xc, rfl, x2, x3, -⟩ := hx
  obtain ⟨ya, yc, rfl, y2, y3, -⟩ := hy
  unfold maxLen at x3 y3
  have HRES := Lib.hid (addK_all xs ys (by omega))
  have HZ := Lib.hid (addK_zero xs ys)
  have HLN := Lib.hid (addK_len xs ys)
  have HCF := Lib.hid (addK_cf xs ys)
  have HST := Lib.hid (addK_step xs ys)
  obtain ⟨XN, hXN⟩ : ∃ n, xs.length = n := ⟨_, rfl⟩
  obtain ⟨YN, hYN⟩ : ∃ n, ys.length = n := ⟨_, rfl⟩
  have HXN := Lib.hid hXN
  have HYN := Lib.hid hYN
  rw [hXN] at HX x2 hl hc ⊢
  rw [hYN] at HY y2 hc ⊢
  clear hXN hYN
  go_enter Tryz.func95, Tryz.ntmps95
  go_wp2_with fail
  refine (clone_any A w _ xs HX.out (by have := HXN.out; omega)).mono ?_
  rintro e w1 ⟨u, rfl, ho, hf⟩
  have HO1 := Lib.hid (show OwnB 5 w.heap.size w1 u (addK xs ys 0) by rw [HZ.out]; exact ho)
  have HF1 := Lib.hid hf
  clear ho hf HX
  go_wp2
  go_loopw [19] (fun i wr => ∃ k : Nat, k ≤ YN ∧ i = .int .i64 k ∧ Hid (OwnB 5 w.heap.size wr u (addK xs ys k)) ∧ Hid (Fr [] w wr)) (fun i _ => YN - (intOf i).toNat)
  case atStart => exact ⟨0, Nat.zero_le _, rfl, HO1, HF1⟩
  case round =>
    clear HO1 HF1
    obtain ⟨k, hk, rfl, HO, HF⟩ := hrel
    by_cases hky : k < YN
    · have hkx : k < XN := by omega
      have hly : (addK xs ys k).length = XN := by rw [HLN.out, HXN.out]
      obtain ⟨g, gc, rfl, hg0, hg1, hg2, -⟩ := HO.out.shape (by omega)
      rw [hly] at hg1 HO ⊢
      unfold maxLen at hg2
      obtain ⟨cur, c1, c2, c3, c4⟩ := own_blk HO.out
      have hcx := c3 k (by omega)
      obtain ⟨z, hz⟩ : ∃ z, ys[k]? = some z := ⟨_, List.getElem?_eq_getElem (by have := HYN.out; omega)⟩
      obtain ⟨yb, yo, rfl, hcy⟩ := bs_cell HY.out k z hz
      have hcy2 := cell_mono HF.out hcy
      have hxv : (addK xs ys k).getD k 0 = cf xs k := by
        have := HCF.out k k (by rw [HXN.out]; exact hkx)
        rw [if_neg (by omega)] at this
        exact this
      rw [hxv] at hcx
      have hcx2 := (cell_of c1 k).trans hcx
      have HS := Lib.hid (HST.out k (by rw [HXN.out]; exact hkx))
      rw [cf_get hz] at HS
      obtain ⟨a, ha⟩ : ∃ a, cf xs k = a := ⟨_, rfl⟩
      rw [ha] at HS hcx2
      have HC4 := Lib.hid (c4 · k (a ^^^ z))
      have HC1 := Lib.hid c1
      have hsz : k < cur.size := by rw [hly] at c2; omega
      clear c3 c4 hcy hz hxv hcx ha c1
      go_wp2_with fail
      refine (fadd_any _ a z).mono ?_
      rintro e w2 ⟨rfl, hf⟩
      have HC2 := Lib.hid (HC1.out.keep0 hf)
      have HF2 := Lib.hid (HF.out.trans hf)
      clear hf hcx2 hcy2
      go_wp2_with (refine wpl_store_one (.tmp 32) (.tmp 31) rfl rfl (.int .u8 ((a ^^^ z).toNat : Int)) rfl rfl HC2.out hsz (by kernel_rfl) rfl ?_)
      intro w3 f3 a3 _
      have HO3 := Lib.hid (show OwnB 5 w.heap.size w3 (.slice (some ⟨g, 0, none⟩) XN gc) (addK xs ys (k + 1)) by rw [← HS.out]; exact HC4.out w3 a3)
      have HF3 := Lib.hid (HF2.out.then f3 (by intro b hb; simp at hb; omega))
      clear f3 a3 HO HF HF2 HC2 HC1 HC4 HS
      go_wp2
      go_roundw
      case rel => exact ⟨k + 1, by omega, by go_num, HO3, HF3⟩
      case measure => simp [intOf]; omega
    · obtain rfl : k = YN := by omega
      have HT := Lib.hid (trim_own wr w.heap.size u (addK xs ys k) HO.out (by rw [HLN.out, HXN.out]; omega))
      have hs := HF.out.size
      go_wp2_with fail
      refine HT.out.mono ?_
      rintro e w3 ⟨v, rfl, ho, hf⟩
      have HO2 := Lib.hid (show OwnB 5 w.heap.size w3 v (padd xs ys) by rw [← HRES.out, HYN.out]; exact ho.base hs)
      have HF2 := Lib.hid (HF.out.trans hf)
      clear ho hf HT
      go_wp2
      go_ret
      exact ⟨_, rfl, HO2.out, HF2.out⟩
set_option maxRecDepth 100000 in
set_option maxHeartbeats 4000000 in
theorem padd_lt (A : Nat → Prop) (w : World) (x y : Value) (xs ys : List UInt8) (hx : Bs A w x xs) (hy : Bs A w y ys) (hl : xs.length ≤ 1000) (hc : ys.length < xs.length) :
    Calls Tryz.prog 95 #[y, x] w fun e w' => ∃ u, e = .returned u ∧ OwnB 5 w.heap.size w' u (padd xs ys) ∧ Fr [] w w' := by
  have HX := Lib.hid hx
  have HY := Lib.hid hy
  obtain ⟨xa, xc, rfl, x2, x3, -⟩ := hx
  obtain ⟨ya, yc, rfl, y2, y3, -⟩ := hy
  unfold maxLen at x3 y3
  have HRES := Lib.hid (addK_all xs ys (by omega))
  have HZ := Lib.hid (addK_zero xs ys)
  have HLN := Lib.hid (addK_len xs ys)
  have HCF := Lib.hid (addK_cf xs ys)
  have HST := Lib.hid (addK_step xs ys)
  obtain ⟨XN, hXN⟩ : ∃ n, xs.length = n := ⟨_, rfl⟩
  obtain ⟨YN, hYN⟩ : ∃ n, ys.length = n := ⟨_, rfl⟩
  have HXN := Lib.hid hXN
  have HYN := Lib.hid hYN
  rw [hXN] at HX x2 hl hc ⊢
  rw [hYN] at HY y2 hc ⊢
  clear hXN hYN
  go_enter Tryz.func95, Tryz.ntmps95
  go_wp2_with fail
  refine (clone_any A w _ xs HX.out (by have := HXN.out; omega)).mono ?_
  rintro e w1 ⟨u, rfl, ho, hf⟩
  have HO1 := Lib.hid (show OwnB 5 w.heap.size w1 u (addK xs ys 0) by rw [HZ.out]; exact ho)
  have HF1 := Lib.hid hf
  clear ho hf HX
  go_wp2
  go_loopw [19] (fun i wr => ∃ k : Nat, k ≤ YN ∧ i = .int .i64 k ∧ Hid (OwnB 5 w.heap.size wr u (addK xs ys k)) ∧ Hid (Fr [] w wr)) (fun i _ => YN - (intOf i).toNat)
  case atStart => exact ⟨0, Nat.zero_le _, rfl, HO1, HF1⟩
  case round =>
    clear HO1 HF1
    obtain ⟨k, hk, rfl, HO, HF⟩ := hrel
    by_cases hky : k < YN
    · have hkx : k < XN := by omega
      have hly : (addK xs ys k).length = XN := by rw [HLN.out, HXN.out]
      obtain ⟨g, gc, rfl, hg0, hg1, hg2, -⟩ := HO.out.shape (by omega)
      rw [hly] at hg1 HO ⊢
      unfold maxLen at hg2
      obtain ⟨cur, c1, c2, c3, c4⟩ := own_blk HO.out
      have hcx := c3 k (by omega)
      obtain ⟨z, hz⟩ : ∃ z, ys[k]? = some z := ⟨_, List.getElem?_eq_getElem (by have := HYN.out; omega)⟩
      obtain ⟨yb, yo, rfl, hcy⟩ := bs_cell HY.out k z hz
      have hcy2 := cell_mono HF.out hcy
      have hxv : (addK xs ys k).getD k 0 = cf xs k := by
        have := HCF.out k k (by rw [HXN.out]; exact hkx)
        rw [if_neg (by omega)] at this
        exact this
      rw [hxv] at hcx
      have hcx2 := (cell_of c1 k).trans hcx
      have HS := Lib.hid (HST.out k (by rw [HXN.out]; exact hkx))
      rw [cf_get hz] at HS
      obtain ⟨a, ha⟩ : ∃ a, cf xs k = a := ⟨_, rfl⟩
      rw [ha] at HS hcx2
      have HC4 := Lib.hid (c4 · k (a ^^^ z))
      have HC1 := Lib.hid c1
      have hsz : k < cur.size := by rw [hly] at c2; omega
      clear c3 c4 hcy hz hxv hcx ha c1
      go_wp2_with fail
      refine (fadd_any _ a z).mono ?_
      rintro e w2 ⟨rfl, hf⟩
      have HC2 := Lib.hid (HC1.out.keep0 hf)
      have HF2 := Lib.hid (HF.out.trans hf)
      clear hf hcx2 hcy2
      go_wp2_with (refine wpl_store_one (.tmp 32) (.tmp 31) rfl rfl (.int .u8 ((a ^^^ z).toNat : Int)) rfl rfl HC2.out hsz (by kernel_rfl) rfl ?_)
      intro w3 f3 a3 _
      have HO3 := Lib.hid (show OwnB 5 w.heap.size w3 (.slice (some ⟨g, 0, none⟩) XN gc) (addK xs ys (k + 1)) by rw [← HS.out]; exact HC4.out w3 a3)
      have HF3 := Lib.hid (HF2.out.then f3 (by intro b hb; simp at hb; omega))
      clear f3 a3 HO HF HF2 HC2 HC1 HC4 HS
      go_wp2
      go_roundw
      case rel => exact ⟨k + 1, by omega, by go_num, HO3, HF3⟩
      case measure => simp [intOf]; omega
    · obtain rfl : k = YN := by omega
      have HT := Lib.hid (trim_own wr w.heap.size u (addK xs ys k) HO.out (by rw [HLN.out, HXN.out]; omega))
      have hs := HF.out.size
      go_wp2_with fail
      refine HT.out.mono ?_
      rintro e w3 ⟨v, rfl, ho, hf⟩
      have HO2 := Lib.hid (show OwnB 5 w.heap.size w3 v (padd xs ys) by rw [← HRES.out, HYN.out]; exact ho.base hs)
      have HF2 := Lib.hid (HF.out.trans hf)
      clear ho hf HT
      go_wp2
      go_ret
      exact ⟨_, rfl, HO2.out, HF2.out⟩
theorem padd_any (A : Nat → Prop) (w : World) (p q : Value) (ps qs : List UInt8) (hp : Bs A w p ps) (hq : Bs A w q qs) (hl : ps.length ≤ 1000) (hl2 : qs.length ≤ 1000) :
    Calls Tryz.prog 95 #[p, q] w fun e w' => ∃ u, e = .returned u ∧ OwnB 5 w.heap.size w' u (padd ps qs) ∧ Fr [] w w' := by
  rcases Nat.lt_or_ge ps.length qs.length with h | h
  · rw [padd_comm]; exact padd_lt A w q p qs ps hq hp hl2 h
  · exact padd_ge A w p q ps qs hp hq hl h

/-! Scale -/
def scK (p : List UInt8) (b : UInt8) (k : Nat) : List UInt8 := (List.range p.length).map fun i => if i < k then gmul (cf p i) b else cf p i
theorem scK_len (p : List UInt8) (b : UInt8) (k : Nat) : (scK p b k).length = p.length := by simp [scK]
theorem scK_cf (p : List UInt8) (b : UInt8) (k j : Nat) (hj : j < p.length) : cf (scK p b k) j = if j < k then gmul (cf p j) b else cf p j := by
  unfold scK
  rw [cf_map_range, if_pos hj]
theorem scK_zero (p : List UInt8) (b : UInt8) : scK p b 0 = p := list_ext_cf (scK_len _ _ _) fun j hj => by
  rw [scK_len] at hj
  rw [scK_cf _ _ _ _ hj, if_neg (by omega)]
theorem scK_step (p : List UInt8) (b : UInt8) (k : Nat) (hk : k < p.length) : (scK p b k).set k (gmul (cf p k) b) = scK p b (k + 1) := by
  refine set_ext (by rw [scK_len, scK_len]) (by rw [scK_len]; exact hk) fun j hj => ?_
  rw [scK_len] at hj
  rw [scK_cf _ _ _ _ hj, scK_cf _ _ _ _ hj]
  by_cases h : j = k
  · subst h; rw [if_pos (by omega), if_pos rfl]
  · rw [if_neg h]
    by_cases h2 : j < k
    · rw [if_pos h2, if_pos (by omega)]
    · rw [if_neg h2, if_neg (by omega)]
theorem scK_all (p : List UInt8) (b : UInt8) : ptrim (scK p b p.length) = pscale p b := by
  unfold pscale
  apply ptrim_ext
  intro j
  rw [cf_map_mul]
  unfold scK
  rw [cf_map_range]
  split
  · rfl
  · rename_i h; rw [cf_ge (by omega), zero_gmul]

set_option maxRecDepth 100000 in
set_option maxHeartbeats 4000000 in
theorem pscale_any (A : Nat → Prop) (w : World) (x : Value) (xs : List UInt8) (b : UInt8) (hx : Bs A w x xs) (hl : xs.length ≤ 1000) :
    Calls Tryz.prog 97 #[x, .int .u8 (b.toNat : Int)] w fun e w' => ∃ u, e = .returned u ∧ OwnB 5 w.heap.size w' u (pscale xs b) ∧ Fr [] w w' := by
  have HX := Lib.hid hx
  obtain ⟨xa, xc, rfl, x2, x3, -⟩ := hx
  unfold maxLen at x3
  have HRES := Lib.hid (scK_all xs b)
  have HZ := Lib.hid (scK_zero xs b)
  have HLN := Lib.hid (scK_len xs b)
  have HCF := Lib.hid (scK_cf xs b)
  have HST := Lib.hid (scK_step xs b)
  obtain ⟨XN, hXN⟩ : ∃ n, xs.length = n := ⟨_, rfl⟩
  have HXN := Lib.hid hXN
  rw [hXN] at HX x2 hl ⊢
  clear hXN
  go_enter Tryz.func97, Tryz.ntmps97
  go_wp2_with fail
  refine (make_any _).mono ?_
  rintro e w0 ⟨rfl, hT, hf⟩
  have HT0 := Lib.hid hT
  have HF0 := Lib.hid hf
  have hs0 := hf.size
  clear hT hf
  go_wp2_with fail
  refine (clone_any A w0 _ xs (HX.out.keep HF0.out (by simp)) (by have := HXN.out; omega)).mono ?_
  rintro e w1 ⟨u, rfl, ho, hf⟩
  have hlt := HT0.out.lt
  have HO1 := Lib.hid (show OwnB 5 w0.heap.size w1 u (scK xs b 0) by rw [HZ.out]; exact ho)
  have HT1 := Lib.hid (HT0.out.keep0 hf)
  have HF1 := Lib.hid (HF0.out.trans hf)
  obtain ⟨ua, uc, hu⟩ : ∃ ua uc, u = .slice ua XN uc := by
    obtain ⟨a, c, e, -⟩ := ho.bs (A := fun _ => False) (by simp)
    exact ⟨a, c, by rw [e, HXN.out]⟩
  subst hu
  clear ho hf HX HT0 HF0
  go_wp2
  go_loopw [14] (fun i wr => ∃ k : Nat, k ≤ XN ∧ i = .int .i64 k ∧ Hid (OwnB 5 w0.heap.size wr (.slice ua XN uc) (scK xs b k)) ∧ Hid (At wr w.heap.size (.cells tabF 116)) ∧ Hid (Fr [] w wr)) (fun i _ => XN - (intOf i).toNat)
  case atStart => exact ⟨0, Nat.zero_le _, rfl, HO1, HT1, HF1⟩
  case round =>
    clear HO1 HF1 HT1
    obtain ⟨k, hk, rfl, HO, HT, HF⟩ := hrel
    have hly : (scK xs b k).length = XN := by rw [HLN.out, HXN.out]
    by_cases hkx : k < XN
    · obtain ⟨g, gc, e, hg0, hg1, hg2, -⟩ := HO.out.shape (by omega)
      simp only [Value.slice.injEq] at e
      obtain ⟨rfl, -, rfl⟩ := e
      rw [hly] at hg1
      unfold maxLen at hg2
      have hgt : g ≠ w.heap.size := by omega
      obtain ⟨cur, c1, c2, c3, c4⟩ := own_blk HO.out
      have hcx := c3 k (by omega)
      have hxv : (scK xs b k).getD k 0 = cf xs k := by
        have := HCF.out k k (by rw [HXN.out]; exact hkx)
        rw [if_neg (by omega)] at this
        exact this
      rw [hxv] at hcx
      have hcx2 := (cell_of c1 k).trans hcx
      have HS := Lib.hid (HST.out k (by rw [HXN.out]; exact hkx))
      obtain ⟨a, ha⟩ : ∃ a, cf xs k = a := ⟨_, rfl⟩
      rw [ha] at HS hcx2
      have HC4 := Lib.hid (c4 · k (gmul a b))
      have HC1 := Lib.hid c1
      have hsz : k < cur.size := by rw [hly] at c2; omega
      clear c3 c4 hxv hcx ha c1
      go_wp2_with fail
      refine (tmul_any wr w.heap.size HT.out a b).mono ?_
      rintro e w2 ⟨rfl, hf⟩
      have HC2 := Lib.hid (HC1.out.keep0 hf)
      have HT2 := Lib.hid (HT.out.keep0 hf)
      have HF2 := Lib.hid (HF.out.trans hf)
      clear hf hcx2
      unfold u8v
      go_wp2_with (refine wpl_store_one (.tmp 25) (.tmp 24) rfl rfl (.int .u8 ((gmul a b).toNat : Int)) rfl rfl HC2.out hsz (by kernel_rfl) rfl ?_)
      intro w3 f3 a3 _
      have HO3 := Lib.hid (show OwnB 5 w0.heap.size w3 (.slice (some ⟨g, 0, none⟩) XN uc) (scK xs b (k + 1)) by rw [← HS.out]; exact HC4.out w3 a3)
      have HF3 := Lib.hid (HF2.out.then f3 (by intro b hb; simp at hb; omega))
      have HT3 := Lib.hid (HT2.out.keep f3 (by simpa using hgt.symm))
      clear f3 a3 HO HF HF2 HC2 HC1 HC4 HS HT HT2
      go_wp2
      go_roundw
      case rel => exact ⟨k + 1, by omega, by go_num, HO3, HT3, HF3⟩
      case measure => simp [intOf]; omega
    · obtain rfl : k = XN := by omega
      have HTR := Lib.hid (trim_own wr w0.heap.size _ (scK xs b k) HO.out (by omega))
      have hs := HF.out.size
      clear hly
      go_wp2_with fail
      refine HTR.out.mono ?_
      rintro e w3 ⟨v, rfl, ho, hf⟩
      have HO2 := Lib.hid (show OwnB 5 w.heap.size w3 v (pscale xs b) by rw [← HRES.out, HXN.out]; exact ho.base hs)
      have HF2 := Lib.hid (HF.out.trans hf)
      clear ho hf HTR
      go_wp2
      go_ret
      exact ⟨_, rfl, HO2.out, HF2.out⟩
end Go.Proofs.YtmohiblgfmdkjaaGreatDoor
