/-
  Layer 2: poly.Degree and poly.Trim, of empty ones too.
  Layer 2: poly.Add, poly.Scale.
  Layer 2: poly.Shift, poly.Low, poly.Inverses; the table's quotient.
-/
import Derived.Test.YtmohiblgfmdkjaaDoorJM
import Derived.Test.YtmohiblgfmdkjaaDoorGF
import Derived.Test.YtmohiblgfmdkjaaDoorHW
namespace Go.Proofs.YtmohiblgfmdkjaaDoor
open Go.RowKit Go.Bl
set_option linter.unusedVariables false

theorem bwI_own {w : World} {base : Nat} {v : Value} {xs : List UInt8} (h : OwnB 5 base w v xs) : BwI w.heap.size w v xs := by
  obtain ⟨h1, h2⟩ := h
  rcases h2 with ⟨rfl, h2⟩ | ⟨g, cap, cur, rfl, hg, hh, hn, hm, hs, ht⟩
  · exact .inl ⟨rfl, by simpa using h2⟩
  · refine .inr ⟨g, 0, cap, rfl, lt_of_heap hh, fun j hj => ?_⟩
    have e : (cur.toList.take (xs.length * 1))[j]? = (xs.map u8v)[j]? := by rw [ht]
    rw [List.getElem?_take, if_pos (by omega), Array.getElem?_toList] at e
    rw [cell_of hh, Nat.zero_add, e]
    simp [List.getD_eq_getElem?_getD, hj, u8v]
theorem bwI_of_bs {A : Nat → Prop} {w : World} {v : Value} {xs : List UInt8} (h : Bs A w v xs) (hne : xs ≠ []) : BwI w.heap.size w v xs := by
  obtain ⟨a, cap, -, hI⟩ := bwI_of A w v xs h
  exact hI hne
theorem BwI.fr {w w' : World} {v : Value} {xs : List UInt8} (h : BwI w.heap.size w v xs) (hf : Fr [] w w') : BwI w'.heap.size w' v xs := by
  rcases h with h | ⟨b, off, cap, e, hb, hc⟩
  · exact .inl h
  · exact .inr ⟨b, off, cap, e, by have := hf.size; omega, fun j hj => cell_mono hf (hc j hj)⟩
theorem BwI.bs {w : World} {v : Value} {n : Nat} {xs : List UInt8} (h : BwI n w v xs) : ∃ a cap, v = .slice a xs.length cap := by
  rcases h with ⟨rfl, rfl⟩ | ⟨b, off, cap, e, -⟩
  · exact ⟨_, _, rfl⟩
  · exact ⟨_, _, e⟩
theorem degree_z (w : World) (v : Value) (zs : List UInt8) (hI : BwI w.heap.size w v zs) (hl : zs.length ≤ 1000000) :
    Calls Tryd.prog 86 #[v] w fun e w' => e = .returned (.int .i64 ((plen zs : Int) - 1)) ∧ Fr [] w w' := by
  obtain ⟨a, cap, rfl⟩ := hI.bs
  refine (callsIn_wide.1 (deg_in Fence.wide 3 trivial trivial trivial rfl (by omega) a zs.length cap zs hl w hI)).mono ?_
  rintro e w' ⟨rfl, h⟩
  exact ⟨rfl, Fr.of_below h⟩

set_option maxRecDepth 100000 in
set_option maxHeartbeats 2000000 in
theorem trim_z (A : Nat → Prop) (w : World) (v : Value) (zs : List UInt8) (hb : Bs A w v zs) (hI : BwI w.heap.size w v zs) (hl : zs.length ≤ 1000000) :
    Calls Tryd.prog 108 #[v] w fun e w' => ∃ u, e = .returned u ∧ OwnB 5 w.heap.size w' u (ptrim zs) ∧ Fr [] w w' := by
  have HB := Lib.hid hb
  have HD := Lib.hid (degree_z w v zs hI hl)
  have hpl := plen_le zs
  obtain ⟨a, cap, rfl, h2, h3, -⟩ := hb
  unfold maxLen at h3
  obtain ⟨m, hm⟩ : ∃ m, plen zs = m := ⟨_, rfl⟩
  obtain ⟨N, hN⟩ : ∃ N, zs.length = N := ⟨_, rfl⟩
  have HT := Lib.hid (show ptrim zs = zs.take m by unfold ptrim; rw [hm])
  rw [hm] at HD hpl
  rw [hN] at HD hpl hl h2 HB ⊢
  have HN := Lib.hid hN
  clear hm hN hI
  have hmm : (m : Int) - 1 + 1 = m := by omega
  go_enter Tryd.func108, Tryd.ntmps108
  go_wp2_with fail
  refine HD.out.mono ?_
  rintro e w1 ⟨rfl, hf⟩
  have HF := Lib.hid hf
  replace HB := Lib.hid (HB.out.keep hf (by simp))
  have i1 : m ≤ cap := by omega
  clear hf HD
  go_wp2_with fail
  have hcut := HB.out.take m hpl
  have hs1 := HF.out.size
  refine (clone_any A _ _ _ hcut (by simp; omega)).mono ?_
  rintro e w2 ⟨u, rfl, ho, hf⟩
  have HO := Lib.hid (ho.base hs1)
  have HF2 := Lib.hid (HF.out.trans hf)
  clear ho hf hcut
  go_wp2
  go_ret
  exact ⟨_, rfl, by rw [HT.out]; exact HO.out, HF2.out⟩
theorem trim_own (w : World) (base : Nat) (v : Value) (zs : List UInt8) (ho : OwnB 5 base w v zs) (hl : zs.length ≤ 1000000) :
    Calls Tryd.prog 108 #[v] w fun e w' => ∃ u, e = .returned u ∧ OwnB 5 w.heap.size w' u (ptrim zs) ∧ Fr [] w w' :=
  trim_z (fun _ => False) w v zs (ho.bs (by simp)) (bwI_own ho) hl
end Go.Proofs.YtmohiblgfmdkjaaDoor
namespace Go.Proofs.YtmohiblgfmdkjaaDoor
open Go.RowKit Go.Bl
set_option linter.unusedVariables false

/-- k entries have got those of q -/
def addK (p q : List UInt8) (k : Nat) : List UInt8 := (List.range p.length).map fun i => if i < k then cf p i ^^^ cf q i else cf p i
theorem addK_len (p q : List UInt8) (k : Nat) : (addK p q k).length = p.length := by simp [addK]
theorem addK_cf (p q : List UInt8) (k j : Nat) (hj : j < p.length) : cf (addK p q k) j = if j < k then cf p j ^^^ cf q j else cf p j := by
  unfold addK
  rw [cf_map_range, if_pos hj]
theorem addK_zero (p q : List UInt8) : addK p q 0 = p := list_ext_cf (addK_len _ _ _) fun j hj => by
  rw [addK_len] at hj
  rw [addK_cf _ _ _ _ hj, if_neg (by omega)]
theorem set_ext {l l' : List UInt8} {k : Nat} {x : UInt8} (hl : l'.length = l.length) (hk : k < l.length) (h : ∀ j, j < l.length → cf l' j = if j = k then x else cf l j) : l.set k x = l' := by
  refine list_ext_cf (by rw [List.length_set, hl]) fun j hj => ?_
  rw [List.length_set] at hj
  rw [h j hj]
  unfold cf
  rw [List.getD_eq_getElem?_getD, List.getElem?_set]
  by_cases hjk : k = j
  · subst hjk; simp [hk]
  · rw [if_neg hjk, if_neg (Ne.symm hjk)]; rfl
theorem addK_step (p q : List UInt8) (k : Nat) (hk : k < p.length) : (addK p q k).set k (cf p k ^^^ cf q k) = addK p q (k + 1) := by
  refine set_ext (by rw [addK_len, addK_len]) (by rw [addK_len]; exact hk) fun j hj => ?_
  rw [addK_len] at hj
  rw [addK_cf _ _ _ _ hj, addK_cf _ _ _ _ hj]
  by_cases h : j = k
  · subst h; rw [if_pos (by omega), if_pos rfl]
  · rw [if_neg h]
    by_cases h2 : j < k
    · rw [if_pos h2, if_pos (by omega)]
    · rw [if_neg h2, if_neg (by omega)]
theorem addK_all (p q : List UInt8) (h : q.length ≤ p.length) : ptrim (addK p q q.length) = padd p q := by
  unfold padd
  apply ptrim_ext
  intro j
  rw [cf_map_range, Nat.max_eq_left h]
  unfold addK
  rw [cf_map_range]
  split
  · split
    · rfl
    · rename_i h2; rw [cf_ge (p := q) (by omega), UInt8.xor_zero]
  · rfl
theorem padd_comm (p q : List UInt8) : padd p q = padd q p := by
  unfold padd
  apply ptrim_ext
  intro j
  rw [cf_map_range, cf_map_range, Nat.max_comm]
  split
  · exact UInt8.xor_comm _ _
  · rfl
set_option maxHeartbeats 400000 in
theorem fadd_any (w : World) (a b : UInt8) : Calls Tryd.prog 147 #[.int .u8 (a.toNat : Int), .int .u8 (b.toNat : Int)] w fun e w' => e = .returned (.int .u8 ((a ^^^ b).toNat : Int)) ∧ Fr [] w w' := by
  go_enter Tryd.func147, Tryd.ntmps147
  go_wp2
  go_ret
  exact ⟨by show Ending.returned (.int .u8 (bits .xor .u8 (a.toNat : Int) (b.toNat : Int))) = _; rw [u8_xor_u], Fr.refl _ _⟩

set_option maxRecDepth 100000 in
set_option maxHeartbeats 4000000 in
theorem padd_ge (A : Nat → Prop) (w : World) (x y : Value) (xs ys : List UInt8) (hx : Bs A w x xs) (hy : Bs A w y ys) (hl : xs.length ≤ 1000) (hc : ys.length ≤ xs.length) :
    Calls Tryd.prog 132 #[x, y] w fun e w' => ∃ u, e = .returned u ∧ OwnB 5 w.heap.size w' u (padd xs ys) ∧ Fr [] w w' := by
  have HX := Lib.hid hx
  have HY := Lib.hid hy
  obtain ⟨xa, xc, rfl, x2, x3, -⟩ := hx
  obtain ⟨ya, yc, rfl, y2, y3, -⟩ := hy
  unfold maxLen at x3 y3
  have HRES := Lib.hid (addK_all xs ys (by omega))
  have HZ := Lib.hid (addK_zero xs ys)
  have HLN := Lib.hid (addK_len xs ys)
  have HCF := Lib.hid (addK_cf xs ys)
  have HST := Lib.hid (addK_step xs ys)
  obtain ⟨XN, hXN⟩ : ∃ n, xs.length = n := ⟨_, rfl⟩
  obtain ⟨YN, hYN⟩ : ∃ n, ys.length = n := ⟨_, rfl⟩
  have HXN := Lib.hid hXN
  have HYN := Lib.hid hYN
  rw [hXN] at HX x2 hl hc ⊢
  rw [hYN] at HY y2 hc ⊢
  clear hXN hYN
  go_enter Tryd.func132, Tryd.ntmps132
  go_wp2_with fail
  refine (clone_any A w _ xs HX.out (by have := HXN.out; omega)).mono ?_
  rintro e w1 ⟨u, rfl, ho, hf⟩
  have HO1 := Lib.hid (show OwnB 5 w.heap.size w1 u (addK xs ys 0) by rw [HZ.out]; exact ho)
  have HF1 := Lib.hid hf
  clear ho hf HX
  go_wp2
  go_loopw [19] (fun i wr => ∃ k : Nat, k ≤ YN ∧ i = .int .i64 k ∧ Hid (OwnB 5 w.heap.size wr u (addK xs ys k)) ∧ Hid (Fr [] w wr)) (fun i _ => YN - (intOf i).toNat)
  case atStart => exact ⟨0, Nat.zero_le _, rfl, HO1, HF1⟩
  case round =>
    clear HO1 HF1
    obtain ⟨k, hk, rfl, HO, HF⟩ := hrel
    by_cases hky : k < YN
    · have hkx : k < XN := by omega
      have hly : (addK xs ys k).length = XN := by rw [HLN.out, HXN.out]
      obtain ⟨g, gc, rfl, hg0, hg1, hg2, -⟩ := HO.out.shape (by omega)
      rw [hly] at hg1 HO ⊢
      unfold maxLen at hg2
      obtain ⟨cur, c1, c2, c3, c4⟩ := own_blk HO.out
      have hcx := c3 k (by omega)
      obtain ⟨z, hz⟩ : ∃ z, ys[k]? = some z := ⟨_, List.getElem?_eq_getElem (by have := HYN.out; omega)⟩
      obtain ⟨yb, yo, rfl, hcy⟩ := bs_cell HY.out k z hz
      have hcy2 := cell_mono HF.out hcy
      have hxv : (addK xs ys k).getD k 0 = cf xs k := by
        have := HCF.out k k (by rw [HXN.out]; exact hkx)
        rw [if_neg (by omega)] at this
        exact this
      rw [hxv] at hcx
      have hcx2 := (cell_of c1 k).trans hcx
      have HS := Lib.hid (HST.out k (by rw [HXN.out]; exact hkx))
      rw [cf_get hz] at HS
      obtain ⟨a, ha⟩ : ∃ a, cf xs k = a := ⟨_, rfl⟩
      rw [ha] at HS hcx2
      have HC4 := Lib.hid (c4 · k (a ^^^ z))
      have HC1 := Lib.hid c1
      have hsz : k < cur.size := by rw [hly] at c2; omega
      clear c3 c4 hcy hz hxv hcx ha c1
      go_wp2_with fail
      refine (fadd_any _ a z).mono ?_
      rintro e w2 ⟨rfl, hf⟩
      have HC2 := Lib.hid (HC1.out.keep0 hf)
      have HF2 := Lib.hid (HF.out.trans hf)
      clear hf hcx2 hcy2
      go_wp2_with (refine wpl_store_one (.tmp 32) (.tmp 31) rfl rfl (.int .u8 ((a ^^^ z).toNat : Int)) rfl rfl HC2.out hsz (by kernel_rfl) rfl ?_)
      intro w3 f3 a3 _
      have HO3 := Lib.hid (show OwnB 5 w.heap.size w3 (.slice (some ⟨g, 0, none⟩) XN gc) (addK xs ys (k + 1)) by rw [← HS.out]; exact HC4.out w3 a3)
      have HF3 := Lib.hid (HF2.out.then f3 (by intro b hb; simp at hb; omega))
      clear f3 a3 HO HF HF2 HC2 HC1 HC4 HS
      go_wp2
      go_roundw
      case rel => exact ⟨k + 1, by omega, by go_num, HO3, HF3⟩
      case measure => simp [intOf]; omega
    · obtain rfl : k = YN := by omega
      have HT := Lib.hid (trim_own wr w.heap.size u (addK xs ys k) HO.out (by rw [HLN.out, HXN.out]; omega))
      have hs := HF.out.size
      go_wp2_with fail
      refine HT.out.mono ?_
      rintro e w3 ⟨v, rfl, ho, hf⟩
      have HO2 := Lib.hid (show OwnB 5 w.heap.size w3 v (padd xs ys) by rw [← HRES.out, HYN.out]; exact ho.base hs)
      have HF2 := Lib.hid (HF.out.trans hf)
      clear ho hf HT
      go_wp2
      go_ret
      exact ⟨_, rfl, HO2.out, HF2.out⟩
set_option maxRecDepth 100000 in
set_option maxHeartbeats 4000000 in
theorem padd_lt (A : Nat → Prop) (w : World) (x y : Value) (xs ys : List UInt8) (hx : Bs A w x xs) (hy : Bs A w y ys) (hl : xs.length ≤ 1000) (hc : ys.length < xs.length) :
    Calls Tryd.prog 132 #[y, x] w fun e w' => ∃ u, e = .returned u ∧ OwnB 5 w.heap.size w' u (padd xs ys) ∧ Fr [] w w' := by
  have HX := Lib.hid hx
  have HY := Lib.hid hy
  obtain ⟨xa, xc, rfl, x2, x3, -⟩ := hx
  obtain ⟨ya, yc, rfl, y2, y3, -⟩ := hy
  unfold maxLen at x3 y3
  have HRES := Lib.hid (addK_all xs ys (by omega))
  have HZ := Lib.hid (addK_zero xs ys)
  have HLN := Lib.hid (addK_len xs ys)
  have HCF := Lib.hid (addK_cf xs ys)
  have HST := Lib.hid (addK_step xs ys)
  obtain ⟨XN, hXN⟩ : ∃ n, xs.length = n := ⟨_, rfl⟩
  obtain ⟨YN, hYN⟩ : ∃ n, ys.length = n := ⟨_, rfl⟩
  have HXN := Lib.hid hXN
  have HYN := Lib.hid hYN
  rw [hXN] at HX x2 hl hc ⊢
  rw [hYN] at HY y2 hc ⊢
  clear hXN hYN
  go_enter Tryd.func132, Tryd.ntmps132
  go_wp2_with fail
  refine (clone_any A w _ xs HX.out (by have := HXN.out; omega)).mono ?_
  rintro e w1 ⟨u, rfl, ho, hf⟩
  have HO1 := Lib.hid (show OwnB 5 w.heap.size w1 u (addK xs ys 0) by rw [HZ.out]; exact ho)
  have HF1 := Lib.hid hf
  clear ho hf HX
  go_wp2
  go_loopw [19] (fun i wr => ∃ k : Nat, k ≤ YN ∧ i = .int .i64 k ∧ Hid (OwnB 5 w.heap.size wr u (addK xs ys k)) ∧ Hid (Fr [] w wr)) (fun i _ => YN - (intOf i).toNat)
  case atStart => exact ⟨0, Nat.zero_le _, rfl, HO1, HF1⟩
  case round =>
    clear HO1 HF1
    obtain ⟨k, hk, rfl, HO, HF⟩ := hrel
    by_cases hky : k < YN
    · have hkx : k < XN := by omega
      have hly : (addK xs ys k).length = XN := by rw [HLN.out, HXN.out]
      obtain ⟨g, gc, rfl, hg0, hg1, hg2, -⟩ := HO.out.shape (by omega)
      rw [hly] at hg1 HO ⊢
      unfold maxLen at hg2
      obtain ⟨cur, c1, c2, c3, c4⟩ := own_blk HO.out
      have hcx := c3 k (by omega)
      obtain ⟨z, hz⟩ : ∃ z, ys[k]? = some z := ⟨_, List.getElem?_eq_getElem (by have := HYN.out; omega)⟩
      obtain ⟨yb, yo, rfl, hcy⟩ := bs_cell HY.out k z hz
      have hcy2 := cell_mono HF.out hcy
      have hxv : (addK xs ys k).getD k 0 = cf xs k := by
        have := HCF.out k k (by rw [HXN.out]; exact hkx)
        rw [if_neg (by omega)] at this
        exact this
      rw [hxv] at hcx
      have hcx2 := (cell_of c1 k).trans hcx
      have HS := Lib.hid (HST.out k (by rw [HXN.out]; exact hkx))
      rw [cf_get hz] at HS
      obtain ⟨a, ha⟩ : ∃ a, cf xs k = a := ⟨_, rfl⟩
      rw [ha] at HS hcx2
      have HC4 := Lib.hid (c4 · k (a ^^^ z))
      have HC1 := Lib.hid c1
      have hsz : k < cur.size := by rw [hly] at c2; omega
      clear c3 c4 hcy hz hxv hcx ha c1
      go_wp2_with fail
      refine (fadd_any _ a z).mono ?_
      rintro e w2 ⟨rfl, hf⟩
      have HC2 := Lib.hid (HC1.out.keep0 hf)
      have HF2 := Lib.hid (HF.out.trans hf)
      clear hf hcx2 hcy2
      go_wp2_with (refine wpl_store_one (.tmp 32) (.tmp 31) rfl rfl (.int .u8 ((a ^^^ z).toNat : Int)) rfl rfl HC2.out hsz (by kernel_rfl) rfl ?_)
      intro w3 f3 a3 _
      have HO3 := Lib.hid (show OwnB 5 w.heap.size w3 (.slice (some ⟨g, 0, none⟩) XN gc) (addK xs ys (k + 1)) by rw [← HS.out]; exact HC4.out w3 a3)
      have HF3 := Lib.hid (HF2.out.then f3 (by intro b hb; simp at hb; omega))
      clear f3 a3 HO HF HF2 HC2 HC1 HC4 HS
      go_wp2
      go_roundw
      case rel => exact ⟨k + 1, by omega, by go_num, HO3, HF3⟩
      case measure => simp [intOf]; omega
    · obtain rfl : k = YN := by omega
      have HT := Lib.hid (trim_own wr w.heap.size u (addK xs ys k) HO.out (by rw [HLN.out, HXN.out]; omega))
      have hs := HF.out.size
      go_wp2_with fail
      refine HT.out.mono ?_
      rintro e w3 ⟨v, rfl, ho, hf⟩
      have HO2 := Lib.hid (show OwnB 5 w.heap.size w3 v (padd xs ys) by rw [← HRES.out, HYN.out]; exact ho.base hs)
      have HF2 := Lib.hid (HF.out.trans hf)
      clear ho hf HT
      go_wp2
      go_ret
      exact ⟨_, rfl, HO2.out, HF2.out⟩
theorem padd_any (A : Nat → Prop) (w : World) (p q : Value) (ps qs : List UInt8) (hp : Bs A w p ps) (hq : Bs A w q qs) (hl : ps.length ≤ 1000) (hl2 : qs.length ≤ 1000) :
    Calls Tryd.prog 132 #[p, q] w fun e w' => ∃ u, e = .returned u ∧ OwnB 5 w.heap.size w' u (padd ps qs) ∧ Fr [] w w' := by
  rcases Nat.lt_or_ge ps.length qs.length with h | h
  · rw [padd_comm]; exact padd_lt A w q p qs ps hq hp hl2 h
  · exact padd_ge A w p q ps qs hp hq hl h

/-! Scale -/
def scK (p : List UInt8) (b : UInt8) (k : Nat) : List UInt8 := (List.range p.length).map fun i => if i < k then gmul (cf p i) b else cf p i
theorem scK_len (p : List UInt8) (b : UInt8) (k : Nat) : (scK p b k).length = p.length := by simp [scK]
theorem scK_cf (p : List UInt8) (b : UInt8) (k j : Nat) (hj : j < p.length) : cf (scK p b k) j = if j < k then gmul (cf p j) b else cf p j := by
  unfold scK
  rw [cf_map_range, if_pos hj]
theorem scK_zero (p : List UInt8) (b : UInt8) : scK p b 0 = p := list_ext_cf (scK_len _ _ _) fun j hj => by
  rw [scK_len] at hj
  rw [scK_cf _ _ _ _ hj, if_neg (by omega)]
theorem scK_step (p : List UInt8) (b : UInt8) (k : Nat) (hk : k < p.length) : (scK p b k).set k (gmul (cf p k) b) = scK p b (k + 1) := by
  refine set_ext (by rw [scK_len, scK_len]) (by rw [scK_len]; exact hk) fun j hj => ?_
  rw [scK_len] at hj
  rw [scK_cf _ _ _ _ hj, scK_cf _ _ _ _ hj]
  by_cases h : j = k
  · subst h; rw [if_pos (by omega), if_pos rfl]
  · rw [if_neg h]
    by_cases h2 : j < k
    · rw [if_pos h2, if_pos (by omega)]
    · rw [if_neg h2, if_neg (by omega)]
theorem scK_all (p : List UInt8) (b : UInt8) : ptrim (scK p b p.length) = pscale p b := by
  unfold pscale
  apply ptrim_ext
  intro j
  rw [cf_map_mul]
  unfold scK
  rw [cf_map_range]
  split
  · rfl
  · rename_i h; rw [cf_ge (by omega), zero_gmul]

set_option maxRecDepth 100000 in
set_option maxHeartbeats 4000000 in
theorem pscale_any (A : Nat → Prop) (w : World) (x : Value) (xs : List UInt8) (b : UInt8) (hx : Bs A w x xs) (hl : xs.length ≤ 1000) :
    Calls Tryd.prog 134 #[x, .int .u8 (b.toNat : Int)] w fun e w' => ∃ u, e = .returned u ∧ OwnB 5 w.heap.size w' u (pscale xs b) ∧ Fr [] w w' := by
  have HX := Lib.hid hx
  obtain ⟨xa, xc, rfl, x2, x3, -⟩ := hx
  unfold maxLen at x3
  have HRES := Lib.hid (scK_all xs b)
  have HZ := Lib.hid (scK_zero xs b)
  have HLN := Lib.hid (scK_len xs b)
  have HCF := Lib.hid (scK_cf xs b)
  have HST := Lib.hid (scK_step xs b)
  obtain ⟨XN, hXN⟩ : ∃ n, xs.length = n := ⟨_, rfl⟩
  have HXN := Lib.hid hXN
  rw [hXN] at HX x2 hl ⊢
  clear hXN
  go_enter Tryd.func134, Tryd.ntmps134
  go_wp2_with fail
  refine (make_any _).mono ?_
  rintro e w0 ⟨rfl, hT, hf⟩
  have HT0 := Lib.hid hT
  have HF0 := Lib.hid hf
  have hs0 := hf.size
  clear hT hf
  go_wp2_with fail
  refine (clone_any A w0 _ xs (HX.out.keep HF0.out (by simp)) (by have := HXN.out; omega)).mono ?_
  rintro e w1 ⟨u, rfl, ho, hf⟩
  have hlt := HT0.out.lt
  have HO1 := Lib.hid (show OwnB 5 w0.heap.size w1 u (scK xs b 0) by rw [HZ.out]; exact ho)
  have HT1 := Lib.hid (HT0.out.keep0 hf)
  have HF1 := Lib.hid (HF0.out.trans hf)
  obtain ⟨ua, uc, hu⟩ : ∃ ua uc, u = .slice ua XN uc := by
    obtain ⟨a, c, e, -⟩ := ho.bs (A := fun _ => False) (by simp)
    exact ⟨a, c, by rw [e, HXN.out]⟩
  subst hu
  clear ho hf HX HT0 HF0
  go_wp2
  go_loopw [14] (fun i wr => ∃ k : Nat, k ≤ XN ∧ i = .int .i64 k ∧ Hid (OwnB 5 w0.heap.size wr (.slice ua XN uc) (scK xs b k)) ∧ Hid (At wr w.heap.size (.cells tabF 171)) ∧ Hid (Fr [] w wr)) (fun i _ => XN - (intOf i).toNat)
  case atStart => exact ⟨0, Nat.zero_le _, rfl, HO1, HT1, HF1⟩
  case round =>
    clear HO1 HF1 HT1
    obtain ⟨k, hk, rfl, HO, HT, HF⟩ := hrel
    have hly : (scK xs b k).length = XN := by rw [HLN.out, HXN.out]
    by_cases hkx : k < XN
    · obtain ⟨g, gc, e, hg0, hg1, hg2, -⟩ := HO.out.shape (by omega)
      simp only [Value.slice.injEq] at e
      obtain ⟨rfl, -, rfl⟩ := e
      rw [hly] at hg1
      unfold maxLen at hg2
      have hgt : g ≠ w.heap.size := by omega
      obtain ⟨cur, c1, c2, c3, c4⟩ := own_blk HO.out
      have hcx := c3 k (by omega)
      have hxv : (scK xs b k).getD k 0 = cf xs k := by
        have := HCF.out k k (by rw [HXN.out]; exact hkx)
        rw [if_neg (by omega)] at this
        exact this
      rw [hxv] at hcx
      have hcx2 := (cell_of c1 k).trans hcx
      have HS := Lib.hid (HST.out k (by rw [HXN.out]; exact hkx))
      obtain ⟨a, ha⟩ : ∃ a, cf xs k = a := ⟨_, rfl⟩
      rw [ha] at HS hcx2
      have HC4 := Lib.hid (c4 · k (gmul a b))
      have HC1 := Lib.hid c1
      have hsz : k < cur.size := by rw [hly] at c2; omega
      clear c3 c4 hxv hcx ha c1
      go_wp2_with fail
      refine (tmul_any wr w.heap.size HT.out a b).mono ?_
      rintro e w2 ⟨rfl, hf⟩
      have HC2 := Lib.hid (HC1.out.keep0 hf)
      have HT2 := Lib.hid (HT.out.keep0 hf)
      have HF2 := Lib.hid (HF.out.trans hf)
      clear hf hcx2
      unfold u8v
      go_wp2_with (refine wpl_store_one (.tmp 25) (.tmp 24) rfl rfl (.int .u8 ((gmul a b).toNat : Int)) rfl rfl HC2.out hsz (by kernel_rfl) rfl ?_)
      intro w3 f3 a3 _
      have HO3 := Lib.hid (show OwnB 5 w0.heap.size w3 (.slice (some ⟨g, 0, none⟩) XN uc) (scK xs b (k + 1)) by rw [← HS.out]; exact HC4.out w3 a3)
      have HF3 := Lib.hid (HF2.out.then f3 (by intro b hb; simp at hb; omega))
      have HT3 := Lib.hid (HT2.out.keep f3 (by simpa using hgt.symm))
      clear f3 a3 HO HF HF2 HC2 HC1 HC4 HS HT HT2
      go_wp2
      go_roundw
      case rel => exact ⟨k + 1, by omega, by go_num, HO3, HT3, HF3⟩
      case measure => simp [intOf]; omega
    · obtain rfl : k = XN := by omega
      have HTR := Lib.hid (trim_own wr w0.heap.size _ (scK xs b k) HO.out (by omega))
      have hs := HF.out.size
      clear hly
      go_wp2_with fail
      refine HTR.out.mono ?_
      rintro e w3 ⟨v, rfl, ho, hf⟩
      have HO2 := Lib.hid (show OwnB 5 w.heap.size w3 v (pscale xs b) by rw [← HRES.out, HXN.out]; exact ho.base hs)
      have HF2 := Lib.hid (HF.out.trans hf)
      clear ho hf HTR
      go_wp2
      go_ret
      exact ⟨_, rfl, HO2.out, HF2.out⟩
end Go.Proofs.YtmohiblgfmdkjaaDoor
namespace Go.Proofs.YtmohiblgfmdkjaaDoor
open Go.RowKit Go.Bl
set_option linter.unusedVariables false

theorem pscale_len (p : List UInt8) (b : UInt8) : (pscale p b).length ≤ p.length := by
  have := ptrim_len (p.map fun c => gmul c b)
  rw [List.length_map] at this
  exact this
theorem pshift_len (p : List UInt8) (n : Nat) : (pshift p n).length ≤ n + p.length := by
  have := ptrim_len (List.replicate n 0 ++ p)
  rw [List.length_append, List.length_replicate] at this
  exact this

theorem zeros_cells (n : Nat) : madeCells #[.int .u8 0] n = ((List.replicate n (0 : UInt8)).map u8v).toArray := by
  apply Array.ext
  · simp [madeCells]
  · intro i h1 h2
    simp [madeCells, u8v, Nat.mod_one]

set_option maxRecDepth 100000 in
set_option maxHeartbeats 2000000 in
theorem pshift_any (A : Nat → Prop) (w : World) (x : Value) (xs : List UInt8) (n : Nat) (hx : Bs A w x xs) (hl : xs.length ≤ 1000) (hn : n ≤ 1000) :
    Calls Tryd.prog 133 #[x, .int .i64 n] w fun e w' => ∃ u, e = .returned u ∧ OwnB 5 w.heap.size w' u (pshift xs n) ∧ Fr [] w w' := by
  have HX := Lib.hid hx
  obtain ⟨xa, xc, rfl, x2, x3, -⟩ := hx
  unfold maxLen at x3
  obtain ⟨i0, hi, hz, hsz, hby⟩ := info_bytes Tryd.infoByte
  obtain ⟨XN, hXN⟩ : ∃ n, xs.length = n := ⟨_, rfl⟩
  have HXN := Lib.hid hXN
  rw [hXN] at HX x2 hl ⊢
  clear hXN
  have HO := Lib.hid (show OwnB 5 w.heap.size (w.alloc (.cells (madeCells #[.int .u8 0] n) 5)) (.slice (some ⟨w.heap.size, 0, none⟩) n n) (List.replicate n 0) by
    have h := own_lit (e := 5) (base := w.heap.size) w (madeCells #[.int .u8 0] n) (List.replicate n 0) (Nat.le_refl _) (by rw [zeros_cells]) (by simp; omega)
    rw [List.length_replicate] at h
    exact h)
  have HF := Lib.hid (show Fr [] w (w.alloc (.cells (madeCells #[.int .u8 0] n) 5)) from Fr.alloc _ _)
  have HX2 := Lib.hid (HX.out.mono (A' := fun _ => False) HF.out (by simp) (fun _ h => h.elim))
  go_enter Tryd.func133, Tryd.ntmps133
  have hs := HF.out.size
  go_wp2_with (first | (refine wpList_make_row _ rfl (.tmp 7) (.tmp 7) 22 rfl 5 i0 (.int .u8 0) Tryd.underlying22 hi hz hsz rfl .i64 .i64 n (by go_num) (by go_num) (by rw [hby]; omega) (by omega) ?_) | (at_builtin; refine wpl_append_bs (A := fun _ => False) (ys := xs) (base := w.heap.size) Tryd.underlying22 Tryd.infoByte rfl (.tmp 8) (.tmp 9) rfl rfl rfl HO.out HX2.out (by rw [List.length_replicate, HXN.out]; omega) hs ?_))
  intro v3 w3 h5 h6
  have HO3 := Lib.hid h5
  have HF3 := Lib.hid (show Fr [] w w3 from OwnB.fr HO.out HF.out h6 (Nat.le_refl _))
  have HT := Lib.hid (trim_own w3 w.heap.size v3 _ HO3.out (by rw [List.length_append, List.length_replicate, HXN.out]; omega))
  have hs3 := HF3.out.size
  clear h5 h6 HO HF HX2
  go_wp2_with fail
  refine HT.out.mono ?_
  rintro e w4 ⟨u, rfl, ho, hf⟩
  have HO4 := Lib.hid (show OwnB 5 w.heap.size w4 u (pshift xs n) from ho.base hs3)
  have HF4 := Lib.hid (HF3.out.trans hf)
  clear ho hf HT
  go_wp2
  go_ret
  exact ⟨_, rfl, HO4.out, HF4.out⟩

theorem BwI.take {N : Nat} {w : World} {a : Option Addr} {n c : Nat} {zs : List UInt8} (h : BwI N w (.slice a n c) zs) (k : Nat) (hk : k ≤ zs.length) : BwI N w (.slice a k c) (zs.take k) := by
  rcases h with ⟨e, rfl⟩ | ⟨b, off, cap, e, hb, hc⟩
  · cases e
    obtain rfl : k = 0 := by simpa using hk
    exact .inl ⟨rfl, rfl⟩
  · simp only [Value.slice.injEq] at e
    obtain ⟨rfl, -, rfl⟩ := e
    refine .inr ⟨b, off, c, by rw [List.length_take, Nat.min_eq_left hk], hb, fun j hj => ?_⟩
    rw [List.length_take] at hj
    rw [hc j (by omega)]
    simp [List.getD_eq_getElem?_getD, List.getElem?_take, show j < k by omega]
set_option maxRecDepth 100000 in
set_option maxHeartbeats 2000000 in
theorem plow_any (A : Nat → Prop) (w : World) (x : Value) (xs : List UInt8) (n : Nat) (hx : Bs A w x xs) (hI : BwI w.heap.size w x xs) (hl : xs.length ≤ 1000) (hn : n ≤ 1000) :
    Calls Tryd.prog 88 #[x, .int .i64 n] w fun e w' => ∃ u, e = .returned u ∧ OwnB 5 w.heap.size w' u (ptrim (xs.take n)) ∧ Fr [] w w' := by
  have HX := Lib.hid hx
  have HI := Lib.hid hI
  obtain ⟨xa, xc, rfl, x2, x3, -⟩ := hx
  unfold maxLen at x3
  obtain ⟨XN, hXN⟩ : ∃ n, xs.length = n := ⟨_, rfl⟩
  have HXN := Lib.hid hXN
  rw [hXN] at HX HI x2 hl ⊢
  clear hXN hI
  by_cases h : n ≤ XN
  · have HT := Lib.hid (trim_z A w (.slice xa n xc) (xs.take n) (HX.out.take n h) (HI.out.take n (by rw [HXN.out]; exact h)) (by rw [List.length_take]; omega))
    have hmc : n ≤ xc := by omega
    have hi : (n : Int) ≤ XN := by omega
    go_enter Tryd.func88, Tryd.ntmps88
    go_wp2_with fail
    refine HT.out.mono ?_
    rintro e w4 ⟨u, rfl, ho, hf⟩
    have HO4 := Lib.hid ho
    have HF4 := Lib.hid hf
    clear ho hf HT
    go_wp2
    go_ret
    exact ⟨_, rfl, HO4.out, HF4.out⟩
  · rw [List.take_of_length_le (by rw [HXN.out]; omega)]
    have HT := Lib.hid (trim_z A w (.slice xa XN xc) xs HX.out HI.out (by rw [HXN.out]; omega))
    have hi : ¬ (n : Int) ≤ XN := by omega
    go_enter Tryd.func88, Tryd.ntmps88
    go_wp2_with fail
    refine HT.out.mono ?_
    rintro e w4 ⟨u, rfl, ho, hf⟩
    have HO4 := Lib.hid ho
    have HF4 := Lib.hid hf
    clear ho hf HT
    go_wp2
    go_ret
    exact ⟨_, rfl, HO4.out, HF4.out⟩

theorem pinvs_len (rs : List UInt8) : ∀ k, (pinvs (rs.take k)).length ≤ 1 + 2 * k
  | 0 => by simp [pinvs]
  | k + 1 => by
    cases h : rs[k]? with
    | none =>
      have hl := List.getElem?_eq_none_iff.1 h
      rw [List.take_of_length_le (by omega)]
      have := pinvs_len rs k
      rw [List.take_of_length_le hl] at this
      omega
    | some r =>
      rw [pinvs_take rs k r h]
      have := pmul_len (pinvs (rs.take k)) [1, r]
      have := pinvs_len rs k
      simp at *
      omega
set_option maxRecDepth 100000 in
set_option maxHeartbeats 4000000 in
theorem pinvs_any (A : Nat → Prop) (w : World) (v : Value) (rs : List UInt8) (hb : Bs A w v rs) (hl : rs.length ≤ 60) :
    Calls Tryd.prog 106 #[v] w fun e w' => ∃ u, e = .returned u ∧ OwnB 5 w.heap.size w' u (pinvs rs) ∧ Fr [] w w' := by
  have HB := Lib.hid hb
  obtain ⟨a, cap, rfl, h2, h3, -⟩ := hb
  unfold maxLen at h3
  obtain ⟨N, hN⟩ : ∃ N, rs.length = N := ⟨_, rfl⟩
  rw [hN] at HB h2 hl ⊢
  have HN := Lib.hid hN
  clear hN
  have HO := Lib.hid (show OwnB 5 w.heap.size (w.alloc (.cells #[.int .u8 1] 5)) (.slice (some ⟨w.heap.size, 0, none⟩) 1 1) (pinvs (rs.take 0)) from own_lit w #[.int .u8 1] [1] (Nat.le_refl _) rfl (by simp))
  go_enter Tryd.func106, Tryd.ntmps106
  go_wp2
  go_loopw [3, 9] (fun o i wr => ∃ j : Nat, j ≤ N ∧ i = .int .i64 j ∧ Hid (OwnB 5 w.heap.size wr o (pinvs (rs.take j))) ∧ Hid (Fr [] w wr)) (fun _ i _ => N - (intOf i).toNat)
  case atStart => exact ⟨0, by omega, rfl, HO.out, Fr.alloc _ _⟩
  case round =>
    clear HO
    obtain ⟨j, hj, rfl, HO, HF⟩ := hrel
    by_cases hjn : j < N
    · obtain ⟨x, hx⟩ : ∃ x, rs[j]? = some x := ⟨_, List.getElem?_eq_getElem (by have := HN.out; omega)⟩
      obtain ⟨b, off, rfl, hc⟩ := bs_cell HB.out j x hx
      have hcx := cell_mono HF.out hc
      have HT := Lib.hid (pinvs_take rs j x hx)
      have HL := Lib.hid (pinvs_len rs j)
      obtain ⟨oo, on, oc, rfl⟩ := bs_shp (HO.out.bs (A := fun _ => False) (by simp))
      clear hx hc
      go_wp2_with fail
      have hbs := bs_lit (A := fun _ => False) wr #[.int .u8 1, .int .u8 (x.toNat : Int)] 5 [1, x] (by simp) rfl (by simp)
      have hal : Fr [] wr (wr.alloc (.cells #[.int .u8 1, .int .u8 (x.toNat : Int)] 5)) := Fr.alloc _ _
      have hs := (HF.out.trans hal).size
      refine (pmul_any (fun _ => False) _ _ _ _ _ ((HO.out.keep hal (by simp)).bs (by simp)) hbs (by simp) (by have := HL.out; simp; omega)).mono ?_
      rintro e w2 ⟨u, rfl, ho, hf⟩
      have HO2 := Lib.hid (show OwnB 5 w.heap.size w2 u (pinvs (rs.take (j + 1))) by rw [HT.out]; exact ho.base hs)
      have HF2 := Lib.hid ((HF.out.trans hal).trans hf)
      clear ho hf hbs hal HO HF hcx
      go_wp2
      go_roundw
      case rel => exact ⟨j + 1, by omega, by go_num, HO2.out, HF2.out⟩
      case measure => simp [intOf]; omega
    · obtain rfl : j = N := by omega
      have HO2 := Lib.hid (show OwnB 5 w.heap.size wr u3 (pinvs rs) by have h := HO.out; rwa [List.take_of_length_le (by have := HN.out; omega)] at h)
      clear HO
      go_wp2
      go_ret
      exact ⟨_, rfl, HO2.out, HF.out⟩

set_option maxRecDepth 100000 in
set_option maxHeartbeats 2000000 in
theorem tdiv_any (w : World) (b : Nat) (hT : At w b (.cells tabF 171)) (x y : UInt8) : Calls Tryd.prog 131 #[.pointer (some ⟨b, 0, none⟩), .int .u8 (x.toNat : Int), .int .u8 (y.toNat : Int)] w fun e w' => e = .returned (.int .u8 ((gmul x (ginv y)).toNat : Int)) ∧ Fr [] w w' := by
  have hxx := x.toNat_lt
  have hyy := y.toNat_lt
  by_cases hx : x = 0
  · subst hx
    rw [zero_gmul]
    go_enter Tryd.func131, Tryd.ntmps131
    go_wp2
    go_ret
    exact ⟨rfl, Fr.refl _ _⟩
  · have hx0 : x.toNat ≠ 0 := fun e => hx (UInt8.toNat_inj.1 e)
    by_cases hy : y = 0
    · subst hy
      rw [ginv_zero, gmul_zero]
      obtain ⟨m, hm⟩ : ∃ m, x.toNat = m := ⟨_, rfl⟩
      rw [hm] at hxx hx0 ⊢
      clear hm
      have b1 : ((m : Int) == 0) = false := by rw [beq_eq_false_iff_ne]; omega
      go_enter Tryd.func131, Tryd.ntmps131
      go_wp2
      go_ret
      exact ⟨rfl, Fr.refl _ _⟩
    · have hy0 : y.toNat ≠ 0 := fun e => hy (UInt8.toNat_inj.1 e)
      have hlx := hT.cell (510 + x.toNat)
      rw [tabF_log x hx] at hlx
      have hly := hT.cell (510 + y.toNat)
      rw [tabF_log y hy] at hly
      have h1 := (gexp_glog x hx).2
      have h2 := (gexp_glog y hy).2
      obtain ⟨k, hk⟩ : ∃ k, k + glog y = glog x + 255 := ⟨glog x + 255 - glog y, by omega⟩
      have hr := hT.cell k
      rw [tabF_exp _ (by omega)] at hr
      rw [show gmul x (ginv y) = gexp k by
        unfold ginv
        rw [if_neg hy]
        conv => lhs; arg 1; rw [← (gexp_glog x hx).1]
        rw [gexp_add, show glog x + (255 - glog y) = k by omega]]
      unfold u8v at hr
      obtain ⟨g, hg⟩ : ∃ g, (gexp k).toNat = g := ⟨_, rfl⟩
      rw [hg] at hr ⊢
      obtain ⟨i, hi⟩ : ∃ i, glog x = i := ⟨_, rfl⟩
      obtain ⟨j, hj⟩ : ∃ j, glog y = j := ⟨_, rfl⟩
      rw [hi] at h1 hlx hk
      rw [hj] at h2 hly hk
      obtain ⟨m, hm⟩ : ∃ m, x.toNat = m := ⟨_, rfl⟩
      obtain ⟨n, hn⟩ : ∃ n, y.toNat = n := ⟨_, rfl⟩
      rw [hm] at hxx hx0 hlx ⊢
      rw [hn] at hyy hy0 hly ⊢
      clear hm hn hi hj hg hx hy
      have q1 := fun z : Kin w => cell_mono z.fr hlx
      have q2 := fun z : Kin w => cell_mono z.fr hly
      have q3 := fun z : Kin w => cell_mono z.fr hr
      have b1 : ((m : Int) == 0) = false := by rw [beq_eq_false_iff_ne]; omega
      have b2 : ((n : Int) == 0) = false := by rw [beq_eq_false_iff_ne]; omega
      have hkk : (i : Int) + 255 - j = k := by omega
      have hk5 : k < 510 := by omega
      clear hT hlx hly hr hx0 hy0 hk
      go_enter Tryd.func131, Tryd.ntmps131
      go_wp2_with fail
      refine wp_region_calm w (by kernel_rfl) (by kernel_rfl) (Fr.of_heap rfl rfl rfl rfl) ?_
      repeat (go_big_quiet_step (fail))
      refine wpQuiet_nil ?_
      rintro _ ⟨wq, rfl⟩
      go_wp2
      go_ret
      exact ⟨rfl, wq.fr⟩
end Go.Proofs.YtmohiblgfmdkjaaDoor
