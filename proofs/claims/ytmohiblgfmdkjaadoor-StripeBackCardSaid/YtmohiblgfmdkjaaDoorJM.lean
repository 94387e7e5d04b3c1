/-
  Layer 2: poly.Trim, poly.Mul, poly.Roots.
  Layers 2 and 3: poly.Roots, code.Generator.
  slices.Concat of lists of bytes.
  Layer 6: slices.ContainsFunc of bytes, with stripe.Rebuild's function (is a byte not nought?).
-/
import Derived.Test.YtmohiblgfmdkjaaDoorGO
import Derived.Test.YtmohiblgfmdkjaaDoorHW
import Derived.Deep.OwnRows
import Derived.Test.YtmohiblgfmdkjaaDoorGD
namespace Go.Proofs.YtmohiblgfmdkjaaDoor
open Go.RowKit Go.Bl
set_option linter.unusedVariables false

theorem Fr.of_below {w w' : World} (h : Below w.heap.size w w') : Fr [] w w' := ⟨h.os, h.tape, h.output, h.size, fun k hk _ => h.block k hk⟩
theorem degree_any (A : Nat → Prop) (w : World) (v : Value) (zs : List UInt8) (hb : Bs A w v zs) (hne : zs ≠ []) (hl : zs.length ≤ 1000000) :
    Calls Tryd.prog 86 #[v] w fun e w' => e = .returned (.int .i64 ((plen zs : Int) - 1)) ∧ Fr [] w w' := by
  obtain ⟨a, cap, rfl, hI⟩ := bwI_of A w v zs hb
  refine (callsIn_wide.1 (deg_in Fence.wide 3 trivial trivial trivial rfl (by omega) a zs.length cap zs hl w (hI hne))).mono ?_
  rintro e w' ⟨rfl, h⟩
  exact ⟨rfl, Fr.of_below h⟩

set_option maxRecDepth 100000 in
set_option maxHeartbeats 2000000 in
theorem trim_any (A : Nat → Prop) (w : World) (v : Value) (zs : List UInt8) (hb : Bs A w v zs) (hne : zs ≠ []) (hl : zs.length ≤ 1000000) :
    Calls Tryd.prog 108 #[v] w fun e w' => ∃ u, e = .returned u ∧ OwnB 5 w.heap.size w' u (ptrim zs) ∧ Fr [] w w' := by
  have HB := Lib.hid hb
  have HD := Lib.hid (degree_any A w v zs hb hne hl)
  have hpl := plen_le zs
  obtain ⟨a, cap, rfl, h2, h3, -⟩ := hb
  unfold maxLen at h3
  obtain ⟨m, hm⟩ : ∃ m, plen zs = m := ⟨_, rfl⟩
  obtain ⟨N, hN⟩ : ∃ N, zs.length = N := ⟨_, rfl⟩
  have HT := Lib.hid (show ptrim zs = zs.take m by unfold ptrim; rw [hm])
  rw [hm] at HD hpl
  rw [hN] at HD hpl hl h2 HB ⊢
  have HN := Lib.hid hN
  clear hm hN hne
  have hmm : (m : Int) - 1 + 1 = m := by omega
  go_enter Tryd.func108, Tryd.ntmps108
  go_wp2_with fail
  refine HD.out.mono ?_
  rintro e w1 ⟨rfl, hf⟩
  have HF := Lib.hid hf
  replace HB := Lib.hid (HB.out.keep hf (by simp))
  have i1 : m ≤ cap := by omega
  clear hf HD
  go_wp2_with fail
  have hcut := HB.out.take m hpl
  have hs1 := HF.out.size
  refine (clone_any A _ _ _ hcut (by simp; omega)).mono ?_
  rintro e w2 ⟨u, rfl, ho, hf⟩
  have HO := Lib.hid (ho.base hs1)
  have HF2 := Lib.hid (HF.out.trans hf)
  clear ho hf hcut
  go_wp2
  go_ret
  exact ⟨_, rfl, by rw [HT.out]; exact HO.out, HF2.out⟩

set_option maxRecDepth 100000 in
theorem bs_shp {A : Nat → Prop} {w : World} {v : Value} {xs : List UInt8} (h : Bs A w v xs) : ∃ bo bn bc, v = .slice bo bn bc := by
  obtain ⟨a, cap, rfl, -⟩ := h
  exact ⟨_, _, _, rfl⟩
theorem bs_cell {A : Nat → Prop} {w : World} {a : Option Addr} {n cap : Nat} {xs : List UInt8} (h : Bs A w (.slice a n cap) xs) (j : Nat) (x : UInt8) (hx : xs[j]? = some x) :
    ∃ b off, a = some ⟨b, off, none⟩ ∧ w.cell? ⟨b, off + j, none⟩ = some (.int .u8 (x.toNat : Int)) := by
  obtain ⟨a', cap', e, h2, h3, h4⟩ := h
  cases e
  have hj : j < xs.length := (List.getElem?_eq_some_iff.1 hx).1
  obtain ⟨b, off, rfl, -, hc⟩ := h4.some_of (by simp; omega)
  refine ⟨b, off, rfl, ?_⟩
  rw [hc j (by simpa using hj), List.getElem?_map, hx]
  rfl
theorem frame48 (a : Go.Act) (hs : a.tmps.size = 48) (hd : a.defers = []) : a = ⟨((List.range 48).map (slot a)).toArray, []⟩ := frameX a 48 hs hd
set_option maxRecDepth 100000 in
set_option maxHeartbeats 8000000 in
theorem pmul_any (A : Nat → Prop) (w : World) (p q : Value) (ps qs : List UInt8) (hp : Bs A w p ps) (hq : Bs A w q qs) (hpn : 0 < ps.length + qs.length) (hl : ps.length + qs.length ≤ 1000) :
    Calls Tryd.prog 87 #[p, q] w fun e w' => ∃ u, e = .returned u ∧ OwnB 5 w.heap.size w' u (pmul ps qs) ∧ Fr [] w w' := by
  have HP := Lib.hid hp
  have HQ := Lib.hid hq
  have hp0 := hpn
  obtain ⟨pa, pc, rfl, p2, p3, hpr⟩ := hp
  obtain ⟨qa, qc, rfl, q2, q3, hqr⟩ := hq
  unfold maxLen at p3 q3
  obtain ⟨i0, hi, hz, hsz, hby⟩ := info_bytes Tryd.infoByte
  obtain ⟨P, hP⟩ : ∃ P, ps.length = P := ⟨_, rfl⟩
  obtain ⟨Q, hQ⟩ : ∃ Q, qs.length = Q := ⟨_, rfl⟩
  rw [hP] at HP p2 hl hp0 ⊢
  rw [hQ] at HQ q2 hl hp0 ⊢
  have HPL := Lib.hid hP
  have HQL := Lib.hid hQ
  clear hP hQ hpr hqr hpn
  go_enter Tryd.func87, Tryd.ntmps87
  go_wp2_with fail
  refine (make_any _).mono ?_
  rintro e w1 ⟨rfl, hT, hf⟩
  have hs1 := hf.size
  have hlt := hT.lt
  go_wp2_with (refine wpList_make_row _ rfl (.tmp 16) (.tmp 16) 22 rfl 5 i0 (.int .u8 0) Tryd.underlying22 hi hz hsz rfl .i64 .i64 (P + Q) (by show Value.int .i64 ((P : Int) + (Q : Int)) = _; simp) (by show Value.int .i64 ((P : Int) + (Q : Int)) = _; simp) (by rw [hby]; omega) (by omega) ?_)
  have hcs : madeCells #[.int .u8 0] (P + Q) = ((List.replicate (P + Q) (0 : UInt8)).map u8v).toArray := by
    apply Array.ext
    · simp [madeCells]
    · intro i h1 h2
      simp [madeCells, u8v, Nat.mod_one]
  have HA := Lib.hid (show At (w1.alloc (.cells (madeCells #[.int .u8 0] (P + Q)) 5)) w1.heap.size (.cells ((mulAll (ps.take 0) qs 0 (List.replicate (P + Q) 0)).map u8v).toArray 5) by rw [hcs]; exact At.new rfl)
  have HT := Lib.hid (show At (w1.alloc (.cells (madeCells #[.int .u8 0] (P + Q)) 5)) w.heap.size (.cells tabF 171) from hT.al)
  have HF := Lib.hid (show Fr [] w (w1.alloc (.cells (madeCells #[.int .u8 0] (P + Q)) 5)) from Fr.al hf)
  obtain ⟨w2, hw2⟩ : ∃ w2, w1.alloc (.cells (madeCells #[.int .u8 0] (P + Q)) 5) = w2 := ⟨_, rfl⟩
  rw [hw2] at HA HT HF ⊢
  obtain ⟨g, hg⟩ : ∃ g, w1.heap.size = g := ⟨_, rfl⟩
  rw [hg] at HA hs1 hlt ⊢
  clear hT hf hcs hw2 hg hi hz hsz hby
  have hgt : g ≠ w.heap.size := by omega
  go_wp2
  go_loopw [20] (fun i wr => ∃ j : Nat, j ≤ P ∧ i = .int .i64 j ∧ Hid (At wr g (.cells ((mulAll (ps.take j) qs 0 (List.replicate (P + Q) 0)).map u8v).toArray 5)) ∧ Hid (At wr w.heap.size (.cells tabF 171)) ∧ Hid (Fr [] w wr)) (fun i _ => P - (intOf i).toNat)
  case atStart => exact ⟨0, by omega, rfl, HA.out, HT.out, HF.out⟩
  case round =>
    clear HA HT HF
    obtain ⟨j, hj, rfl, HA, HT, HF⟩ := hrel
    by_cases hjn : j < P
    · obtain ⟨x, hx⟩ : ∃ x, ps[j]? = some x := ⟨_, List.getElem?_eq_getElem (by have := HPL.out; omega)⟩
      obtain ⟨pb, po, rfl, hcp⟩ := bs_cell HP.out j x hx
      have hcx := cell_mono HF.out hcp
      have HM := Lib.hid (mulAll_take ps qs j 0 x (List.replicate (P + Q) 0) hx)
      have HL := Lib.hid (show (mulAll (ps.take j) qs 0 (List.replicate (P + Q) 0)).length = P + Q by rw [mulAll_len, List.length_replicate])
      obtain ⟨out, ho⟩ : ∃ out, mulAll (ps.take j) qs 0 (List.replicate (P + Q) 0) = out := ⟨_, rfl⟩
      rw [ho] at HA HM HL
      clear hx hcp ho
      go_wp2
      go_loopw [27] (fun i wr => ∃ k : Nat, k ≤ Q ∧ i = .int .i64 k ∧ Hid (At wr g (.cells ((mulRow x (qs.take k) (0 + j) out).map u8v).toArray 5)) ∧ Hid (At wr w.heap.size (.cells tabF 171)) ∧ Hid (Fr [] w wr)) (fun i _ => Q - (intOf i).toNat)
      case atStart => exact ⟨0, by omega, rfl, HA.out, HT.out, HF.out⟩
      case round =>
        clear HA HT HF hcx
        obtain ⟨k, hk, rfl, HA, HT, HF⟩ := hrel
        by_cases hkn : k < Q
        · obtain ⟨y, hy⟩ : ∃ y, qs[k]? = some y := ⟨_, List.getElem?_eq_getElem (by have := HQL.out; omega)⟩
          obtain ⟨qb, qo, rfl, hcq⟩ := bs_cell HQ.out k y hy
          have hcy := cell_mono HF.out hcq
          have HR := Lib.hid (mulRow_take x qs k (0 + j) y out hy)
          have HL2 := Lib.hid (show (mulRow x (qs.take k) (0 + j) out).length = P + Q by rw [mulRow_len, HL.out])
          obtain ⟨cur, hcur⟩ : ∃ cur, mulRow x (qs.take k) (0 + j) out = cur := ⟨_, rfl⟩
          rw [hcur] at HA HR HL2
          clear hy hcq hcur
          go_wp2_with fail
          refine pmul_reg _ _ rfl g w.heap.size (P + Q) j k cur x y (by omega) (by omega) HL2.out hgt rfl rfl rfl rfl rfl rfl HA.out HT.out _ ?_
          intro b p h1 h2 h3 hf ha
          obtain ⟨f, hb⟩ := putsX b _ _ h1 h2 h3
          have HA2 := Lib.hid (show At p g (.cells ((mulRow x (qs.take (k + 1)) (0 + j) out).map u8v).toArray 5) by rw [HR.out, Nat.zero_add]; exact ha)
          have HT2 := Lib.hid (HT.out.keep hf (by simpa using hgt.symm))
          have HF2 := Lib.hid (HF.out.then hf (by intro b hb; simp at hb; omega))
          clear h1 h2 h3 hf ha HA HT HF hcy
          subst hb
          simp only [List.foldl_cons, List.foldl_nil, Go.Act.put, List.setIfInBounds_toArray, List.set_cons_succ, List.set_cons_zero]
          go_wp2
          go_roundw
          case rel => exact ⟨k + 1, by omega, by go_num, HA2.out, HT2.out, HF2.out⟩
          case measure => simp [intOf]; omega
        · obtain rfl : k = Q := by omega
          have HA2 := Lib.hid (show At wr g (.cells ((mulAll (ps.take (j + 1)) qs 0 (List.replicate (P + k) 0)).map u8v).toArray 5) by
            rw [HM.out]
            have h := HA.out
            rwa [List.take_of_length_le (by have := HQL.out; omega)] at h)
          clear HA
          go_wp2
          go_roundw
          case rel => exact ⟨j + 1, by omega, by go_num, HA2.out, HT.out, HF.out⟩
          case measure => simp [intOf]; omega
    · obtain rfl : j = P := by omega
      have hl2 : (mulAll (ps.take j) qs 0 (List.replicate (j + Q) 0)).length = j + Q := by rw [mulAll_len, List.length_replicate]
      have HB := Lib.hid (show Bs (fun _ => False) wr (.slice (some ⟨g, 0, none⟩) (j + Q) (j + Q)) (mulAll (ps.take j) qs 0 (List.replicate (j + Q) 0)) from by
        have h := Row.of_block (A := fun _ => False) HA.out (by simp)
        refine ⟨some ⟨g, 0, none⟩, j + Q, by rw [hl2], by rw [hl2]; exact Nat.le_refl _, by simp [maxLen]; omega, by simpa using h⟩)
      have HR := Lib.hid (show pmul ps qs = ptrim (mulAll (ps.take j) qs 0 (List.replicate (j + Q) 0)) by
        unfold pmul
        rw [HPL.out, HQL.out, List.take_of_length_le (by have := HPL.out; omega)])
      have HTR := Lib.hid (trim_any (fun _ => False) wr _ _ HB.out (by intro h; rw [h] at hl2; simp at hl2; omega) (by rw [hl2]; omega))
      have hs2 := HF.out.size
      clear hl2 HA HT HB
      go_wp2_with fail
      refine HTR.out.mono ?_
      rintro e w3 ⟨u, rfl, ho, hf⟩
      have HO := Lib.hid (ho.base hs2)
      have HF2 := Lib.hid (HF.out.trans hf)
      clear ho hf HTR
      go_wp2
      go_ret
      exact ⟨_, rfl, by rw [HR.out]; exact HO.out, HF2.out⟩
end Go.Proofs.YtmohiblgfmdkjaaDoor
namespace Go.Proofs.YtmohiblgfmdkjaaDoor
open Go.RowKit Go.Bl
set_option linter.unusedVariables false

theorem proots_len (rs : List UInt8) : ∀ k, (proots (rs.take k)).length ≤ 1 + 2 * k
  | 0 => by simp [proots]
  | k + 1 => by
    cases h : rs[k]? with
    | none =>
      have hl := List.getElem?_eq_none_iff.1 h
      rw [List.take_of_length_le (by omega)]
      have := proots_len rs k
      rw [List.take_of_length_le hl] at this
      omega
    | some r =>
      rw [proots_take rs k r h]
      have := pmul_len (proots (rs.take k)) [r, 1]
      have := proots_len rs k
      simp at *
      omega
theorem own_lit {e : TypeId} {base : Nat} (w : World) (c : Array Value) (xs : List UInt8) (hb : base ≤ w.heap.size) (hc : c.toList = xs.map u8v) (hl : xs.length ≤ 1000) : OwnB e base (w.alloc (.cells c e)) (.slice (some ⟨w.heap.size, 0, none⟩) xs.length xs.length) xs := by
  have hs : c.size = xs.length := by have := congrArg List.length hc; simpa using this
  refine ⟨by simp, .inr ⟨w.heap.size, xs.length, c, rfl, hb, heap_alloc_new _ _, Nat.le_refl _, by simp [maxLen]; omega, by omega, ?_⟩⟩
  rw [List.take_of_length_le (by simp; omega), hc]
theorem bs_lit {A : Nat → Prop} (w : World) (c : Array Value) (e : TypeId) (xs : List UInt8) (hA : ¬ A w.heap.size) (hc : c.toList = xs.map u8v) (hl : xs.length ≤ 1000) : Bs A (w.alloc (.cells c e)) (.slice (some ⟨w.heap.size, 0, none⟩) xs.length xs.length) xs :=
  ⟨_, _, rfl, Nat.le_refl _, by simp [maxLen]; omega, by
    have := Row.of_block (A := A) (show (w.alloc (.cells c e)).heap[w.heap.size]? = some (.cells c e (0, 0)) from heap_alloc_new _ _) hA
    rwa [hc] at this⟩

set_option maxRecDepth 100000 in
set_option maxHeartbeats 4000000 in
theorem roots_any (A : Nat → Prop) (w : World) (v : Value) (rs : List UInt8) (hb : Bs A w v rs) (hl : rs.length ≤ 32) :
    Calls Tryd.prog 81 #[v] w fun e w' => ∃ u, e = .returned u ∧ OwnB 5 w.heap.size w' u (proots rs) ∧ Fr [] w w' := by
  have HB := Lib.hid hb
  obtain ⟨a, cap, rfl, h2, h3, -⟩ := hb
  unfold maxLen at h3
  obtain ⟨N, hN⟩ : ∃ N, rs.length = N := ⟨_, rfl⟩
  rw [hN] at HB h2 hl ⊢
  have HN := Lib.hid hN
  clear hN
  have HO := Lib.hid (show OwnB 5 w.heap.size (w.alloc (.cells #[.int .u8 1] 5)) (.slice (some ⟨w.heap.size, 0, none⟩) 1 1) (proots (rs.take 0)) from own_lit w #[.int .u8 1] [1] (Nat.le_refl _) rfl (by simp))
  go_enter Tryd.func81, Tryd.ntmps81
  go_wp2
  go_loopw [3, 9] (fun o i wr => ∃ j : Nat, j ≤ N ∧ i = .int .i64 j ∧ Hid (OwnB 5 w.heap.size wr o (proots (rs.take j))) ∧ Hid (Fr [] w wr)) (fun _ i _ => N - (intOf i).toNat)
  case atStart => exact ⟨0, by omega, rfl, HO.out, Fr.alloc _ _⟩
  case round =>
    clear HO
    obtain ⟨j, hj, rfl, HO, HF⟩ := hrel
    by_cases hjn : j < N
    · obtain ⟨x, hx⟩ : ∃ x, rs[j]? = some x := ⟨_, List.getElem?_eq_getElem (by have := HN.out; omega)⟩
      obtain ⟨b, off, rfl, hc⟩ := bs_cell HB.out j x hx
      have hcx := cell_mono HF.out hc
      have HT := Lib.hid (proots_take rs j x hx)
      have HL := Lib.hid (proots_len rs j)
      obtain ⟨oo, on, oc, rfl⟩ := bs_shp (HO.out.bs (A := fun _ => False) (by simp))
      clear hx hc
      go_wp2_with fail
      have hbs := bs_lit (A := fun _ => False) wr #[.int .u8 (x.toNat : Int), .int .u8 1] 5 [x, 1] (by simp) rfl (by simp)
      have hal : Fr [] wr (wr.alloc (.cells #[.int .u8 (x.toNat : Int), .int .u8 1] 5)) := Fr.alloc _ _
      have hs := (HF.out.trans hal).size
      refine (pmul_any (fun _ => False) _ _ _ _ _ ((HO.out.keep hal (by simp)).bs (by simp)) hbs (by simp) (by have := HL.out; simp; omega)).mono ?_
      rintro e w2 ⟨u, rfl, ho, hf⟩
      have HO2 := Lib.hid (show OwnB 5 w.heap.size w2 u (proots (rs.take (j + 1))) by rw [HT.out]; exact ho.base hs)
      have HF2 := Lib.hid ((HF.out.trans hal).trans hf)
      clear ho hf hbs hal HO HF hcx
      go_wp2
      go_roundw
      case rel => exact ⟨j + 1, by omega, by go_num, HO2.out, HF2.out⟩
      case measure => simp [intOf]; omega
    · obtain rfl : j = N := by omega
      have HE := Lib.hid (show rs.take j = rs from List.take_of_length_le (by have := HN.out; omega))
      go_wp2
      go_ret
      exact ⟨_, rfl, by have := HO.out; rwa [HE.out] at this, HF.out⟩

set_option maxRecDepth 100000 in
set_option maxHeartbeats 4000000 in
theorem gen_any (w : World) : Calls Tryd.prog 64 #[] w fun e w' => ∃ u, e = .returned u ∧ OwnB 5 w.heap.size w' u genL ∧ Fr [] w w' := by
  go_enter Tryd.func64, Tryd.ntmps64
  go_wp2
  go_loopw [1, 3] (fun o i wr => ∃ j : Nat, j ≤ 32 ∧ i = .int .i64 j ∧ Hid (OwnB 5 w.heap.size wr o ((List.range j).map gexp)) ∧ Hid (Fr [] w wr)) (fun _ i _ => 32 - (intOf i).toNat)
  case atStart => exact ⟨0, by omega, rfl, OwnB.nil _ _ _, Fr.refl _ _⟩
  case round =>
    obtain ⟨j, hj, rfl, HO, HF⟩ := hrel
    by_cases hjn : j < 32
    · go_wp2_with fail
      refine (exp_any _ j (by omega)).mono ?_
      rintro e w2 ⟨rfl, hf⟩
      have HO2 := Lib.hid (HO.out.keep hf (by simp))
      have HF2 := Lib.hid (HF.out.trans hf)
      have HR := Lib.hid (show (List.range (j + 1)).map gexp = (List.range j).map gexp ++ [gexp j] by simp [List.range_succ])
      clear hf HO HF
      unfold u8v
      obtain ⟨x, hx⟩ : ∃ x, gexp j = x := ⟨_, rfl⟩
      rw [hx] at HR ⊢
      clear hx
      have HBL := Lib.hid (bs_lit (A := fun _ => False) w2 #[.int .u8 (x.toNat : Int)] 5 [x] (by simp) rfl (by simp))
      have HO3 := Lib.hid (HO2.out.keep (Fr.alloc (S := []) w2 (.cells #[.int .u8 (x.toNat : Int)] 5)) (by simp))
      have HF3 := Lib.hid (show Fr [] w (w2.alloc (.cells #[.int .u8 (x.toNat : Int)] 5)) from Fr.al HF2.out)
      have hs := HF3.out.size
      go_wp2_with (at_builtin; refine wpl_append_bs (A := fun _ => False) (ys := [x]) (base := w.heap.size) Tryd.underlying22 Tryd.infoByte rfl (.tmp 6) (.tmp 9) rfl rfl rfl HO3.out HBL.out (by simp; omega) hs ?_)
      intro v' w3 h5 h6
      have HO4 := Lib.hid (show OwnB 5 w.heap.size w3 v' ((List.range (j + 1)).map gexp) by rw [HR.out]; exact h5)
      have HF4 := Lib.hid (show Fr [] w w3 from OwnB.fr HO3.out HF3.out h6 (Nat.le_refl _))
      clear h5 h6 HO3 HF3 HBL HO2 HF2
      go_wp2
      go_roundw
      case rel => exact ⟨j + 1, by omega, by go_num, HO4.out, HF4.out⟩
      case measure => simp [intOf]; omega
    · obtain rfl : j = 32 := by omega
      have HB := Lib.hid (HO.out.bs (A := fun _ => False) (by simp))
      have hs := HF.out.size
      obtain ⟨oo, on, oc, rfl⟩ := bs_shp HB.out
      go_wp2_with fail
      refine (roots_any (fun _ => False) _ _ _ HB.out (by simp)).mono ?_
      rintro e w2 ⟨u, rfl, ho, hf⟩
      have HO2 := Lib.hid (ho.base hs)
      have HF2 := Lib.hid (HF.out.trans hf)
      clear ho hf
      go_wp2
      go_ret
      exact ⟨_, rfl, HO2.out, HF2.out⟩
end Go.Proofs.YtmohiblgfmdkjaaDoor
namespace Go.Proofs.YtmohiblgfmdkjaaDoor
open Go.RowKit Go.Bl
set_option linter.unusedVariables false

/-- less of what is owned -/
theorem OwnB_cut {e : TypeId} {base : Nat} {w : World} {a : Option Addr} {n cap : Nat} {xs : List UInt8} (h : OwnB e base w (.slice a n cap) xs) (k : Nat) (hk : k ≤ xs.length) : OwnB e base w (.slice a k cap) (xs.take k) := by
  obtain ⟨h1, h2⟩ := h
  unfold OwnB
  rw [List.length_take, Nat.min_eq_left hk]
  refine ⟨by simp [hk], ?_⟩
  rcases h2 with ⟨h2, h3⟩ | ⟨g, cap', cur, h2, h3, h4, h5, h6, h7, h8⟩
  · cases h2
    have : k = 0 := by omega
    subst this
    exact .inl ⟨rfl, rfl⟩
  · cases h2
    refine .inr ⟨g, cap, cur, rfl, h3, h4, by omega, h6, h7, ?_⟩
    rw [List.map_take, ← h8, List.take_take]
    congr 1
    omega

set_option maxRecDepth 100000 in
set_option maxHeartbeats 4000000 in
theorem grow_nil (w : World) (n : Nat) (hn : n ≤ 10000000) :
    Calls Tryd.prog 71 #[.slice none 0 0, .int .i64 n] w fun e w' => ∃ u, e = .returned u ∧ OwnB 5 w.heap.size w' u [] ∧ Fr [] w w' := by
  by_cases h0 : n = 0
  · subst h0
    go_enter Tryd.func71, Tryd.ntmps71
    go_wp2
    go_ret
    exact ⟨_, rfl, OwnB.nil _ _ _, Fr.refl _ _⟩
  · go_enter Tryd.func71, Tryd.ntmps71
    go_wp2_with (refine wpl_append_zeros_bs (kn := .i64) Tryd.underlying22 Tryd.underlying3 Tryd.infoByte rfl (.tmp 20) (.tmp 21) rfl rfl rfl rfl (OwnB.nil _ w.heap.size _) ?hl ?hb ?_)
    case hl => simp; omega
    case hb => exact Nat.le_refl _
    intro v' w1 ho hg
    have HF := Lib.hid (show Fr [] w w1 from OwnB.fr (OwnB.nil 5 w.heap.size w) (Fr.refl [] w) hg (Nat.le_refl _))
    obtain ⟨a, cap, rfl, hc, hm, -⟩ := ho.bs (A := fun _ => False) (by simp)
    rw [List.length_replicate] at ho hc ⊢
    have HO := Lib.hid (OwnB_cut ho 0 (Nat.zero_le _))
    unfold maxLen at hm
    clear ho hg
    go_wp2
    go_ret
    exact ⟨_, rfl, HO.out, HF.out⟩

/-- lists of bytes that can be read -/
def RdL (A : Nat → Prop) (w : World) (v : Value) (ls : List (Value × List UInt8)) : Prop := Vs A w v (ls.map (·.1)) ∧ ∀ x ∈ ls, Bs A w x.1 x.2
def cat (ls : List (Value × List UInt8)) : List UInt8 := ls.flatMap (·.2)
theorem cat_take (ls : List (Value × List UInt8)) (j : Nat) (x : Value × List UInt8) (h : ls[j]? = some x) : cat (ls.take (j + 1)) = cat (ls.take j) ++ x.2 := by
  unfold cat
  rw [List.take_add_one, h]
  simp
theorem cat_le (ls : List (Value × List UInt8)) (j : Nat) : (cat (ls.take j)).length ≤ (cat ls).length := by
  have : cat ls = cat (ls.take j) ++ cat (ls.drop j) := by
    unfold cat
    rw [← List.flatMap_append, List.take_append_drop]
  rw [this]
  simp

set_option maxRecDepth 100000 in
set_option maxHeartbeats 4000000 in
theorem concat_any (A : Nat → Prop) (w : World) (v : Value) (ls : List (Value × List UInt8)) (hr : RdL A w v ls) (hl : ls.length ≤ 1000) (hn : (cat ls).length ≤ 4000000) :
    Calls Tryd.prog 56 #[v] w fun e w' => ∃ u, e = .returned u ∧ OwnB 5 w.heap.size w' u (cat ls) ∧ Fr [] w w' := by
  have HR := Lib.hid hr
  obtain ⟨a, cap, rfl, h2, h3, h4⟩ := id hr.1
  simp only [List.length_map] at h2 HR ⊢
  obtain ⟨N, hN⟩ : ∃ N, ls.length = N := ⟨_, rfl⟩
  rw [hN] at h2 hl HR ⊢
  have HN := Lib.hid hN
  have H4 := Lib.hid h4
  have HL := Lib.hid (cat_le ls)
  obtain ⟨S, hS⟩ : ∃ S, (cat ls).length = S := ⟨_, rfl⟩
  have HS := Lib.hid hS
  rw [hS] at hn
  clear hr hN h4 hS
  unfold maxLen at h3
  have HX := Lib.hid (show ∀ j, j < N → ∃ x b off, ls[j]? = some x ∧ a = some ⟨b, off, none⟩ ∧ w.cell? ⟨b, off + j, none⟩ = some x.1 ∧ Bs A w x.1 x.2 from fun j hj => by
    obtain ⟨x, hx⟩ : ∃ x, ls[j]? = some x := ⟨_, List.getElem?_eq_getElem (by have := HN.out; omega)⟩
    obtain ⟨b, off, rfl, -, hc⟩ := H4.out.some_of (by have := HN.out; simp; omega)
    refine ⟨x, b, off, hx, rfl, ?_, HR.out.2 x (List.mem_of_getElem? hx)⟩
    rw [hc j (by have := HN.out; simp; omega)]
    simp [hx])
  clear H4
  go_enter Tryd.func56, Tryd.ntmps56
  go_wp2
  go_loopw [3, 11] (fun s i wr => ∃ j : Nat, j ≤ N ∧ i = .int .i64 j ∧ s = .int .i64 ((cat (ls.take j)).length : Nat) ∧ Hid (wr = w)) (fun _ i _ => N - (intOf i).toNat)
  case atStart => exact ⟨0, by omega, rfl, by simp [cat], rfl⟩
  case round =>
    obtain ⟨j, hj, rfl, rfl, hw⟩ := hrel
    by_cases hjn : j < N
    · obtain ⟨x, b, off, hx, rfl, hc, hb⟩ := HX.out j hjn
      have hct := cat_take ls j x hx
      have hle := HL.out (j + 1)
      rw [hct, List.length_append, HS.out] at hle
      have HCT := Lib.hid hct
      obtain ⟨ba, bc, hxe, -⟩ := id hb
      obtain ⟨xv, xs⟩ := x
      simp only at hxe hb hle hc
      subst hxe
      obtain ⟨L, hL⟩ : ∃ L, (cat (ls.take j)).length = L := ⟨_, rfl⟩
      obtain ⟨M, hM⟩ : ∃ M, xs.length = M := ⟨_, rfl⟩
      rw [hL, hM] at hle
      rw [hL]
      rw [hM] at hc
      have HLM := Lib.hid (And.intro hL hM)
      have hw' := hw.out.symm
      subst hw'
      clear hct hx hb hL hM hw
      go_wp2
      go_roundw
      case rel => exact ⟨j + 1, by omega, by go_num, by rw [HCT.out, List.length_append, HLM.out.1, HLM.out.2]; go_num, by first | exact rfl | exact trivial⟩
      case measure => simp [intOf]; omega
    · obtain rfl : N = j := by omega
      have hta : ls.take N = ls := List.take_of_length_le (by have := HN.out; omega)
      rw [hta, HS.out]
      have hw' := hw.out.symm
      subst hw'
      clear hta hw
      go_wp2_with fail
      refine (grow_nil _ S (by omega)).mono ?_
      rintro e w1 ⟨u, rfl, ho, hf⟩
      have HO := Lib.hid ho
      have HF := Lib.hid hf
      clear ho hf
      go_wp2
      go_loopw [6, 27] (fun o i wr => ∃ j : Nat, j ≤ N ∧ i = .int .i64 j ∧ Hid (OwnB 5 w.heap.size wr o (cat (ls.take j))) ∧ Hid (Fr [] w wr)) (fun _ i _ => N - (intOf i).toNat)
      case atStart => exact ⟨0, by omega, rfl, by simp only [cat, List.take_zero, List.flatMap_nil]; exact HO, HF⟩
      case round =>
        obtain ⟨j, hj, rfl, HO, HF⟩ := hrel
        by_cases hjn : j < N
        · obtain ⟨x, b, off, hx, rfl, hc, hb⟩ := HX.out j hjn
          have hct := cat_take ls j x hx
          have hle := HL.out (j + 1)
          rw [hct, List.length_append, HS.out] at hle
          have HCT := Lib.hid hct
          obtain ⟨ba, bc, hxe, -⟩ := id hb
          obtain ⟨xv, xs⟩ := x
          simp only at hxe hb hle hc
          subst hxe
          have BX := Lib.hid (hb.keep HF.out (by simp))
          have hsz := HF.out.size
          obtain ⟨M, hM⟩ : ∃ M, xs.length = M := ⟨_, rfl⟩
          have hc2 : wr.cell? ⟨b, off + j, none⟩ = some (.slice ba M bc) := by rw [← hM]; exact cell_mono HF.out hc
          rw [hM] at BX
          have HM := Lib.hid hM
          clear hct hx hb hM hc
          go_wp2_with (at_builtin; refine wpl_append_bs (ys := xs) (base := w.heap.size) Tryd.underlying22 Tryd.infoByte rfl (.tmp 31) (.tmp 32) rfl rfl rfl HO.out BX.out (by omega) hsz ?_)
          intro v' w2 h5 h6
          have HO3 := Lib.hid (show OwnB 5 w.heap.size w2 v' (cat (ls.take (j + 1))) by rw [HCT.out]; exact h5)
          have HF3 := Lib.hid (show Fr [] w w2 from OwnB.fr HO.out HF.out h6 (Nat.le_refl _))
          clear h5 h6 HO HF
          go_wp2
          go_roundw
          case rel => exact ⟨j + 1, by omega, by go_num, HO3.out, HF3.out⟩
          case measure => simp [intOf]; omega
        · obtain rfl : j = N := by omega
          have hta : ls.take j = ls := List.take_of_length_le (by have := HN.out; omega)
          rw [hta] at HO
          clear hta
          go_wp2
          go_ret
          exact ⟨_, rfl, HO.out, HF.out⟩
end Go.Proofs.YtmohiblgfmdkjaaDoor
namespace Go.Proofs.YtmohiblgfmdkjaaDoor
open Go.RowKit Go.Bl
set_option linter.unusedVariables false
theorem behind_any (w : World) (c : UInt8) : Calls Tryd.prog 36 #[.int .u8 (c.toNat : Int)] w fun e w' => e = .returned (.bool (decide (c ≠ 0))) ∧ w' = w := by
  go_enter Tryd.func36, Tryd.ntmps36
  by_cases h : c = 0
  · subst h
    go_wp2
    go_ret
    exact ⟨rfl, rfl⟩
  · have hn : c.toNat ≠ 0 := fun e => h (UInt8.toNat_inj.1 e)
    have hni : ((c.toNat : Int) != 0) = true := by simp; omega
    go_wp2
    go_ret
    refine ⟨?_, rfl⟩
    rw [decide_eq_true h]
    simp <;> omega
def zeroAll (xs : List UInt8) : Prop := ∀ c ∈ xs, c = 0
set_option maxHeartbeats 400000 in
theorem ifun_zero (w : World) (a : Option Addr) (N cap : Nat) (xs : List UInt8) (hv : Bs (fun _ => False) w (.slice a N cap) xs) (hN : xs.length = N) (hl : N ≤ 1000000) :
    Calls Tryd.prog 57 #[.slice a N cap, .func (.func 36) #[] #[]] w fun e w' => ∃ k : Int, e = .returned (.int .i64 k) ∧ Hid (0 ≤ k ↔ ¬ zeroAll xs) ∧ Fr [] w w' := by
  have HV := Lib.hid hv
  have HN := Lib.hid hN
  clear hv hN
  go_enter Tryd.func57, Tryd.ntmps57
  go_wp2
  go_loopw [8] (fun i wr => ∃ k : Nat, k ≤ N ∧ i = .int .i64 k ∧ Hid (∀ j, j < k → ∀ c, xs[j]? = some c → c = 0) ∧ Hid (Fr [] w wr)) (fun i _ => N - (intOf i).toNat)
  case atStart => exact ⟨0, Nat.zero_le _, rfl, Lib.hid (by intro j hj; omega), Lib.hid (Fr.refl _ _)⟩
  case round =>
    obtain ⟨k, hk, rfl, HI, HF⟩ := hrel
    by_cases hkn : k < N
    · have hki : (k : Int) < N := by omega
      obtain ⟨c, hc⟩ : ∃ c, xs[k]? = some c := ⟨_, List.getElem?_eq_getElem (by have := HN.out; omega)⟩
      obtain ⟨b, off, rfl, hcc⟩ := bs_cell (HV.out.keep HF.out (by simp)) k c hc
      go_wp2_with (go_at_call 36; fail)
      refine (behind_any wr c).mono ?_
      rintro e w1 ⟨rfl, rfl⟩
      by_cases hok : c = 0
      · rw [decide_eq_false (fun h => h hok)]
        have HOKP := Lib.hid hok
        have HPI := Lib.hid hc
        clear hok hc
        go_wp2
        go_roundw
        case rel => exact ⟨k + 1, by omega, by go_num, Lib.hid (fun j hj q hq => by
          rcases Nat.lt_or_ge j k with h | h
          · exact HI.out j h q hq
          · obtain rfl : j = k := by omega
            rw [HPI.out] at hq
            cases hq
            exact HOKP.out), HF⟩
        case measure => simp [intOf]; omega
      · rw [decide_eq_true hok]
        have HK := Lib.hid (show (0 : Int) ≤ (k : Int) ↔ ¬ zeroAll xs from ⟨fun _ h => hok (h c (List.mem_of_getElem? hc)), fun _ => by omega⟩)
        clear hok hc
        go_wp2
        go_ret
        exact ⟨_, rfl, HK, HF.out⟩
    · have hki : ¬ (k : Int) < N := by omega
      have HALL := Lib.hid (show zeroAll xs from fun c hc => by
        obtain ⟨j, hj⟩ := List.mem_iff_getElem?.1 hc
        exact HI.out j (by have h1 := (List.getElem?_eq_some_iff.1 hj).1; have h2 := HN.out; omega) c hj)
      go_wp2
      go_ret
      exact ⟨_, rfl, Lib.hid ⟨fun h => by simp at h, fun h => absurd HALL.out h⟩, HF.out⟩
set_option maxHeartbeats 400000 in
theorem cfun_zero (w : World) (v : Value) (xs : List UInt8) (hv : Bs (fun _ => False) w v xs) (hl : xs.length ≤ 1000000) :
    Calls Tryd.prog 37 #[v, .func (.func 36) #[] #[]] w fun e w' => ∃ r : Bool, e = .returned (.bool r) ∧ (r = true ↔ ¬ zeroAll xs) ∧ Fr [] w w' := by
  have HV := Lib.hid hv
  obtain ⟨a, cap, rfl, -⟩ := id hv
  have HI := Lib.hid (ifun_zero w a xs.length cap xs HV.out rfl hl)
  obtain ⟨N, hN⟩ : ∃ N, xs.length = N := ⟨_, rfl⟩
  rw [hN] at HI ⊢
  clear hN hl hv
  go_enter Tryd.func37, Tryd.ntmps37
  go_wp2_with fail
  refine HI.out.mono ?_
  rintro e w1 ⟨k, rfl, hk, hf⟩
  have HF := Lib.hid hf
  have HK := hk
  clear hf hk
  go_wp2
  go_ret
  exact ⟨decide (0 ≤ k), rfl, by rw [decide_eq_true_eq]; exact HK.out, HF.out⟩
end Go.Proofs.YtmohiblgfmdkjaaDoor
