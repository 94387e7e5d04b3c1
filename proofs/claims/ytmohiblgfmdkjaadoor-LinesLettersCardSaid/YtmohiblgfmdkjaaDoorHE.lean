/-
  Layer 2: poly.Trim, poly.Mul, poly.Roots.
  Layers 2 and 3: poly.Roots, code.Generator.
-/
import Derived.Test.YtmohiblgfmdkjaaDoorGO
import Derived.Test.YtmohiblgfmdkjaaDoorPm
import Derived.Deep.OwnRows
namespace Go.Proofs.YtmohiblgfmdkjaaDoor
open Go.RowKit Go.Bl
set_option linter.unusedVariables false

theorem Fr.of_below {w w' : World} (h : Below w.heap.size w w') : Fr [] w w' := ⟨h.os, h.tape, h.output, h.size, fun k hk _ => h.block k hk⟩
theorem degree_any (A : Nat → Prop) (w : World) (v : Value) (zs : List UInt8) (hb : Bs A w v zs) (hne : zs ≠ []) (hl : zs.length ≤ 1000000) :
    Calls Tryd.prog 86 #[v] w fun e w' => e = .returned (.int .i64 ((plen zs : Int) - 1)) ∧ Fr [] w w' := by
  obtain ⟨a, cap, rfl, hI⟩ := bwI_of A w v zs hb
  refine (callsIn_wide.1 (deg_in Fence.wide 3 trivial trivial trivial rfl (by omega) a zs.length cap zs hl w (hI hne))).mono ?_
  rintro e w' ⟨rfl, h⟩
  exact ⟨rfl, Fr.of_below h⟩

set_option maxRecDepth 100000 in
set_option maxHeartbeats 2000000 in
theorem trim_any (A : Nat → Prop) (w : World) (v : Value) (zs : List UInt8) (hb : Bs A w v zs) (hne : zs ≠ []) (hl : zs.length ≤ 1000000) :
    Calls Tryd.prog 108 #[v] w fun e w' => ∃ u, e = .returned u ∧ OwnB 5 w.heap.size w' u (ptrim zs) ∧ Fr [] w w' := by
  have HB := Lib.hid hb
  have HD := Lib.hid (degree_any A w v zs hb hne hl)
  have hpl := plen_le zs
  obtain ⟨a, cap, rfl, h2, h3, -⟩ := hb
  unfold maxLen at h3
  obtain ⟨m, hm⟩ : ∃ m, plen zs = m := ⟨_, rfl⟩
  obtain ⟨N, hN⟩ : ∃ N, zs.length = N := ⟨_, rfl⟩
  have HT := Lib.hid (show ptrim zs = zs.take m by unfold ptrim; rw [hm])
  rw [hm] at HD hpl
  rw [hN] at HD hpl hl h2 HB ⊢
  have HN := Lib.hid hN
  clear hm hN hne
  have hmm : (m : Int) - 1 + 1 = m := by omega
  go_enter Tryd.func108, Tryd.ntmps108
  go_wp2_with fail
  refine HD.out.mono ?_
  rintro e w1 ⟨rfl, hf⟩
  have HF := Lib.hid hf
  replace HB := Lib.hid (HB.out.keep hf (by simp))
  have i1 : m ≤ cap := by omega
  clear hf HD
  go_wp2_with fail
  have hcut := HB.out.take m hpl
  have hs1 := HF.out.size
  refine (clone_any A _ _ _ hcut (by simp; omega)).mono ?_
  rintro e w2 ⟨u, rfl, ho, hf⟩
  have HO := Lib.hid (ho.base hs1)
  have HF2 := Lib.hid (HF.out.trans hf)
  clear ho hf hcut
  go_wp2
  go_ret
  exact ⟨_, rfl, by rw [HT.out]; exact HO.out, HF2.out⟩

set_option maxRecDepth 100000 in
theorem bs_shp {A : Nat → Prop} {w : World} {v : Value} {xs : List UInt8} (h : Bs A w v xs) : ∃ bo bn bc, v = .slice bo bn bc := by
  obtain ⟨a, cap, rfl, -⟩ := h
  exact ⟨_, _, _, rfl⟩
theorem bs_cell {A : Nat → Prop} {w : World} {a : Option Addr} {n cap : Nat} {xs : List UInt8} (h : Bs A w (.slice a n cap) xs) (j : Nat) (x : UInt8) (hx : xs[j]? = some x) :
    ∃ b off, a = some ⟨b, off, none⟩ ∧ w.cell? ⟨b, off + j, none⟩ = some (.int .u8 (x.toNat : Int)) := by
  obtain ⟨a', cap', e, h2, h3, h4⟩ := h
  cases e
  have hj : j < xs.length := (List.getElem?_eq_some_iff.1 hx).1
  obtain ⟨b, off, rfl, -, hc⟩ := h4.some_of (by simp; omega)
  refine ⟨b, off, rfl, ?_⟩
  rw [hc j (by simpa using hj), List.getElem?_map, hx]
  rfl
theorem frame48 (a : Go.Act) (hs : a.tmps.size = 48) (hd : a.defers = []) : a = ⟨((List.range 48).map (slot a)).toArray, []⟩ := frameX a 48 hs hd
set_option maxRecDepth 100000 in
set_option maxHeartbeats 8000000 in
theorem pmul_any (A : Nat → Prop) (w : World) (p q : Value) (ps qs : List UInt8) (hp : Bs A w p ps) (hq : Bs A w q qs) (hpn : 0 < ps.length + qs.length) (hl : ps.length + qs.length ≤ 1000) :
    Calls Tryd.prog 87 #[p, q] w fun e w' => ∃ u, e = .returned u ∧ OwnB 5 w.heap.size w' u (pmul ps qs) ∧ Fr [] w w' := by
  have HP := Lib.hid hp
  have HQ := Lib.hid hq
  have hp0 := hpn
  obtain ⟨pa, pc, rfl, p2, p3, hpr⟩ := hp
  obtain ⟨qa, qc, rfl, q2, q3, hqr⟩ := hq
  unfold maxLen at p3 q3
  obtain ⟨i0, hi, hz, hsz, hby⟩ := info_bytes Tryd.infoByte
  obtain ⟨P, hP⟩ : ∃ P, ps.length = P := ⟨_, rfl⟩
  obtain ⟨Q, hQ⟩ : ∃ Q, qs.length = Q := ⟨_, rfl⟩
  rw [hP] at HP p2 hl hp0 ⊢
  rw [hQ] at HQ q2 hl hp0 ⊢
  have HPL := Lib.hid hP
  have HQL := Lib.hid hQ
  clear hP hQ hpr hqr hpn
  go_enter Tryd.func87, Tryd.ntmps87
  go_wp2_with fail
  refine (make_any _).mono ?_
  rintro e w1 ⟨rfl, hT, hf⟩
  have hs1 := hf.size
  have hlt := hT.lt
  go_wp2_with (refine wpList_make_row _ rfl (.tmp 16) (.tmp 16) 22 rfl 5 i0 (.int .u8 0) Tryd.underlying22 hi hz hsz rfl .i64 .i64 (P + Q) (by show Value.int .i64 ((P : Int) + (Q : Int)) = _; simp) (by show Value.int .i64 ((P : Int) + (Q : Int)) = _; simp) (by rw [hby]; omega) (by omega) ?_)
  have hcs : madeCells #[.int .u8 0] (P + Q) = ((List.replicate (P + Q) (0 : UInt8)).map u8v).toArray := by
    apply Array.ext
    · simp [madeCells]
    · intro i h1 h2
      simp [madeCells, u8v, Nat.mod_one]
  have HA := Lib.hid (show At (w1.alloc (.cells (madeCells #[.int .u8 0] (P + Q)) 5)) w1.heap.size (.cells ((mulAll (ps.take 0) qs 0 (List.replicate (P + Q) 0)).map u8v).toArray 5) by rw [hcs]; exact At.new rfl)
  have HT := Lib.hid (show At (w1.alloc (.cells (madeCells #[.int .u8 0] (P + Q)) 5)) w.heap.size (.cells tabF 171) from hT.al)
  have HF := Lib.hid (show Fr [] w (w1.alloc (.cells (madeCells #[.int .u8 0] (P + Q)) 5)) from Fr.al hf)
  obtain ⟨w2, hw2⟩ : ∃ w2, w1.alloc (.cells (madeCells #[.int .u8 0] (P + Q)) 5) = w2 := ⟨_, rfl⟩
  rw [hw2] at HA HT HF ⊢
  obtain ⟨g, hg⟩ : ∃ g, w1.heap.size = g := ⟨_, rfl⟩
  rw [hg] at HA hs1 hlt ⊢
  clear hT hf hcs hw2 hg hi hz hsz hby
  have hgt : g ≠ w.heap.size := by omega
  go_wp2
  go_loopw [20] (fun i wr => ∃ j : Nat, j ≤ P ∧ i = .int .i64 j ∧ Hid (At wr g (.cells ((mulAll (ps.take j) qs 0 (List.replicate (P + Q) 0)).map u8v).toArray 5)) ∧ Hid (At wr w.heap.size (.cells tabF 171)) ∧ Hid (Fr [] w wr)) (fun i _ => P - (intOf i).toNat)
  case atStart => exact ⟨0, by omega, rfl, HA.out, HT.out, HF.out⟩
  case round =>
    clear HA HT HF
    obtain ⟨j, hj, rfl, HA, HT, HF⟩ := hrel
    by_cases hjn : j < P
    · obtain ⟨x, hx⟩ : ∃ x, ps[j]? = some x := ⟨_, List.getElem?_eq_getElem (by have := HPL.out; omega)⟩
      obtain ⟨pb, po, rfl, hcp⟩ := bs_cell HP.out j x hx
      have hcx := cell_mono HF.out hcp
      have HM := Lib.hid (mulAll_take ps qs j 0 x (List.replicate (P + Q) 0) hx)
      have HL := Lib.hid (show (mulAll (ps.take j) qs 0 (List.replicate (P + Q) 0)).length = P + Q by rw [mulAll_len, List.length_replicate])
      obtain ⟨out, ho⟩ : ∃ out, mulAll (ps.take j) qs 0 (List.replicate (P + Q) 0) = out := ⟨_, rfl⟩
      rw [ho] at HA HM HL
      clear hx hcp ho
      go_wp2
      go_loopw [27] (fun i wr => ∃ k : Nat, k ≤ Q ∧ i = .int .i64 k ∧ Hid (At wr g (.cells ((mulRow x (qs.take k) (0 + j) out).map u8v).toArray 5)) ∧ Hid (At wr w.heap.size (.cells tabF 171)) ∧ Hid (Fr [] w wr)) (fun i _ => Q - (intOf i).toNat)
      case atStart => exact ⟨0, by omega, rfl, HA.out, HT.out, HF.out⟩
      case round =>
        clear HA HT HF hcx
        obtain ⟨k, hk, rfl, HA, HT, HF⟩ := hrel
        by_cases hkn : k < Q
        · obtain ⟨y, hy⟩ : ∃ y, qs[k]? = some y := ⟨_, List.getElem?_eq_getElem (by have := HQL.out; omega)⟩
          obtain ⟨qb, qo, rfl, hcq⟩ := bs_cell HQ.out k y hy
          have hcy := cell_mono HF.out hcq
          have HR := Lib.hid (mulRow_take x qs k (0 + j) y out hy)
          have HL2 := Lib.hid (show (mulRow x (qs.take k) (0 + j) out).length = P + Q by rw [mulRow_len, HL.out])
          obtain ⟨cur, hcur⟩ : ∃ cur, mulRow x (qs.take k) (0 + j) out = cur := ⟨_, rfl⟩
          rw [hcur] at HA HR HL2
          clear hy hcq hcur
          go_wp2_with fail
          refine pmul_reg _ _ rfl g w.heap.size (P + Q) j k cur x y (by omega) (by omega) HL2.out hgt rfl rfl rfl rfl rfl rfl HA.out HT.out _ ?_
          intro b p h1 h2 h3 hf ha
          obtain ⟨f, hb⟩ := putsX b _ _ h1 h2 h3
          have HA2 := Lib.hid (show At p g (.cells ((mulRow x (qs.take (k + 1)) (0 + j) out).map u8v).toArray 5) by rw [HR.out, Nat.zero_add]; exact ha)
          have HT2 := Lib.hid (HT.out.keep hf (by simpa using hgt.symm))
          have HF2 := Lib.hid (HF.out.then hf (by intro b hb; simp at hb; omega))
          clear h1 h2 h3 hf ha HA HT HF hcy
          subst hb
          simp only [List.foldl_cons, List.foldl_nil, Go.Act.put, List.setIfInBounds_toArray, List.set_cons_succ, List.set_cons_zero]
          go_wp2
          go_roundw
          case rel => exact ⟨k + 1, by omega, by go_num, HA2.out, HT2.out, HF2.out⟩
          case measure => simp [intOf]; omega
        · obtain rfl : k = Q := by omega
          have HA2 := Lib.hid (show At wr g (.cells ((mulAll (ps.take (j + 1)) qs 0 (List.replicate (P + k) 0)).map u8v).toArray 5) by
            rw [HM.out]
            have h := HA.out
            rwa [List.take_of_length_le (by have := HQL.out; omega)] at h)
          clear HA
          go_wp2
          go_roundw
          case rel => exact ⟨j + 1, by omega, by go_num, HA2.out, HT.out, HF.out⟩
          case measure => simp [intOf]; omega
    · obtain rfl : j = P := by omega
      have hl2 : (mulAll (ps.take j) qs 0 (List.replicate (j + Q) 0)).length = j + Q := by rw [mulAll_len, List.length_replicate]
      have HB := Lib.hid (show Bs (fun _ => False) wr (.slice (some ⟨g, 0, none⟩) (j + Q) (j + Q)) (mulAll (ps.take j) qs 0 (List.replicate (j + Q) 0)) from by
        have h := Row.of_block (A := fun _ => False) HA.out (by simp)
        refine ⟨some ⟨g, 0, none⟩, j + Q, by rw [hl2], by rw [hl2]; exact Nat.le_refl _, by simp [maxLen]; omega, by simpa using h⟩)
      have HR := Lib.hid (show pmul ps qs = ptrim (mulAll (ps.take j) qs 0 (List.replicate (j + Q) 0)) by
        unfold pmul
        rw [HPL.out, HQL.out, List.take_of_length_le (by have := HPL.out; omega)])
      have HTR := Lib.hid (trim_any (fun _ => False) wr _ _ HB.out (by intro h; rw [h] at hl2; simp at hl2; omega) (by rw [hl2]; omega))
      have hs2 := HF.out.size
      clear hl2 HA HT HB
      go_wp2_with fail
      refine HTR.out.mono ?_
      rintro e w3 ⟨u, rfl, ho, hf⟩
      have HO := Lib.hid (ho.base hs2)
      have HF2 := Lib.hid (HF.out.trans hf)
      clear ho hf HTR
      go_wp2
      go_ret
      exact ⟨_, rfl, by rw [HR.out]; exact HO.out, HF2.out⟩
end Go.Proofs.YtmohiblgfmdkjaaDoor
namespace Go.Proofs.YtmohiblgfmdkjaaDoor
open Go.RowKit Go.Bl
set_option linter.unusedVariables false

theorem proots_len (rs : List UInt8) : ∀ k, (proots (rs.take k)).length ≤ 1 + 2 * k
  | 0 => by simp [proots]
  | k + 1 => by
    cases h : rs[k]? with
    | none =>
      have hl := List.getElem?_eq_none_iff.1 h
      rw [List.take_of_length_le (by omega)]
      have := proots_len rs k
      rw [List.take_of_length_le hl] at this
      omega
    | some r =>
      rw [proots_take rs k r h]
      have := pmul_len (proots (rs.take k)) [r, 1]
      have := proots_len rs k
      simp at *
      omega
theorem own_lit {e : TypeId} {base : Nat} (w : World) (c : Array Value) (xs : List UInt8) (hb : base ≤ w.heap.size) (hc : c.toList = xs.map u8v) (hl : xs.length ≤ 1000) : OwnB e base (w.alloc (.cells c e)) (.slice (some ⟨w.heap.size, 0, none⟩) xs.length xs.length) xs := by
  have hs : c.size = xs.length := by have := congrArg List.length hc; simpa using this
  refine ⟨by simp, .inr ⟨w.heap.size, xs.length, c, rfl, hb, heap_alloc_new _ _, Nat.le_refl _, by simp [maxLen]; omega, by omega, ?_⟩⟩
  rw [List.take_of_length_le (by simp; omega), hc]
theorem bs_lit {A : Nat → Prop} (w : World) (c : Array Value) (e : TypeId) (xs : List UInt8) (hA : ¬ A w.heap.size) (hc : c.toList = xs.map u8v) (hl : xs.length ≤ 1000) : Bs A (w.alloc (.cells c e)) (.slice (some ⟨w.heap.size, 0, none⟩) xs.length xs.length) xs :=
  ⟨_, _, rfl, Nat.le_refl _, by simp [maxLen]; omega, by
    have := Row.of_block (A := A) (show (w.alloc (.cells c e)).heap[w.heap.size]? = some (.cells c e (0, 0)) from heap_alloc_new _ _) hA
    rwa [hc] at this⟩

set_option maxRecDepth 100000 in
set_option maxHeartbeats 4000000 in
theorem roots_any (A : Nat → Prop) (w : World) (v : Value) (rs : List UInt8) (hb : Bs A w v rs) (hl : rs.length ≤ 32) :
    Calls Tryd.prog 81 #[v] w fun e w' => ∃ u, e = .returned u ∧ OwnB 5 w.heap.size w' u (proots rs) ∧ Fr [] w w' := by
  have HB := Lib.hid hb
  obtain ⟨a, cap, rfl, h2, h3, -⟩ := hb
  unfold maxLen at h3
  obtain ⟨N, hN⟩ : ∃ N, rs.length = N := ⟨_, rfl⟩
  rw [hN] at HB h2 hl ⊢
  have HN := Lib.hid hN
  clear hN
  have HO := Lib.hid (show OwnB 5 w.heap.size (w.alloc (.cells #[.int .u8 1] 5)) (.slice (some ⟨w.heap.size, 0, none⟩) 1 1) (proots (rs.take 0)) from own_lit w #[.int .u8 1] [1] (Nat.le_refl _) rfl (by simp))
  go_enter Tryd.func81, Tryd.ntmps81
  go_wp2
  go_loopw [3, 9] (fun o i wr => ∃ j : Nat, j ≤ N ∧ i = .int .i64 j ∧ Hid (OwnB 5 w.heap.size wr o (proots (rs.take j))) ∧ Hid (Fr [] w wr)) (fun _ i _ => N - (intOf i).toNat)
  case atStart => exact ⟨0, by omega, rfl, HO.out, Fr.alloc _ _⟩
  case round =>
    clear HO
    obtain ⟨j, hj, rfl, HO, HF⟩ := hrel
    by_cases hjn : j < N
    · obtain ⟨x, hx⟩ : ∃ x, rs[j]? = some x := ⟨_, List.getElem?_eq_getElem (by have := HN.out; omega)⟩
      obtain ⟨b, off, rfl, hc⟩ := bs_cell HB.out j x hx
      have hcx := cell_mono HF.out hc
      have HT := Lib.hid (proots_take rs j x hx)
      have HL := Lib.hid (proots_len rs j)
      obtain ⟨oo, on, oc, rfl⟩ := bs_shp (HO.out.bs (A := fun _ => False) (by simp))
      clear hx hc
      go_wp2_with fail
      have hbs := bs_lit (A := fun _ => False) wr #[.int .u8 (x.toNat : Int), .int .u8 1] 5 [x, 1] (by simp) rfl (by simp)
      have hal : Fr [] wr (wr.alloc (.cells #[.int .u8 (x.toNat : Int), .int .u8 1] 5)) := Fr.alloc _ _
      have hs := (HF.out.trans hal).size
      refine (pmul_any (fun _ => False) _ _ _ _ _ ((HO.out.keep hal (by simp)).bs (by simp)) hbs (by simp) (by have := HL.out; simp; omega)).mono ?_
      rintro e w2 ⟨u, rfl, ho, hf⟩
      have HO2 := Lib.hid (show OwnB 5 w.heap.size w2 u (proots (rs.take (j + 1))) by rw [HT.out]; exact ho.base hs)
      have HF2 := Lib.hid ((HF.out.trans hal).trans hf)
      clear ho hf hbs hal HO HF hcx
      go_wp2
      go_roundw
      case rel => exact ⟨j + 1, by omega, by go_num, HO2.out, HF2.out⟩
      case measure => simp [intOf]; omega
    · obtain rfl : j = N := by omega
      have HE := Lib.hid (show rs.take j = rs from List.take_of_length_le (by have := HN.out; omega))
      go_wp2
      go_ret
      exact ⟨_, rfl, by have := HO.out; rwa [HE.out] at this, HF.out⟩

set_option maxRecDepth 100000 in
set_option maxHeartbeats 4000000 in
theorem gen_any (w : World) : Calls Tryd.prog 64 #[] w fun e w' => ∃ u, e = .returned u ∧ OwnB 5 w.heap.size w' u genL ∧ Fr [] w w' := by
  go_enter Tryd.func64, Tryd.ntmps64
  go_wp2
  go_loopw [1, 3] (fun o i wr => ∃ j : Nat, j ≤ 32 ∧ i = .int .i64 j ∧ Hid (OwnB 5 w.heap.size wr o ((List.range j).map gexp)) ∧ Hid (Fr [] w wr)) (fun _ i _ => 32 - (intOf i).toNat)
  case atStart => exact ⟨0, by omega, rfl, OwnB.nil _ _ _, Fr.refl _ _⟩
  case round =>
    obtain ⟨j, hj, rfl, HO, HF⟩ := hrel
    by_cases hjn : j < 32
    · go_wp2_with fail
      refine (exp_any _ j (by omega)).mono ?_
      rintro e w2 ⟨rfl, hf⟩
      have HO2 := Lib.hid (HO.out.keep hf (by simp))
      have HF2 := Lib.hid (HF.out.trans hf)
      have HR := Lib.hid (show (List.range (j + 1)).map gexp = (List.range j).map gexp ++ [gexp j] by simp [List.range_succ])
      clear hf HO HF
      unfold u8v
      obtain ⟨x, hx⟩ : ∃ x, gexp j = x := ⟨_, rfl⟩
      rw [hx] at HR ⊢
      clear hx
      have HBL := Lib.hid (bs_lit (A := fun _ => False) w2 #[.int .u8 (x.toNat : Int)] 5 [x] (by simp) rfl (by simp))
      have HO3 := Lib.hid (HO2.out.keep (Fr.alloc (S := []) w2 (.cells #[.int .u8 (x.toNat : Int)] 5)) (by simp))
      have HF3 := Lib.hid (show Fr [] w (w2.alloc (.cells #[.int .u8 (x.toNat : Int)] 5)) from Fr.al HF2.out)
      have hs := HF3.out.size
      go_wp2_with (at_builtin; refine wpl_append_bs (A := fun _ => False) (ys := [x]) (base := w.heap.size) Tryd.underlying22 Tryd.infoByte rfl (.tmp 6) (.tmp 9) rfl rfl rfl HO3.out HBL.out (by simp; omega) hs ?_)
      intro v' w3 h5 h6
      have HO4 := Lib.hid (show OwnB 5 w.heap.size w3 v' ((List.range (j + 1)).map gexp) by rw [HR.out]; exact h5)
      have HF4 := Lib.hid (show Fr [] w w3 from OwnB.fr HO3.out HF3.out h6 (Nat.le_refl _))
      clear h5 h6 HO3 HF3 HBL HO2 HF2
      go_wp2
      go_roundw
      case rel => exact ⟨j + 1, by omega, by go_num, HO4.out, HF4.out⟩
      case measure => simp [intOf]; omega
    · obtain rfl : j = 32 := by omega
      have HB := Lib.hid (HO.out.bs (A := fun _ => False) (by simp))
      have hs := HF.out.size
      obtain ⟨oo, on, oc, rfl⟩ := bs_shp HB.out
      go_wp2_with fail
      refine (roots_any (fun _ => False) _ _ _ HB.out (by simp)).mono ?_
      rintro e w2 ⟨u, rfl, ho, hf⟩
      have HO2 := Lib.hid (ho.base hs)
      have HF2 := Lib.hid (HF.out.trans hf)
      clear ho hf
      go_wp2
      go_ret
      exact ⟨_, rfl, HO2.out, HF2.out⟩
end Go.Proofs.YtmohiblgfmdkjaaDoor
