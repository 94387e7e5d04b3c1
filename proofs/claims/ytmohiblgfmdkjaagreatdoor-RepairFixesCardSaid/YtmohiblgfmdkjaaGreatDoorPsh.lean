/-
  Layer 2: poly.Shift, poly.Low, poly.Inverses; the table's quotient.
-/
import Derived.Test.YtmohiblgfmdkjaaGreatDoorPadd
import Derived.Test.YtmohiblgfmdkjaaGreatDoorGen
import Derived.Test.YtmohiblgfmdkjaaGreatDoorGF
namespace Go.Proofs.YtmohiblgfmdkjaaGreatDoor
open Go.RowKit Go.Bl
set_option linter.unusedVariables false

theorem pscale_len (p : List UInt8) (b : UInt8) : (pscale p b).length ≤ p.length := by
  have := ptrim_len (p.map fun c => gmul c b)
  rw [List.length_map] at this
  exact this
theorem pshift_len (p : List UInt8) (n : Nat) : (pshift p n).length ≤ n + p.length := by
  have := ptrim_len (List.replicate n 0 ++ p)
  rw [List.length_append, List.length_replicate] at this
  exact this

theorem zeros_cells (n : Nat) : madeCells #[.int .u8 0] n = ((List.replicate n (0 : UInt8)).map u8v).toArray := by
  apply Array.ext
  · simp [madeCells]
  · intro i h1 h2
    simp [madeCells, u8v, Nat.mod_one]

set_option maxRecDepth 100000 in
set_option maxHeartbeats 2000000 in
theorem pshift_any (A : Nat → Prop) (w : World) (x : Value) (xs : List UInt8) (n : Nat) (hx : Bs A w x xs) (hl : xs.length ≤ 1000) (hn : n ≤ 1000) :
    Calls Tryz.prog 96 #[x, .int .i64 n] w fun e w' => ∃ u, e = .returned u ∧ OwnB 5 w.heap.size w' u (pshift xs n) ∧ Fr [] w w' := by
  have HX := Lib.hid hx
  obtain ⟨xa, xc, rfl, x2, x3, -⟩ := hx
  unfold maxLen at x3
  obtain ⟨i0, hi, hz, hsz, hby⟩ := info_bytes Tryz.infoByte
  obtain ⟨XN, hXN⟩ : ∃ n, xs.length = n := ⟨_, rfl⟩
  have HXN := Lib.hid hXN
  rw [hXN] at HX x2 hl ⊢
  clear hXN
  have HO := Lib.hid (show OwnB 5 w.heap.size (w.alloc (.cells (madeCells #[.int .u8 0] n) 5)) (.slice (some ⟨w.heap.size, 0, none⟩) n n) (List.replicate n 0) by
    have h := own_lit (e := 5) (base := w.heap.size) w (madeCells #[.int .u8 0] n) (List.replicate n 0) (Nat.le_refl _) (by rw [zeros_cells]) (by simp; omega)
    rw [List.length_replicate] at h
    exact h)
  have HF := Lib.hid (show Fr [] w (w.alloc (.cells (madeCells #[.int .u8 0] n) 5)) from Fr.alloc _ _)
  have HX2 := Lib.hid (HX.out.mono (A' := fun _ => False) HF.out (by simp) (fun _ h => h.elim))
  go_enter Tryz.func96, Tryz.ntmps96
  have hs := HF.out.size
  go_wp2_with (first | (refine wpList_make_row _ rfl (.tmp 7) (.tmp 7) 22 rfl 5 i0 (.int .u8 0) Tryz.underlying22 hi hz hsz rfl .i64 .i64 n (by go_num) (by go_num) (by rw [hby]; omega) (by omega) ?_) | (at_builtin; refine wpl_append_bs (A := fun _ => False) (ys := xs) (base := w.heap.size) Tryz.underlying22 Tryz.infoByte rfl (.tmp 8) (.tmp 9) rfl rfl rfl HO.out HX2.out (by rw [List.length_replicate, HXN.out]; omega) hs ?_))
  intro v3 w3 h5 h6
  have HO3 := Lib.hid h5
  have HF3 := Lib.hid (show Fr [] w w3 from OwnB.fr HO.out HF.out h6 (Nat.le_refl _))
  have HT := Lib.hid (trim_own w3 w.heap.size v3 _ HO3.out (by rw [List.length_append, List.length_replicate, HXN.out]; omega))
  have hs3 := HF3.out.size
  clear h5 h6 HO HF HX2
  go_wp2_with fail
  refine HT.out.mono ?_
  rintro e w4 ⟨u, rfl, ho, hf⟩
  have HO4 := Lib.hid (show OwnB 5 w.heap.size w4 u (pshift xs n) from ho.base hs3)
  have HF4 := Lib.hid (HF3.out.trans hf)
  clear ho hf HT
  go_wp2
  go_ret
  exact ⟨_, rfl, HO4.out, HF4.out⟩

theorem BwI.take {N : Nat} {w : World} {a : Option Addr} {n c : Nat} {zs : List UInt8} (h : BwI N w (.slice a n c) zs) (k : Nat) (hk : k ≤ zs.length) : BwI N w (.slice a k c) (zs.take k) := by
  rcases h with ⟨e, rfl⟩ | ⟨b, off, cap, e, hb, hc⟩
  · cases e
    obtain rfl : k = 0 := by simpa using hk
    exact .inl ⟨rfl, rfl⟩
  · simp only [Value.slice.injEq] at e
    obtain ⟨rfl, -, rfl⟩ := e
    refine .inr ⟨b, off, c, by rw [List.length_take, Nat.min_eq_left hk], hb, fun j hj => ?_⟩
    rw [List.length_take] at hj
    rw [hc j (by omega)]
    simp [List.getD_eq_getElem?_getD, List.getElem?_take, show j < k by omega]
set_option maxRecDepth 100000 in
set_option maxHeartbeats 2000000 in
theorem plow_any (A : Nat → Prop) (w : World) (x : Value) (xs : List UInt8) (n : Nat) (hx : Bs A w x xs) (hI : BwI w.heap.size w x xs) (hl : xs.length ≤ 1000) (hn : n ≤ 1000) :
    Calls Tryz.prog 48 #[x, .int .i64 n] w fun e w' => ∃ u, e = .returned u ∧ OwnB 5 w.heap.size w' u (ptrim (xs.take n)) ∧ Fr [] w w' := by
  have HX := Lib.hid hx
  have HI := Lib.hid hI
  obtain ⟨xa, xc, rfl, x2, x3, -⟩ := hx
  unfold maxLen at x3
  obtain ⟨XN, hXN⟩ : ∃ n, xs.length = n := ⟨_, rfl⟩
  have HXN := Lib.hid hXN
  rw [hXN] at HX HI x2 hl ⊢
  clear hXN hI
  by_cases h : n ≤ XN
  · have HT := Lib.hid (trim_z A w (.slice xa n xc) (xs.take n) (HX.out.take n h) (HI.out.take n (by rw [HXN.out]; exact h)) (by rw [List.length_take]; omega))
    have hmc : n ≤ xc := by omega
    have hi : (n : Int) ≤ XN := by omega
    go_enter Tryz.func48, Tryz.ntmps48
    go_wp2_with fail
    refine HT.out.mono ?_
    rintro e w4 ⟨u, rfl, ho, hf⟩
    have HO4 := Lib.hid ho
    have HF4 := Lib.hid hf
    clear ho hf HT
    go_wp2
    go_ret
    exact ⟨_, rfl, HO4.out, HF4.out⟩
  · rw [List.take_of_length_le (by rw [HXN.out]; omega)]
    have HT := Lib.hid (trim_z A w (.slice xa XN xc) xs HX.out HI.out (by rw [HXN.out]; omega))
    have hi : ¬ (n : Int) ≤ XN := by omega
    go_enter Tryz.func48, Tryz.ntmps48
    go_wp2_with fail
    refine HT.out.mono ?_
    rintro e w4 ⟨u, rfl, ho, hf⟩
    have HO4 := Lib.hid ho
    have HF4 := Lib.hid hf
    clear ho hf HT
    go_wp2
    go_ret
    exact ⟨_, rfl, HO4.out, HF4.out⟩

theorem pinvs_len (rs : List UInt8) : ∀ k, (pinvs (rs.take k)).length ≤ 1 + 2 * k
  | 0 => by simp [pinvs]
  | k + 1 => by
    cases h : rs[k]? with
    | none =>
      have hl := List.getElem?_eq_none_iff.1 h
      rw [List.take_of_length_le (by omega)]
      have := pinvs_len rs k
      rw [List.take_of_length_le hl] at this
      omega
    | some r =>
      rw [pinvs_take rs k r h]
      have := pmul_len (pinvs (rs.take k)) [1, r]
      have := pinvs_len rs k
      simp at *
      omega
set_option maxRecDepth 100000 in
set_option maxHeartbeats 4000000 in
theorem pinvs_any (A : Nat → Prop) (w : World) (v : Value) (rs : List UInt8) (hb : Bs A w v rs) (hl : rs.length ≤ 60) :
    Calls Tryz.prog 76 #[v] w fun e w' => ∃ u, e = .returned u ∧ OwnB 5 w.heap.size w' u (pinvs rs) ∧ Fr [] w w' := by
  have HB := Lib.hid hb
  obtain ⟨a, cap, rfl, h2, h3, -⟩ := hb
  unfold maxLen at h3
  obtain ⟨N, hN⟩ : ∃ N, rs.length = N := ⟨_, rfl⟩
  rw [hN] at HB h2 hl ⊢
  have HN := Lib.hid hN
  clear hN
  have HO := Lib.hid (show OwnB 5 w.heap.size (w.alloc (.cells #[.int .u8 1] 5)) (.slice (some ⟨w.heap.size, 0, none⟩) 1 1) (pinvs (rs.take 0)) from own_lit w #[.int .u8 1] [1] (Nat.le_refl _) rfl (by simp))
  go_enter Tryz.func76, Tryz.ntmps76
  go_wp2
  go_loopw [3, 9] (fun o i wr => ∃ j : Nat, j ≤ N ∧ i = .int .i64 j ∧ Hid (OwnB 5 w.heap.size wr o (pinvs (rs.take j))) ∧ Hid (Fr [] w wr)) (fun _ i _ => N - (intOf i).toNat)
  case atStart => exact ⟨0, by omega, rfl, HO.out, Fr.alloc _ _⟩
  case round =>
    clear HO
    obtain ⟨j, hj, rfl, HO, HF⟩ := hrel
    by_cases hjn : j < N
    · obtain ⟨x, hx⟩ : ∃ x, rs[j]? = some x := ⟨_, List.getElem?_eq_getElem (by have := HN.out; omega)⟩
      obtain ⟨b, off, rfl, hc⟩ := bs_cell HB.out j x hx
      have hcx := cell_mono HF.out hc
      have HT := Lib.hid (pinvs_take rs j x hx)
      have HL := Lib.hid (pinvs_len rs j)
      obtain ⟨oo, on, oc, rfl⟩ := bs_shp (HO.out.bs (A := fun _ => False) (by simp))
      clear hx hc
      go_wp2_with fail
      have hbs := bs_lit (A := fun _ => False) wr #[.int .u8 1, .int .u8 (x.toNat : Int)] 5 [1, x] (by simp) rfl (by simp)
      have hal : Fr [] wr (wr.alloc (.cells #[.int .u8 1, .int .u8 (x.toNat : Int)] 5)) := Fr.alloc _ _
      have hs := (HF.out.trans hal).size
      refine (pmul_any (fun _ => False) _ _ _ _ _ ((HO.out.keep hal (by simp)).bs (by simp)) hbs (by simp) (by have := HL.out; simp; omega)).mono ?_
      rintro e w2 ⟨u, rfl, ho, hf⟩
      have HO2 := Lib.hid (show OwnB 5 w.heap.size w2 u (pinvs (rs.take (j + 1))) by rw [HT.out]; exact ho.base hs)
      have HF2 := Lib.hid ((HF.out.trans hal).trans hf)
      clear ho hf hbs hal HO HF hcx
      go_wp2
      go_roundw
      case rel => exact ⟨j + 1, by omega, by go_num, HO2.out, HF2.out⟩
      case measure => simp [intOf]; omega
    · obtain rfl : j = N := by omega
      have HO2 := Lib.hid (show OwnB 5 w.heap.size wr u3 (pinvs rs) by have h := HO.out; rwa [List.take_of_length_le (by have := HN.out; omega)] at h)
      clear HO
      go_wp2
      go_ret
      exact ⟨_, rfl, HO2.out, HF.out⟩

set_option maxRecDepth 100000 in
set_option maxHeartbeats 2000000 in
theorem tdiv_any (w : World) (b : Nat) (hT : At w b (.cells tabF 116)) (x y : UInt8) : Calls Tryz.prog 94 #[.pointer (some ⟨b, 0, none⟩), .int .u8 (x.toNat : Int), .int .u8 (y.toNat : Int)] w fun e w' => e = .returned (.int .u8 ((gmul x (ginv y)).toNat : Int)) ∧ Fr [] w w' := by
  have hxx := x.toNat_lt
  have hyy := y.toNat_lt
  by_cases hx : x = 0
  · subst hx
    rw [zero_gmul]
    go_enter Tryz.func94, Tryz.ntmps94
    go_wp2
    go_ret
    exact ⟨rfl, Fr.refl _ _⟩
  · have hx0 : x.toNat ≠ 0 := fun e => hx (UInt8.toNat_inj.1 e)
    by_cases hy : y = 0
    · subst hy
      rw [ginv_zero, gmul_zero]
      obtain ⟨m, hm⟩ : ∃ m, x.toNat = m := ⟨_, rfl⟩
      rw [hm] at hxx hx0 ⊢
      clear hm
      have b1 : ((m : Int) == 0) = false := by rw [beq_eq_false_iff_ne]; omega
      go_enter Tryz.func94, Tryz.ntmps94
      go_wp2
      go_ret
      exact ⟨rfl, Fr.refl _ _⟩
    · have hy0 : y.toNat ≠ 0 := fun e => hy (UInt8.toNat_inj.1 e)
      have hlx := hT.cell (510 + x.toNat)
      rw [tabF_log x hx] at hlx
      have hly := hT.cell (510 + y.toNat)
      rw [tabF_log y hy] at hly
      have h1 := (gexp_glog x hx).2
      have h2 := (gexp_glog y hy).2
      obtain ⟨k, hk⟩ : ∃ k, k + glog y = glog x + 255 := ⟨glog x + 255 - glog y, by omega⟩
      have hr := hT.cell k
      rw [tabF_exp _ (by omega)] at hr
      rw [show gmul x (ginv y) = gexp k by
        unfold ginv
        rw [if_neg hy]
        conv => lhs; arg 1; rw [← (gexp_glog x hx).1]
        rw [gexp_add, show glog x + (255 - glog y) = k by omega]]
      unfold u8v at hr
      obtain ⟨g, hg⟩ : ∃ g, (gexp k).toNat = g := ⟨_, rfl⟩
      rw [hg] at hr ⊢
      obtain ⟨i, hi⟩ : ∃ i, glog x = i := ⟨_, rfl⟩
      obtain ⟨j, hj⟩ : ∃ j, glog y = j := ⟨_, rfl⟩
      rw [hi] at h1 hlx hk
      rw [hj] at h2 hly hk
      obtain ⟨m, hm⟩ : ∃ m, x.toNat = m := ⟨_, rfl⟩
      obtain ⟨n, hn⟩ : ∃ n, y.toNat = n := ⟨_, rfl⟩
      rw [hm] at hxx hx0 hlx ⊢
      rw [hn] at hyy hy0 hly ⊢
      clear hm hn hi hj hg hx hy
      have q1 := fun z : Kin w => cell_mono z.fr hlx
      have q2 := fun z : Kin w => cell_mono z.fr hly
      have q3 := fun z : Kin w => cell_mono z.fr hr
      have b1 : ((m : Int) == 0) = false := by rw [beq_eq_false_iff_ne]; omega
      have b2 : ((n : Int) == 0) = false := by rw [beq_eq_false_iff_ne]; omega
      have hkk : (i : Int) + 255 - j = k := by omega
      have hk5 : k < 510 := by omega
      clear hT hlx hly hr hx0 hy0 hk
      go_enter Tryz.func94, Tryz.ntmps94
      go_wp2_with fail
      refine wp_region_calm w (by kernel_rfl) (by kernel_rfl) (Fr.of_heap rfl rfl rfl rfl) ?_
      repeat (go_big_quiet_step (fail))
      refine wpQuiet_nil ?_
      rintro _ ⟨wq, rfl⟩
      go_wp2
      go_ret
      exact ⟨rfl, wq.fr⟩
end Go.Proofs.YtmohiblgfmdkjaaGreatDoor
