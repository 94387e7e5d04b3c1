/-
  Layer 4: the document's Register and Shortest.
-/
import Derived.Test.YtfblhdomjnffcaaDoorGP
import Derived.Test.YtfblhdomjnffcaaDoorGF
import Derived.Test.YtfblhdomjnffcaaDoorPadd
import Derived.Test.YtfblhdomjnffcaaDoorGJ
import Derived.Test.YtfblhdomjnffcaaDoorRblh
namespace Go.Proofs.YtfblhdomjnffcaaDoor
open Go.RowKit Go.Bl
set_option linter.unusedVariables false

def regK (s : List UInt8) (long i q : Nat) : List UInt8 := (List.range (long + 1)).map fun t => if t < q then cf s (i - (t + 1)) else 0
theorem regK_len (s : List UInt8) (long i q : Nat) : (regK s long i q).length = long + 1 := by simp [regK]
theorem regK_cf (s : List UInt8) (long i q j : Nat) (hj : j < long + 1) : cf (regK s long i q) j = if j < q then cf s (i - (j + 1)) else 0 := by
  unfold regK
  rw [cf_map_range, if_pos hj]
theorem regK_zero (s : List UInt8) (long i : Nat) : regK s long i 0 = List.replicate (long + 1) 0 := list_ext_cf (by simp [regK_len]) fun j hj => by
  rw [regK_len] at hj
  rw [regK_cf _ _ _ _ _ hj, if_neg (by omega), cf_replicate]
theorem regK_step (s : List UInt8) (long i q : Nat) (hq : q < long) : (regK s long i q).set q (cf s (i - (q + 1))) = regK s long i (q + 1) := by
  refine set_ext (by rw [regK_len, regK_len]) (by rw [regK_len]; omega) fun j hj => ?_
  rw [regK_len] at hj
  rw [regK_cf _ _ _ _ _ hj, regK_cf _ _ _ _ _ hj]
  by_cases h : j = q
  · subst h; rw [if_pos (by omega), if_pos rfl]
  · rw [if_neg h]
    by_cases h2 : j < q
    · rw [if_pos h2, if_pos (by omega)]
    · rw [if_neg h2, if_neg (by omega)]
theorem regK_end (s : List UInt8) (long i : Nat) : (regK s long i long).set long (cf s i) = regRow s long i := by
  refine set_ext (by rw [regK_len, regRow_len]) (by rw [regK_len]; omega) fun j hj => ?_
  rw [regK_len] at hj
  rw [regK_cf _ _ _ _ _ hj, regRow_cf]
  by_cases h : j = long
  · subst h; simp
  · have h2 : j < long := by omega
    simp [h, h2]

set_option maxRecDepth 100000 in
set_option maxHeartbeats 8000000 in
theorem rregister_any (w : World) (v : Value) (s : List UInt8) (long : Nat) (hs : Bs (fun _ => False) w v s) (hl : s.length ≤ 60) (hlo : long ≤ 60) :
    Calls Tryd.prog 26 #[v, .int .i64 long] w fun e w' => ((e = .returned (.tuple #[.slice none 0 0, .bool false]) ∧ ∀ x, ¬ sol long (regRows s long) x) ∨
      ∃ u x, e = .returned (.tuple #[u, .bool true]) ∧ OwnB 5 w.heap.size w' u x ∧ x.length = long ∧ sol long (regRows s long) (cf x)) ∧ Fr [] w w' := by
  have HS := Lib.hid hs
  obtain ⟨sa, sc, rfl, s2, s3, -⟩ := hs
  unfold maxLen at s3
  have HRR := Lib.hid (show regRows s long = (List.range (s.length - long)).map fun k => regRow s long (long + k) from rfl)
  obtain ⟨RR, hRR⟩ : ∃ RR, regRows s long = RR := ⟨_, rfl⟩
  rw [hRR] at HRR ⊢
  obtain ⟨N, hN⟩ : ∃ N, s.length = N := ⟨_, rfl⟩
  have HN := Lib.hid hN
  rw [hN] at HS s2 hl HRR ⊢
  obtain ⟨B, hB⟩ : ∃ B, w.heap.size = B := ⟨_, rfl⟩
  have HBB := Lib.hid hB
  have HO0 := Lib.hid (show OwnV 22 B (w.alloc (.cells #[] 22)) (.slice (some ⟨B, 0, none⟩) 0 0) (([] : List (Value × List UInt8)).map (·.1)) from by
    have h := OwnV.lit 22 B w #[] (by omega) (by simp [maxLen])
    rw [hB] at h
    exact h)
  have HF0 := Lib.hid (show Fr [] w (w.alloc (.cells #[] 22)) from Fr.alloc _ _)
  have hb0 : B ≤ (w.alloc (.cells #[] 22)).heap.size := by simp; omega
  clear hN hRR
  go_enter Tryd.func26, Tryd.ntmps26
  go_wp2
  clear hB
  go_loopw [6, 7] (fun o ii wr => ∃ (k : Nat) (ls : List (Value × List UInt8)), (k = 0 ∨ long + k ≤ N) ∧ ii = .int .i64 ((long + k : Nat) : Int) ∧ B ≤ wr.heap.size ∧ Hid (OwnV 22 B wr o (ls.map (·.1))) ∧ Hid (∀ x ∈ ls, BsT wr x.1 x.2) ∧ Hid (ls.map (·.2) = (List.range k).map fun k => regRow s long (long + k)) ∧ Hid (Fr [] w wr)) (fun _ ii _ => N - (intOf ii).toNat)
  case atStart => exact ⟨0, [], .inl rfl, rfl, hb0, HO0, Lib.hid (fun x hx => by simp at hx), Lib.hid rfl, HF0⟩
  case round =>
    clear HO0 HF0 hb0
    obtain ⟨k, ls, hk, rfl, hBw, HO, HOB, HOS, HF⟩ := hrel
    obtain ⟨wl, rfl⟩ : ∃ wl, wl = wr := ⟨wr, rfl⟩
    obtain ⟨i, hi⟩ : ∃ i, long + k = i := ⟨_, rfl⟩
    have HI := Lib.hid hi
    have hik : k ≤ i ∧ long ≤ i := by omega
    rw [hi] at hk ⊢
    have hlen : ls.length = k := by have h := congrArg List.length HOS.out; simpa using h
    clear hi
    by_cases hiN : i < N
    · have hiNi : (i : Int) < N := by omega
      obtain ⟨i0, hi0, hz0, hsz0, hby0⟩ := info_bytes Tryd.infoByte
      obtain ⟨BW, hBW⟩ : ∃ BW, wl.heap.size = BW := ⟨_, rfl⟩
      have HBW := Lib.hid hBW
      have HE := Lib.hid (show OwnB 5 BW (wl.alloc (.cells (madeCells #[.int .u8 0] (long + 1)) 5)) (.slice (some ⟨BW, 0, none⟩) (long + 1) (long + 1)) (regK s long i 0) by
        have h := own_lit (e := 5) (base := BW) wl (madeCells #[.int .u8 0] (long + 1)) (List.replicate (long + 1) 0) (by omega) (by rw [made_zeros2]) (by simp; omega)
        rw [List.length_replicate, hBW, ← regK_zero s long i] at h
        exact h)
      have HFE := Lib.hid (show Fr [] wl (wl.alloc (.cells (madeCells #[.int .u8 0] (long + 1)) 5)) from Fr.alloc _ _)
      obtain ⟨z, hz⟩ : ∃ z, s[i]? = some z := ⟨_, List.getElem?_eq_getElem (by have := HN.out; omega)⟩
      obtain ⟨sb, so, rfl, hcz⟩ := bs_cell HS.out i z hz
      have HZ := Lib.hid (cf_get hz)
      have HCZ := Lib.hid hcz
      clear hz hcz
      go_wp2_with (refine wpList_make_row _ rfl (.tmp 19) (.tmp 19) 22 rfl 5 i0 (.int .u8 0) Tryd.underlying22 hi0 hz0 hsz0 rfl .i64 .i64 (long + 1) (by go_num) (by go_num) (by rw [hby0]; omega) (by omega) ?_)
      clear hBW hi0 hz0 hsz0 hby0
      go_loopw [9] (fun ji wr => ∃ q : Nat, q ≤ long ∧ ji = .int .i64 ((q + 1 : Nat) : Int) ∧ Hid (OwnB 5 BW wr (.slice (some ⟨BW, 0, none⟩) (long + 1) (long + 1)) (regK s long i q)) ∧ Hid (Fr [] wl wr)) (fun ji _ => long + 1 - (intOf ji).toNat)
      case atStart => exact ⟨0, Nat.zero_le _, rfl, HE, HFE⟩
      case round =>
        clear HE HFE
        obtain ⟨q, hq, rfl, HQ, HFq⟩ := hrel
        obtain ⟨wq, rfl⟩ : ∃ wq, wq = wr := ⟨wr, rfl⟩
        by_cases hql : q < long
        · have hqli : ((q + 1 : Nat) : Int) ≤ long := by omega
          obtain ⟨x, hx⟩ : ∃ x, s[i - (q + 1)]? = some x := ⟨_, List.getElem?_eq_getElem (by have := HN.out; omega)⟩
          obtain ⟨b', o', e, hcx⟩ := bs_cell HS.out (i - (q + 1)) x hx
          cases e
          have hcx2 := cell_mono (HF.out.trans HFq.out) hcx
          have HST := Lib.hid (regK_step s long i q hql)
          rw [cf_get hx] at HST
          obtain ⟨cur, k1, k2, -, k4⟩ := own_blk HQ.out
          rw [regK_len] at k2
          have HK1 := Lib.hid k1
          have HK4 := Lib.hid (k4 · q x)
          have hcs : q < cur.size := by omega
          obtain ⟨q1, hq1⟩ : ∃ q1, q + 1 = q1 := ⟨_, rfl⟩
          have hq11 : q1 ≤ long := by omega
          have hsub : (q1 : Int) - 1 = q := by omega
          have hsub2 : (i : Int) - (q1 : Int) = ((i - q1 : Nat) : Int) := by omega
          have hin2 : i - q1 < N := by omega
          rw [hq1] at hcx2 hqli ⊢
          have HQ1 := Lib.hid hq1
          clear hx hcx k1 k4 hq1
          go_wp2_with (refine wpl_store_one (.tmp 35) (.tmp 34) rfl rfl (.int .u8 (x.toNat : Int)) rfl rfl HK1.out hcs (by kernel_rfl) rfl ?_)
          intro w5 f5 a5 e5
          clear e5
          have HQ5 := Lib.hid (show OwnB 5 BW w5 (.slice (some ⟨BW, 0, none⟩) (long + 1) (long + 1)) (regK s long i (q + 1)) by rw [← HST.out]; exact HK4.out w5 a5)
          have HF5 := Lib.hid (show Fr [] wl w5 from HFq.out.then f5 (by intro b hb; simp at hb; have := HBW.out; omega))
          rw [HQ1.out] at HQ5
          clear f5 a5 HQ HFq HST HK1 HK4 hsub hsub2
          go_wp2
          go_roundw
          case rel => exact ⟨q1, by omega, by go_num, HQ5, HF5⟩
          case measure => simp [intOf]; have := HQ1.out; omega
        · have hqli : ¬ ((q + 1 : Nat) : Int) ≤ long := by omega
          have hqe : q = long := by omega
          have HQE := Lib.hid (show OwnB 5 BW wq (.slice (some ⟨BW, 0, none⟩) (long + 1) (long + 1)) (regK s long i long) by have h := HQ.out; rwa [hqe] at h)
          have hcz2 := cell_mono (HF.out.trans HFq.out) HCZ.out
          have HST := Lib.hid (regK_end s long i)
          rw [HZ.out] at HST
          obtain ⟨cur, k1, k2, -, k4⟩ := own_blk HQE.out
          rw [regK_len] at k2
          have HK1 := Lib.hid k1
          have HK4 := Lib.hid (k4 · long z)
          have hcs : long < cur.size := by omega
          clear k1 k4 HQ hqe
          go_wp2_with (refine wpl_store_one (.tmp 42) (.tmp 41) rfl rfl (.int .u8 (z.toNat : Int)) rfl rfl HK1.out hcs (by kernel_rfl) rfl ?_)
          intro w5 f5 a5 e5
          clear e5
          have HX5 := Lib.hid (show OwnB 5 BW w5 (.slice (some ⟨BW, 0, none⟩) (long + 1) (long + 1)) (regRow s long i) by rw [← HST.out]; exact HK4.out w5 a5)
          have HF5 := Lib.hid (show Fr [] wl w5 from HFq.out.then f5 (by intro b hb; simp at hb; have := HBW.out; omega))
          have HB5 := Lib.hid (bst_own HX5.out (by rw [regRow_len]; omega))
          obtain ⟨W5, hW5⟩ : ∃ W5, w5.heap.size = W5 := ⟨_, rfl⟩
          have hf6 : Fr [] w5 (w5.alloc (.cells #[.slice (some ⟨BW, 0, none⟩) (long + 1) (long + 1)] 22)) := Fr.alloc _ _
          have HL6 := Lib.hid (show (w5.alloc (.cells #[.slice (some ⟨BW, 0, none⟩) (long + 1) (long + 1)] 22)).heap[W5]? = some (.cells #[.slice (some ⟨BW, 0, none⟩) (long + 1) (long + 1)] 22 (0, 0)) from heap_alloc_at hW5.symm)
          have HF6 := Lib.hid (HF5.out.trans hf6)
          have HX6 := Lib.hid (HB5.out.keep0 hf6)
          have HO6 := Lib.hid (HO.out.keep0 HF6.out)
          have hs6 : B ≤ (w5.alloc (.cells #[.slice (some ⟨BW, 0, none⟩) (long + 1) (long + 1)] 22)).heap.size := by have := HF6.out.size; omega
          clear f5 a5 hf6 HK1 HK4 HST HQE HFq HX5 HF5 HB5 hcz2
          go_wp2_with (at_builtin; refine wpl_append_1 Tryd.underlying77 Tryd.infoBytes rfl rfl (.tmp 43) (.tmp 45) rfl rfl rfl HL6.out rfl HO6.out (by rw [List.length_map]; omega) (by rw [List.length_map]; unfold maxLen; omega) hs6 ?_)
          intro v7 w7 h7 h8
          have HO7 := Lib.hid (show OwnV 22 B w7 v7 ((ls ++ [(Value.slice (some ⟨BW, 0, none⟩) (long + 1) (long + 1), regRow s long i)]).map (·.1)) by rw [List.map_append]; exact h7)
          have HOB7 := Lib.hid (show ∀ x ∈ ls ++ [(Value.slice (some ⟨BW, 0, none⟩) (long + 1) (long + 1), regRow s long i)], BsT w7 x.1 x.2 from fun x hx => by
            rcases List.mem_append.1 hx with hx | hx
            · exact ((HOB.out x hx).keep0 HF6.out).grown HO6.out h8
            · rw [List.mem_singleton] at hx
              subst hx
              exact HX6.out.grown HO6.out h8)
          have HOS7 := Lib.hid (show (ls ++ [(Value.slice (some ⟨BW, 0, none⟩) (long + 1) (long + 1), regRow s long i)]).map (·.2) = (List.range (k + 1)).map fun k => regRow s long (long + k) by
            rw [List.map_append, HOS.out, List.range_succ, List.map_append, ← HI.out]; rfl)
          have HF7 := Lib.hid (show Fr [] w w7 from OwnV.fr HO6.out (HF.out.trans HF6.out) h8 (by have := HBB.out; omega))
          have hsz7 : B ≤ w7.heap.size := by have := h8.size; omega
          have HI7 := Lib.hid (show long + (k + 1) = i + 1 by have := HI.out; omega)
          clear h7 h8 HO6 HO HOB HOS HF HX6 HL6 HF6 HI
          go_wp2
          go_roundw
          case rel => exact ⟨k + 1, _, .inr (by have := HI7.out; omega), by have := HI7.out; go_num, hsz7, HO7, HOB7, HOS7, HF7⟩
          case measure => simp [intOf]; omega
    · have hiNi : ¬ (i : Int) < N := by omega
      have HRD := Lib.hid (show RdB (fun _ => False) wl u6 ls from ⟨HO.out.vs (by simp), fun x hx => (HOB.out x hx).bs (by simp)⟩)
      have HRE := Lib.hid (show ls.map (·.2) = RR by
        rw [HOS.out, HRR.out]
        have := HI.out
        congr 2
        omega)
      have HW := Lib.hid (show ∀ x ∈ ls, x.2.length = long + 1 from fun x hx => by
        have h : x.2 ∈ ls.map (·.2) := List.mem_map.2 ⟨x, hx, rfl⟩
        rw [HOS.out] at h
        obtain ⟨k', -, e⟩ := List.mem_map.1 h
        rw [← e, regRow_len])
      have HSV := Lib.hid (solve_any wl u6 ls long HRD.out HW.out hlo (by omega))
      rw [HRE.out] at HSV
      clear HRD HRE HW HO HOB HOS
      go_wp2_with fail
      refine HSV.out.mono ?_
      rintro e w5 ⟨hr, hf⟩
      have hs5 := HF.out.size
      have HF5 := Lib.hid (HF.out.trans hf)
      rcases hr with ⟨rfl, hno⟩ | ⟨u, x, rfl, hox, hxl, hsol⟩
      · have HNO := Lib.hid hno
        clear hno hf HSV
        go_wp2
        go_ret2
        exact ⟨.inl ⟨rfl, HNO.out⟩, HF5.out⟩
      · have HOX := Lib.hid (hox.base hs5)
        have HXL := Lib.hid hxl
        have HSO := Lib.hid hsol
        clear hox hxl hsol hf HSV
        go_wp2
        go_ret2
        first | exact ⟨.inr ⟨_, x, rfl, HOX.out, HXL.out, HSO.out⟩, HF5.out⟩ | exact ⟨.inr ⟨_, rfl, x, HOX.out, HXL.out, HSO.out⟩, HF5.out⟩

set_option maxRecDepth 100000 in
set_option maxHeartbeats 4000000 in
theorem shortest_any (w : World) (v : Value) (s : List UInt8) (hs : Bs (fun _ => False) w v s) (hl : s.length ≤ 59) :
    Calls Tryd.prog 15 #[v] w fun e w' => e = .returned (.int .i64 (regL s : Int)) ∧ Fr [] w w' := by
  have HS := Lib.hid hs
  have HLE := Lib.hid (reg_le s)
  have HSH := Lib.hid (reg_short s)
  have HSO := Lib.hid (reg_solved s)
  obtain ⟨sa, sc, rfl, s2, s3, -⟩ := hs
  unfold maxLen at s3
  have HRG := Lib.hid (fun w (h : Bs (fun _ => False) w (.slice sa s.length sc) s) long (h2 : long ≤ 60) => rregister_any w (.slice sa s.length sc) s long h (by omega) h2)
  obtain ⟨L, hL⟩ : ∃ L, regL s = L := ⟨_, rfl⟩
  rw [hL] at HLE HSH HSO ⊢
  obtain ⟨N, hN⟩ : ∃ N, s.length = N := ⟨_, rfl⟩
  rw [hN] at HS HRG s2 hl HLE ⊢
  clear hN hL
  go_enter Tryd.func15, Tryd.ntmps15
  go_wp2
  go_loopw [3] (fun i wr => ∃ k : Nat, k ≤ L ∧ i = .int .i64 k ∧ Hid (Fr [] w wr)) (fun i _ => N + 1 - (intOf i).toNat)
  case atStart => exact ⟨0, Nat.zero_le _, rfl, Lib.hid (Fr.refl _ _)⟩
  case round =>
    obtain ⟨k, hk, rfl, HF⟩ := hrel
    have hLN := HLE.out
    have hkN : (k : Int) ≤ N := by omega
    go_wp2_with fail
    refine (HRG.out wr (HS.out.keep HF.out (by simp)) k (by omega)).mono ?_
    rintro e w5 ⟨hr, hf⟩
    have HF5 := Lib.hid (HF.out.trans hf)
    rcases hr with ⟨rfl, hno⟩ | ⟨u, x, rfl, hox, hxl, hsol⟩
    · have hkL : k < L := by
        rcases Nat.lt_or_ge k L with h | h
        · exact h
        · exfalso
          have : k = L := by omega
          rw [this] at hno
          exact hno _ HSO.out
      clear hno hf
      go_wp2
      go_roundw
      case rel => exact ⟨k + 1, by omega, by go_num, HF5⟩
      case measure => simp [intOf]; omega
    · have hkL : L ≤ k := HSH.out k (cf x) hsol
      have HKL := Lib.hid (show k = L by omega)
      clear hox hxl hsol hf hkL
      go_wp2
      go_ret
      exact ⟨by rw [← HKL.out]; rfl, HF5.out⟩
end Go.Proofs.YtfblhdomjnffcaaDoor
