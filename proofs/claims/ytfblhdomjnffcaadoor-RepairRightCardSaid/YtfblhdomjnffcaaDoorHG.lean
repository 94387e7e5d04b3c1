/-
  Layer 3: the document's Syndromes.
  The law RepairRight, walked.
-/
import Derived.Test.YtfblhdomjnffcaaDoorGQ
import Derived.Test.YtfblhdomjnffcaaDoorQui
import Derived.Test.YtfblhdomjnffcaaDoorGA
import Derived.Laws.Rows
import Derived.Test.YtfblhdomjnffcaaDoorHC
import Derived.Test.YtfblhdomjnffcaaDoorRer
import Derived.BigQuiet
namespace Go.Proofs.YtfblhdomjnffcaaDoor
open Go.RowKit Go.Bl
set_option linter.unusedVariables false
theorem gexp_dbl (j : Nat) : gmul (gexp j) 2 = gexp (j + 1) := by
  rw [← gexp_add]; rfl
theorem rmul_two (w : World) (a : UInt8) : Calls Tryd.prog 49 #[.int .u8 (a.toNat : Int), .int .u8 2] w fun e w' => e = .returned (.int .u8 ((gmul a 2).toNat : Int)) ∧ Fr [] w w' := rmul_i w a 2
set_option maxRecDepth 100000 in
set_option maxHeartbeats 4000000 in
theorem rsynd_any (w : World) (v : Value) (ws : List UInt8) (hb : Bs (fun _ => False) w v ws) :
    Calls Tryd.prog 39 #[v] w fun e w' => e = .returned (.agg ((synL ws).map u8v).toArray) ∧ Fr [] w w' := by
  have HB := Lib.hid hb
  obtain ⟨a, cap, rfl, b2, b3, -⟩ := id hb
  unfold maxLen at b3
  obtain ⟨N, hN⟩ : ∃ N, ws.length = N := ⟨_, rfl⟩
  have HN := Lib.hid hN
  rw [hN] at HB b2 ⊢
  clear hN hb
  have HJ := Lib.hid (fun j => synK_len ws j)
  have HST := Lib.hid (synK_start ws)
  have HSP := Lib.hid (synK_step ws)
  have HEND := Lib.hid (synK_end ws)
  have HZ0 := Lib.hid (show (synK ws 0) = zero32 from synK_zero ws)
  obtain ⟨SK, hSK⟩ : ∃ f, synK ws = f := ⟨_, rfl⟩
  rw [hSK] at HJ HST HSP HEND HZ0
  rw [← HEND.out]
  clear hSK
  obtain ⟨rb, hrb⟩ : ∃ rb, w.heap.size = rb := ⟨_, rfl⟩
  have HWB := Lib.hid hrb
  go_enter Tryd.func39, Tryd.ntmps39
  go_wp2_with (refine wpl_store_new (w := w.alloc _) (.tmp 3) (.tmp 9) rfl rfl ((zero32.map u8v).toArray) (by first | rfl | simp [go_sem]) (by kernel_rfl) (by kernel_rfl) (by kernel_rfl) (by kernel_rfl) ?_)
  have HR1 := Lib.hid (show At ((w.alloc (.cells (zero32.map u8v).toArray 32)).alloc (.cells (zero32.map u8v).toArray 32)) w.heap.size (.cells ((SK 0).map u8v).toArray 32 (0, 0)) by rw [HZ0.out]; exact (At.new rfl).al)
  have HO1 := Lib.hid (show At ((w.alloc (.cells (zero32.map u8v).toArray 32)).alloc (.cells (zero32.map u8v).toArray 32)) (w.heap.size + 1) (.cells ((SK 0).map u8v).toArray 32 (0, 0)) by rw [HZ0.out]; exact At.new (by simp))
  have HF1 := Lib.hid (show Fr [] w ((w.alloc (.cells (zero32.map u8v).toArray 32)).alloc (.cells (zero32.map u8v).toArray 32)) from (Fr.alloc _ _).trans (Fr.alloc _ _))
  rw [hrb] at HR1 HO1
  try rw [hrb]
  obtain ⟨ob, hob⟩ : ∃ ob, rb + 1 = ob := ⟨_, rfl⟩
  rw [hob] at HO1 ⊢
  have hor : rb ≠ ob := by omega
  have hwo : w.heap.size ≤ ob := by omega
  clear hob hrb HZ0
  go_wp2
  go_loopw [4, 5] (fun xx i wr => ∃ j : Nat, j ≤ 32 ∧ i = .int .i64 j ∧ xx = .int .u8 ((gexp j).toNat : Int) ∧ Hid (At wr ob (.cells ((SK j).map u8v).toArray 32)) ∧ Hid (At wr rb (.cells ((SK 0).map u8v).toArray 32)) ∧ Hid (Fr [] w wr)) (fun _ i _ => 32 - (intOf i).toNat)
  case atStart => exact ⟨0, by omega, rfl, rfl, HO1, HR1, HF1⟩
  case round =>
    clear HO1 HR1 HF1
    obtain ⟨j, hj, rfl, rfl, HO, HR, HF⟩ := hrel
    obtain ⟨wl, rfl⟩ : ∃ wl, wl = wr := ⟨wr, rfl⟩
    by_cases hj32 : j < 32
    · have hji : (j : Int) < 32 := by omega
      have HHT := Lib.hid (fun k c => hval_take ws k c (gexp j))
      have HH0 := Lib.hid (show hval (ws.take 0) (gexp j) = 0 from rfl)
      have HSJ := Lib.hid (HSP.out j hj32)
      have HHN := Lib.hid (show hval (ws.take N) (gexp j) = hval ws (gexp j) by rw [List.take_of_length_le (by have := HN.out; omega)])
      have HSZ := Lib.hid (show j < (((SK j).map u8v).toArray).size by simp [HJ.out]; omega)
      have HDB := Lib.hid (gexp_dbl j)
      obtain ⟨x, hx⟩ : ∃ x, gexp j = x := ⟨_, rfl⟩
      rw [hx] at HHT HH0 HSJ HHN HDB ⊢
      clear hx
      go_wp2
      go_loopw [6, 16] (fun vv i wz => ∃ k : Nat, k ≤ N ∧ i = .int .i64 k ∧ vv = .int .u8 ((hval (ws.take k) x).toNat : Int) ∧ Hid (At wz ob (.cells ((SK j).map u8v).toArray 32)) ∧ Hid (At wz rb (.cells ((SK 0).map u8v).toArray 32)) ∧ Hid (Fr [] w wz)) (fun _ i _ => N - (intOf i).toNat)
      case atStart => exact ⟨0, by omega, rfl, by rw [HH0.out]; rfl, HO, HR, HF⟩
      case round =>
        clear HO HR HF
        obtain ⟨k, hk, rfl, rfl, HO, HR, HF⟩ := hrel
        obtain ⟨wm, rfl⟩ : ∃ wm, wm = wr := ⟨wr, rfl⟩
        by_cases hkn : k < N
        · have hki : (k : Int) < N := by omega
          obtain ⟨c, hc⟩ : ∃ c, ws[k]? = some c := ⟨_, List.getElem?_eq_getElem (by have := HN.out; omega)⟩
          obtain ⟨b, off, rfl, hcc⟩ := bs_cell (HB.out.keep HF.out (by simp)) k c hc
          have HHS := Lib.hid (HHT.out k c hc)
          obtain ⟨H, hH⟩ : ∃ H, hval (ws.take k) x = H := ⟨_, rfl⟩
          rw [hH] at HHS ⊢
          have hxx := u8_xor_u (gmul H x) c
          clear hc hH
          go_wp2_with (go_at_call 49; fail)
          refine (rmul_i wm H x).mono ?_
          rintro e w5 ⟨rfl, hf⟩
          have HO5 := Lib.hid (HO.out.keep0 hf)
          have HR5 := Lib.hid (HR.out.keep0 hf)
          have HF5 := Lib.hid (HF.out.trans hf)
          clear hf HO HR HF hcc
          go_wp2
          go_roundw
          case rel => exact ⟨k + 1, by omega, by go_num, by rw [HHS.out, UInt8.toNat_xor], HO5, HR5, HF5⟩
          case measure => simp [intOf]; omega
        · have hki : ¬ (k : Int) < N := by omega
          have hkN : hval (ws.take k) x = hval ws x := by rw [show k = N by omega, HHN.out]
          rw [hkN]
          obtain ⟨V, hV⟩ : ∃ V, hval ws x = V := ⟨_, rfl⟩
          rw [hV] at HSJ ⊢
          clear hkN hV
          go_wp2_with (first | (refine wpl_store_one (.tmp 28) (.tmp 27) rfl rfl (.int .u8 (V.toNat : Int)) rfl rfl HO.out HSZ.out (by kernel_rfl) rfl ?_) | (go_at_call 49; fail))
          intro w6 f6 a6 _
          have HO6 := Lib.hid (show At w6 ob (.cells ((SK (j + 1)).map u8v).toArray 32) by rw [← HSJ.out, List.map_set]; simpa [u8v] using a6)
          have HR6 := Lib.hid (HR.out.keep f6 (by simpa using hor))
          have HF6 := Lib.hid (HF.out.then f6 (by intro b hb; simp at hb; subst hb; exact .inr hwo))
          clear f6 a6 HO HR HF
          go_wp2_with (go_at_call 49; fail)
          refine (rmul_two w6 x).mono ?_
          rintro e w7 ⟨rfl, hf⟩
          have HO7 := Lib.hid (HO6.out.keep0 hf)
          have HR7 := Lib.hid (HR6.out.keep0 hf)
          have HF7 := Lib.hid (HF6.out.trans hf)
          clear hf HO6 HR6 HF6
          go_wp2
          go_roundw
          case rel => exact ⟨j + 1, by omega, by go_num, by rw [HDB.out], HO7, HR7, HF7⟩
          case measure => simp [intOf]; omega
    · have hji : ¬ (j : Int) < 32 := by omega
      have HO2 := Lib.hid (show At wl ob (.cells ((SK 32).map u8v).toArray 32) by
        have h := HO.out
        rwa [show j = 32 by omega] at h)
      have HSZ1 := Lib.hid (show (((SK 32).map u8v).toArray).size = 32 by simp [HJ.out])
      have HSZ0 := Lib.hid (show (((SK 0).map u8v).toArray).size = 32 by simp [HJ.out])
      have HONE := Lib.hid (cells_one (SK 32))
      obtain ⟨C, hC⟩ : ∃ c, ((SK 32).map u8v).toArray = c := ⟨_, rfl⟩
      rw [hC] at HO2 HSZ1 HONE
      have HC := Lib.hid hC
      obtain ⟨C0, hC0⟩ : ∃ c, ((SK 0).map u8v).toArray = c := ⟨_, rfl⟩
      rw [hC0] at HR HSZ0
      clear hC hC0 HO
      go_wp2_with (first | (refine wpl_load_rowG (.tmp 3) rfl rfl ob C rfl HO2.out Tryd.underlying32 rfl (by rw [HSZ1.out]; kernel_rfl) ?_) | (refine wpl_store_at (.tmp 2) (.tmp 31) rfl rfl C rfl rfl (by rw [HSZ1.out]; kernel_rfl) HR.out (by rw [HSZ1.out, HSZ0.out]; omega) HONE.out ?_))
      intro w9 hf9 hr9 _
      have HF9 := Lib.hid (HF.out.then hf9 (by intro b hb; simp at hb; subst hb; exact .inr (by rw [HWB.out]; exact Nat.le_refl _)))
      have HR9 := Lib.hid (show At w9 rb (.cells C 32) by
        have h := hr9
        rw [List.drop_of_length_le (l := C0.toList) (i := C.size) (by simp [HSZ0.out, HSZ1.out]), List.append_nil] at h
        simpa using h)
      clear hf9 hr9
      go_wp2
      refine bodyPost_ret (v := .agg C) ?_ rfl ?_
      · have h := fun tmps h => results_cell_row (P := Tryd.prog) (fn := Tryd.f39) (p := 2) (ty := 32) rfl tmps w9 rb 32 C (0, 0) _ h HR9.out Tryd.underlying32 rfl (by rw [HSZ1.out]; kernel_rfl)
        exact h _ rfl
      · exact ⟨by rw [HC.out], HF9.out⟩
end Go.Proofs.YtfblhdomjnffcaaDoor
namespace Go.Proofs.YtfblhdomjnffcaaDoor
open Go.RowKit Go.Bl
set_option linter.unusedVariables false
/-- is a place among the first k told ones? -/
def goneB (l : List Int) (p : Nat) (k : Nat) : Bool := (l.take k).any fun q => decide (q = (p : Int))
theorem goneB_up (l : List Int) (p k : Nat) (q : Int) (h : l[k]? = some q) : goneB l p (k + 1) = (goneB l p k || decide (q = (p : Int))) := by
  unfold goneB
  rw [List.take_add_one, h]
  simp [List.any_append]
theorem goneB_end (l : List Int) (p : Nat) : goneB l p l.length = decide ((p : Int) ∈ l) := by
  unfold goneB
  rw [List.take_length, Bool.eq_iff_iff, List.any_eq_true, decide_eq_true_eq]
  constructor
  · rintro ⟨q, hq, h⟩
    rw [decide_eq_true_eq] at h
    rw [← h]; exact hq
  · exact fun h => ⟨_, h, by simp⟩
theorem era_K {n : Int} {l : List Int} {ws : List UInt8} : ¬ (eraBad n l = 0 ∧ mGood ws l) → ∃ K, K ≠ 0 ∧ ((eraBad n l ≠ 0 ∧ K = eraBad n l) ∨ (eraBad n l = 0 ∧ K = 17 ∧ ¬ mGood ws l)) := fun h => by
  by_cases h0 : eraBad n l = 0
  · exact ⟨17, by decide, .inr ⟨h0, rfl, fun hg => h ⟨h0, hg⟩⟩⟩
  · exact ⟨_, h0, .inl ⟨h0, rfl⟩⟩
set_option maxRecDepth 100000 in
set_option maxHeartbeats 8000000 in
theorem rrg_any (L : List Nat) (E : Nat → Addr) (B : Nat) (w : World) (v0 v1 : Value) (ws : List UInt8) (l : List Int) (hE : Errs L E B w) (m1 : 1 ∈ L) (m8 : 8 ∈ L) (m10 : 10 ∈ L) (m16 : 16 ∈ L) (m17 : 17 ∈ L) (m20 : 20 ∈ L) (hb : Bs (fun _ => False) w v0 ws) (hv : Is (fun _ => False) w v1 l) :
    Calls Tryd.prog 8 #[v0, v1] w fun e w' => e = .returned (.bool true) ∧ Fr [] w w' := by
  have HAL := Lib.hid (alive05_any L E B w hE m1 m8 m10 m16 m20)
  have HFF := Lib.hid (fun w' (h : Fr [] w w') (hl : l.length ≤ 100) K hK => fix_fail L E B w' v0 v1 ws l (hE.keep0 h) m1 m8 m10 m16 m17 m20 (hb.keep h (by simp)) (hv.keep h (by simp)) hl K hK)
  have HFG := Lib.hid (fun w' (h : Fr [] w w') h0 hg => fix_good L E B w' v0 v1 ws l (hE.keep0 h) m1 m8 m10 m16 m20 (hb.keep h (by simp)) (hv.keep h (by simp)) h0 hg)
  have HB := Lib.hid hb
  have HV := Lib.hid hv
  obtain ⟨da, dc, e, d2, d3, -⟩ := id hb
  subst e
  obtain ⟨pa, pc, e, p2, p3, -⟩ := hv.shape
  subst e
  unfold maxLen at d3 p3
  obtain ⟨N, hN⟩ : ∃ N, ws.length = N := ⟨_, rfl⟩
  obtain ⟨M, hM⟩ : ∃ N, l.length = N := ⟨_, rfl⟩
  have HN := Lib.hid hN
  have HM := Lib.hid hM
  rw [hN] at HB HFF HFG d2 ⊢
  rw [hM] at HV HFF HFG p2 ⊢
  clear hb hv hE m1 m8 m10 m16 m17 m20 hN hM
  by_cases hn : N ≤ 300
  · have hni : ¬ (300 : Int) < N := by omega
    by_cases hm : M ≤ 40
    · have hmi : ¬ (40 : Int) < M := by omega
      by_cases hgood : eraBad (N : Int) l = 0 ∧ mGood ws l
      · obtain ⟨h0, hg⟩ := hgood
        obtain ⟨r1, r2, r3⟩ := mend_right HN.out h0 (by have := hg.1; rwa [HN.out] at this) (by have := hg.2; unfold mLoc mEv at this; rwa [HN.out] at this)
        have hout : mOut ws l = mendL (fLoc (synL ws) (N : Int) l) (fEv (synL ws) (N : Int) l) N (srch (fLoc (synL ws) (N : Int) l) N) ws := by unfold mOut mLoc mEv; rw [HN.out]
        rw [← hout] at r1 r2
        have hol : (mOut ws l).length = N := by rw [mOut_len]; exact HN.out
        have HFX := Lib.hid (fun w' (h : Fr [] w w') => HFG.out w' h h0 hg)
        obtain ⟨out, ho⟩ : ∃ x, mOut ws l = x := ⟨_, rfl⟩
        rw [ho] at HFX r1 r2 hol
        obtain ⟨LG, hLG⟩ : ∃ x, regL (fRow (synL ws) (N : Int) l) = x := ⟨_, rfl⟩
        rw [hLG] at HFX r2 r3
        rw [HM.out] at r3
        obtain ⟨dl, hdl⟩ : ∃ x, intL (dfrK ws out N) = x := ⟨_, rfl⟩
        rw [hdl] at HFX
        have HUP := Lib.hid (othK_up out ws l)
        have HLE := Lib.hid (othK_le out ws l)
        have HO0 := Lib.hid (show (othK out ws l 0).length = 0 from rfl)
        have HRS := Lib.hid (fun w' v (hb : Bs (fun _ => False) w' v out) => rsynd_any w' v out hb)
        rw [r1] at HRS
        have HEND := Lib.hid r2
        have HOL := Lib.hid hol
        have hle : (2 : Int) * LG + M ≤ 32 := by omega
        have hlg : LG ≤ 16 := by omega
        have hEQ := fun w => eq_arr8 w 32 zero32 zero32 32 Tryd.underlying32 (by simp [zero32]) (by simp [zero32])
        have heq : ∀ w, (Op.equalIn 10000 32 (.agg (zero32.map u8v).toArray) (.agg #[.int .u8 0, .int .u8 0, .int .u8 0, .int .u8 0, .int .u8 0, .int .u8 0, .int .u8 0, .int .u8 0, .int .u8 0, .int .u8 0, .int .u8 0, .int .u8 0, .int .u8 0, .int .u8 0, .int .u8 0, .int .u8 0, .int .u8 0, .int .u8 0, .int .u8 0, .int .u8 0, .int .u8 0, .int .u8 0, .int .u8 0, .int .u8 0, .int .u8 0, .int .u8 0, .int .u8 0, .int .u8 0, .int .u8 0, .int .u8 0, .int .u8 0, .int .u8 0])).run Tryd.prog w = .ok true w := fun w => (hEQ w).trans (by rw [decide_eq_true rfl])
        obtain ⟨ZZ, hZZ⟩ : ∃ x, (zero32.map u8v).toArray = x := ⟨_, rfl⟩
        rw [hZZ] at HRS heq
        clear h0 hg r1 r2 r3 hout hol ho hLG hdl HFF HFG hEQ hZZ
        go_enter Tryd.func8, Tryd.ntmps8
        go_wp2_with (go_at_call 37; fail)
        refine HAL.out.mono ?_
        rintro e w1 ⟨rfl, hf⟩
        have HF1 := Lib.hid hf
        clear hf HAL
        go_wp2_with (go_at_call 38; fail)
        refine (HFX.out w1 HF1.out).mono ?_
        rintro e w2 ⟨u, r, rfl, ho, hi, hf⟩
        obtain ⟨ua, uc, rfl, -⟩ := ho.bs (A := fun _ => False) (by simp)
        obtain ⟨ra, rc, rfl, -⟩ := (hi.is (A := fun _ => False) (by simp)).shape
        obtain ⟨rn, hrn⟩ : ∃ x, dl.length = x := ⟨_, rfl⟩
        rw [HOL.out] at ho ⊢
        rw [hrn]
        have fa : Fr [] w2 (w2.alloc (.cells #[.slice ua N uc, .slice ra rn rc, .int .i64 (LG : Int)] 68)) := Fr.alloc _ _
        have HF2 := Lib.hid ((HF1.out.trans hf).trans fa)
        have HU2 := Lib.hid ((ho.keep fa (by simp)).bs (A := fun _ => False) (by simp))
        have HX2 := Lib.hid (show At (w2.alloc (.cells #[.slice ua N uc, .slice ra rn rc, .int .i64 (LG : Int)] 68)) w2.heap.size (.cells #[.slice ua N uc, .slice ra rn rc, .int .i64 (LG : Int)] 68) from At.new rfl)
        clear hf fa ho hi hrn HFX HF1
        go_wp2_with (first | (refine wpl_store_new (.tmp 5) (.tmp 26) rfl rfl #[.slice ua N uc, .slice ra rn rc, .int .i64 (LG : Int)] rfl rfl (by kernel_rfl) rfl (by rfl) ?_) | (go_at_call 39; fail))
        refine (HRS.out _ _ HU2.out).mono ?_
        rintro e w3 ⟨rfl, hf⟩
        have HF3 := Lib.hid (HF2.out.trans hf)
        have HU3 := Lib.hid (HU2.out.keep hf (by simp))
        have HX3 := Lib.hid (HX2.out.keep0 hf)
        obtain ⟨fb, hfb⟩ : ∃ x, w2.heap.size = x := ⟨_, rfl⟩
        rw [hfb] at HX3 ⊢
        clear hf hfb HF2 HU2 HX2 HRS
        go_wp2
        go_loopw [7, 49] (fun o i wr => ∃ k : Nat, k ≤ N ∧ i = .int .i64 k ∧ o = .int .i64 ((othK out ws l k).length : Int) ∧ Hid (Fr [] w3 wr)) (fun _ i _ => N - (intOf i).toNat)
        case atStart => exact ⟨0, by omega, rfl, rfl, Fr.refl _ _⟩
        case round =>
          obtain ⟨k, hk, rfl, rfl, HF⟩ := hrel
          obtain ⟨wl, rfl⟩ : ∃ wl, wl = wr := ⟨wr, rfl⟩
          by_cases hkn : k < N
          · have hki : (k : Int) < N := by omega
            have HKN := Lib.hid hkn
            have HGU := Lib.hid (goneB_up l k)
            have HGE := Lib.hid (goneB_end l k)
            rw [HM.out] at HGE
            have HG0 := Lib.hid (show goneB l k 0 = false from rfl)
            have HUK := Lib.hid (HUP.out k)
            have hlk := HLE.out k
            obtain ⟨O1, hO1⟩ : ∃ x, othK out ws l k = x := ⟨_, rfl⟩
            obtain ⟨O2, hO2⟩ : ∃ x, othK out ws l (k + 1) = x := ⟨_, rfl⟩
            rw [hO1] at HUK hlk ⊢
            rw [hO2] at HUK
            have HO2 := Lib.hid hO2
            obtain ⟨G, hG⟩ : ∃ f, goneB l k = f := ⟨_, rfl⟩
            rw [hG] at HGU HGE HG0
            clear hO1 hO2 hG
            go_wp2
            go_loopw [9, 54] (fun o i wr => ∃ j : Nat, j ≤ M ∧ i = .int .i64 j ∧ o = .bool (G j) ∧ Hid (Fr [] w3 wr)) (fun _ i _ => M - (intOf i).toNat)
            case atStart => exact ⟨0, by omega, rfl, by rw [HG0.out], HF⟩
            case round =>
              clear HF
              obtain ⟨j, hj, rfl, rfl, HF⟩ := hrel
              obtain ⟨wm, rfl⟩ : ∃ wm, wm = wr := ⟨wr, rfl⟩
              by_cases hjm : j < M
              · have hji : (j : Int) < M := by omega
                obtain ⟨q, hq⟩ : ∃ q, l[j]? = some q := ⟨_, List.getElem?_eq_getElem (by have := HM.out; omega)⟩
                obtain ⟨b, off, rfl, hcc⟩ := is_cell (HV.out.keep (HF3.out.trans HF.out) (by simp)) j q hq
                have HS := Lib.hid (HGU.out j q hq)
                obtain ⟨g, hg⟩ : ∃ b, G j = b := ⟨_, rfl⟩
                rw [hg] at HS ⊢
                clear hq hg
                cases g with
                | true =>
                  go_wp2
                  go_roundw
                  case rel => exact ⟨j + 1, by omega, by go_num, by rw [HS.out]; rfl, HF⟩
                  case measure => simp [intOf]; omega
                | false =>
                  by_cases hqk : q = (k : Int)
                  · subst hqk
                    go_wp2
                    go_roundw
                    case rel => exact ⟨j + 1, by omega, by go_num, by rw [HS.out]; simp, HF⟩
                    case measure => simp [intOf]; omega
                  · have HQK := Lib.hid hqk
                    go_wp2
                    go_roundw
                    case rel => exact ⟨j + 1, by omega, by go_num, by rw [HS.out, decide_eq_false HQK.out]; simp [HQK.out], HF⟩
                    case measure => simp [intOf]; omega
              · have hji : ¬ (j : Int) < M := by omega
                obtain rfl : j = M := by omega
                rw [HGE.out]
                obtain ⟨x, hx⟩ : ∃ x, out[k]? = some x := ⟨_, List.getElem?_eq_getElem (by have := HOL.out; have := HKN.out; omega)⟩
                obtain ⟨y, hy⟩ : ∃ x, ws[k]? = some x := ⟨_, List.getElem?_eq_getElem (by have := HN.out; have := HKN.out; omega)⟩
                obtain ⟨xb, xo, rfl, hxc⟩ := bs_cell (HU3.out.keep HF.out (by simp)) k x hx
                obtain ⟨yb, yo, rfl, hyc⟩ := bs_cell (HB.out.keep (HF3.out.trans HF.out) (by simp)) k y hy
                have HUK2 := Lib.hid HUK.out
                rw [cf_get hx, cf_get hy] at HUK2
                have hfc := (HX3.out.keep0 HF.out).cell 0
                simp only [List.getElem?_toArray, List.getElem?_cons_zero, List.getElem?_cons_succ] at hfc
                have hkn2 := HKN.out
                clear hx hy
                by_cases hxy : x = y
                · subst hxy
                  have HO3 := Lib.hid (show O2 = O1 by rw [HUK2.out, if_neg (fun h => h.1 rfl), List.append_nil])
                  go_wp2
                  go_quiet (fail)
                  go_wp2
                  go_roundw
                  case rel => exact ⟨k + 1, by omega, by go_num, by rw [HO2.out, HO3.out], HF.out.trans (Fr.of_heap rfl rfl rfl rfl)⟩
                  case measure => simp [intOf]; omega
                · have hne : ¬ (x.toNat = y.toNat) := fun e => hxy (UInt8.toNat_inj.1 e)
                  have hd1 : decide (x.toNat = y.toNat) = false := decide_eq_false hne
                  have hd2 : (x.toNat == y.toNat) = false := by simpa using hne
                  have hd4 : ((x.toNat : Int) != (y.toNat : Int)) = true := by simp; omega
                  have hd5 : ((x.toNat : Int) == (y.toNat : Int)) = false := by simp; omega
                  have hd6 : (x.toNat != y.toNat) = true := by simp; omega
                  have hd3 : decide ((x.toNat : Int) = (y.toNat : Int)) = false := decide_eq_false (by omega)
                  by_cases hin : (k : Int) ∈ l
                  · rw [decide_eq_true hin]
                    have HO3 := Lib.hid (show O2 = O1 by rw [HUK2.out, if_neg (fun h => h.2 hin), List.append_nil])
                    clear hin hxy
                    go_wp2
                    go_quiet (fail)
                    go_wp2
                    go_roundw
                    case rel => exact ⟨k + 1, by omega, by go_num, by rw [HO2.out, HO3.out], HF.out.trans (Fr.of_heap rfl rfl rfl rfl)⟩
                    case measure => simp [intOf]; omega
                  · rw [decide_eq_false hin]
                    have HO3 := Lib.hid (show O2.length = O1.length + 1 by rw [HUK2.out, if_pos ⟨hxy, hin⟩, List.length_append]; rfl)
                    clear hin hxy
                    go_wp2
                    go_quiet (fail)
                    go_wp2
                    go_roundw
                    case rel => exact ⟨k + 1, by omega, by go_num, by rw [HO2.out, HO3.out]; go_num, HF.out.trans (Fr.of_heap rfl rfl rfl rfl)⟩
                    case measure => simp [intOf]; omega
          · have hki : ¬ (k : Int) < N := by omega
            obtain rfl : k = N := by omega
            rw [HEND.out]
            have hfc := (HX3.out.keep0 HF.out).cell 2
            simp only [List.getElem?_toArray, List.getElem?_cons_zero, List.getElem?_cons_succ] at hfc
            have HFE := Lib.hid (HF3.out.trans HF.out)
            clear HF
            go_wp2
            go_ret
            exact ⟨rfl, HFE.out⟩
      · obtain ⟨K, hK, hKK⟩ := era_K hgood
        have HFX := Lib.hid (fun w' (h : Fr [] w w') => HFF.out w' h (by omega) K hKK)
        rw [errv_pos E K hK] at HFX
        unfold noFix at HFX
        clear hgood hK hKK HFF HFG
        go_enter Tryd.func8, Tryd.ntmps8
        go_wp2_with (go_at_call 37; fail)
        refine HAL.out.mono ?_
        rintro e w1 ⟨rfl, hf⟩
        have HF1 := Lib.hid hf
        clear hf HAL
        go_wp2_with (go_at_call 38; fail)
        refine (HFX.out w1 HF1.out).mono ?_
        rintro e w2 ⟨rfl, hf⟩
        have HF2 := Lib.hid ((HF1.out.trans hf).trans (Fr.alloc (S := []) w2 (.cells #[.slice none 0 0, .slice none 0 0, .int .i64 0] 68)))
        clear hf HFX HF1
        go_wp2_with (refine wpl_store_new (.tmp 5) (.tmp 26) rfl rfl #[.slice none 0 0, .slice none 0 0, .int .i64 0] rfl rfl (by kernel_rfl) rfl (by rfl) ?_)
        go_ret
        exact ⟨rfl, HF2.out⟩
    · have hmi : (40 : Int) < M := by omega
      go_enter Tryd.func8, Tryd.ntmps8
      go_wp2_with (go_at_call 37; fail)
      refine HAL.out.mono ?_
      rintro e w1 ⟨rfl, hf⟩
      have HF1 := Lib.hid hf
      clear hf
      go_wp2
      go_ret
      exact ⟨rfl, HF1.out⟩
  · have hni : (300 : Int) < N := by omega
    go_enter Tryd.func8, Tryd.ntmps8
    go_wp2_with (go_at_call 37; fail)
    refine HAL.out.mono ?_
    rintro e w1 ⟨rfl, hf⟩
    have HF1 := Lib.hid hf
    clear hf
    go_wp2
    go_ret
    exact ⟨rfl, HF1.out⟩
end Go.Proofs.YtfblhdomjnffcaaDoor
