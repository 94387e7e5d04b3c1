import Derived.Test.YtmohiblgfmdkjaaGreatDoorGK
import Derived.Test.YtmohiblgfmdkjaaGreatDoorGF
import Derived.Test.YtmohiblgfmdkjaaGreatDoorGQ
import Derived.Test.YtmohiblgfmdkjaaGreatDoorQui
import Derived.Test.YtmohiblgfmdkjaaGreatDoorGA
import Derived.Laws.Rows
import Derived.Test.YtmohiblgfmdkjaaGreatDoorHS
import Derived.Test.YtmohiblgfmdkjaaGreatDoorJN
import Derived.Test.YtmohiblgfmdkjaaGreatDoorHY
namespace Go.Proofs.YtmohiblgfmdkjaaGreatDoor
open Go.RowKit Go.Bl
set_option linter.unusedVariables false
set_option maxRecDepth 100000 in
set_option maxHeartbeats 4000000 in
theorem rforney_any (w : World) (s g : List UInt8) (gv : Value) (e : Nat) (hs : s.length = 32) (hg : Bs (fun _ => False) w gv g) (hgn : plen g = e + 1) (he : e ≤ 32) (hgl : g.length ≤ 100) :
    Calls Tryz.prog 26 #[.agg (s.map u8v).toArray, gv] w fun r w' => ∃ u, r = .returned u ∧ OwnB 5 w.heap.size w' u (fornL s g e) ∧ Fr [] w w' := by
  have HTR := Lib.hid (fun w' (h : Fr [] w w') => rtrim_any w' gv g (hg.keep h (by simp)) (by omega))
  have HTL := Lib.hid (show (ptrim g).length = e + 1 by rw [ptrim_length]; exact hgn)
  have HG := Lib.hid hg
  have hsz : (s.map u8v).toArray.size = 32 := by simp [hs]
  have hrow : ∀ n, n ≤ 32 - e → (List.range n).map (fun j => cf (pmul s g) (e + j)) = (List.range n).map (fun j => conv (cf s) (cf g) (e + j)) := fun n _ => List.map_congr_left fun j _ => cf_mul _ _ _
  have HRES := Lib.hid (show (List.range (32 - e)).map (fun j => cf (pmul s g) (e + j)) = fornL s g e from hrow _ (Nat.le_refl _))
  obtain ⟨w0, hw0⟩ : ∃ w0, w.alloc (.cells (s.map u8v).toArray 51) = w0 := ⟨_, rfl⟩
  have HA := Lib.hid (show At w0 w.heap.size (.cells (s.map u8v).toArray 51) by rw [← hw0]; exact At.new rfl)
  have HF0 := Lib.hid (show Fr [] w w0 by rw [← hw0]; exact Fr.alloc _ _)
  have HSB := Lib.hid (fun w1 (hf : Fr [] w0 w1) => (⟨_, 32, by rw [hs], by omega, by simp [maxLen], by simpa using Row.of_block (HA.out.keep0 hf) (by simp)⟩ : Bs (fun _ => False) w1 (.slice (some ⟨w.heap.size, 0, none⟩) 32 32) s))
  have HMU := Lib.hid (fun w1 (h0 : Fr [] w0 w1) => rdmul_any w1 (.slice (some ⟨w.heap.size, 0, none⟩) 32 32) gv s g (HSB.out w1 h0) (hg.keep (HF0.out.trans h0) (by simp)) (by omega) (by omega))
  have HPL := Lib.hid (show (pmul s g).length ≤ 200 by have := pmul_len s g; omega)
  obtain ⟨pr, hpr⟩ : ∃ pr, pmul s g = pr := ⟨_, rfl⟩
  rw [hpr] at HMU HRES HPL
  clear hrow hpr
  obtain ⟨ga, gc, rfl, g2, g3, -⟩ := hg
  unfold maxLen at g3
  obtain ⟨GL, hGL⟩ : ∃ n, g.length = n := ⟨_, rfl⟩
  obtain ⟨TL, hTL⟩ : ∃ n, ptrim g = n := ⟨_, rfl⟩
  rw [hGL] at HTR HMU g2 hgl ⊢
  rw [hTL] at HTR HTL
  obtain ⟨SC, hSC⟩ : ∃ c, (s.map u8v).toArray = c := ⟨_, rfl⟩
  rw [hSC] at hsz hw0 HA ⊢
  obtain ⟨R, hR⟩ : ∃ R, fornL s g e = R := ⟨_, rfl⟩
  rw [hR] at HRES ⊢
  have hei : ¬ (e : Int) < 0 := by omega
  have HS0 := Lib.hid (show w0.heap.size = w.heap.size + 1 by rw [← hw0]; simp)
  have hwr : IntKind.i64.wrap (((e + 1 : Nat) : Int) - 1) = (e : Int) := by rw [IntKind.wrap_i64]; omega
  clear hGL hTL HG hR
  go_enter Tryz.func26, Tryz.ntmps26
  go_wp2_with (go_at_call 58; fail)
  try rw [hw0]
  clear hw0
  refine (HTR.out w0 HF0.out).mono ?_
  rintro r w1 ⟨u, rfl, ho1, hf1⟩
  obtain ⟨ta, tc, rfl, -, -, -⟩ := ho1.bs (A := fun _ => False) (by simp)
  rw [HTL.out]
  have HF1 := Lib.hid hf1
  clear ho1 hf1 HTR
  go_wp2_with (go_at_call 55; fail)
  refine (HMU.out w1 HF1.out).mono ?_
  rintro r w2 ⟨pv, rfl, ho2, hf2⟩
  have HF2 := Lib.hid (HF1.out.trans hf2)
  have HO2 := Lib.hid (ho2.base (Nat.le_trans (by have := HS0.out; omega : w.heap.size ≤ w0.heap.size) HF1.out.size))
  have HAT := Lib.hid (fun w' (h : Fr [] w2 w') j => rat_any (fun _ => False) w' pv pr j ((ho2.bs (by simp)).keep h (by simp)) (by have := HPL.out; omega))
  have hs2 : w.heap.size ≤ w2.heap.size := by have := HF2.out.size; have := HS0.out; omega
  clear ho2 hf2 HF1 HMU HSB
  obtain ⟨BW, hBW⟩ : ∃ B, w2.heap.size = B := ⟨_, rfl⟩
  have HBW := Lib.hid hBW
  have HE0 := Lib.hid (OwnB.empty 5 w2.heap.size w2 (Nat.le_refl _))
  have HWW := Lib.hid (HF0.out.trans HF2.out)
  have HS2 := Lib.hid hs2
  have HF2A := Lib.hid (Fr.alloc (S := []) w2 (.cells #[] 5))
  clear hBW
  go_wp2
  go_loopw [7, 8] (fun o i wr => ∃ k : Nat, k ≤ 32 - e ∧ i = .int .i64 ((e : Int) + k) ∧ Hid (OwnB 5 BW wr o ((List.range k).map (fun j => cf pr (e + j)))) ∧ Hid (Fr [] w2 wr)) (fun _ i _ => 32 - (intOf i).toNat)
  case atStart => exact ⟨0, Nat.zero_le _, by simp, Lib.hid (by rw [← HBW.out]; exact HE0.out), HF2A⟩
  case round =>
    obtain ⟨k, hk, rfl, HO, HFF⟩ := hrel
    obtain ⟨wl, rfl⟩ : ∃ wl, wl = wr := ⟨wr, rfl⟩
    by_cases hke : e + k < 32
    · have hki : (e : Int) + k < 32 := by omega
      have HC := Lib.hid (HAT.out wl HFF.out (e + k))
      have hcast : ((e + k : Nat) : Int) = (e : Int) + k := by omega
      rw [hcast] at HC
      obtain ⟨c, hc⟩ : ∃ c, cf pr (e + k) = c := ⟨_, rfl⟩
      have HRS := Lib.hid (show (List.range k).map (fun j => cf pr (e + j)) ++ [c] = (List.range (k + 1)).map (fun j => cf pr (e + j)) by rw [List.range_succ, List.map_append, ← hc]; rfl)
      rw [hc] at HC
      clear hc hcast
      go_wp2_with (go_at_call 59; fail)
      refine HC.out.mono ?_
      rintro r w3 ⟨rfl, hf3⟩
      have HO3 := Lib.hid ((HO.out.keep hf3 (by simp)).keep (Fr.alloc (S := []) w3 (.cells #[.int .u8 (c.toNat : Int)] 5)) (by simp))
      have HFF3 := Lib.hid (HFF.out.trans hf3)
      have HBS := Lib.hid (show BW ≤ (w3.alloc (.cells #[.int .u8 (c.toNat : Int)] 5)).heap.size by rw [← HBW.out]; simp; have := HFF3.out.size; omega)
      clear hf3 HC HO HFF
      go_wp2_with (at_builtin; refine wpl_append_b Tryz.underlying22 Tryz.infoByte rfl (.tmp 24) (.tmp 28) rfl rfl rfl (At.new rfl) HO3.out (by simp; omega) HBS.out ?_)
      intro v4 w4 h4 g4
      rw [HRS.out] at h4
      have HO4 := Lib.hid h4
      have HF4 := Lib.hid (show Fr [] w2 w4 from OwnB.fr HO3.out (HFF3.out.trans (Fr.alloc _ _)) g4 (by rw [HBW.out]; exact Nat.le_refl _))
      clear h4 g4 HO3 HFF3 HBS
      go_wp2
      go_roundw
      case rel => exact ⟨k + 1, by omega, by go_num, HO4, HF4⟩
      case measure => simp [intOf]; omega
    · have hki : ¬ (e : Int) + k < 32 := by omega
      have HK := Lib.hid (show (List.range k).map (fun j => cf pr (e + j)) = R by rw [show k = 32 - e by omega]; exact HRES.out)
      rw [HK.out] at HO
      go_wp2
      go_ret
      exact ⟨_, rfl, HO.out.base (by rw [← HBW.out]; exact HS2.out), HWW.out.trans HFF.out⟩
theorem gexp_dbl (j : Nat) : gmul (gexp j) 2 = gexp (j + 1) := by
  rw [← gexp_add]; rfl
theorem rmul_two (w : World) (a : UInt8) : Calls Tryz.prog 57 #[.int .u8 (a.toNat : Int), .int .u8 2] w fun e w' => e = .returned (.int .u8 ((gmul a 2).toNat : Int)) ∧ Fr [] w w' := rmul_i w a 2
set_option maxRecDepth 100000 in
set_option maxHeartbeats 4000000 in
theorem rsynd_any (w : World) (v : Value) (ws : List UInt8) (hb : Bs (fun _ => False) w v ws) :
    Calls Tryz.prog 25 #[v] w fun e w' => e = .returned (.agg ((synL ws).map u8v).toArray) ∧ Fr [] w w' := by
  have HB := Lib.hid hb
  obtain ⟨a, cap, rfl, b2, b3, -⟩ := id hb
  unfold maxLen at b3
  obtain ⟨N, hN⟩ : ∃ N, ws.length = N := ⟨_, rfl⟩
  have HN := Lib.hid hN
  rw [hN] at HB b2 ⊢
  clear hN hb
  have HJ := Lib.hid (fun j => synK_len ws j)
  have HST := Lib.hid (synK_start ws)
  have HSP := Lib.hid (synK_step ws)
  have HEND := Lib.hid (synK_end ws)
  have HZ0 := Lib.hid (show (synK ws 0) = zero32 from synK_zero ws)
  obtain ⟨SK, hSK⟩ : ∃ f, synK ws = f := ⟨_, rfl⟩
  rw [hSK] at HJ HST HSP HEND HZ0
  rw [← HEND.out]
  clear hSK
  obtain ⟨rb, hrb⟩ : ∃ rb, w.heap.size = rb := ⟨_, rfl⟩
  have HWB := Lib.hid hrb
  go_enter Tryz.func25, Tryz.ntmps25
  go_wp2_with (refine wpl_store_new (w := w.alloc _) (.tmp 3) (.tmp 9) rfl rfl ((zero32.map u8v).toArray) (by first | rfl | simp [go_sem]) (by kernel_rfl) (by kernel_rfl) (by kernel_rfl) (by kernel_rfl) ?_)
  have HR1 := Lib.hid (show At ((w.alloc (.cells (zero32.map u8v).toArray 51)).alloc (.cells (zero32.map u8v).toArray 51)) w.heap.size (.cells ((SK 0).map u8v).toArray 51 (0, 0)) by rw [HZ0.out]; exact (At.new rfl).al)
  have HO1 := Lib.hid (show At ((w.alloc (.cells (zero32.map u8v).toArray 51)).alloc (.cells (zero32.map u8v).toArray 51)) (w.heap.size + 1) (.cells ((SK 0).map u8v).toArray 51 (0, 0)) by rw [HZ0.out]; exact At.new (by simp))
  have HF1 := Lib.hid (show Fr [] w ((w.alloc (.cells (zero32.map u8v).toArray 51)).alloc (.cells (zero32.map u8v).toArray 51)) from (Fr.alloc _ _).trans (Fr.alloc _ _))
  rw [hrb] at HR1 HO1
  try rw [hrb]
  obtain ⟨ob, hob⟩ : ∃ ob, rb + 1 = ob := ⟨_, rfl⟩
  rw [hob] at HO1 ⊢
  have hor : rb ≠ ob := by omega
  have hwo : w.heap.size ≤ ob := by omega
  clear hob hrb HZ0
  go_wp2
  go_loopw [4, 5] (fun xx i wr => ∃ j : Nat, j ≤ 32 ∧ i = .int .i64 j ∧ xx = .int .u8 ((gexp j).toNat : Int) ∧ Hid (At wr ob (.cells ((SK j).map u8v).toArray 51)) ∧ Hid (At wr rb (.cells ((SK 0).map u8v).toArray 51)) ∧ Hid (Fr [] w wr)) (fun _ i _ => 32 - (intOf i).toNat)
  case atStart => exact ⟨0, by omega, rfl, rfl, HO1, HR1, HF1⟩
  case round =>
    clear HO1 HR1 HF1
    obtain ⟨j, hj, rfl, rfl, HO, HR, HF⟩ := hrel
    obtain ⟨wl, rfl⟩ : ∃ wl, wl = wr := ⟨wr, rfl⟩
    by_cases hj32 : j < 32
    · have hji : (j : Int) < 32 := by omega
      have HHT := Lib.hid (fun k c => hval_take ws k c (gexp j))
      have HH0 := Lib.hid (show hval (ws.take 0) (gexp j) = 0 from rfl)
      have HSJ := Lib.hid (HSP.out j hj32)
      have HHN := Lib.hid (show hval (ws.take N) (gexp j) = hval ws (gexp j) by rw [List.take_of_length_le (by have := HN.out; omega)])
      have HSZ := Lib.hid (show j < (((SK j).map u8v).toArray).size by simp [HJ.out]; omega)
      have HDB := Lib.hid (gexp_dbl j)
      obtain ⟨x, hx⟩ : ∃ x, gexp j = x := ⟨_, rfl⟩
      rw [hx] at HHT HH0 HSJ HHN HDB ⊢
      clear hx
      go_wp2
      go_loopw [6, 16] (fun vv i wz => ∃ k : Nat, k ≤ N ∧ i = .int .i64 k ∧ vv = .int .u8 ((hval (ws.take k) x).toNat : Int) ∧ Hid (At wz ob (.cells ((SK j).map u8v).toArray 51)) ∧ Hid (At wz rb (.cells ((SK 0).map u8v).toArray 51)) ∧ Hid (Fr [] w wz)) (fun _ i _ => N - (intOf i).toNat)
      case atStart => exact ⟨0, by omega, rfl, by rw [HH0.out]; rfl, HO, HR, HF⟩
      case round =>
        clear HO HR HF
        obtain ⟨k, hk, rfl, rfl, HO, HR, HF⟩ := hrel
        obtain ⟨wm, rfl⟩ : ∃ wm, wm = wr := ⟨wr, rfl⟩
        by_cases hkn : k < N
        · have hki : (k : Int) < N := by omega
          obtain ⟨c, hc⟩ : ∃ c, ws[k]? = some c := ⟨_, List.getElem?_eq_getElem (by have := HN.out; omega)⟩
          obtain ⟨b, off, rfl, hcc⟩ := bs_cell (HB.out.keep HF.out (by simp)) k c hc
          have HHS := Lib.hid (HHT.out k c hc)
          obtain ⟨H, hH⟩ : ∃ H, hval (ws.take k) x = H := ⟨_, rfl⟩
          rw [hH] at HHS ⊢
          have hxx := u8_xor_u (gmul H x) c
          clear hc hH
          go_wp2_with (go_at_call 57; fail)
          refine (rmul_i wm H x).mono ?_
          rintro e w5 ⟨rfl, hf⟩
          have HO5 := Lib.hid (HO.out.keep0 hf)
          have HR5 := Lib.hid (HR.out.keep0 hf)
          have HF5 := Lib.hid (HF.out.trans hf)
          clear hf HO HR HF hcc
          go_wp2
          go_roundw
          case rel => exact ⟨k + 1, by omega, by go_num, by rw [HHS.out, UInt8.toNat_xor], HO5, HR5, HF5⟩
          case measure => simp [intOf]; omega
        · have hki : ¬ (k : Int) < N := by omega
          have hkN : hval (ws.take k) x = hval ws x := by rw [show k = N by omega, HHN.out]
          rw [hkN]
          obtain ⟨V, hV⟩ : ∃ V, hval ws x = V := ⟨_, rfl⟩
          rw [hV] at HSJ ⊢
          clear hkN hV
          go_wp2_with (first | (refine wpl_store_one (.tmp 28) (.tmp 27) rfl rfl (.int .u8 (V.toNat : Int)) rfl rfl HO.out HSZ.out (by kernel_rfl) rfl ?_) | (go_at_call 57; fail))
          intro w6 f6 a6 _
          have HO6 := Lib.hid (show At w6 ob (.cells ((SK (j + 1)).map u8v).toArray 51) by rw [← HSJ.out, List.map_set]; simpa [u8v] using a6)
          have HR6 := Lib.hid (HR.out.keep f6 (by simpa using hor))
          have HF6 := Lib.hid (HF.out.then f6 (by intro b hb; simp at hb; subst hb; exact .inr hwo))
          clear f6 a6 HO HR HF
          go_wp2_with (go_at_call 57; fail)
          refine (rmul_two w6 x).mono ?_
          rintro e w7 ⟨rfl, hf⟩
          have HO7 := Lib.hid (HO6.out.keep0 hf)
          have HR7 := Lib.hid (HR6.out.keep0 hf)
          have HF7 := Lib.hid (HF6.out.trans hf)
          clear hf HO6 HR6 HF6
          go_wp2
          go_roundw
          case rel => exact ⟨j + 1, by omega, by go_num, by rw [HDB.out], HO7, HR7, HF7⟩
          case measure => simp [intOf]; omega
    · have hji : ¬ (j : Int) < 32 := by omega
      have HO2 := Lib.hid (show At wl ob (.cells ((SK 32).map u8v).toArray 51) by
        have h := HO.out
        rwa [show j = 32 by omega] at h)
      have HSZ1 := Lib.hid (show (((SK 32).map u8v).toArray).size = 32 by simp [HJ.out])
      have HSZ0 := Lib.hid (show (((SK 0).map u8v).toArray).size = 32 by simp [HJ.out])
      have HONE := Lib.hid (cells_one (SK 32))
      obtain ⟨C, hC⟩ : ∃ c, ((SK 32).map u8v).toArray = c := ⟨_, rfl⟩
      rw [hC] at HO2 HSZ1 HONE
      have HC := Lib.hid hC
      obtain ⟨C0, hC0⟩ : ∃ c, ((SK 0).map u8v).toArray = c := ⟨_, rfl⟩
      rw [hC0] at HR HSZ0
      clear hC hC0 HO
      go_wp2_with (first | (refine wpl_load_rowG (.tmp 3) rfl rfl ob C rfl HO2.out Tryz.underlying51 rfl (by rw [HSZ1.out]; kernel_rfl) ?_) | (refine wpl_store_at (.tmp 2) (.tmp 31) rfl rfl C rfl rfl (by rw [HSZ1.out]; kernel_rfl) HR.out (by rw [HSZ1.out, HSZ0.out]; omega) HONE.out ?_))
      intro w9 hf9 hr9 _
      have HF9 := Lib.hid (HF.out.then hf9 (by intro b hb; simp at hb; subst hb; exact .inr (by rw [HWB.out]; exact Nat.le_refl _)))
      have HR9 := Lib.hid (show At w9 rb (.cells C 51) by
        have h := hr9
        rw [List.drop_of_length_le (l := C0.toList) (i := C.size) (by simp [HSZ0.out, HSZ1.out]), List.append_nil] at h
        simpa using h)
      clear hf9 hr9
      go_wp2
      refine bodyPost_ret (v := .agg C) ?_ rfl ?_
      · have h := fun tmps h => results_cell_row (P := Tryz.prog) (fn := Tryz.f25) (p := 2) (ty := 51) rfl tmps w9 rb 51 C (0, 0) _ h HR9.out Tryz.underlying51 rfl (by rw [HSZ1.out]; kernel_rfl)
        exact h _ rfl
      · exact ⟨by rw [HC.out], HF9.out⟩
def regK (s : List UInt8) (long i q : Nat) : List UInt8 := (List.range (long + 1)).map fun t => if t < q then cf s (i - (t + 1)) else 0
theorem regK_len (s : List UInt8) (long i q : Nat) : (regK s long i q).length = long + 1 := by simp [regK]
theorem regK_cf (s : List UInt8) (long i q j : Nat) (hj : j < long + 1) : cf (regK s long i q) j = if j < q then cf s (i - (j + 1)) else 0 := by
  unfold regK
  rw [cf_map_range, if_pos hj]
theorem regK_zero (s : List UInt8) (long i : Nat) : regK s long i 0 = List.replicate (long + 1) 0 := list_ext_cf (by simp [regK_len]) fun j hj => by
  rw [regK_len] at hj
  rw [regK_cf _ _ _ _ _ hj, if_neg (by omega), cf_replicate]
theorem regK_step (s : List UInt8) (long i q : Nat) (hq : q < long) : (regK s long i q).set q (cf s (i - (q + 1))) = regK s long i (q + 1) := by
  refine set_ext (by rw [regK_len, regK_len]) (by rw [regK_len]; omega) fun j hj => ?_
  rw [regK_len] at hj
  rw [regK_cf _ _ _ _ _ hj, regK_cf _ _ _ _ _ hj]
  by_cases h : j = q
  · subst h; rw [if_pos (by omega), if_pos rfl]
  · rw [if_neg h]
    by_cases h2 : j < q
    · rw [if_pos h2, if_pos (by omega)]
    · rw [if_neg h2, if_neg (by omega)]
theorem regK_end (s : List UInt8) (long i : Nat) : (regK s long i long).set long (cf s i) = regRow s long i := by
  refine set_ext (by rw [regK_len, regRow_len]) (by rw [regK_len]; omega) fun j hj => ?_
  rw [regK_len] at hj
  rw [regK_cf _ _ _ _ _ hj, regRow_cf]
  by_cases h : j = long
  · subst h; simp
  · have h2 : j < long := by omega
    simp [h, h2]
set_option maxRecDepth 100000 in
set_option maxHeartbeats 8000000 in
theorem rregister_any (w : World) (v : Value) (s : List UInt8) (long : Nat) (hs : Bs (fun _ => False) w v s) (hl : s.length ≤ 60) (hlo : long ≤ 60) :
    Calls Tryz.prog 27 #[v, .int .i64 long] w fun e w' => ((e = .returned (.tuple #[.slice none 0 0, .bool false]) ∧ ∀ x, ¬ sol long (regRows s long) x) ∨
      ∃ u x, e = .returned (.tuple #[u, .bool true]) ∧ OwnB 5 w.heap.size w' u x ∧ x.length = long ∧ sol long (regRows s long) (cf x)) ∧ Fr [] w w' := by
  have HS := Lib.hid hs
  obtain ⟨sa, sc, rfl, s2, s3, -⟩ := hs
  unfold maxLen at s3
  have HRR := Lib.hid (show regRows s long = (List.range (s.length - long)).map fun k => regRow s long (long + k) from rfl)
  obtain ⟨RR, hRR⟩ : ∃ RR, regRows s long = RR := ⟨_, rfl⟩
  rw [hRR] at HRR ⊢
  obtain ⟨N, hN⟩ : ∃ N, s.length = N := ⟨_, rfl⟩
  have HN := Lib.hid hN
  rw [hN] at HS s2 hl HRR ⊢
  obtain ⟨B, hB⟩ : ∃ B, w.heap.size = B := ⟨_, rfl⟩
  have HBB := Lib.hid hB
  have HO0 := Lib.hid (show OwnV 22 B (w.alloc (.cells #[] 22)) (.slice (some ⟨B, 0, none⟩) 0 0) (([] : List (Value × List UInt8)).map (·.1)) from by
    have h := OwnV.lit 22 B w #[] (by omega) (by simp [maxLen])
    rw [hB] at h
    exact h)
  have HF0 := Lib.hid (show Fr [] w (w.alloc (.cells #[] 22)) from Fr.alloc _ _)
  have hb0 : B ≤ (w.alloc (.cells #[] 22)).heap.size := by simp; omega
  clear hN hRR
  go_enter Tryz.func27, Tryz.ntmps27
  go_wp2
  clear hB
  go_loopw [6, 7] (fun o ii wr => ∃ (k : Nat) (ls : List (Value × List UInt8)), (k = 0 ∨ long + k ≤ N) ∧ ii = .int .i64 ((long + k : Nat) : Int) ∧ B ≤ wr.heap.size ∧ Hid (OwnV 22 B wr o (ls.map (·.1))) ∧ Hid (∀ x ∈ ls, BsT wr x.1 x.2) ∧ Hid (ls.map (·.2) = (List.range k).map fun k => regRow s long (long + k)) ∧ Hid (Fr [] w wr)) (fun _ ii _ => N - (intOf ii).toNat)
  case atStart => exact ⟨0, [], .inl rfl, rfl, hb0, HO0, Lib.hid (fun x hx => by simp at hx), Lib.hid rfl, HF0⟩
  case round =>
    clear HO0 HF0 hb0
    obtain ⟨k, ls, hk, rfl, hBw, HO, HOB, HOS, HF⟩ := hrel
    obtain ⟨wl, rfl⟩ : ∃ wl, wl = wr := ⟨wr, rfl⟩
    obtain ⟨i, hi⟩ : ∃ i, long + k = i := ⟨_, rfl⟩
    have HI := Lib.hid hi
    have hik : k ≤ i ∧ long ≤ i := by omega
    rw [hi] at hk ⊢
    have hlen : ls.length = k := by have h := congrArg List.length HOS.out; simpa using h
    clear hi
    by_cases hiN : i < N
    · have hiNi : (i : Int) < N := by omega
      obtain ⟨i0, hi0, hz0, hsz0, hby0⟩ := info_bytes Tryz.infoByte
      obtain ⟨BW, hBW⟩ : ∃ BW, wl.heap.size = BW := ⟨_, rfl⟩
      have HBW := Lib.hid hBW
      have HE := Lib.hid (show OwnB 5 BW (wl.alloc (.cells (madeCells #[.int .u8 0] (long + 1)) 5)) (.slice (some ⟨BW, 0, none⟩) (long + 1) (long + 1)) (regK s long i 0) by
        have h := own_lit (e := 5) (base := BW) wl (madeCells #[.int .u8 0] (long + 1)) (List.replicate (long + 1) 0) (by omega) (by rw [made_zeros2]) (by simp; omega)
        rw [List.length_replicate, hBW, ← regK_zero s long i] at h
        exact h)
      have HFE := Lib.hid (show Fr [] wl (wl.alloc (.cells (madeCells #[.int .u8 0] (long + 1)) 5)) from Fr.alloc _ _)
      obtain ⟨z, hz⟩ : ∃ z, s[i]? = some z := ⟨_, List.getElem?_eq_getElem (by have := HN.out; omega)⟩
      obtain ⟨sb, so, rfl, hcz⟩ := bs_cell HS.out i z hz
      have HZ := Lib.hid (cf_get hz)
      have HCZ := Lib.hid hcz
      clear hz hcz
      go_wp2_with (refine wpList_make_row _ rfl (.tmp 19) (.tmp 19) 22 rfl 5 i0 (.int .u8 0) Tryz.underlying22 hi0 hz0 hsz0 rfl .i64 .i64 (long + 1) (by go_num) (by go_num) (by rw [hby0]; omega) (by omega) ?_)
      clear hBW hi0 hz0 hsz0 hby0
      go_loopw [9] (fun ji wr => ∃ q : Nat, q ≤ long ∧ ji = .int .i64 ((q + 1 : Nat) : Int) ∧ Hid (OwnB 5 BW wr (.slice (some ⟨BW, 0, none⟩) (long + 1) (long + 1)) (regK s long i q)) ∧ Hid (Fr [] wl wr)) (fun ji _ => long + 1 - (intOf ji).toNat)
      case atStart => exact ⟨0, Nat.zero_le _, rfl, HE, HFE⟩
      case round =>
        clear HE HFE
        obtain ⟨q, hq, rfl, HQ, HFq⟩ := hrel
        obtain ⟨wq, rfl⟩ : ∃ wq, wq = wr := ⟨wr, rfl⟩
        by_cases hql : q < long
        · have hqli : ((q + 1 : Nat) : Int) ≤ long := by omega
          obtain ⟨x, hx⟩ : ∃ x, s[i - (q + 1)]? = some x := ⟨_, List.getElem?_eq_getElem (by have := HN.out; omega)⟩
          obtain ⟨b', o', e, hcx⟩ := bs_cell HS.out (i - (q + 1)) x hx
          cases e
          have hcx2 := cell_mono (HF.out.trans HFq.out) hcx
          have HST := Lib.hid (regK_step s long i q hql)
          rw [cf_get hx] at HST
          obtain ⟨cur, k1, k2, -, k4⟩ := own_blk HQ.out
          rw [regK_len] at k2
          have HK1 := Lib.hid k1
          have HK4 := Lib.hid (k4 · q x)
          have hcs : q < cur.size := by omega
          obtain ⟨q1, hq1⟩ : ∃ q1, q + 1 = q1 := ⟨_, rfl⟩
          have hq11 : q1 ≤ long := by omega
          have hsub : (q1 : Int) - 1 = q := by omega
          have hsub2 : (i : Int) - (q1 : Int) = ((i - q1 : Nat) : Int) := by omega
          have hin2 : i - q1 < N := by omega
          rw [hq1] at hcx2 hqli ⊢
          have HQ1 := Lib.hid hq1
          clear hx hcx k1 k4 hq1
          go_wp2_with (refine wpl_store_one (.tmp 35) (.tmp 34) rfl rfl (.int .u8 (x.toNat : Int)) rfl rfl HK1.out hcs (by kernel_rfl) rfl ?_)
          intro w5 f5 a5 e5
          clear e5
          have HQ5 := Lib.hid (show OwnB 5 BW w5 (.slice (some ⟨BW, 0, none⟩) (long + 1) (long + 1)) (regK s long i (q + 1)) by rw [← HST.out]; exact HK4.out w5 a5)
          have HF5 := Lib.hid (show Fr [] wl w5 from HFq.out.then f5 (by intro b hb; simp at hb; have := HBW.out; omega))
          rw [HQ1.out] at HQ5
          clear f5 a5 HQ HFq HST HK1 HK4 hsub hsub2
          go_wp2
          go_roundw
          case rel => exact ⟨q1, by omega, by go_num, HQ5, HF5⟩
          case measure => simp [intOf]; have := HQ1.out; omega
        · have hqli : ¬ ((q + 1 : Nat) : Int) ≤ long := by omega
          have hqe : q = long := by omega
          have HQE := Lib.hid (show OwnB 5 BW wq (.slice (some ⟨BW, 0, none⟩) (long + 1) (long + 1)) (regK s long i long) by have h := HQ.out; rwa [hqe] at h)
          have hcz2 := cell_mono (HF.out.trans HFq.out) HCZ.out
          have HST := Lib.hid (regK_end s long i)
          rw [HZ.out] at HST
          obtain ⟨cur, k1, k2, -, k4⟩ := own_blk HQE.out
          rw [regK_len] at k2
          have HK1 := Lib.hid k1
          have HK4 := Lib.hid (k4 · long z)
          have hcs : long < cur.size := by omega
          clear k1 k4 HQ hqe
          go_wp2_with (refine wpl_store_one (.tmp 42) (.tmp 41) rfl rfl (.int .u8 (z.toNat : Int)) rfl rfl HK1.out hcs (by kernel_rfl) rfl ?_)
          intro w5 f5 a5 e5
          clear e5
          have HX5 := Lib.hid (show OwnB 5 BW w5 (.slice (some ⟨BW, 0, none⟩) (long + 1) (long + 1)) (regRow s long i) by rw [← HST.out]; exact HK4.out w5 a5)
          have HF5 := Lib.hid (show Fr [] wl w5 from HFq.out.then f5 (by intro b hb; simp at hb; have := HBW.out; omega))
          have HB5 := Lib.hid (bst_own HX5.out (by rw [regRow_len]; omega))
          obtain ⟨W5, hW5⟩ : ∃ W5, w5.heap.size = W5 := ⟨_, rfl⟩
          have hf6 : Fr [] w5 (w5.alloc (.cells #[.slice (some ⟨BW, 0, none⟩) (long + 1) (long + 1)] 22)) := Fr.alloc _ _
          have HL6 := Lib.hid (show (w5.alloc (.cells #[.slice (some ⟨BW, 0, none⟩) (long + 1) (long + 1)] 22)).heap[W5]? = some (.cells #[.slice (some ⟨BW, 0, none⟩) (long + 1) (long + 1)] 22 (0, 0)) from heap_alloc_at hW5.symm)
          have HF6 := Lib.hid (HF5.out.trans hf6)
          have HX6 := Lib.hid (HB5.out.keep0 hf6)
          have HO6 := Lib.hid (HO.out.keep0 HF6.out)
          have hs6 : B ≤ (w5.alloc (.cells #[.slice (some ⟨BW, 0, none⟩) (long + 1) (long + 1)] 22)).heap.size := by have := HF6.out.size; omega
          clear f5 a5 hf6 HK1 HK4 HST HQE HFq HX5 HF5 HB5 hcz2
          go_wp2_with (at_builtin; refine wpl_append_1 Tryz.underlying41 Tryz.infoBytes rfl rfl (.tmp 43) (.tmp 45) rfl rfl rfl HL6.out rfl HO6.out (by rw [List.length_map]; omega) (by rw [List.length_map]; unfold maxLen; omega) hs6 ?_)
          intro v7 w7 h7 h8
          have HO7 := Lib.hid (show OwnV 22 B w7 v7 ((ls ++ [(Value.slice (some ⟨BW, 0, none⟩) (long + 1) (long + 1), regRow s long i)]).map (·.1)) by rw [List.map_append]; exact h7)
          have HOB7 := Lib.hid (show ∀ x ∈ ls ++ [(Value.slice (some ⟨BW, 0, none⟩) (long + 1) (long + 1), regRow s long i)], BsT w7 x.1 x.2 from fun x hx => by
            rcases List.mem_append.1 hx with hx | hx
            · exact ((HOB.out x hx).keep0 HF6.out).grown HO6.out h8
            · rw [List.mem_singleton] at hx
              subst hx
              exact HX6.out.grown HO6.out h8)
          have HOS7 := Lib.hid (show (ls ++ [(Value.slice (some ⟨BW, 0, none⟩) (long + 1) (long + 1), regRow s long i)]).map (·.2) = (List.range (k + 1)).map fun k => regRow s long (long + k) by
            rw [List.map_append, HOS.out, List.range_succ, List.map_append, ← HI.out]; rfl)
          have HF7 := Lib.hid (show Fr [] w w7 from OwnV.fr HO6.out (HF.out.trans HF6.out) h8 (by have := HBB.out; omega))
          have hsz7 : B ≤ w7.heap.size := by have := h8.size; omega
          have HI7 := Lib.hid (show long + (k + 1) = i + 1 by have := HI.out; omega)
          clear h7 h8 HO6 HO HOB HOS HF HX6 HL6 HF6 HI
          go_wp2
          go_roundw
          case rel => exact ⟨k + 1, _, .inr (by have := HI7.out; omega), by have := HI7.out; go_num, hsz7, HO7, HOB7, HOS7, HF7⟩
          case measure => simp [intOf]; omega
    · have hiNi : ¬ (i : Int) < N := by omega
      have HRD := Lib.hid (show RdB (fun _ => False) wl u6 ls from ⟨HO.out.vs (by simp), fun x hx => (HOB.out x hx).bs (by simp)⟩)
      have HRE := Lib.hid (show ls.map (·.2) = RR by
        rw [HOS.out, HRR.out]
        have := HI.out
        congr 2
        omega)
      have HW := Lib.hid (show ∀ x ∈ ls, x.2.length = long + 1 from fun x hx => by
        have h : x.2 ∈ ls.map (·.2) := List.mem_map.2 ⟨x, hx, rfl⟩
        rw [HOS.out] at h
        obtain ⟨k', -, e⟩ := List.mem_map.1 h
        rw [← e, regRow_len])
      have HSV := Lib.hid (solve_any wl u6 ls long HRD.out HW.out hlo (by omega))
      rw [HRE.out] at HSV
      clear HRD HRE HW HO HOB HOS
      go_wp2_with fail
      refine HSV.out.mono ?_
      rintro e w5 ⟨hr, hf⟩
      have hs5 := HF.out.size
      have HF5 := Lib.hid (HF.out.trans hf)
      rcases hr with ⟨rfl, hno⟩ | ⟨u, x, rfl, hox, hxl, hsol⟩
      · have HNO := Lib.hid hno
        clear hno hf HSV
        go_wp2
        go_ret2
        exact ⟨.inl ⟨rfl, HNO.out⟩, HF5.out⟩
      · have HOX := Lib.hid (hox.base hs5)
        have HXL := Lib.hid hxl
        have HSO := Lib.hid hsol
        clear hox hxl hsol hf HSV
        go_wp2
        go_ret2
        first | exact ⟨.inr ⟨_, x, rfl, HOX.out, HXL.out, HSO.out⟩, HF5.out⟩ | exact ⟨.inr ⟨_, rfl, x, HOX.out, HXL.out, HSO.out⟩, HF5.out⟩
end Go.Proofs.YtmohiblgfmdkjaaGreatDoor
