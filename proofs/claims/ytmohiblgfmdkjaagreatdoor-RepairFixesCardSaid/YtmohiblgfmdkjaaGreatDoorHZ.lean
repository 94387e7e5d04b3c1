/-
  Layer 5: repair.Only where it fails.
  The law RepairFixes, walked. (printed by genrfl.py)
-/
import Derived.Test.YtmohiblgfmdkjaaGreatDoorHC
import Derived.BigQuiet
import Derived.Test.YtmohiblgfmdkjaaGreatDoorHT
import Derived.Test.YtmohiblgfmdkjaaGreatDoorGE
import Derived.Test.YtmohiblgfmdkjaaGreatDoorIn
import Derived.Test.YtmohiblgfmdkjaaGreatDoorStr
import Derived.Test.YtmohiblgfmdkjaaGreatDoorErr
namespace Go.Proofs.YtmohiblgfmdkjaaGreatDoor
open Go.RowKit Go.Bl
set_option linter.unusedVariables false
set_option maxRecDepth 100000 in
set_option maxHeartbeats 4000000 in
theorem only_fail (w : World) (v pv : Value) (AD : Addr)
    (hfx : Calls Tryz.prog 8 #[v, pv] w fun e w' => e = .returned (.tuple #[noFix, .iface 168 (.pointer (some AD))]) ∧ Fr [] w w') :
    Calls Tryz.prog 14 #[v, pv] w fun e w' => e = .returned (.tuple #[.slice none 0 0, .iface 168 (.pointer (some AD))]) ∧ Fr [] w w' := by
  unfold noFix at hfx
  have HFX := Lib.hid hfx
  clear hfx
  go_enter Tryz.func14, Tryz.ntmps14
  go_wp2_with (go_at_call 8; fail)
  refine HFX.out.mono ?_
  rintro e w1 ⟨rfl, hf⟩
  have HF := Lib.hid (hf.trans (Fr.alloc (S := []) w1 (.cells #[.slice none 0 0, .slice none 0 0, .int .i64 0] 28)))
  clear hf HFX
  go_wp2_with (refine wpl_store_new (.tmp 6) (.tmp 12) rfl rfl #[.slice none 0 0, .slice none 0 0, .int .i64 0] rfl rfl (by kernel_rfl) rfl (by rfl) ?_)
  go_ret2
  exact ⟨rfl, HF.out⟩
set_option maxRecDepth 100000 in
set_option maxHeartbeats 4000000 in
theorem only_lost (L : List Nat) (E : Nat → Addr) (B : Nat) (w : World) (v pv : Value) (out : List UInt8) (dl : List Int) (t : Nat) (ht : 0 < t) (ht2 : t ≤ 1000) (hE : Errs L E B w) (m17 : 17 ∈ L)
    (hfx : Calls Tryz.prog 8 #[v, pv] w fun e w' => ∃ u r, e = .returned (.tuple #[.agg #[u, r, .int .i64 (t : Int)], .nilIface]) ∧ OwnB 5 w.heap.size w' u out ∧ OwnI 3 w.heap.size w' r dl ∧ Fr [] w w') :
    Calls Tryz.prog 14 #[v, pv] w fun e w' => e = .returned (.tuple #[.slice none 0 0, errv E 17]) ∧ Fr [] w w' := by
  have x17 : errv E 17 = .iface 168 (.pointer (some (E 17))) := errv_pos E 17 (by decide)
  have X17 := Lib.hid x17
  have HE := Lib.hid hE
  have HM := Lib.hid m17
  have HFX := Lib.hid hfx
  have hti : (0 : Int) < t := by omega
  clear hfx x17 hE m17
  go_enter Tryz.func14, Tryz.ntmps14
  go_wp2_with (go_at_call 8; fail)
  refine HFX.out.mono ?_
  rintro e w1 ⟨u, r, rfl, ho, hi, hf⟩
  obtain ⟨ua, uc, rfl, -⟩ := ho.bs (A := fun _ => False) (by simp)
  obtain ⟨ra, rc, rfl, -⟩ := (hi.is (A := fun _ => False) (by simp)).shape
  obtain ⟨un, hun⟩ : ∃ x, out.length = x := ⟨_, rfl⟩
  obtain ⟨rn, hrn⟩ : ∃ x, dl.length = x := ⟨_, rfl⟩
  rw [hun, hrn]
  have fa : Fr [] w1 (w1.alloc (.cells #[.slice ua un uc, .slice ra rn rc, .int .i64 (t : Int)] 28)) := Fr.alloc _ _
  have HF := Lib.hid (hf.trans fa)
  have hcc := (HE.out.keep0 HF.out).cell 17 HM.out
  simp only [gOf, List.getD_eq_getElem?_getD, List.getElem?_cons_zero, List.getElem?_cons_succ, Option.getD_some] at hcc
  clear hf fa ho hi hun hrn HFX
  go_wp2_with (refine wpl_store_new (.tmp 6) (.tmp 12) rfl rfl #[.slice ua un uc, .slice ra rn rc, .int .i64 (t : Int)] rfl rfl (by kernel_rfl) rfl (by rfl) ?_)
  go_quiet (fail)
  go_wp2
  go_ret2
  exact ⟨by rw [X17.out]; rfl, HF.out.trans (Fr.of_heap rfl rfl rfl rfl)⟩
end Go.Proofs.YtmohiblgfmdkjaaGreatDoor
namespace Go.Proofs.YtmohiblgfmdkjaaGreatDoor
open Go.RowKit Go.Bl
set_option linter.unusedVariables false
set_option maxRecDepth 100000 in
set_option maxHeartbeats 8000000 in
theorem rfl_core (E : Nat → Addr) (B : Nat) (w : World) (v0 v1 : Value) (ws : List UInt8) (l : List Int) (K T K2 : Nat) (out out2 : List UInt8) (dl : List Int) (hE : Errs all20 E B w) (hb : Bs (fun _ => False) w v0 ws) (hv : Is (fun _ => False) w v1 l) (hn : ws.length ≤ 300) (hl : l.length ≤ 40) (hK : K ≤ 20) (hK2 : K2 ≤ 20) (hT : T ≤ 1000)
    (hal : Calls Tryz.prog 5 #[] w fun e w' => e = .returned (.bool true) ∧ Fr [] w w')
    (hfx : ∀ w' u3 u4, Fr [] w w' → Bs (fun _ => False) w' u3 ws → Is (fun _ => False) w' u4 l → Calls Tryz.prog 8 #[u3, u4] w' fun e w'' => ∃ u r, e = .returned (.tuple #[.agg #[u, r, .int .i64 (T : Int)], errv E K]) ∧ Bs (fun _ => False) w'' u out ∧ Is (fun _ => False) w'' r dl ∧ Fr [] w' w'')
    (hrf : ∀ w', Fr [] w w' → Calls Tryz.prog 9 #[v0, v1] w' fun e w'' => ∃ u r, e = .returned (.tuple #[u, r, .int .i64 (T : Int), .int .i64 (K : Int)]) ∧ Bs (fun _ => False) w'' u out ∧ Is (fun _ => False) w'' r dl ∧ Fr [] w' w'')
    (hon : ∀ w', Fr [] w w' → Calls Tryz.prog 14 #[v0, v1] w' fun e w'' => ∃ u, e = .returned (.tuple #[u, errv E K2]) ∧ Bs (fun _ => False) w'' u out2 ∧ Fr [] w' w'')
    (hcs : (K = 0 ∧ T = 0 ∧ K2 = 0 ∧ out2 = out) ∨ (K = 0 ∧ 0 < T ∧ K2 = 17 ∧ out2 = []) ∨ (K ≠ 0 ∧ K2 = K ∧ out2 = out)) :
    Calls Tryz.prog 3 #[v0, v1] w fun e w' => e = .returned (.bool true) ∧ Fr [] w w' := by
  have HAL := Lib.hid hal
  have HB := Lib.hid hb
  have HV := Lib.hid hv
  have HE := Lib.hid hE
  have HFX := Lib.hid hfx
  have HRF := Lib.hid hrf
  have HON := Lib.hid hon
  have HCS := Lib.hid hcs
  have HNUM := Lib.hid (fun w' (h : Fr [] w w') => num_any E B K w' (hE.keep0 h) hK)
  have HNUM2 := Lib.hid (fun w' (h : Fr [] w w') => num_any E B K2 w' (hE.keep0 h) hK2)
  obtain ⟨EV, hEV⟩ : ∃ x, errv E K = x := ⟨_, rfl⟩
  obtain ⟨EV2, hEV2⟩ : ∃ x, errv E K2 = x := ⟨_, rfl⟩
  rw [hEV] at HFX HNUM
  rw [hEV2] at HON HNUM2
  obtain ⟨da, dc, e, d2, d3, -⟩ := id hb
  subst e
  obtain ⟨pa, pc, e, p2, p3, -⟩ := hv.shape
  subst e
  unfold maxLen at d3 p3
  obtain ⟨N, hN⟩ : ∃ N, ws.length = N := ⟨_, rfl⟩
  obtain ⟨M, hM⟩ : ∃ N, l.length = N := ⟨_, rfl⟩
  have HN := Lib.hid hN
  have HM := Lib.hid hM
  rw [hN] at HB d2 HRF HON hn ⊢
  rw [hM] at HV p2 HRF HON hl ⊢
  obtain ⟨S, hS⟩ : ∃ S, (⟨out.toArray⟩ : ByteArray) = S := ⟨_, rfl⟩
  have HS := Lib.hid hS
  obtain ⟨S2, hS2⟩ : ∃ S, (⟨out2.toArray⟩ : ByteArray) = S := ⟨_, rfl⟩
  have HS2 := Lib.hid hS2
  have q0 : (S.toList != S.toList) = false := by simp
  have q1 : (S2.toList == S2.toList) = true := by simp
  have hni : ¬ (300 : Int) < N := by omega
  have hmi : ¬ (40 : Int) < M := by omega
  clear hb hv hE hal hfx hrf hon hcs hN hM hEV hEV2 hS hS2
  go_enter Tryz.func3, Tryz.ntmps3
  go_wp2_with (go_at_call 5; fail)
  refine HAL.out.mono ?_
  rintro e w1 ⟨rfl, hf⟩
  have HF1 := Lib.hid hf
  clear hf HAL
  go_wp2_with (go_at_call 6; fail)
  refine (bytes_any (fun _ => False) w1 _ ws (HB.out.keep HF1.out (by simp)) (by rw [HN.out]; omega)).mono ?_
  rintro e w2 ⟨u3, rfl, hm, hf⟩
  have HM2 := Lib.hid hm
  have HF2 := Lib.hid (HF1.out.trans hf)
  clear hf hm
  go_wp2_with (go_at_call 7; fail)
  refine (ints_any w2 _ l (HV.out.keep HF2.out (by simp)) (by rw [HM.out]; omega)).mono ?_
  rintro e w3 ⟨u4, rfl, hm, hf⟩
  have HI3 := Lib.hid hm
  have HM3 := Lib.hid (HM2.out.keep0 hf)
  have HF3 := Lib.hid (HF2.out.trans hf)
  clear hf hm HM2
  go_wp2_with (go_at_call 8; fail)
  refine (HFX.out w3 u3 u4 HF3.out (HM3.out.bs (fun _ h => h.elim)) (HI3.out.is (fun _ h => h.elim))).mono ?_
  rintro e w4 ⟨u, r, rfl, hu, hr, hf⟩
  obtain ⟨ua, uc, e, -⟩ := id hu
  subst e
  obtain ⟨ra, rc, e, -⟩ := hr.shape
  subst e
  obtain ⟨un, hun⟩ : ∃ x, out.length = x := ⟨_, rfl⟩
  obtain ⟨rn, hrn⟩ : ∃ x, dl.length = x := ⟨_, rfl⟩
  rw [hun] at hu ⊢
  rw [hrn] at hr ⊢
  have fa : Fr [] w4 (w4.alloc (.cells #[.slice ua un uc, .slice ra rn rc, .int .i64 (T : Int)] 28)) := Fr.alloc _ _
  have HX5 := Lib.hid (show At (w4.alloc (.cells #[.slice ua un uc, .slice ra rn rc, .int .i64 (T : Int)] 28)) w4.heap.size (.cells #[.slice ua un uc, .slice ra rn rc, .int .i64 (T : Int)] 28) from At.new rfl)
  have HU5 := Lib.hid (hu.keep fa (by simp))
  have HR5 := Lib.hid (hr.keep fa (by simp))
  have HF5 := Lib.hid ((HF3.out.trans hf).trans fa)
  have HM5 := Lib.hid (HM3.out.keep0 (hf.trans fa))
  have HI5 := Lib.hid (HI3.out.keep0 (hf.trans fa))
  clear hu hr hun hrn hf fa HFX HM3 HI3
  go_wp2_with (first | (refine wpl_store_new (.tmp 7) (.tmp 32) rfl rfl #[.slice ua un uc, .slice ra rn rc, .int .i64 (T : Int)] rfl rfl (by kernel_rfl) rfl (by rfl) ?_) | (go_at_call 9; fail))
  refine (HRF.out _ HF5.out).mono ?_
  rintro e w6 ⟨x, y, rfl, hx, hy, hf⟩
  obtain ⟨xa, xc, e, -⟩ := id hx
  subst e
  obtain ⟨ya, yc, e, -⟩ := hy.shape
  subst e
  obtain ⟨xn, hxn⟩ : ∃ x, out.length = x := ⟨_, rfl⟩
  obtain ⟨yn, hyn⟩ : ∃ x, dl.length = x := ⟨_, rfl⟩
  rw [hxn] at hx ⊢
  rw [hyn] at hy ⊢
  have HX6 := Lib.hid (HX5.out.keep0 hf)
  have HU6 := Lib.hid (HU5.out.keep hf (by simp))
  have HR6 := Lib.hid (HR5.out.keep hf (by simp))
  have HF6 := Lib.hid (HF5.out.trans hf)
  have HM6 := Lib.hid (HM5.out.keep0 hf)
  have HI6 := Lib.hid (HI5.out.keep0 hf)
  have HXX := Lib.hid hx
  have HYY := Lib.hid hy
  clear hx hy hf hxn hyn HX5 HU5 HR5 HF5 HM5 HI5 HRF
  obtain ⟨fb, hfb⟩ : ∃ x, w4.heap.size = x := ⟨_, rfl⟩
  rw [hfb] at HX6 ⊢
  clear hfb
  go_wp2_with (go_at_call 10; fail)
  refine (HNUM.out w6 HF6.out).mono ?_
  rintro e w7 ⟨rfl, hf⟩
  have hc0 := (HX6.out.keep0 hf).cell 0
  have hc1 := (HX6.out.keep0 hf).cell 1
  simp only [List.getElem?_toArray, List.getElem?_cons_zero, List.getElem?_cons_succ] at hc0 hc1
  have HX7 := Lib.hid (HX6.out.keep0 hf)
  have HU7 := Lib.hid (HU6.out.keep hf (by simp))
  have HR7 := Lib.hid (HR6.out.keep hf (by simp))
  have HF7 := Lib.hid (HF6.out.trans hf)
  have HM7 := Lib.hid (HM6.out.keep0 hf)
  have HI7 := Lib.hid (HI6.out.keep0 hf)
  have HXX7 := Lib.hid (HXX.out.keep hf (by simp))
  have HYY7 := Lib.hid (HYY.out.keep hf (by simp))
  clear hf HX6 HU6 HR6 HF6 HM6 HI6 HXX HYY HNUM
  go_wp2_with (first | (refine wpl_strH (src := 22) (dst := 9) Tryz.underlying22 Tryz.underlying5 Tryz.underlying9 (.tmp 48) rfl rfl rfl HU7.out S HS.out ?_) | (refine wpl_strH (src := 22) (dst := 9) Tryz.underlying22 Tryz.underlying5 Tryz.underlying9 (.tmp 50) rfl rfl rfl HXX7.out S HS.out ?_) | (go_at_call 11; fail))
  refine (sameInts_any (fun _ => False) w7 _ _ dl dl HR7.out HYY7.out).mono ?_
  rintro e w8 ⟨rfl, hf⟩
  have hdl : (dl == dl) = true := by simp
  rw [hdl]
  have hc2 := (HX7.out.keep0 hf).cell 2
  simp only [List.getElem?_toArray, List.getElem?_cons_zero, List.getElem?_cons_succ] at hc2
  have HF8 := Lib.hid (HF7.out.trans hf)
  have HM8 := Lib.hid (HM7.out.keep0 hf)
  have HI8 := Lib.hid (HI7.out.keep0 hf)
  have HXX8 := Lib.hid (HXX7.out.keep hf (by simp))
  clear hf HX7 HU7 HR7 HF7 HM7 HI7 HXX7 HYY7 hdl hc0 hc1
  go_wp2_with (go_at_call 12; fail)
  refine (kept_any (fun _ => False) _ w8 u3 _ ws HM8.out (HB.out.keep HF8.out (by simp)) (by rw [HN.out]; omega)).mono ?_
  rintro e w9 ⟨rfl, hf⟩
  have HF9 := Lib.hid (HF8.out.trans hf)
  have HI9 := Lib.hid (HI8.out.keep0 hf)
  have HXX9 := Lib.hid (HXX8.out.keep hf (by simp))
  clear hf HF8 HM8 HI8 HXX8 hc2
  go_wp2_with (go_at_call 13; fail)
  refine (keptInts_any _ w9 u4 _ l HI9.out (HV.out.keep HF9.out (by simp)) (by rw [HM.out]; omega)).mono ?_
  rintro e wA ⟨rfl, hf⟩
  have HFA := Lib.hid (HF9.out.trans hf)
  have HXXA := Lib.hid (HXX9.out.keep hf (by simp))
  clear hf HF9 HI9 HXX9
  go_wp2_with (go_at_call 14; fail)
  refine (HON.out wA HFA.out).mono ?_
  rintro e w10 ⟨o, rfl, ho, hf⟩
  obtain ⟨oa, oc, e, -⟩ := id ho
  subst e
  obtain ⟨on, hon⟩ : ∃ x, out2.length = x := ⟨_, rfl⟩
  rw [hon] at ho ⊢
  have HO10 := Lib.hid ho
  have HXX10 := Lib.hid (HXXA.out.keep hf (by simp))
  have HF10 := Lib.hid (HFA.out.trans hf)
  clear ho hf hon HFA HXXA HON
  rcases HCS.out with ⟨rfl, rfl, rfl, rfl⟩ | ⟨rfl, h2, rfl, rfl⟩ | ⟨h1, rfl, rfl⟩
  · clear HCS
    go_wp2_with (go_at_call 10; fail)
    refine (HNUM2.out w10 HF10.out).mono ?_
    rintro e w11 ⟨rfl, hf⟩
    have HF11 := Lib.hid (HF10.out.trans hf)
    have HA11 := Lib.hid (HO10.out.keep hf (by simp))
    have HB11 := Lib.hid (HXX10.out.keep hf (by simp))
    clear hf HNUM2
    go_wp2_with (first | (refine wpl_strH (src := 22) (dst := 9) Tryz.underlying22 Tryz.underlying5 Tryz.underlying9 (.tmp 96) rfl rfl rfl HA11.out S2 HS2.out ?_) | (refine wpl_strH (src := 22) (dst := 9) Tryz.underlying22 Tryz.underlying5 Tryz.underlying9 (.tmp 98) rfl rfl rfl HB11.out S2 HS2.out ?_))
    go_ret
    exact ⟨rfl, HF11.out⟩
  · have hti : (0 : Int) < T := by omega
    have HNIL := Lib.hid (Bs.nil (fun _ => False) w10 none 0 (by decide))
    clear HCS h2
    go_wp2_with (go_at_call 10; fail)
    refine (HNUM2.out w10 HF10.out).mono ?_
    rintro e w11 ⟨rfl, hf⟩
    have HF11 := Lib.hid (HF10.out.trans hf)
    have HA11 := Lib.hid (HO10.out.keep hf (by simp))
    have HB11 := Lib.hid (HNIL.out.keep hf (by simp))
    clear hf HNUM2
    go_wp2_with (first | (refine wpl_strH (src := 22) (dst := 9) Tryz.underlying22 Tryz.underlying5 Tryz.underlying9 (.tmp 96) rfl rfl rfl HA11.out S2 HS2.out ?_) | (refine wpl_strH (src := 22) (dst := 9) Tryz.underlying22 Tryz.underlying5 Tryz.underlying9 (.tmp 98) rfl rfl rfl HB11.out S2 HS2.out ?_))
    go_ret
    exact ⟨rfl, HF11.out⟩
  · have hki : ¬ (K2 : Int) = 0 := by omega
    clear HCS h1
    go_wp2_with (go_at_call 10; fail)
    refine (HNUM2.out w10 HF10.out).mono ?_
    rintro e w11 ⟨rfl, hf⟩
    have HF11 := Lib.hid (HF10.out.trans hf)
    have HA11 := Lib.hid (HO10.out.keep hf (by simp))
    have HB11 := Lib.hid (HXX10.out.keep hf (by simp))
    clear hf HNUM2
    go_wp2_with (first | (refine wpl_strH (src := 22) (dst := 9) Tryz.underlying22 Tryz.underlying5 Tryz.underlying9 (.tmp 96) rfl rfl rfl HA11.out S2 HS2.out ?_) | (refine wpl_strH (src := 22) (dst := 9) Tryz.underlying22 Tryz.underlying5 Tryz.underlying9 (.tmp 98) rfl rfl rfl HB11.out S2 HS2.out ?_))
    go_ret
    exact ⟨rfl, HF11.out⟩

set_option maxRecDepth 100000 in
set_option maxHeartbeats 8000000 in
theorem rfl_long (E : Nat → Addr) (B : Nat) (w : World) (v0 v1 : Value) (ws : List UInt8) (l : List Int) (hb : Bs (fun _ => False) w v0 ws) (hv : Is (fun _ => False) w v1 l) (hn : 300 < ws.length ∨ 40 < l.length)
    (hal : Calls Tryz.prog 5 #[] w fun e w' => e = .returned (.bool true) ∧ Fr [] w w') :
    Calls Tryz.prog 3 #[v0, v1] w fun e w' => e = .returned (.bool true) ∧ Fr [] w w' := by
  have HAL := Lib.hid hal
  obtain ⟨da, dc, e, d2, d3, -⟩ := id hb
  subst e
  obtain ⟨pa, pc, e, p2, p3, -⟩ := hv.shape
  subst e
  unfold maxLen at d3 p3
  obtain ⟨N, hN⟩ : ∃ N, ws.length = N := ⟨_, rfl⟩
  obtain ⟨M, hM⟩ : ∃ N, l.length = N := ⟨_, rfl⟩
  rw [hN] at d2 hn ⊢
  rw [hM] at p2 hn ⊢
  clear hb hv hal hN hM
  by_cases h3 : 300 < N
  · have hni : (300 : Int) < N := by omega
    clear hn
    go_enter Tryz.func3, Tryz.ntmps3
    go_wp2_with (go_at_call 5; fail)
    refine HAL.out.mono ?_
    rintro e w1 ⟨rfl, hf⟩
    have HF1 := Lib.hid hf
    clear hf HAL
    go_wp2
    go_ret
    exact ⟨rfl, HF1.out⟩
  · have hni : ¬ (300 : Int) < N := by omega
    have hmi : (40 : Int) < M := by omega
    clear hn
    go_enter Tryz.func3, Tryz.ntmps3
    go_wp2_with (go_at_call 5; fail)
    refine HAL.out.mono ?_
    rintro e w1 ⟨rfl, hf⟩
    have HF1 := Lib.hid hf
    clear hf HAL
    go_wp2
    go_ret
    exact ⟨rfl, HF1.out⟩
theorem eraBad_le (n : Int) (l : List Int) : eraBad n l ≤ 20 := by
  unfold eraBad
  repeat' split
  all_goals omega
theorem rfl_any (E : Nat → Addr) (B : Nat) (w : World) (v0 v1 : Value) (ws : List UInt8) (l : List Int) (hE : Errs all20 E B w) (hb : Bs (fun _ => False) w v0 ws) (hv : Is (fun _ => False) w v1 l) :
    Calls Tryz.prog 3 #[v0, v1] w fun e w' => e = .returned (.bool true) ∧ Fr [] w w' := by
  have m1 : 1 ∈ all20 := by decide
  have m8 : 8 ∈ all20 := by decide
  have m10 : 10 ∈ all20 := by decide
  have m16 : 16 ∈ all20 := by decide
  have m17 : 17 ∈ all20 := by decide
  have m20 : 20 ∈ all20 := by decide
  have hal := alive05_any all20 E B w hE m1 m8 m10 m16 m20
  by_cases hs : 300 < ws.length ∨ 40 < l.length
  · exact rfl_long E B w v0 v1 ws l hb hv hs hal
  have hn : ws.length ≤ 300 := by omega
  have hl : l.length ≤ 40 := by omega
  have nilB : ∀ w', Bs (fun _ => False) w' (.slice none 0 0) [] := fun w' => Bs.nil _ _ _ _ (by decide)
  have nilI : ∀ w', Is (fun _ => False) w' (.slice none 0 0) [] := fun w' => Vs.nil _ _ _ _ (by decide)
  -- where both fail
  have fails : ∀ K, K ≤ 20 → K ≠ 0 → ((eraBad (ws.length : Int) l ≠ 0 ∧ K = eraBad (ws.length : Int) l) ∨ (eraBad (ws.length : Int) l = 0 ∧ K = 17 ∧ ¬ mGood ws l)) → Calls Tryz.prog 3 #[v0, v1] w fun e w' => e = .returned (.bool true) ∧ Fr [] w w' := fun K hK h0 hc => by
    refine rfl_core E B w v0 v1 ws l K 0 K [] [] [] hE hb hv hn hl hK hK (by omega) hal ?_ ?_ ?_ (.inr (.inr ⟨h0, rfl, rfl⟩))
    · intro w' u3 u4 hf h3 h4
      refine (fix_fail all20 E B w' u3 u4 ws l (hE.keep0 hf) m1 m8 m10 m16 m17 m20 h3 h4 (by omega) K hc).mono ?_
      rintro e w'' ⟨rfl, h⟩
      exact ⟨_, _, rfl, nilB _, nilI _, h⟩
    · intro w' hf
      refine (rfix_any w' v0 v1 ws l (hb.keep hf (by simp)) (hv.keep hf (by simp)) (by omega)).mono ?_
      rintro e w'' ⟨⟨h1, rfl⟩ | ⟨h1, h2, rfl⟩ | ⟨h1, h2, -⟩, h⟩
      · rcases hc with ⟨-, rfl⟩ | ⟨h2, -⟩
        · exact ⟨_, _, rfl, nilB _, nilI _, h⟩
        · exact absurd h2 h1
      · rcases hc with ⟨h3, -⟩ | ⟨-, rfl, -⟩
        · exact absurd h1 h3
        · exact ⟨_, _, rfl, nilB _, nilI _, h⟩
      · rcases hc with ⟨h3, -⟩ | ⟨-, -, h3⟩
        · exact absurd h1 h3
        · exact absurd h2 h3
    · intro w' hf
      have hx := fix_fail all20 E B w' v0 v1 ws l (hE.keep0 hf) m1 m8 m10 m16 m17 m20 (hb.keep hf (by simp)) (hv.keep hf (by simp)) (by omega) K hc
      rw [errv_pos E K h0] at hx ⊢
      refine (only_fail w' v0 v1 (E K) hx).mono ?_
      rintro e w'' ⟨rfl, h⟩
      exact ⟨_, rfl, nilB _, h⟩
  by_cases h0 : eraBad (ws.length : Int) l = 0
  · by_cases hg : mGood ws l
    · obtain ⟨T, hT⟩ : ∃ T, regL (fRow (synL ws) (ws.length : Int) l) = T := ⟨_, rfl⟩
      have hT2 : T ≤ 1000 := by
        have h1 := hg.1
        unfold fLost at h1
        rw [hT] at h1
        omega
      have fg : ∀ w' u3 u4, Fr [] w w' → Bs (fun _ => False) w' u3 ws → Is (fun _ => False) w' u4 l → Calls Tryz.prog 8 #[u3, u4] w' fun e w'' => ∃ u r, e = .returned (.tuple #[.agg #[u, r, .int .i64 (T : Int)], .nilIface]) ∧ OwnB 5 w'.heap.size w'' u (mOut ws l) ∧ OwnI 3 w'.heap.size w'' r (intL (dfrK ws (mOut ws l) ws.length)) ∧ Fr [] w' w'' := fun w' u3 u4 hf h3 h4 => by
        have := fix_good all20 E B w' u3 u4 ws l (hE.keep0 hf) m1 m8 m10 m16 m20 h3 h4 h0 hg
        rwa [hT] at this
      have rg : ∀ w', Fr [] w w' → Calls Tryz.prog 9 #[v0, v1] w' fun e w'' => ∃ u r, e = .returned (.tuple #[u, r, .int .i64 (T : Int), .int .i64 ((0 : Nat) : Int)]) ∧ Bs (fun _ => False) w'' u (mOut ws l) ∧ Is (fun _ => False) w'' r (intL (dfrK ws (mOut ws l) ws.length)) ∧ Fr [] w' w'' := fun w' hf => by
        refine (rfix_any w' v0 v1 ws l (hb.keep hf (by simp)) (hv.keep hf (by simp)) (by omega)).mono ?_
        rintro e w'' ⟨⟨h1, rfl⟩ | ⟨h1, h2, rfl⟩ | ⟨h1, h2, u, v, rfl, h3, h4⟩, h⟩
        · exact absurd h0 h1
        · exact absurd hg h2
        · rw [hT]
          exact ⟨_, _, rfl, h3.bs (by simp), h4.is (by simp), h⟩
      by_cases hT0 : T = 0
      · subst hT0
        refine rfl_core E B w v0 v1 ws l 0 0 0 (mOut ws l) (mOut ws l) (intL (dfrK ws (mOut ws l) ws.length)) hE hb hv hn hl (by omega) (by omega) (by omega) hal ?_ rg ?_ (.inl ⟨rfl, rfl, rfl, rfl⟩)
        · intro w' u3 u4 hf h3 h4
          refine (fg w' u3 u4 hf h3 h4).mono ?_
          rintro e w'' ⟨u, r, rfl, k1, k2, k3⟩
          exact ⟨u, r, rfl, k1.bs (by simp), k2.is (by simp), k3⟩
        · intro w' hf
          refine (only_good w' v0 v1 _ _ (fg w' v0 v1 hf (hb.keep hf (by simp)) (hv.keep hf (by simp)))).mono ?_
          rintro e w'' ⟨u, rfl, k1, k2⟩
          exact ⟨u, rfl, k1.bs (by simp), k2⟩
      · refine rfl_core E B w v0 v1 ws l 0 T 17 (mOut ws l) [] (intL (dfrK ws (mOut ws l) ws.length)) hE hb hv hn hl (by omega) (by omega) hT2 hal ?_ rg ?_ (.inr (.inl ⟨rfl, by omega, rfl, rfl⟩))
        · intro w' u3 u4 hf h3 h4
          refine (fg w' u3 u4 hf h3 h4).mono ?_
          rintro e w'' ⟨u, r, rfl, k1, k2, k3⟩
          exact ⟨u, r, rfl, k1.bs (by simp), k2.is (by simp), k3⟩
        · intro w' hf
          refine (only_lost all20 E B w' v0 v1 _ _ T (by omega) hT2 (hE.keep0 hf) m17 (fg w' v0 v1 hf (hb.keep hf (by simp)) (hv.keep hf (by simp)))).mono ?_
          rintro e w'' ⟨rfl, k2⟩
          exact ⟨_, rfl, nilB _, k2⟩
    · exact fails 17 (by omega) (by omega) (.inr ⟨h0, rfl, hg⟩)
  · exact fails _ (eraBad_le _ _) h0 (.inl ⟨h0, rfl⟩)
end Go.Proofs.YtmohiblgfmdkjaaGreatDoor
