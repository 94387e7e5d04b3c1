/-
  The law LocateFinds, walked, where an answer is found.
-/
import Derived.Test.YtfblhdomjnffcaaDoorLfR
import Derived.Test.YtfblhdomjnffcaaDoorGM
import Derived.Test.YtfblhdomjnffcaaDoorRfo
import Derived.Test.YtfblhdomjnffcaaDoorRgr
import Derived.Test.YtfblhdomjnffcaaDoorGF
import Derived.Test.YtfblhdomjnffcaaDoorAl4
import Derived.Test.YtfblhdomjnffcaaDoorGK
namespace Go.Proofs.YtfblhdomjnffcaaDoor
open Go.RowKit Go.Bl
set_option linter.unusedVariables false
set_option maxRecDepth 100000 in
set_option maxHeartbeats 4000000 in
theorem lfnd_good (E : Nat → Addr) (B : Nat) (w : World) (pv : Value) (n : Int) (l : List Int) (s : List UInt8) (hE : Errs all20 E B w) (hv : Is (fun _ => False) w pv l) (hs : s.length = 32) (hl : l.length ≤ 40) (hbad : eraBad n l = 0) (hlost : ¬ fLost s n l) :
    Calls Tryd.prog 5 #[.agg (s.map u8v).toArray, .int .i64 n, pv] w fun e w' => e = .returned (.bool true) ∧ Fr [] w w' := by
  have hsz : (s.map u8v).toArray.size = 32 := by simp [hs]
  have HFG := Lib.hid (fun w' hE' v hv' hn hb hlo => find_good all20 E B w' s v n l hs hE' (by decide) (by decide) (by decide) (by decide) hv' hn hb hlo)
  have HRF := Lib.hid (fun w' g gv (hg : Bs (fun _ => False) w' gv g) e hgn he hgl => rforney_any w' s g gv e hs hg hgn he hgl)
  have HSB := Lib.hid (show ∀ w', At w' w.heap.size (.cells (s.map u8v).toArray 32) → Bs (fun _ => False) w' (.slice (some ⟨w.heap.size, 0, none⟩) 32 32) s from fun w' h => ⟨_, 32, by rw [hs], by omega, by simp [maxLen], by simpa using Row.of_block h (by simp)⟩)
  have HEV := Lib.hid (show ∀ z, z = 32 → ptrim ((pmul s (fLoc s n l)).take z) = fEv s n l from fun z hz => ptrim_ext fun j => by
    subst hz
    rw [cf_take, cf_take, cf_mul, cf_mul]
    unfold conv
    simp only [cf_trim])
  have HS32 := Lib.hid hs
  obtain ⟨SC, hSC⟩ : ∃ c, (s.map u8v).toArray = c := ⟨_, rfl⟩
  rw [hSC] at hsz HFG HRF HSB ⊢
  clear hSC
  have hf0 : Fr [] w (w.alloc (.cells SC 32)) := Fr.alloc _ _
  have HA := Lib.hid (show At (w.alloc (.cells SC 32)) w.heap.size (.cells SC 32) from At.new rfl)
  obtain ⟨w0, hw0⟩ : ∃ w0, w.alloc (.cells SC 32) = w0 := ⟨_, rfl⟩
  rw [hw0] at hf0 HA
  have HF0 := Lib.hid hf0
  have HE0 := Lib.hid (hE.keep0 hf0)
  have HV0 := Lib.hid (hv.keep hf0 (by simp))
  have HSZ := Lib.hid hsz
  obtain ⟨a, cap, rfl, h2, h3, -⟩ := hv.shape
  unfold maxLen at h3
  have hl32 := era_len hbad
  obtain ⟨hg1, hg2⟩ := era_g hbad hl32
  have hn0 : 0 ≤ n := by
    rcases Int.lt_or_le n 0 with h | h
    · rw [era_8 (by omega)] at hbad; omega
    · exact h
  have HRER := Lib.hid (fun w' (h : Fr [] w0 w') => rera_any w' (.slice a l.length cap) n l (HV0.out.keep h (by simp)) (by omega))
  have HRFO := Lib.hid (fun w' gv (hg : Bs (fun _ => False) w' gv (pinvs (eraV n l))) => HRF.out w' _ gv hg l.length hg1 hl32 hg2)
  have hrl : (fRow s n l).length = 32 - l.length := by unfold fRow; rw [fornL_len]
  have HRF2 := Lib.hid (show fornL s (pinvs (eraV n l)) l.length = fRow s n l from rfl)
  rw [HRF2.out] at HRFO
  have HSHO := Lib.hid (fun w v (hb : Bs (fun _ => False) w v (fRow s n l)) => shortest_any w v (fRow s n l) hb (by omega))
  have HFI := Lib.hid (fun w' (h : Fr [] w0 w') => HFG.out w' (HE0.out.keep0 h) (.slice a l.length cap) (HV0.out.keep h (by simp)) hn0 hbad hlost)
  have HK := Lib.hid hbad
  have HG2 := Lib.hid hg2
  have HLL := Lib.hid (show (fLoc s n l).length ≤ 1000 by
    unfold fLoc
    have h1 := pmul_len (regP (fRow s n l)) (pinvs (eraV n l))
    have h2 := reg_len (fRow s n l)
    have h3 := reg_le (fRow s n l)
    omega)
  have HLOC := Lib.hid (show fLoc s n l = pmul (regP (fRow s n l)) (pinvs (eraV n l)) from rfl)
  have hnl := hlost
  unfold fLost at hnl
  have hl1 : ¬ 32 < 2 * regL (fRow s n l) + l.length := by omega
  have hl2 : regL (fRow s n l) + 1 ≤ plen (regP (fRow s n l)) := by omega
  have HSOL := Lib.hid (reg_solved (fRow s n l))
  have HONL := Lib.hid (fun x h1 h2 h3 => reg_only_trim (fRow s n l) x h1 h2 h3)
  have hrpl : (regP (fRow s n l)).length = regL (fRow s n l) + 1 := by
    have := reg_len (fRow s n l)
    have e : plen (regP (fRow s n l)) = (regP (fRow s n l)).length := by unfold regP; rw [plen_trim, ptrim_length]
    omega
  have HRRG := Lib.hid (fun w v (hb : Bs (fun _ => False) w v (fRow s n l)) => rregister_any w v (fRow s n l) (regL (fRow s n l)) hb (by omega) (by have := reg_le (fRow s n l); omega))
  have hrl32 : regL (fRow s n l) ≤ 32 := by have := reg_le (fRow s n l); omega
  obtain ⟨row, hrow⟩ : ∃ row, fRow s n l = row := ⟨_, rfl⟩
  rw [hrow] at HRFO HSHO hl1 hrl hrl32 hl2 HSOL HONL hrpl HRRG HLOC
  obtain ⟨rl, hrr⟩ : ∃ rl, regL row = rl := ⟨_, rfl⟩
  rw [hrr] at HSHO hl1 hrl32 hl2 HSOL HONL hrpl HRRG
  obtain ⟨rp, hrp⟩ : ∃ rp, regP row = rp := ⟨_, rfl⟩
  rw [hrp] at HONL hrpl hl2 HSOL HLOC
  have HRP := Lib.hid hrpl
  obtain ⟨RW, hRW⟩ : ∃ x, row.length = x := ⟨_, rfl⟩
  have HRW := Lib.hid hRW
  rw [hRW] at hrl HONL
  obtain ⟨N, hN⟩ : ∃ N, l.length = N := ⟨_, rfl⟩
  rw [hN] at HFI HRER h2 hl hl32 hl1 hrl ⊢
  have HRL := Lib.hid (show regL (fRow s n l) = rl by rw [hrow, hrr])
  have hli : ¬ (40 : Int) < N := by omega
  have htest : ¬ (RW : Int) < 2 * (rl : Int) := by omega
  have h2rl : 2 * rl ≤ RW := by omega
  clear hnl
  have hRW32 : RW ≤ 32 := by omega
  clear hN hv hE hf0 HV0 hbad hlost hg1 hg2 hrow hrr hRW hl1 hrl hl2 hrp hrpl HFG HRF HRF2
  go_enter Tryd.func5, Tryd.ntmps5
  go_wp2_with (go_at_call 12; fail)
  try rw [hw0]
  clear hw0
  refine (alive04_any w0).mono ?_
  rintro e w1 ⟨rfl, hf⟩
  have HF1 := Lib.hid hf
  have HA1 := Lib.hid (HA.out.keep0 hf)
  clear hf
  go_wp2_with (first | (refine wpl_load_rowG (.tmp 3) rfl rfl w.heap.size SC rfl HA1.out Tryd.underlying32 rfl (by rw [hsz]; kernel_rfl) ?_) | (go_at_call 25; fail))
  refine (HFI.out w1 HF1.out).mono ?_
  rintro e w2 ⟨lu, le, rfl, hlu, hle, hf⟩
  rw [HRL.out]
  have HLU2 := Lib.hid (hlu.bs (A := fun _ => False) (by simp))
  have HLE2 := Lib.hid (hle.bs (A := fun _ => False) (by simp))
  obtain ⟨ua, uc, rfl, -, -, -⟩ := HLU2.out
  obtain ⟨ea, ec, rfl, -, -, -⟩ := HLE2.out
  have HF2 := Lib.hid (HF1.out.trans hf)
  have HA2 := Lib.hid (HA1.out.keep0 hf)
  clear hf hlu hle HA1 HFI
  obtain ⟨un, hun⟩ : ∃ x, (fLoc s n l).length = x := ⟨_, rfl⟩
  obtain ⟨en, hen⟩ : ∃ x, (fEv s n l).length = x := ⟨_, rfl⟩
  rw [hun] at HLU2 ⊢
  rw [hen] at HLE2 ⊢
  go_wp2_with (first | (refine wpl_store_new (.tmp 7) (.tmp 28) rfl rfl #[.int .i64 (rl : Int), .slice ua un uc, .slice ea en ec] rfl rfl (by kernel_rfl) rfl (by rfl) ?_) | (go_at_call 20; fail))
  have HF3 := Lib.hid (HF2.out.trans (Fr.alloc (S := []) w2 (.cells #[.int .i64 (rl : Int), .slice ua un uc, .slice ea en ec] 46)))
  have HB3 := Lib.hid (show At (w2.alloc (.cells #[.int .i64 (rl : Int), .slice ua un uc, .slice ea en ec] 46)) w2.heap.size (.cells #[.int .i64 (rl : Int), .slice ua un uc, .slice ea en ec] 46) from At.new rfl)
  have HA3 := Lib.hid (HA2.out.keep0 (Fr.alloc (S := []) w2 (.cells #[.int .i64 (rl : Int), .slice ua un uc, .slice ea en ec] 46)))
  have HLU3 := Lib.hid (HLU2.out.keep (Fr.alloc (S := []) w2 (.cells #[.int .i64 (rl : Int), .slice ua un uc, .slice ea en ec] 46)) (by simp))
  have HLE3 := Lib.hid (HLE2.out.keep (Fr.alloc (S := []) w2 (.cells #[.int .i64 (rl : Int), .slice ua un uc, .slice ea en ec] 46)) (by simp))
  clear HLU2 HLE2 HA2 HF2
  refine (HRER.out _ HF3.out).mono ?_
  rintro e w4 ⟨rv, k, rfl, hk, ho, hf⟩
  obtain rfl : k = 0 := hk.trans HK.out
  rw [if_pos rfl] at ho
  have HG4 := Lib.hid (ho.bs (A := fun _ => False) (by simp))
  have HF4 := Lib.hid (HF3.out.trans hf)
  have HB4 := Lib.hid (HB3.out.keep0 hf)
  have HA4 := Lib.hid (HA3.out.keep0 hf)
  have HLU4 := Lib.hid (HLU3.out.keep hf (by simp))
  have HLE4 := Lib.hid (HLE3.out.keep hf (by simp))
  obtain ⟨FB, hFB⟩ : ∃ x, w2.heap.size = x := ⟨_, rfl⟩
  rw [hFB] at HB4 ⊢
  clear hf hk ho hFB HB3 HA3 HRER HF3 HLU3 HLE3
  go_wp2_with (first | (refine wpl_load_rowG (.tmp 3) rfl rfl w.heap.size SC rfl HA4.out Tryd.underlying32 rfl (by rw [hsz]; kernel_rfl) ?_) | (go_at_call 24; fail))
  refine (HRFO.out w4 rv HG4.out).mono ?_
  rintro e w5 ⟨fv, rfl, ho, hf⟩
  have HR5 := Lib.hid (ho.bs (A := fun _ => False) (by simp))
  have HF5 := Lib.hid (HF4.out.trans hf)
  have HB5 := Lib.hid (HB4.out.keep0 hf)
  have HA5 := Lib.hid (HA4.out.keep0 hf)
  have HG5 := Lib.hid (HG4.out.keep hf (by simp))
  have HLU5 := Lib.hid (HLU4.out.keep hf (by simp))
  have HLE5 := Lib.hid (HLE4.out.keep hf (by simp))
  obtain ⟨fa, fc, hfv, -, -, -⟩ := HR5.out
  rw [HRW.out] at hfv
  subst hfv
  clear hf ho HG4 HB4 HA4 HRFO HF4 HLU4 HLE4
  go_wp2_with (go_at_call 15; fail)
  refine (HSHO.out w5 _ HR5.out).mono ?_
  rintro e w6 ⟨rfl, hf⟩
  have HF6 := Lib.hid (HF5.out.trans hf)
  have HB6 := Lib.hid (HB5.out.keep0 hf)
  have HR6 := Lib.hid (HR5.out.keep hf (by simp))
  have HA6 := Lib.hid (HA5.out.keep0 hf)
  have HG6 := Lib.hid (HG5.out.keep hf (by simp))
  have HLU6 := Lib.hid (HLU5.out.keep hf (by simp))
  have HLE6 := Lib.hid (HLE5.out.keep hf (by simp))
  clear hf HR5 HB5 HSHO HF5 HA5 HG5 HLU5 HLE5
  go_wp2_with (go_at_call 26; fail)
  refine (HRRG.out w6 _ HR6.out).mono ?_
  rintro e w7 ⟨hr, hf⟩
  have HF7 := Lib.hid (HF6.out.trans hf)
  have HB7 := Lib.hid (HB6.out.keep0 hf)
  have HA7 := Lib.hid (HA6.out.keep0 hf)
  have HG7 := Lib.hid (HG6.out.keep hf (by simp))
  have HLU7 := Lib.hid (HLU6.out.keep hf (by simp))
  have HLE7 := Lib.hid (HLE6.out.keep hf (by simp))
  rcases hr with ⟨-, hno⟩ | ⟨cu, x, rfl, hox, hxl, hsol⟩
  · exact absurd HSOL.out (hno _)
  · have HTX := Lib.hid (HONL.out x hxl hsol h2rl)
    have HX7 := Lib.hid (hox.bs (A := fun _ => False) (by simp))
    have HXL := Lib.hid hxl
    clear hf hox hxl hsol HB6 HR6 HRRG HF6 HSOL HONL HA6 HG6 HLU6 HLE6
    have HO8 := Lib.hid (show OwnB 5 w7.heap.size (w7.alloc (.cells #[.int .u8 1] 5)) (.slice (some ⟨w7.heap.size, 0, none⟩) 1 1) [1] from World.ownsRow_lit (size := 1) w7 #[.int .u8 1] 1 (Nat.le_refl _) (by decide) rfl)
    have HX8 := Lib.hid (HX7.out.keep (Fr.alloc (S := []) w7 (.cells #[.int .u8 1] 5)) (by simp))
    have HF8 := Lib.hid (HF7.out.trans (Fr.alloc (S := []) w7 (.cells #[.int .u8 1] 5)))
    go_wp2_with (at_builtin; refine wpl_append_bs (A := fun _ => False) (ys := x) (base := w7.heap.size) Tryd.underlying22 Tryd.infoByte rfl (.tmp 73) (.tmp 74) rfl rfl rfl HO8.out HX8.out (by have := HXL.out; simp; omega) (by simp) ?_)
    intro v9 w9 h9 g9
    have HO9 := Lib.hid h9
    have hf9 : Fr [] w7 w9 := OwnB.fr HO8.out (Fr.alloc _ _) g9 (Nat.le_refl _)
    have HF9 := Lib.hid (HF7.out.trans hf9)
    have HB9 := Lib.hid (HB7.out.keep0 hf9)
    have HA9 := Lib.hid (HA7.out.keep0 hf9)
    have HG9 := Lib.hid (HG7.out.keep hf9 (by simp))
    have HLU9 := Lib.hid (HLU7.out.keep hf9 (by simp))
    have HLE9 := Lib.hid (HLE7.out.keep hf9 (by simp))
    have HTR := Lib.hid (rtrim_any w9 v9 _ (h9.bs (by simp)) (by have := HXL.out; simp; omega))
    rw [HTX.out] at HTR
    clear h9 g9 hf9 HO8 HX8 HF8 HX7 HO9 HB7 HF7 HTX HA7 HG7 HLU7 HLE7
    go_wp2_with (go_at_call 27; fail)
    refine HTR.out.mono ?_
    rintro e w10 ⟨tv, rfl, hot, hf⟩
    have HT10 := Lib.hid (hot.bs (A := fun _ => False) (by simp))
    obtain ⟨ta, tc, htv, -, -, -⟩ := HT10.out
    rw [HRP.out] at htv
    subst htv
    have HF10 := Lib.hid (HF9.out.trans hf)
    have HB10 := Lib.hid (HB9.out.keep0 hf)
    have HA10 := Lib.hid (HA9.out.keep0 hf)
    have HG10 := Lib.hid (HG9.out.keep hf (by simp))
    have HLU10 := Lib.hid (HLU9.out.keep hf (by simp))
    have HLE10 := Lib.hid (HLE9.out.keep hf (by simp))
    clear hf hot HTR HB9 HF9 HA9 HG9 HLU9 HLE9
    go_wp2_with (go_at_call 28; fail)
    refine (rdmul_any w10 _ rv rp _ HT10.out HG10.out (by have := HRP.out; omega) (by have := HG2.out; omega)).mono ?_
    rintro e w11 ⟨wv, rfl, how, hf⟩
    rw [← HLOC.out] at how
    have HW11 := Lib.hid (how.bs (A := fun _ => False) (by simp))
    have HF11 := Lib.hid (HF10.out.trans hf)
    have HB11 := Lib.hid (HB10.out.keep0 hf)
    have HA11 := Lib.hid (HA10.out.keep0 hf)
    have HLU11 := Lib.hid (HLU10.out.keep hf (by simp))
    have HLE11 := Lib.hid (HLE10.out.keep hf (by simp))
    clear hf how HF10 HB10 HA10 HG10 HLU10 HLE10 HT10
    have hszw := HSZ.out
    go_wp2_with (go_at_call 28; fail)
    refine (rdmul_any w11 _ wv s (fLoc s n l) (HSB.out w11 HA11.out) HW11.out (by have := HS32.out; omega) HLL.out).mono ?_
    rintro e w12 ⟨av, rfl, hoa, hf⟩
    have hab := hoa.bs (A := fun _ => False) (by simp)
    have hal : (pmul s (fLoc s n l)).length ≤ 2000 := by
      have h1 := pmul_len s (fLoc s n l)
      have h2 := HS32.out
      have h3 := HLL.out
      omega
    have HEV2 := Lib.hid (HEV.out 32 rfl)
    obtain ⟨al, hal2⟩ : ∃ al, pmul s (fLoc s n l) = al := ⟨_, rfl⟩
    rw [hal2] at hab hal HEV2
    have HF12 := Lib.hid (HF11.out.trans hf)
    have HB12 := Lib.hid (HB11.out.keep0 hf)
    have HW12 := Lib.hid (HW11.out.keep hf (by simp))
    have HLU12 := Lib.hid (HLU11.out.keep hf (by simp))
    have HLE12 := Lib.hid (HLE11.out.keep hf (by simp))
    have HAB := Lib.hid hab
    obtain ⟨aa, ac, e, hac, -⟩ := id hab
    subst e
    obtain ⟨AL, hAL⟩ : ∃ x, al.length = x := ⟨_, rfl⟩
    rw [hAL] at HAB hal hac ⊢
    have HAL := Lib.hid hAL
    clear hf hoa hab hal2 hAL HEV HB11 HA11 HW11 HF11 HLU11 HLE11
    by_cases h32 : AL ≤ 32
    · have hgt : ¬ (32 : Int) < AL := by omega
      have HTR2 := Lib.hid (show ∀ p, Fr [] w12 p → Calls Tryd.prog 27 #[.slice aa AL ac] p fun e w' => ∃ u, e = .returned u ∧ OwnB 5 p.heap.size w' u (fEv s n l) ∧ Fr [] p w' from fun p hp => by
        have h := rtrim_any p (.slice aa AL ac) al (HAB.out.keep hp (by simp)) (by have := HAL.out; omega)
        have e := HEV2.out
        rw [List.take_of_length_le (by have := HAL.out; omega)] at e
        rwa [e] at h)
      clear HEV2
      go_wp2_with fail
      refine lfnd_reg w12 _ rfl FB rl un uc en ec ua ea wv (.slice aa AL ac) (fLoc s n l) (fEv s n l) _ _ rfl rfl (HB12.out.cell 0) (HB12.out.cell 1) (HB12.out.cell 2) HLU12.out HW12.out HLE12.out HTR2.out rfl rfl rfl rfl rfl _ ?_
      intro b p q1 q2 q3 q4 q5
      have HF13 := Lib.hid ((HF0.out.trans HF12.out).trans q5)
      rw [frame127 b q2 q1, q4]
      clear q5 HTR2
      go_wp2
      go_ret
      exact ⟨rfl, HF13.out⟩
    · have hgt : (32 : Int) < AL := by omega
      have h32c : 32 ≤ ac := by omega
      have HTR2 := Lib.hid (show ∀ p, Fr [] w12 p → Calls Tryd.prog 27 #[.slice aa 32 ac] p fun e w' => ∃ u, e = .returned u ∧ OwnB 5 p.heap.size w' u (fEv s n l) ∧ Fr [] p w' from fun p hp => by
        have h := rtrim_any p (.slice aa 32 ac) (al.take 32) ((HAB.out.take 32 (by omega)).keep hp (by simp)) (by simp; omega)
        have e := HEV2.out
        rwa [e] at h)
      clear HEV2
      go_wp2_with fail
      refine lfnd_reg w12 _ rfl FB rl un uc en ec ua ea wv (.slice aa 32 ac) (fLoc s n l) (fEv s n l) _ _ rfl rfl (HB12.out.cell 0) (HB12.out.cell 1) (HB12.out.cell 2) HLU12.out HW12.out HLE12.out HTR2.out rfl rfl rfl rfl rfl _ ?_
      intro b p q1 q2 q3 q4 q5
      have HF13 := Lib.hid ((HF0.out.trans HF12.out).trans q5)
      rw [frame127 b q2 q1, q4]
      clear q5 HTR2
      go_wp2
      go_ret
      exact ⟨rfl, HF13.out⟩
end Go.Proofs.YtfblhdomjnffcaaDoor
