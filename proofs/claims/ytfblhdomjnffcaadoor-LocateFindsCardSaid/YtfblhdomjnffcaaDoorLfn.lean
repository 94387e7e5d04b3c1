/-
  The law LocateFinds, walked.
-/
import Derived.Test.YtfblhdomjnffcaaDoorLfg
import Derived.Test.YtfblhdomjnffcaaDoorGM
import Derived.Test.YtfblhdomjnffcaaDoorRfo
import Derived.Test.YtfblhdomjnffcaaDoorRgr
import Derived.Test.YtfblhdomjnffcaaDoorGF
import Derived.Test.YtfblhdomjnffcaaDoorAl4
namespace Go.Proofs.YtfblhdomjnffcaaDoor
open Go.RowKit Go.Bl
set_option linter.unusedVariables false
theorem eraBad_20 (n : Int) (l : List Int) : eraBad n l ≤ 20 := by
  unfold eraBad
  repeat' split
  all_goals omega
set_option maxRecDepth 100000 in
set_option maxHeartbeats 4000000 in
theorem lfnd_any (E : Nat → Addr) (B : Nat) (w : World) (pv : Value) (n : Int) (l : List Int) (s : List UInt8) (hE : Errs all20 E B w) (hv : Is (fun _ => False) w pv l) (hs : s.length = 32) :
    Calls Tryd.prog 5 #[.agg (s.map u8v).toArray, .int .i64 n, pv] w fun e w' => e = .returned (.bool true) ∧ Fr [] w w' := by
  by_cases hgood : l.length ≤ 40 ∧ eraBad n l = 0 ∧ ¬ fLost s n l
  · exact lfnd_good E B w pv n l s hE hv hs hgood.1 hgood.2.1 hgood.2.2
  have hsz : (s.map u8v).toArray.size = 32 := by simp [hs]
  have HFB := Lib.hid (fun w' hE' v hv' (hl : l.length ≤ 100) hb => find_bad all20 E B w' s v n l hs hE' (by decide) (by decide) (by decide) (by decide) hv' hl hb)
  have HFL := Lib.hid (fun w' hE' v hv' hb hlo => find_lost all20 E B w' s v n l hs hE' (by decide) (by decide) (by decide) (by decide) (by decide) hv' hb hlo)
  have HFG := Lib.hid (fun w' hE' v hv' hn hb hlo => find_good all20 E B w' s v n l hs hE' (by decide) (by decide) (by decide) (by decide) hv' hn hb hlo)
  have HRF := Lib.hid (fun w' g gv (hg : Bs (fun _ => False) w' gv g) e hgn he hgl => rforney_any w' s g gv e hs hg hgn he hgl)
  obtain ⟨SC, hSC⟩ : ∃ c, (s.map u8v).toArray = c := ⟨_, rfl⟩
  rw [hSC] at hsz HFB HFL HFG HRF ⊢
  clear hSC
  have hf0 : Fr [] w (w.alloc (.cells SC 32)) := Fr.alloc _ _
  have HA := Lib.hid (show At (w.alloc (.cells SC 32)) w.heap.size (.cells SC 32) from At.new rfl)
  obtain ⟨w0, hw0⟩ : ∃ w0, w.alloc (.cells SC 32) = w0 := ⟨_, rfl⟩
  rw [hw0] at hf0 HA
  have HF0 := Lib.hid hf0
  have HE0 := Lib.hid (hE.keep0 hf0)
  have HV0 := Lib.hid (hv.keep hf0 (by simp))
  have HSZ := Lib.hid hsz
  obtain ⟨a, cap, rfl, h2, h3, -⟩ := hv.shape
  unfold maxLen at h3
  by_cases hl : l.length ≤ 40
  · by_cases hbad : eraBad n l = 0
    · have hl32 := era_len hbad
      obtain ⟨hg1, hg2⟩ := era_g hbad hl32
      have hn0 : 0 ≤ n := by
        rcases Int.lt_or_le n 0 with h | h
        · rw [era_8 (by omega)] at hbad; omega
        · exact h
      have HRER := Lib.hid (fun w' (h : Fr [] w0 w') => rera_any w' (.slice a l.length cap) n l (HV0.out.keep h (by simp)) (by omega))
      have HRFO := Lib.hid (fun w' gv (hg : Bs (fun _ => False) w' gv (pinvs (eraV n l))) => HRF.out w' _ gv hg l.length hg1 hl32 hg2)
      have hrl : (fRow s n l).length = 32 - l.length := by unfold fRow; rw [fornL_len]
      have HRF2 := Lib.hid (show fornL s (pinvs (eraV n l)) l.length = fRow s n l from rfl)
      rw [HRF2.out] at HRFO
      have HSHO := Lib.hid (fun w v (hb : Bs (fun _ => False) w v (fRow s n l)) => shortest_any w v (fRow s n l) hb (by omega))
      by_cases hlost : fLost s n l
      · have HFI := Lib.hid (fun w' (h : Fr [] w0 w') => HFL.out w' (HE0.out.keep0 h) (.slice a l.length cap) (HV0.out.keep h (by simp)) hbad hlost)
        have HNU := Lib.hid (fun w' (h : Fr [] w0 w') => num_any E B 17 w' (HE0.out.keep0 h) (by omega))
        obtain ⟨EV, hEV⟩ : ∃ EV, errv E 17 = EV := ⟨_, rfl⟩
        rw [hEV] at HFI HNU
        unfold noFound at HFI
        by_cases hl1 : 32 < 2 * regL (fRow s n l) + l.length
        · have HK := Lib.hid hbad
          have hrl32 : regL (fRow s n l) ≤ 32 := by have := reg_le (fRow s n l); omega
          obtain ⟨row, hrow⟩ : ∃ row, fRow s n l = row := ⟨_, rfl⟩
          rw [hrow] at HRFO HSHO hl1 hrl hrl32
          obtain ⟨rl, hrr⟩ : ∃ rl, regL row = rl := ⟨_, rfl⟩
          rw [hrr] at HSHO hl1 hrl32
          obtain ⟨RW, hRW⟩ : ∃ x, row.length = x := ⟨_, rfl⟩
          have HRW := Lib.hid hRW
          rw [hRW] at hrl
          obtain ⟨N, hN⟩ : ∃ N, l.length = N := ⟨_, rfl⟩
          rw [hN] at HFI HRER h2 hl hl32 hl1 hrl ⊢
          have hli : ¬ (40 : Int) < N := by omega
          have htest : (RW : Int) < 2 * (rl : Int) := by omega
          have hRW32 : RW ≤ 32 := by omega
          clear hN hv hE hf0 HV0 hEV hbad hlost hg1 hg2 hrow hrr hRW hl1 hrl HFB HFL HFG HRF HRF2
          go_enter Tryd.func5, Tryd.ntmps5
          go_wp2_with (go_at_call 12; fail)
          try rw [hw0]
          clear hw0
          refine (alive04_any w0).mono ?_
          rintro e w1 ⟨rfl, hf⟩
          have HF1 := Lib.hid hf
          have HA1 := Lib.hid (HA.out.keep0 hf)
          clear hf
          go_wp2_with (first | (refine wpl_load_rowG (.tmp 3) rfl rfl w.heap.size SC rfl HA1.out Tryd.underlying32 rfl (by rw [hsz]; kernel_rfl) ?_) | (go_at_call 25; fail))
          refine (HFI.out w1 HF1.out).mono ?_
          rintro e w2 ⟨rfl, hf⟩
          have HF2 := Lib.hid (HF1.out.trans hf)
          have HA2 := Lib.hid (HA1.out.keep0 hf)
          clear hf HA1 HFI
          go_wp2_with (first | (refine wpl_store_new (.tmp 7) (.tmp 28) rfl rfl #[.int .i64 0, .slice none 0 0, .slice none 0 0] rfl rfl (by kernel_rfl) rfl (by rfl) ?_) | (go_at_call 20; fail))
          have HF3 := Lib.hid (HF2.out.trans (Fr.alloc (S := []) w2 (.cells #[.int .i64 0, .slice none 0 0, .slice none 0 0] 46)))
          have HB3 := Lib.hid (show At (w2.alloc (.cells #[.int .i64 0, .slice none 0 0, .slice none 0 0] 46)) w2.heap.size (.cells #[.int .i64 0, .slice none 0 0, .slice none 0 0] 46) from At.new rfl)
          have HA3 := Lib.hid (HA2.out.keep0 (Fr.alloc (S := []) w2 (.cells #[.int .i64 0, .slice none 0 0, .slice none 0 0] 46)))
          refine (HRER.out _ HF3.out).mono ?_
          rintro e w4 ⟨rv, k, rfl, hk, ho, hf⟩
          obtain rfl : k = 0 := hk.trans HK.out
          rw [if_pos rfl] at ho
          have HG4 := Lib.hid (ho.bs (A := fun _ => False) (by simp))
          have HF4 := Lib.hid (HF3.out.trans hf)
          have HB4 := Lib.hid (HB3.out.keep0 hf)
          have HA4 := Lib.hid (HA3.out.keep0 hf)
          obtain ⟨FB, hFB⟩ : ∃ x, w2.heap.size = x := ⟨_, rfl⟩
          rw [hFB] at HB4 ⊢
          clear hf hk ho hFB HB3 HA2 HA3 HRER HF3 HF2
          go_wp2_with (first | (refine wpl_load_rowG (.tmp 3) rfl rfl w.heap.size SC rfl HA4.out Tryd.underlying32 rfl (by rw [hsz]; kernel_rfl) ?_) | (go_at_call 24; fail))
          refine (HRFO.out w4 rv HG4.out).mono ?_
          rintro e w5 ⟨fv, rfl, ho, hf⟩
          have HR5 := Lib.hid (ho.bs (A := fun _ => False) (by simp))
          have HF5 := Lib.hid (HF4.out.trans hf)
          have HB5 := Lib.hid (HB4.out.keep0 hf)
          obtain ⟨fa, fc, hfv, -, -, -⟩ := HR5.out
          rw [HRW.out] at hfv
          subst hfv
          clear hf ho HG4 HB4 HA4 HRFO HF4
          go_wp2_with (go_at_call 15; fail)
          refine (HSHO.out w5 _ HR5.out).mono ?_
          rintro e w6 ⟨rfl, hf⟩
          have HF6 := Lib.hid (HF5.out.trans hf)
          have hc1 := (HB5.out.keep0 hf).cell 1
          simp only [List.getElem?_toArray, List.getElem?_cons_zero, List.getElem?_cons_succ] at hc1
          clear hf HR5 HB5 HSHO HF5
          go_wp2_with (go_at_call 21; fail)
          refine (HNU.out w6 HF6.out).mono ?_
          rintro e w7 ⟨rfl, hf⟩
          have hc2 := cell_mono hf hc1
          have HF7 := Lib.hid ((HF0.out.trans HF6.out).trans hf)
          clear hf hc1 HNU
          go_wp2
          go_ret
          exact ⟨rfl, HF7.out⟩
        · have HK := Lib.hid hbad
          have hl2 : plen (regP (fRow s n l)) ≤ regL (fRow s n l) := by
            rcases hlost with h | h
            · exact absurd h hl1
            · exact h
          have HSOL := Lib.hid (reg_solved (fRow s n l))
          have HONL := Lib.hid (fun x h1 h2 h3 => reg_only_trim (fRow s n l) x h1 h2 h3)
          have hrpl : (regP (fRow s n l)).length ≤ regL (fRow s n l) := by
            have e : plen (regP (fRow s n l)) = (regP (fRow s n l)).length := by unfold regP; rw [plen_trim, ptrim_length]
            omega
          have HRRG := Lib.hid (fun w v (hb : Bs (fun _ => False) w v (fRow s n l)) => rregister_any w v (fRow s n l) (regL (fRow s n l)) hb (by omega) (by have := reg_le (fRow s n l); omega))
          have hrl32 : regL (fRow s n l) ≤ 32 := by have := reg_le (fRow s n l); omega
          obtain ⟨row, hrow⟩ : ∃ row, fRow s n l = row := ⟨_, rfl⟩
          rw [hrow] at HRFO HSHO hl1 hrl hrl32 hl2 HSOL HONL hrpl HRRG
          obtain ⟨rl, hrr⟩ : ∃ rl, regL row = rl := ⟨_, rfl⟩
          rw [hrr] at HSHO hl1 hrl32 hl2 HSOL HONL hrpl HRRG
          obtain ⟨rp, hrp⟩ : ∃ rp, regP row = rp := ⟨_, rfl⟩
          rw [hrp] at HONL hrpl hl2 HSOL
          obtain ⟨RP, hRP⟩ : ∃ x, rp.length = x := ⟨_, rfl⟩
          have HRP := Lib.hid hRP
          rw [hRP] at hrpl
          obtain ⟨RW, hRW⟩ : ∃ x, row.length = x := ⟨_, rfl⟩
          have HRW := Lib.hid hRW
          rw [hRW] at hrl HONL
          obtain ⟨N, hN⟩ : ∃ N, l.length = N := ⟨_, rfl⟩
          rw [hN] at HFI HRER h2 hl hl32 hl1 hrl ⊢
          have hli : ¬ (40 : Int) < N := by omega
          have htest : ¬ (RW : Int) < 2 * (rl : Int) := by omega
          have h2rl : 2 * rl ≤ RW := by omega
          have hlen : ¬ (RP : Int) = (rl : Int) + 1 := by omega
          have hRW32 : RW ≤ 32 := by omega
          clear hN hv hE hf0 HV0 hEV hbad hlost hg1 hg2 hrow hrr hRW hl1 hrl hl2 hrp hRP HFB HFL HFG HRF HRF2
          go_enter Tryd.func5, Tryd.ntmps5
          go_wp2_with (go_at_call 12; fail)
          try rw [hw0]
          clear hw0
          refine (alive04_any w0).mono ?_
          rintro e w1 ⟨rfl, hf⟩
          have HF1 := Lib.hid hf
          have HA1 := Lib.hid (HA.out.keep0 hf)
          clear hf
          go_wp2_with (first | (refine wpl_load_rowG (.tmp 3) rfl rfl w.heap.size SC rfl HA1.out Tryd.underlying32 rfl (by rw [hsz]; kernel_rfl) ?_) | (go_at_call 25; fail))
          refine (HFI.out w1 HF1.out).mono ?_
          rintro e w2 ⟨rfl, hf⟩
          have HF2 := Lib.hid (HF1.out.trans hf)
          have HA2 := Lib.hid (HA1.out.keep0 hf)
          clear hf HA1 HFI
          go_wp2_with (first | (refine wpl_store_new (.tmp 7) (.tmp 28) rfl rfl #[.int .i64 0, .slice none 0 0, .slice none 0 0] rfl rfl (by kernel_rfl) rfl (by rfl) ?_) | (go_at_call 20; fail))
          have HF3 := Lib.hid (HF2.out.trans (Fr.alloc (S := []) w2 (.cells #[.int .i64 0, .slice none 0 0, .slice none 0 0] 46)))
          have HB3 := Lib.hid (show At (w2.alloc (.cells #[.int .i64 0, .slice none 0 0, .slice none 0 0] 46)) w2.heap.size (.cells #[.int .i64 0, .slice none 0 0, .slice none 0 0] 46) from At.new rfl)
          have HA3 := Lib.hid (HA2.out.keep0 (Fr.alloc (S := []) w2 (.cells #[.int .i64 0, .slice none 0 0, .slice none 0 0] 46)))
          refine (HRER.out _ HF3.out).mono ?_
          rintro e w4 ⟨rv, k, rfl, hk, ho, hf⟩
          obtain rfl : k = 0 := hk.trans HK.out
          rw [if_pos rfl] at ho
          have HG4 := Lib.hid (ho.bs (A := fun _ => False) (by simp))
          have HF4 := Lib.hid (HF3.out.trans hf)
          have HB4 := Lib.hid (HB3.out.keep0 hf)
          have HA4 := Lib.hid (HA3.out.keep0 hf)
          obtain ⟨FB, hFB⟩ : ∃ x, w2.heap.size = x := ⟨_, rfl⟩
          rw [hFB] at HB4 ⊢
          clear hf hk ho hFB HB3 HA2 HA3 HRER HF3 HF2
          go_wp2_with (first | (refine wpl_load_rowG (.tmp 3) rfl rfl w.heap.size SC rfl HA4.out Tryd.underlying32 rfl (by rw [hsz]; kernel_rfl) ?_) | (go_at_call 24; fail))
          refine (HRFO.out w4 rv HG4.out).mono ?_
          rintro e w5 ⟨fv, rfl, ho, hf⟩
          have HR5 := Lib.hid (ho.bs (A := fun _ => False) (by simp))
          have HF5 := Lib.hid (HF4.out.trans hf)
          have HB5 := Lib.hid (HB4.out.keep0 hf)
          obtain ⟨fa, fc, hfv, -, -, -⟩ := HR5.out
          rw [HRW.out] at hfv
          subst hfv
          clear hf ho HG4 HB4 HA4 HRFO HF4
          go_wp2_with (go_at_call 15; fail)
          refine (HSHO.out w5 _ HR5.out).mono ?_
          rintro e w6 ⟨rfl, hf⟩
          have HF6 := Lib.hid (HF5.out.trans hf)
          have HB6 := Lib.hid (HB5.out.keep0 hf)
          have HR6 := Lib.hid (HR5.out.keep hf (by simp))
          clear hf HR5 HB5 HSHO HF5
          go_wp2_with (go_at_call 26; fail)
          refine (HRRG.out w6 _ HR6.out).mono ?_
          rintro e w7 ⟨hr, hf⟩
          have HF7 := Lib.hid (HF6.out.trans hf)
          have HB7 := Lib.hid (HB6.out.keep0 hf)
          rcases hr with ⟨-, hno⟩ | ⟨cu, x, rfl, hox, hxl, hsol⟩
          · exact absurd HSOL.out (hno _)
          · have HTX := Lib.hid (HONL.out x hxl hsol h2rl)
            have HX7 := Lib.hid (hox.bs (A := fun _ => False) (by simp))
            have HXL := Lib.hid hxl
            clear hf hox hxl hsol HB6 HR6 HRRG HF6 HSOL HONL
            have HO8 := Lib.hid (show OwnB 5 w7.heap.size (w7.alloc (.cells #[.int .u8 1] 5)) (.slice (some ⟨w7.heap.size, 0, none⟩) 1 1) [1] from World.ownsRow_lit (size := 1) w7 #[.int .u8 1] 1 (Nat.le_refl _) (by decide) rfl)
            have HX8 := Lib.hid (HX7.out.keep (Fr.alloc (S := []) w7 (.cells #[.int .u8 1] 5)) (by simp))
            have HF8 := Lib.hid (HF7.out.trans (Fr.alloc (S := []) w7 (.cells #[.int .u8 1] 5)))
            go_wp2_with (at_builtin; refine wpl_append_bs (A := fun _ => False) (ys := x) (base := w7.heap.size) Tryd.underlying22 Tryd.infoByte rfl (.tmp 73) (.tmp 74) rfl rfl rfl HO8.out HX8.out (by have := HXL.out; simp; omega) (by simp) ?_)
            intro v9 w9 h9 g9
            have HO9 := Lib.hid h9
            have hf9 : Fr [] w7 w9 := OwnB.fr HO8.out (Fr.alloc _ _) g9 (Nat.le_refl _)
            have HF9 := Lib.hid (HF7.out.trans hf9)
            have HB9 := Lib.hid (HB7.out.keep0 hf9)
            have HTR := Lib.hid (rtrim_any w9 v9 _ (h9.bs (by simp)) (by have := HXL.out; simp; omega))
            rw [HTX.out] at HTR
            clear h9 g9 hf9 HO8 HX8 HF8 HX7 HO9 HB7 HF7 HTX
            go_wp2_with (go_at_call 27; fail)
            refine HTR.out.mono ?_
            rintro e w10 ⟨tv, rfl, hot, hf⟩
            have HT10 := Lib.hid (hot.bs (A := fun _ => False) (by simp))
            obtain ⟨ta, tc, htv, -, -, -⟩ := HT10.out
            rw [HRP.out] at htv
            subst htv
            have HF10 := Lib.hid (HF9.out.trans hf)
            have hc1 := (HB9.out.keep0 hf).cell 1
            simp only [List.getElem?_toArray, List.getElem?_cons_zero, List.getElem?_cons_succ] at hc1
            clear hf hot HTR HB9 HF9
            go_wp2_with (go_at_call 21; fail)
            refine (HNU.out w10 HF10.out).mono ?_
            rintro e w11 ⟨rfl, hf⟩
            have hc2 := cell_mono hf hc1
            have HF11 := Lib.hid ((HF0.out.trans HF10.out).trans hf)
            clear hf hc1 HNU
            go_wp2
            go_ret
            exact ⟨rfl, HF11.out⟩
      · exact absurd ⟨hl, hbad, hlost⟩ hgood
    · have HFI := Lib.hid (fun w' (h : Fr [] w0 w') => HFB.out w' (HE0.out.keep0 h) (.slice a l.length cap) (HV0.out.keep h (by simp)) (by omega) hbad)
      have HRER := Lib.hid (fun w' (h : Fr [] w0 w') => rera_any w' (.slice a l.length cap) n l (HV0.out.keep h (by simp)) (by omega))
      have HNU := Lib.hid (fun w' (h : Fr [] w0 w') => num_any E B (eraBad n l) w' (HE0.out.keep0 h) (eraBad_20 n l))
      obtain ⟨K, hK⟩ : ∃ K, eraBad n l = K := ⟨_, rfl⟩
      rw [hK] at HFI HNU hbad
      have HK := Lib.hid hK
      obtain ⟨EV, hEV⟩ : ∃ EV, errv E K = EV := ⟨_, rfl⟩
      rw [hEV] at HFI HNU
      obtain ⟨N, hN⟩ : ∃ N, l.length = N := ⟨_, rfl⟩
      rw [hN] at HFI HRER h2 hl ⊢
      have hli : ¬ (40 : Int) < N := by omega
      unfold noFound at HFI
      have hkb : ((K : Int) != 0) = true := by simp; omega
      have HKB := Lib.hid hkb
      clear hN hv hE hf0 HV0 hEV hK hkb
      go_enter Tryd.func5, Tryd.ntmps5
      go_wp2_with (go_at_call 12; fail)
      try rw [hw0]
      clear hw0
      refine (alive04_any w0).mono ?_
      rintro e w1 ⟨rfl, hf⟩
      have HF1 := Lib.hid hf
      have HA1 := Lib.hid (HA.out.keep0 hf)
      clear hf
      go_wp2_with (first | (refine wpl_load_rowG (.tmp 3) rfl rfl w.heap.size SC rfl HA1.out Tryd.underlying32 rfl (by rw [hsz]; kernel_rfl) ?_) | (go_at_call 25; fail))
      refine (HFI.out w1 HF1.out).mono ?_
      rintro e w2 ⟨rfl, hf⟩
      have HF2 := Lib.hid (HF1.out.trans hf)
      clear hf HA1 HFI
      go_wp2_with (first | (refine wpl_store_new (.tmp 7) (.tmp 28) rfl rfl #[.int .i64 0, .slice none 0 0, .slice none 0 0] rfl rfl (by kernel_rfl) rfl (by rfl) ?_) | (go_at_call 20; fail))
      have HF3 := Lib.hid (HF2.out.trans (Fr.alloc (S := []) w2 (.cells #[.int .i64 0, .slice none 0 0, .slice none 0 0] 46)))
      have HB3 := Lib.hid (show At (w2.alloc (.cells #[.int .i64 0, .slice none 0 0, .slice none 0 0] 46)) w2.heap.size (.cells #[.int .i64 0, .slice none 0 0, .slice none 0 0] 46) from At.new rfl)
      refine (HRER.out _ HF3.out).mono ?_
      rintro e w4 ⟨rv, k, rfl, hk, -, hf⟩
      obtain rfl : k = K := hk.trans HK.out
      have HF4 := Lib.hid (HF3.out.trans hf)
      have hc1 := (HB3.out.keep0 hf).cell 1
      have HB4 := Lib.hid (HB3.out.keep0 hf)
      simp only [List.getElem?_toArray, List.getElem?_cons_zero, List.getElem?_cons_succ] at hc1
      have hkb := HKB.out
      obtain ⟨FB, hFB⟩ : ∃ x, w2.heap.size = x := ⟨_, rfl⟩
      rw [hFB] at hc1 HB4 ⊢
      clear hf hk hFB HB3 HRER HF3 HF2
      go_wp2_with (go_at_call 21; fail)
      refine (HNU.out w4 HF4.out).mono ?_
      rintro e w5 ⟨rfl, hf⟩
      have hc2 := cell_mono hf hc1
      have HF5 := Lib.hid ((HF0.out.trans HF4.out).trans hf)
      clear hf hc1 HB4 HNU
      go_wp2
      go_ret
      exact ⟨rfl, HF5.out⟩
  · have hli : (40 : Int) < (l.length : Int) := by omega
    obtain ⟨N, hN⟩ : ∃ N, l.length = N := ⟨_, rfl⟩
    rw [hN] at hl hli h2 ⊢
    clear HV0 hN hv hE hf0
    go_enter Tryd.func5, Tryd.ntmps5
    go_wp2_with (go_at_call 12; fail)
    try rw [hw0]
    clear hw0
    refine (alive04_any w0).mono ?_
    rintro e w1 ⟨rfl, hf⟩
    have HF1 := Lib.hid (HF0.out.trans hf)
    clear hf
    go_wp2
    go_ret
    exact ⟨rfl, HF1.out⟩
end Go.Proofs.YtfblhdomjnffcaaDoor
