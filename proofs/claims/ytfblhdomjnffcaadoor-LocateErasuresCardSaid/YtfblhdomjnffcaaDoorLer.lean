/-
  The law LocateErasures, walked.
-/
import Derived.Test.YtfblhdomjnffcaaDoorLeR
import Derived.Test.YtfblhdomjnffcaaDoorErl
import Derived.Test.YtfblhdomjnffcaaDoorIn
import Derived.Test.YtfblhdomjnffcaaDoorRfo
import Derived.Test.YtfblhdomjnffcaaDoorAl4
namespace Go.Proofs.YtfblhdomjnffcaaDoor
open Go.RowKit Go.Bl
set_option linter.unusedVariables false
theorem eraBad_le (n : Int) (l : List Int) : eraBad n l ≤ 20 := by
  unfold eraBad
  repeat' split
  all_goals omega
theorem eraBad_zero {n : Int} {l : List Int} (h : eraBad n l = 0) : l.length ≤ 32 := by
  unfold eraBad at h
  repeat' split at h
  all_goals first | assumption | omega
theorem eraV_ne (n : Int) (l : List Int) : ∀ r ∈ eraV n l, r ≠ 0 := by
  intro r hr
  unfold eraV at hr
  obtain ⟨p, -, rfl⟩ := List.mem_map.1 hr
  exact plX_ne _ _
set_option maxRecDepth 100000 in
set_option maxHeartbeats 4000000 in
theorem lers_any (E : Nat → Addr) (B : Nat) (w : World) (pv : Value) (n : Int) (l : List Int) (s : List UInt8) (hE : Errs all20 E B w) (hv : Is (fun _ => False) w pv l) (hs : s.length = 32) :
    Calls Tryd.prog 4 #[.int .i64 n, pv, .agg (s.map u8v).toArray] w fun e w' => e = .returned (.bool true) ∧ Fr [] w w' := by
  have hsz : (s.map u8v).toArray.size = 32 := by simp [hs]
  have HFO := Lib.hid (fun w' g gv (hg : Bs (fun _ => False) w' gv g) e hgn he hgl => forney_any w' s g gv e hs hg hgn he hgl)
  have HRF := Lib.hid (fun w' g gv (hg : Bs (fun _ => False) w' gv g) e hgn he hgl => rforney_any w' s g gv e hs hg hgn he hgl)
  obtain ⟨SC, hSC⟩ : ∃ c, (s.map u8v).toArray = c := ⟨_, rfl⟩
  rw [hSC] at hsz HFO HRF ⊢
  clear hSC
  have hf0 : Fr [] w (w.alloc (.cells SC 32)) := Fr.alloc _ _
  have HA := Lib.hid (show At (w.alloc (.cells SC 32)) w.heap.size (.cells SC 32) from At.new rfl)
  obtain ⟨w0, hw0⟩ : ∃ w0, w.alloc (.cells SC 32) = w0 := ⟨_, rfl⟩
  rw [hw0] at hf0 HA
  have HF0 := Lib.hid hf0
  have HE0 := Lib.hid (hE.keep0 hf0)
  have HV0 := Lib.hid (hv.keep hf0 (by simp))
  have HSZ := Lib.hid hsz
  obtain ⟨a, cap, rfl, h2, h3, -⟩ := hv.shape
  unfold maxLen at h3
  by_cases hl : l.length ≤ 60
  · have HERA := Lib.hid (fun w' (h : Fr [] w0 w') v (hv : Is (fun _ => False) w' v l) => lera_any all20 E B w' v n l (HE0.out.keep0 h) (by decide) (by decide) (by decide) (by decide) hv (by omega))
    have HRER := Lib.hid (fun w' (h : Fr [] w0 w') => rera_any w' (.slice a l.length cap) n l (HV0.out.keep h (by simp)) (by omega))
    have HIN := Lib.hid (fun w' (h : Fr [] w0 w') => ints_any w' (.slice a l.length cap) l (HV0.out.keep h (by simp)) (by omega))
    have HKI := Lib.hid (fun b w' (h : Fr [] w0 w') u (hm : MkI b w' u l) => keptInts_any b w' u (.slice a l.length cap) l hm (HV0.out.keep h (by simp)) (by omega))
    obtain ⟨N, hN⟩ : ∃ N, l.length = N := ⟨_, rfl⟩
    have HN := Lib.hid hN
    rw [hN] at HRER HIN HKI h2 hl ⊢
    clear hN hv hE hf0 HV0
    have hli : ¬ (60 : Int) < N := by omega
    go_enter Tryd.func4, Tryd.ntmps4
    go_wp2_with (go_at_call 12; fail)
    try rw [hw0]
    clear hw0
    refine (alive04_any w0).mono ?_
    rintro e w1 ⟨rfl, hf⟩
    have HF1 := Lib.hid hf
    clear hf
    go_wp2_with (go_at_call 18; fail)
    refine (HIN.out w1 HF1.out).mono ?_
    rintro e w2 ⟨u, rfl, hm, hf⟩
    have HF2 := Lib.hid (HF1.out.trans hf)
    have HM2 := Lib.hid hm
    have HU2 := Lib.hid (hm.is (A := fun _ => False) (fun _ h => h.elim))
    obtain ⟨BB, hBB⟩ : ∃ BB, w1.heap.size = BB := ⟨_, rfl⟩
    rw [hBB] at HM2
    clear hf hm hBB HIN
    go_wp2_with (go_at_call 19; fail)
    refine (HERA.out w2 HF2.out u HU2.out).mono ?_
    rintro e w3 ⟨gv, k, rfl, hk, hg, hf⟩
    have HF3 := Lib.hid (HF2.out.trans hf)
    have HM3 := Lib.hid (HM2.out.keep0 hf)
    obtain ⟨g, hgg⟩ : ∃ g, (if k = 0 then pinvs (eraV n l) else []) = g := ⟨_, rfl⟩
    rw [hgg] at hg
    have HG3 := Lib.hid (hg.bs (A := fun _ => False) (by simp))
    obtain ⟨ga, gc, rfl, -, -, -⟩ := HG3.out
    have HK := Lib.hid hk
    have HGG := Lib.hid hgg
    have HNU0 := Lib.hid (fun w' (h : Fr [] w0 w') => num_any E B k w' (HE0.out.keep0 h) (by rw [hk]; exact eraBad_le n l))
    obtain ⟨EV, hEV⟩ : ∃ EV, errv E k = EV := ⟨_, rfl⟩
    rw [hEV] at HNU0 ⊢
    clear hEV
    clear hf hg hgg HERA HU2 HM2
    go_wp2_with (go_at_call 20; fail)
    refine (HRER.out w3 HF3.out).mono ?_
    rintro e w4 ⟨rv, k', rfl, hk', hr, hf⟩
    obtain rfl : k' = k := hk'.trans hk.symm
    rw [HGG.out] at hr
    have HF4 := Lib.hid (HF3.out.trans hf)
    have HM4 := Lib.hid (HM3.out.keep0 hf)
    have HG4 := Lib.hid (HG3.out.keep hf (by simp))
    have HR4 := Lib.hid (hr.bs (A := fun _ => False) (by simp))
    obtain ⟨ra, rc, rfl, -, -, -⟩ := HR4.out
    obtain ⟨GL, hGL⟩ : ∃ n, g.length = n := ⟨_, rfl⟩
    rw [hGL] at HG4 HR4 ⊢
    have HGL := Lib.hid hGL
    clear hf hr hk hk' hGL HM3 HG3 HRER
    have HNU := Lib.hid (HNU0.out w4 HF4.out)
    clear HNU0
    go_wp2_with (go_at_call 21; fail)
    refine HNU.out.mono ?_
    rintro e w5 ⟨rfl, hf⟩
    have HF5 := Lib.hid (HF4.out.trans hf)
    have HM5 := Lib.hid (HM4.out.keep0 hf)
    have HG5 := Lib.hid (HG4.out.keep hf (by simp))
    have HR5 := Lib.hid (HR4.out.keep hf (by simp))
    have hc1 := run_strS (P := Tryd.prog) (src := 22) (dst := 9) Tryd.underlying22 Tryd.underlying5 Tryd.underlying9 HG5.out
    have hc2 := run_strS (P := Tryd.prog) (src := 22) (dst := 9) Tryd.underlying22 Tryd.underlying5 Tryd.underlying9 HR5.out
    clear hf HM4 HG4 HR4 HNU
    go_wp2_with (go_at_call 22; fail)
    refine (HKI.out BB w5 HF5.out u HM5.out).mono ?_
    rintro e w6 ⟨rfl, hf⟩
    have HF6 := Lib.hid (HF5.out.trans hf)
    have HG6 := Lib.hid (HG5.out.keep hf (by simp))
    have HR6 := Lib.hid (HR5.out.keep hf (by simp))
    clear hf HM5 HG5 HR5 hc1 hc2 HKI
    by_cases hk0 : k' = 0
    · subst hk0
      have hl32 := eraBad_zero HK.out.symm
      have hg : g = pinvs (eraV n l) := by rw [← HGG.out, if_pos rfl]
      have hgn : plen g = l.length + 1 := by rw [hg, pinvs_plen _ (eraV_ne n l)]; unfold eraV; rw [List.length_map]
      have hgl : g.length ≤ 100 := by
        have h := pinvs_len (eraV n l) (eraV n l).length
        rw [List.take_length, ← hg] at h
        have e : (eraV n l).length = l.length := by unfold eraV; rw [List.length_map]
        omega
      have HFOR := Lib.hid (fun p (hp : Fr [] w6 p) => HFO.out p g _ (HG6.out.keep hp (by simp)) l.length hgn hl32 hgl)
      have HRFOR := Lib.hid (fun p (hp : Fr [] w6 p) => HRF.out p g _ (HR6.out.keep hp (by simp)) l.length hgn hl32 hgl)
      obtain ⟨row, hrow⟩ : ∃ row, fornL s g l.length = row := ⟨_, rfl⟩
      rw [hrow] at HFOR HRFOR
      obtain ⟨S, hS⟩ : ∃ S, (⟨row.toArray⟩ : ByteArray) = S := ⟨_, rfl⟩
      have HSS := Lib.hid hS
      have HA6 := Lib.hid (HA.out.keep0 HF6.out)
      clear HFO HRF HGG hg hgn hgl hrow hS hl32
      go_wp2_with fail
      refine lers_reg w6 _ rfl w.heap.size SC _ _ row S HSS.out HA6.out HSZ.out HFOR.out HRFOR.out rfl rfl rfl rfl _ ?_
      intro b p q1 q2 q3 q4 q5
      have HF7 := Lib.hid ((HF0.out.trans HF6.out).trans q5)
      rw [frame61 b q2 q1, q4]
      clear q5 HFOR HRFOR HA6
      go_wp2
      go_ret
      exact ⟨rfl, HF7.out⟩
    · have hkb : ((k' : Int) != 0) = true := by simp; omega
      clear HFO HRF HGG hk0
      go_wp2
      go_quiet (fail)
      go_wp2
      go_ret
      exact ⟨rfl, (HF0.out.trans HF6.out).trans (Fr.of_heap rfl rfl rfl rfl)⟩
  · have hli : (60 : Int) < (l.length : Int) := by omega
    obtain ⟨N, hN⟩ : ∃ N, l.length = N := ⟨_, rfl⟩
    rw [hN] at hl hli h2 ⊢
    clear HV0 hN hv hE hf0
    go_enter Tryd.func4, Tryd.ntmps4
    go_wp2_with (go_at_call 12; fail)
    try rw [hw0]
    clear hw0
    refine (alive04_any w0).mono ?_
    rintro e w1 ⟨rfl, hf⟩
    have HF1 := Lib.hid (HF0.out.trans hf)
    clear hf
    go_wp2
    go_ret
    exact ⟨rfl, HF1.out⟩
end Go.Proofs.YtfblhdomjnffcaaDoor
