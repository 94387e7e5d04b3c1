/-
  The law AheadCycles, walked.
-/
import Derived.Test.YtbohmnblegljkaaDoorCyP
import Derived.Test.YtbohmnblegljkaaDoorLAS
namespace Go.Proofs.YtbohmnblegljkaaDoor
open Go.RowKit Go.Bl
set_option linter.unusedVariables false

theorem cnt_le (l : List Ev) : ∀ i : Nat, cnt1 (l.take i) ≤ i ∧ cnt3 (l.take i) ≤ i
  | 0 => by simp [cnt1, cnt3]
  | i + 1 => by
    have ih := cnt_le l i
    by_cases h : i < l.length
    · rw [List.take_succ_eq_append_getElem h, cnt1_snoc, cnt3_snoc]
      constructor
      · split <;> omega
      · split <;> omega
    · rw [show l.take (i + 1) = l.take i by rw [List.take_of_length_le (by omega), List.take_of_length_le (by omega)]]
      omega
theorem u64_bd (x : Int) : 0 ≤ IntKind.u64.wrap x ∧ IntKind.u64.wrap x ≤ 18446744073709551615 := by
  rw [IntKind.wrap_u64]; omega

set_option maxRecDepth 100000 in
set_option maxHeartbeats 4000000 in
theorem aheadCycles_bad (L : List Nat) (E : Nat → Addr) (B : Nat) (w : World) (hE : Errs L E B w) (h1 : 1 ∈ L) (h8 : 8 ∈ L) (h18 : 18 ∈ L) (p : Par) (from_ span : Int) (hc : chk p ≠ 0) :
    Calls Tryd.prog 5 #[pv p, .int .i64 from_, .int .i64 span] w fun e w' => e = .returned (.bool true) ∧ Fr [] w w' := by
  have HE := Lib.hid hE
  have HP0 := Lib.hid (show At (w.alloc (parO' p 36)) w.heap.size (parO' p 36) from At.new rfl)
  obtain ⟨u, hu⟩ : ∃ u, IntKind.u64.wrap from_ = u := ⟨_, rfl⟩
  obtain ⟨v, hv⟩ : ∃ v, IntKind.u64.wrap span = v := ⟨_, rfl⟩
  have hub := u64_bd from_
  have hvb := u64_bd span
  rw [hu] at hub
  rw [hv] at hvb
  obtain ⟨f, hf⟩ : ∃ f, u % 1099511627776 = f := ⟨_, rfl⟩
  obtain ⟨n, hn⟩ : ∃ n, v % 400 = n := ⟨_, rfl⟩
  have hfb : 0 ≤ f ∧ f < 1099511627776 := by omega
  have hnb : 0 ≤ n ∧ n < 400 := by omega
  have hb : bgn p f = chk p := by unfold bgn; rw [if_pos hc]
  have hs : spn p f (f + n) = chk p := by unfold spn; rw [hb, if_pos hc]
  have HS := Lib.hid fun w' (hE : Errs L E B w') => silent_bad L E _ w' hE h1 h8 h18 p f (f + n) (by rw [hs]; exact hc)
  rw [hs] at HS
  have HCY := Lib.hid fun w' (hE : Errs L E B w') => cycle_any L E B w' hE h1 h8 h18 p
  rw [show cyc p = 0 by unfold cyc; rw [if_pos hc]] at HCY
  have HAK := Lib.hid fun w' (hE : Errs L E B w') => asks_any L E B w' hE h1 h8 h18 p f (f + n)
  rw [show asksV p f (f + n) = 0 by unfold asksV; rw [if_pos (.inl (by rw [hb]; exact hc))]] at HAK
  have HCK := Lib.hid fun w' (hE : Errs L E B w') => check_any L E B w' hE h1 h8 h18 p
  have HC := Lib.hid hc
  clear hE hb hs hc
  unfold pv at *
  go_enter Tryd.func5, Tryd.ntmps5
  have HE := Lib.hid (HE.out.keep0 (Fr.alloc w (parO' p 36)))
  have G := Lib.hid (show Fr [] w (w.alloc (parO' p 36)) from (by repeat (first | exact Fr.refl _ _ | refine Fr.al ?_ | refine Fr.dn ?_ | refine Fr.dr ?_)))
  go_wp2_with fail
  refine (alive40_any _ E _ _ HE.out h1 h8 h18).mono ?_
  rintro e w1 ⟨rfl, hf⟩
  have hf : Fr [] (w.alloc (parO' p 36)) w1 := Fr.trans (by repeat (first | exact Fr.refl _ _ | refine Fr.al ?_ | refine Fr.dn ?_ | refine Fr.dr ?_)) hf
  replace G := Lib.hid (G.out.trans hf)
  replace HP0 := Lib.hid (HP0.out.keep0 hf)
  replace HE := Lib.hid (HE.out.keep0 hf)
  clear hf
  obtain ⟨k0, k1, k2, k3, k4, k5⟩ := parCells HP0.out
  go_wp2_with fail
  refine (HS.out _ HE.out).mono ?_
  rintro e w2 ⟨ev, rfl, hv2, hf⟩
  have hf : Fr [] w1 w2 := Fr.trans (by repeat (first | exact Fr.refl _ _ | refine Fr.al ?_ | refine Fr.dn ?_ | refine Fr.dr ?_)) hf
  replace G := Lib.hid (G.out.trans hf)
  replace HP0 := Lib.hid (HP0.out.keep0 hf)
  replace HE := Lib.hid (HE.out.keep0 hf)
  clear hf k0 k1 k2 k3 k4 k5
  obtain ⟨k0, k1, k2, k3, k4, k5⟩ := parCells HP0.out
  clear hu hv hf hn hub hvb
  obtain ⟨t, a, rfl⟩ := hv2.some_of HC.out
  clear hv2
  go_wp2_with fail
  refine (HCK.out _ HE.out).mono ?_
  rintro e w3 ⟨ev2, rfl, hv2, hf⟩
  have hf : Fr [] w2 w3 := Fr.trans (by repeat (first | exact Fr.refl _ _ | refine Fr.al ?_ | refine Fr.dn ?_ | refine Fr.dr ?_)) hf
  replace G := Lib.hid (G.out.trans hf)
  replace HP0 := Lib.hid (HP0.out.keep0 hf)
  replace HE := Lib.hid (HE.out.keep0 hf)
  clear hf k0 k1 k2 k3 k4 k5
  obtain ⟨k0, k1, k2, k3, k4, k5⟩ := parCells HP0.out
  obtain ⟨t2, a2, rfl⟩ := hv2.some_of HC.out
  clear hv2
  go_wp2_with fail
  refine (HCY.out _ HE.out).mono ?_
  rintro e w4 ⟨rfl, hf⟩
  have hf : Fr [] w3 w4 := Fr.trans (by repeat (first | exact Fr.refl _ _ | refine Fr.al ?_ | refine Fr.dn ?_ | refine Fr.dr ?_)) hf
  replace G := Lib.hid (G.out.trans hf)
  replace HP0 := Lib.hid (HP0.out.keep0 hf)
  replace HE := Lib.hid (HE.out.keep0 hf)
  clear hf k0 k1 k2 k3 k4 k5
  obtain ⟨k0, k1, k2, k3, k4, k5⟩ := parCells HP0.out
  go_wp2_with fail
  refine (HAK.out _ HE.out).mono ?_
  rintro e w5 ⟨rfl, hf⟩
  have hf : Fr [] w4 w5 := Fr.trans (by repeat (first | exact Fr.refl _ _ | refine Fr.al ?_ | refine Fr.dn ?_ | refine Fr.dr ?_)) hf
  replace G := Lib.hid (G.out.trans hf)
  replace HP0 := Lib.hid (HP0.out.keep0 hf)
  replace HE := Lib.hid (HE.out.keep0 hf)
  clear hf k0 k1 k2 k3 k4 k5
  obtain ⟨k0, k1, k2, k3, k4, k5⟩ := parCells HP0.out
  go_wp2
  go_ret
  exact ⟨rfl, (by repeat (first | exact Fr.refl _ _ | exact G.out | refine Fr.al ?_ | refine Fr.dn ?_ | refine Fr.dr ?_))⟩

set_option maxRecDepth 100000 in
set_option maxHeartbeats 8000000 in
theorem aheadCycles_ok (L : List Nat) (E : Nat → Addr) (B : Nat) (w : World) (hE : Errs L E B w) (h1 : 1 ∈ L) (h8 : 8 ∈ L) (h18 : 18 ∈ L) (p : Par) (from_ span : Int) (hc : chk p = 0) :
    Calls Tryd.prog 5 #[pv p, .int .i64 from_, .int .i64 span] w fun e w' => e = .returned (.bool true) ∧ Fr [] w w' := by
  have HE := Lib.hid hE
  have HP0 := Lib.hid (show At (w.alloc (parO' p 36)) w.heap.size (parO' p 36) from At.new rfl)
  obtain ⟨u, hu⟩ : ∃ u, IntKind.u64.wrap from_ = u := ⟨_, rfl⟩
  obtain ⟨v, hv⟩ : ∃ v, IntKind.u64.wrap span = v := ⟨_, rfl⟩
  have hub := u64_bd from_
  have hvb := u64_bd span
  rw [hu] at hub
  rw [hv] at hvb
  obtain ⟨f, hf⟩ : ∃ f, u % 1099511627776 = f := ⟨_, rfl⟩
  obtain ⟨n, hn⟩ : ∃ n : Nat, v % 400 = n := ⟨(v % 400).toNat, by omega⟩
  have hfb : 0 ≤ f ∧ f < 1099511627776 := by omega
  have hnb : n < 400 := by omega
  have hb : bgn p f = 0 := by unfold bgn; rw [if_neg (by simp [hc]), if_neg (by omega)]
  have hs : spn p f (f + n) = 0 := by unfold spn; rw [if_neg (by simp [hb]), if_neg (by omega)]
  have HS := Lib.hid fun w' (hE : Errs L E B w') => silent_ok L E _ w' hE h1 h8 h18 p f n hs
  have HCY := Lib.hid fun w' (hE : Errs L E B w') => cycle_any L E B w' hE h1 h8 h18 p
  have HAA := Lib.hid fun k w' (hE : Errs L E B w') => askAt_any L E B w' hE h1 h8 h18 p f k
  have HSA := Lib.hid fun k w' (hE : Errs L E B w') => stopAt_any L E B w' hE h1 h8 h18 p f k
  have HAK := Lib.hid fun w' (hE : Errs L E B w') => asks_any L E B w' hE h1 h8 h18 p f (f + n)
  have hend := cy_end p hc f n
  obtain ⟨-, -, -, hok, hle⟩ := cy_all p hc f n
  have hcb := cyc_bd p hc
  have hwb := waitN_bd p hc
  have hpb := (chk_zero p hc).2.2.2.1
  have hake : ∀ k : Int, 0 ≤ k → k ≤ 401 → askE p f k = 0 ∧ askV p f k = askT_ p f k ∧ stopV p f k = askT_ p f k + waitN p ∧ 0 ≤ askT_ p f k ∧ askT_ p f k ≤ 1200000000000 := by
    intro k hk0 hk
    have e0 : askE p f k = 0 := by unfold askE; rw [if_neg (by simp [hb]), if_neg (by omega)]
    have e1 := askV_bd p f k e0
    have e2 : askV p f k = askT_ p f k := e1.1
    refine ⟨e0, e2, ?_, by omega, by omega⟩
    unfold stopV
    rw [if_neg (by simp [e0]), e2]
  have HAE := Lib.hid hake
  have hl := evL_len false p f n
  obtain ⟨l, hL⟩ : ∃ l, evL false p f n = l := ⟨_, rfl⟩
  rw [hL] at HS hend hok hle hl
  have HOK := Lib.hid hok
  have hasks : asksV p f (f + n) = cnt1 l := by
    obtain ⟨q1, q2, q3, q4⟩ := hend
    unfold asksV
    by_cases ha : cnt1 l = 0
    · rw [ha] at q1 ⊢
      unfold askT_ at q1
      simp at q1
      rw [if_pos (.inr (.inl (by omega)))]
      rfl
    · have q5 := q3 ha
      have ha1 : (1 : Int) ≤ (cnt1 l : Int) := by omega
      unfold askT_ at q1 q5
      have hm : ((cnt1 l : Int) - 1) * cyc p = (cnt1 l : Int) * cyc p - cyc p := by rw [Int.sub_mul]; omega
      have hm0 : 0 ≤ ((cnt1 l : Int) - 1) * cyc p := Int.mul_nonneg (by omega) (by omega)
      rw [if_neg (by simp [hb]; omega)]
      have h5 : (f + (n : Int) - f - p.per) / cyc p = (cnt1 l : Int) - 1 := by
        have : f + (n : Int) - f - p.per = (f + n - f - p.per - ((cnt1 l : Int) - 1) * cyc p) + ((cnt1 l : Int) - 1) * cyc p := by omega
        rw [this, Int.add_mul_ediv_right _ _ (by omega), Int.ediv_eq_zero_of_lt (by omega) (by omega)]
        omega
      omega
  rw [hasks] at HAK
  obtain ⟨N, hN⟩ : ∃ N, l.length = N := ⟨_, rfl⟩
  rw [hN] at hl
  have HN := Lib.hid hN
  have HEND := Lib.hid hend
  have HCB := Lib.hid hcb
  clear hE hb hs hc hL hok hake hend hasks hN hcb
  unfold pv at *
  go_enter Tryd.func5, Tryd.ntmps5
  have HE := Lib.hid (HE.out.keep0 (Fr.alloc w (parO' p 36)))
  have G := Lib.hid (show Fr [] w (w.alloc (parO' p 36)) from (by repeat (first | exact Fr.refl _ _ | refine Fr.al ?_ | refine Fr.dn ?_ | refine Fr.dr ?_)))
  go_wp2_with fail
  refine (alive40_any _ E _ _ HE.out h1 h8 h18).mono ?_
  rintro e w1 ⟨rfl, hf⟩
  have hf : Fr [] (w.alloc (parO' p 36)) w1 := Fr.trans (by repeat (first | exact Fr.refl _ _ | refine Fr.al ?_ | refine Fr.dn ?_ | refine Fr.dr ?_)) hf
  replace G := Lib.hid (G.out.trans hf)
  replace HP0 := Lib.hid (HP0.out.keep0 hf)
  replace HE := Lib.hid (HE.out.keep0 hf)
  clear hf
  obtain ⟨k0, k1, k2, k3, k4, k5⟩ := parCells HP0.out
  go_wp2_with fail
  refine (HS.out _ HE.out).mono ?_
  rintro e w2 ⟨z, rfl, hz, hf⟩
  have hf : Fr [] w1 w2 := Fr.trans (by repeat (first | exact Fr.refl _ _ | refine Fr.al ?_ | refine Fr.dn ?_ | refine Fr.dr ?_)) hf
  replace G := Lib.hid (G.out.trans hf)
  replace HP0 := Lib.hid (HP0.out.keep0 hf)
  replace HE := Lib.hid (HE.out.keep0 hf)
  clear hf k0 k1 k2 k3 k4 k5
  obtain ⟨k0, k1, k2, k3, k4, k5⟩ := parCells HP0.out
  clear hu hv hf hn hub hvb
  obtain ⟨a1, c1, rfl, h2, h3, hc1⟩ := hz.es
  rw [HN.out] at h2 hc1 ⊢
  clear hz
  unfold maxLen at h3
  go_wp2
  go_loopw [9, 10, 61] (fun a d c wr => ∃ i : Nat, i ≤ N ∧ c = .int .i64 i ∧ a = .int .i64 (cnt1 (l.take i) : Nat) ∧ d = .int .i64 (cnt3 (l.take i) : Nat) ∧ Hid (Fr [] w2 wr)) (fun _ _ c _ => N - (intOf c).toNat)
  case atStart => exact ⟨0, Nat.zero_le _, rfl, rfl, rfl, Fr.refl _ _⟩
  case round =>
    obtain ⟨i, hi, rfl, rfl, rfl, HF⟩ := hrel
    have hNN := HN.out
    by_cases hin : i < N
    · obtain ⟨g, rfl, hg, hcc⟩ := hc1 (by omega)
      obtain ⟨x0, x1, x2⟩ := hcc i hin
      rw [← Fr.cell0 HF.out hg] at x0 x1 x2
      have hsz := HF.out.size
      have HPr := Lib.hid (HP0.out.keep0 HF.out)
      have hrg := HOK.out i (by omega)
      have htk : l.take (i + 1) = l.take i ++ [l.getD i (0, 0, 0)] := by
        rw [List.take_succ_eq_append_getElem (by omega)]
        simp [List.getD_eq_getElem?_getD, List.getElem?_eq_getElem (show i < l.length by omega)]
      have hk1 : cnt1 (l.take (i + 1)) = if (l.getD i (0, 0, 0)).2.1 = 1 then cnt1 (l.take i) + 1 else cnt1 (l.take i) := by rw [htk, cnt1_snoc]
      have hk3 : cnt3 (l.take (i + 1)) = if (l.getD i (0, 0, 0)).2.1 = 3 then cnt3 (l.take i) + 1 else cnt3 (l.take i) := by rw [htk, cnt3_snoc]
      have hc1b : cnt1 (l.take i) ≤ i ∧ cnt3 (l.take i) ≤ i := cnt_le l i
      have HEV := Lib.hid (show At (wr.alloc (.cells #[.int .i64 (l.getD i (0, 0, 0)).1, .int .i64 (l.getD i (0, 0, 0)).2.1, .int .i64 (l.getD i (0, 0, 0)).2.2] 52)) wr.heap.size _ from At.new rfl)
      generalize l.getD i (0, 0, 0) = e at x0 x1 x2 hrg hk1 hk3 HEV
      obtain ⟨x, y, zz⟩ := e
      obtain ⟨a, ha⟩ : ∃ a, cnt1 (l.take i) = a := ⟨_, rfl⟩
      obtain ⟨d, hd⟩ : ∃ d, cnt3 (l.take i) = d := ⟨_, rfl⟩
      rw [ha] at hrg hk1 hc1b ⊢
      rw [hd] at hrg hk3 hc1b ⊢
      obtain ⟨hr1, hr3⟩ := hrg
      simp only at x0 x1 x2 hr1 hr3 hk1 hk3 HEV
      clear hcc hc1 htk ha hd hNN
      by_cases hx : y = 1
      · rw [if_pos hx] at hk1
        rw [if_neg (by omega)] at hk3
        have HC1 := Lib.hid hk1
        have HC3 := Lib.hid hk3
        clear hk1 hk3
        skip
        obtain ⟨r1, r2, r3⟩ := hr1 hx
        subst r3
        obtain ⟨t1, t2, t3, t4, t5⟩ := HAE.out (d : Int) (by omega) (by omega)
        have HT := Lib.hid t1
        have HT2 := Lib.hid t2
        have ht45 := And.intro t4 t5
        rw [r1, hx, r2] at HEV
        rw [r1] at x0
        rw [hx] at x1
        rw [r2] at x2
        generalize askT_ p f (d : Int) = T at HEV x0 HT2 ht45
        have hTT : (T != T) = false := by simp
        have hdd : ((d : Int) != (d : Int)) = false := by simp
        have HPa := Lib.hid (HPr.out.al (o' := .cells #[.int .i64 T, .int .i64 1, .int .i64 d] 52))
        obtain ⟨m0, m1, m2, m3, m4, m5⟩ := parCells HPa.out
        have HEr := Lib.hid (HE.out.keep0 (Fr.al (o := .cells #[.int .i64 T, .int .i64 1, .int .i64 d] 52) HF.out))
        clear t1 t3 t4 t5 r1 r2 hx hr1 hr3
        go_wp2_with fail
        refine (HAA.out _ _ HEr.out).mono ?_
        rintro e w3 ⟨ev, rfl, hv, hf⟩
        rw [HT.out] at hv
        have := hv.nil_iff
        subst this
        rw [HT2.out]
        have HEV3 := Lib.hid (HEV.out.keep0 hf)
        have HF3 := Lib.hid (show Fr [] w2 w3 from Fr.trans (Fr.al HF.out) hf)
        have e0 := HEV3.out.cell 0
        have e1 := HEV3.out.cell 1
        have e2 := HEV3.out.cell 2
        simp only [List.getElem?_toArray, List.getElem?_cons_zero, List.getElem?_cons_succ] at e0 e1 e2
        clear hv hf m0 m1 m2 m3 m4 m5 x0 x1 x2 HPr HF
        go_wp2
        go_roundw
        case rel => exact ⟨i + 1, by omega, by go_num, by first | (rw [HC1.out]; done) | (rw [HC1.out]; go_num), by first | (rw [HC3.out]; done) | (rw [HC3.out]; go_num), HF3.out⟩
        case measure => simp [intOf]; omega
      · by_cases hx : y = 3
        · rw [if_neg (by omega)] at hk1
          rw [if_pos hx] at hk3
          have HC1 := Lib.hid hk1
          have HC3 := Lib.hid hk3
          clear hk1 hk3
          skip
          obtain ⟨r1, r2, r3⟩ := hr3 hx
          subst r3
          have hAD : ((d + 1 : Nat) : Int) - 1 = (d : Int) := by omega
          obtain ⟨t1, t2, t3, t4, t5⟩ := HAE.out (d : Int) (by omega) (by omega)
          have HT := Lib.hid t1
          have HT2 := Lib.hid t3
          rw [r1, hx, r2] at HEV
          rw [r1] at x0
          rw [hx] at x1
          rw [r2] at x2
          have ht45 : 0 ≤ askT_ p f (d : Int) + waitN p ∧ askT_ p f (d : Int) + waitN p ≤ 1300000000000 := by omega
          clear t2
          generalize askT_ p f (d : Int) + waitN p = T at HEV x0 HT2 ht45
          have hTT : (T != T) = false := by simp
          have hdd : ((d : Int) != (d : Int)) = false := by simp
          have HPa := Lib.hid (HPr.out.al (o' := .cells #[.int .i64 T, .int .i64 3, .int .i64 d] 52))
          obtain ⟨m0, m1, m2, m3, m4, m5⟩ := parCells HPa.out
          have HEr := Lib.hid (HE.out.keep0 (Fr.al (o := .cells #[.int .i64 T, .int .i64 3, .int .i64 d] 52) HF.out))
          clear t1 t3 t4 t5 r1 r2 hx hr1 hr3
          go_wp2_with fail
          refine (HSA.out _ _ HEr.out).mono ?_
          rintro e w3 ⟨ev, rfl, hv, hf⟩
          rw [HT.out] at hv
          have := hv.nil_iff
          subst this
          rw [HT2.out]
          have HEV3 := Lib.hid (HEV.out.keep0 hf)
          have HF3 := Lib.hid (show Fr [] w2 w3 from Fr.trans (Fr.al HF.out) hf)
          have e0 := HEV3.out.cell 0
          have e1 := HEV3.out.cell 1
          have e2 := HEV3.out.cell 2
          simp only [List.getElem?_toArray, List.getElem?_cons_zero, List.getElem?_cons_succ] at e0 e1 e2
          clear hv hf m0 m1 m2 m3 m4 m5 x0 x1 x2 HPr HF
          go_wp2
          go_roundw
          case rel => exact ⟨i + 1, by omega, by go_num, by first | (rw [HC1.out]; done) | (rw [HC1.out]; go_num), by first | (rw [HC3.out]; done) | (rw [HC3.out]; go_num), HF3.out⟩
          case measure => simp [intOf]; omega
        · rw [if_neg (by omega)] at hk1
          rw [if_neg (by omega)] at hk3
          have HC1 := Lib.hid hk1
          have HC3 := Lib.hid hk3
          have hy1 : (y == 1) = false := by simp; omega
          have hy3 : (y == 3) = false := by simp; omega
          have HF3 := Lib.hid (Fr.al (o := .cells #[.int .i64 x, .int .i64 y, .int .i64 zz] 52) HF.out)
          clear hk1 hk3 hr1 hr3 HPr HF HEV
          go_wp2
          go_roundw
          case rel => exact ⟨i + 1, by omega, by go_num, by rw [HC1.out], by rw [HC3.out], HF3.out⟩
          case measure => simp [intOf]; omega
    · obtain rfl : i = N := by omega
      have htk : l.take i = l := List.take_of_length_le (by omega)
      obtain ⟨z1, z2, -, z4⟩ := HEND.out
      rw [htk]
      obtain ⟨a, ha⟩ : ∃ a, cnt1 l = a := ⟨_, rfl⟩
      obtain ⟨d, hd⟩ : ∃ d, cnt3 l = d := ⟨_, rfl⟩
      have hab := hle
      rw [ha] at z1 z4 hab HAK ⊢
      rw [hd] at z2 z4 ⊢
      obtain ⟨t1, t2, t3, t4, t5⟩ := HAE.out (a : Int) (by omega) (by omega)
      obtain ⟨u1, u2, u3, u4, u5⟩ := HAE.out (d : Int) (by omega) (by omega)
      obtain ⟨v1, v2, v3, v4, v5⟩ := HAE.out ((a : Int) + 1) (by omega) (by omega)
      have hT3 : askT_ p f ((a : Int) + 1) - askT_ p f (a : Int) = cyc p := by
        unfold askT_
        rw [Int.add_mul]
        omega
      have HX1 := Lib.hid t1
      have HX2 := Lib.hid t2
      have HX3 := Lib.hid u1
      have HX4 := Lib.hid u3
      have HX5 := Lib.hid v1
      have HX6 := Lib.hid v2
      have hcc := HCB.out
      have hud : 0 ≤ askT_ p f (d : Int) + waitN p ∧ askT_ p f (d : Int) + waitN p ≤ 1300000000000 := by omega
      clear t1 t2 t3 u1 u2 u3 u4 u5 v1 v2 v3 htk ha hd hc1 hNN
      generalize askT_ p f ((a : Int) + 1) = T3 at hT3 v4 v5 HX6
      generalize askT_ p f (a : Int) = T1 at hT3 t4 t5 z1 HX2
      generalize askT_ p f (d : Int) + waitN p = T2 at z2 hud HX4
      generalize cyc p = c at hT3 HCY hcc
      have hcq : (c == c) = true := by simp
      have haa : ((a : Int) != (a : Int)) = false := by simp
      replace HP0 := Lib.hid (HP0.out.keep0 HF.out)
      replace HE := Lib.hid (HE.out.keep0 HF.out)
      replace G := Lib.hid (show Fr [] w wr from G.out.trans HF.out)
      clear HF k0 k1 k2 k3 k4 k5 hle
      obtain ⟨k0, k1, k2, k3, k4, k5⟩ := parCells HP0.out
      go_wp2_with fail
      refine (HAA.out _ _ HE.out).mono ?_
      rintro e w3 ⟨ev, rfl, hv, hf⟩
      have hf : Fr [] wr w3 := Fr.trans (by repeat (first | exact Fr.refl _ _ | refine Fr.al ?_ | refine Fr.dn ?_ | refine Fr.dr ?_)) hf
      replace G := Lib.hid (G.out.trans hf)
      replace HP0 := Lib.hid (HP0.out.keep0 hf)
      replace HE := Lib.hid (HE.out.keep0 hf)
      clear hf k0 k1 k2 k3 k4 k5
      obtain ⟨k0, k1, k2, k3, k4, k5⟩ := parCells HP0.out
      rw [HX1.out] at hv
      have := hv.nil_iff
      subst this
      rw [HX2.out]
      clear hv
      go_wp2_with fail
      refine (HSA.out _ _ HE.out).mono ?_
      rintro e w4 ⟨ev, rfl, hv, hf⟩
      have hf : Fr [] w3 w4 := Fr.trans (by repeat (first | exact Fr.refl _ _ | refine Fr.al ?_ | refine Fr.dn ?_ | refine Fr.dr ?_)) hf
      replace G := Lib.hid (G.out.trans hf)
      replace HP0 := Lib.hid (HP0.out.keep0 hf)
      replace HE := Lib.hid (HE.out.keep0 hf)
      clear hf k0 k1 k2 k3 k4 k5
      obtain ⟨k0, k1, k2, k3, k4, k5⟩ := parCells HP0.out
      rw [HX3.out] at hv
      have := hv.nil_iff
      subst this
      rw [HX4.out]
      clear hv
      go_wp2_with fail
      refine (HAK.out _ HE.out).mono ?_
      rintro e w5 ⟨rfl, hf⟩
      have hf : Fr [] w4 w5 := Fr.trans (by repeat (first | exact Fr.refl _ _ | refine Fr.al ?_ | refine Fr.dn ?_ | refine Fr.dr ?_)) hf
      replace G := Lib.hid (G.out.trans hf)
      replace HP0 := Lib.hid (HP0.out.keep0 hf)
      replace HE := Lib.hid (HE.out.keep0 hf)
      clear hf k0 k1 k2 k3 k4 k5
      obtain ⟨k0, k1, k2, k3, k4, k5⟩ := parCells HP0.out
      go_wp2_with fail
      refine (HAA.out _ _ HE.out).mono ?_
      rintro e w6 ⟨ev, rfl, hv, hf⟩
      have hf : Fr [] w5 w6 := Fr.trans (by repeat (first | exact Fr.refl _ _ | refine Fr.al ?_ | refine Fr.dn ?_ | refine Fr.dr ?_)) hf
      replace G := Lib.hid (G.out.trans hf)
      replace HP0 := Lib.hid (HP0.out.keep0 hf)
      replace HE := Lib.hid (HE.out.keep0 hf)
      clear hf k0 k1 k2 k3 k4 k5
      obtain ⟨k0, k1, k2, k3, k4, k5⟩ := parCells HP0.out
      rw [HX5.out] at hv
      have := hv.nil_iff
      subst this
      rw [HX6.out]
      clear hv k0 k1 k2 k3 k4 k5
      have hwx : ∃ wx, wx = w6 := ⟨_, rfl⟩
      have j0 := fun x : Kin w6 => (parCells (HP0.out.keep0 x.fr)).1
      have j1 := fun x : Kin w6 => (parCells (HP0.out.keep0 x.fr)).2.1
      have j2 := fun x : Kin w6 => (parCells (HP0.out.keep0 x.fr)).2.2.1
      have j3 := fun x : Kin w6 => (parCells (HP0.out.keep0 x.fr)).2.2.2.1
      have j4 := fun x : Kin w6 => (parCells (HP0.out.keep0 x.fr)).2.2.2.2.1
      have j5 := fun x : Kin w6 => (parCells (HP0.out.keep0 x.fr)).2.2.2.2.2
      go_wp2
      refine wp_region_calm w6 (by kernel_rfl) (by kernel_rfl) (Fr.refl _ _) ?_
      repeat (go_big_quiet_step ((refine calm_of (HCY.out _ (HE.out.keep0 (Kin.fr _))))))
      refine wpQuiet_nil ?_
      rintro _ ⟨wq, rfl⟩
      go_wp2
      go_ret
      exact ⟨rfl, G.out.trans wq.fr⟩

theorem aheadCycles_walk (L : List Nat) (E : Nat → Addr) (B : Nat) (w : World) (hE : Errs L E B w) (h1 : 1 ∈ L) (h8 : 8 ∈ L) (h18 : 18 ∈ L) (p : Par) (from_ span : Int) :
    Calls Tryd.prog 5 #[pv p, .int .i64 from_, .int .i64 span] w fun e w' => e = .returned (.bool true) ∧ Fr [] w w' := by
  by_cases hc : chk p = 0
  · exact aheadCycles_ok L E B w hE h1 h8 h18 p from_ span hc
  · exact aheadCycles_bad L E B w hE h1 h8 h18 p from_ span hc
end Go.Proofs.YtbohmnblegljkaaDoor
