/-
  Layer 40: the document's run; Prompt.
-/
import Derived.Test.YtbohmnblegljkaaDoorPrm2
namespace Go.Proofs.YtbohmnblegljkaaDoor
open Go.RowKit Go.Bl
set_option linter.unusedVariables false

theorem Tryd.infoREvent : (Tryd.prog.info? 77).map (fun i => (i.zero, i.size, i.bytes)) = some (some (.agg #[.int .i64 0, .int .i64 0, .int .i64 0]), 3, 24) := by kernel_rfl

set_option maxHeartbeats 1000000 in
theorem prompt_bad (L : List Nat) (E : Nat → Addr) (B : Nat) (w : World) (hE : Errs L E B w) (h1 : 1 ∈ L) (h8 : 8 ∈ L) (h18 : 18 ∈ L) (p : Par) (from_ to : Int) (h : spn p from_ to ≠ 0) :
    Calls Tryd.prog 36 #[pv p, .int .i64 from_, .int .i64 to] w fun e w' => ∃ ev, e = .returned (.tuple #[.slice none 0 0, ev]) ∧ ErrV E w' (spn p from_ to) ev ∧ Fr [] w w' := by
  have HE := Lib.hid hE
  clear hE
  unfold pv
  go_enter Tryd.func36, Tryd.ntmps36
  have G := Lib.hid (Fr.refl [] w)
  go_wp2_with fail
  refine (spanned_any L E B _ (HE.out.keep0 (by repeat (first | exact Fr.refl _ _ | exact G.out | refine Fr.al ?_ | refine Fr.dn ?_ | refine Fr.dr ?_))) h1 h8 h18 p from_ to).mono ?_
  rintro e w1 ⟨v, rfl, hv, hf⟩
  have hf : Fr [] w w1 := Fr.trans (by repeat (first | exact Fr.refl _ _ | refine Fr.al ?_ | refine Fr.dn ?_ | refine Fr.dr ?_)) hf
  replace G := Lib.hid (G.out.trans hf)
  clear hf
  obtain ⟨t, a, rfl⟩ := hv.some_of h
  have HV := Lib.hid hv
  clear hv h
  go_wp2
  go_ret2
  exact ⟨_, rfl, HV.out, (by repeat (first | exact Fr.refl _ _ | exact G.out | refine Fr.al ?_ | refine Fr.dn ?_ | refine Fr.dr ?_))⟩

set_option maxHeartbeats 1000000 in
theorem prompt_ok (L : List Nat) (E : Nat → Addr) (w : World) (hE : Errs L E w.heap.size w) (h1 : 1 ∈ L) (h8 : 8 ∈ L) (h18 : 18 ∈ L) (p : Par) (from_ : Int) (n : Nat) (h : spn p from_ (from_ + n) = 0) :
    Calls Tryd.prog 36 #[pv p, .int .i64 from_, .int .i64 (from_ + n)] w fun e w' => ∃ v, e = .returned (.tuple #[v, .nilIface]) ∧ OwnI 3 w.heap.size w' v ((evL true p from_ n).map (·.1)) ∧ Fr [] w w' := by
  obtain ⟨hb, g1, g2⟩ := spn_zero p from_ _ h
  obtain ⟨hc, g3, g4⟩ := bgn_zero p from_ hb
  have HEV := Lib.hid fun w' pb hE hBp hpb => events_prompt L E w.heap.size w' hE h1 h8 h18 p hc from_ g3 g4 n (by omega) pb hBp hpb
  have HE := Lib.hid hE
  have HS := Lib.hid h
  have HP0 := Lib.hid (show At (w.alloc (parO' p 36)) w.heap.size (parO' p 36) from At.new rfl)
  clear hE h hb hc
  unfold pv at *
  go_enter Tryd.func36, Tryd.ntmps36
  have G := Lib.hid (show Fr [] w (w.alloc (parO' p 36)) from (by repeat (first | exact Fr.refl _ _ | refine Fr.al ?_ | refine Fr.dn ?_ | refine Fr.dr ?_)))
  go_wp2_with fail
  refine (spanned_any L E _ _ (HE.out.keep0 (by repeat (first | exact Fr.refl _ _ | exact G.out | refine Fr.al ?_ | refine Fr.dn ?_ | refine Fr.dr ?_))) h1 h8 h18 p from_ (from_ + n)).mono ?_
  rintro e w1 ⟨v, rfl, hv, hf⟩
  have hf : Fr [] (w.alloc (parO' p 36)) w1 := Fr.trans (by repeat (first | exact Fr.refl _ _ | refine Fr.al ?_ | refine Fr.dn ?_ | refine Fr.dr ?_)) hf
  replace G := Lib.hid (G.out.trans hf)
  replace HP0 := Lib.hid (HP0.out.keep0 hf)
  clear hf
  rw [HS.out] at hv
  have := hv.nil_iff
  subst this
  clear hv
  have hsz := G.out.size
  have hlt : w.heap.size < w1.heap.size := HP0.out.lt
  obtain ⟨k0, k1, k2, k3, k4, k5⟩ := parCells (HP0.out.al (o' := .cells #[.slice none 0 0] 23))
  have HQ := Lib.hid (show At (w1.alloc (.cells #[.slice none 0 0] 23)) w1.heap.size _ from At.new rfl)
  go_wp2_with fail
  refine (HEV.out _ w1.heap.size (HE.out.keep0 (Fr.al G.out)) hsz HQ.out).mono ?_
  rintro e w2 ⟨v, rfl, ⟨u, hu1, hu2⟩, hf⟩
  have HU1 := Lib.hid hu1
  have HU2 := Lib.hid (show OwnI 3 w.heap.size w2 u _ from own_base hu2 (by simp; omega))
  have G := Lib.hid (show Fr [] w w2 from (Fr.al G.out).then hf (fun x hx => .inr (by simp at hx; omega)))
  have q0 := HU1.out.cell 0
  simp only [List.getElem?_toArray, List.getElem?_cons_zero] at q0
  clear hu1 hu2 hf
  go_wp2
  go_ret2
  exact ⟨_, rfl, HU2.out, G.out⟩

set_option maxRecDepth 100000 in
set_option maxHeartbeats 4000000 in
theorem rrun_ok (w : World) (p : Par) (hc : chk p = 0) (from_ : Int) (hf0 : 0 ≤ from_) (hf1 : from_ ≤ 1099511627776) (n : Nat) (hn : n ≤ 2000) (pr : Bool) :
    Calls Tryd.prog 37 #[pv p, .int .i64 from_, .int .i64 (from_ + n), .bool pr] w fun e w' => ∃ v, e = .returned v ∧ OwnE 77 w.heap.size w' v (evL pr p from_ n) ∧ Fr [] w w' := by
  have HNew := Lib.hid fun w => rnew_ok w p hc from_ ⟨hf0, by omega⟩
  have HST := Lib.hid (stS_I pr p hc from_ hf0)
  have HLN := Lib.hid (evL_len pr p from_)
  have HC := Lib.hid hc
  have HP0 := Lib.hid (show At ((w.alloc (parO' p 40)).alloc (.cells #[] 77)) w.heap.size (parO' p 40) from (At.new rfl).al)
  have HO0 := Lib.hid (show OwnE 77 (w.heap.size + 1) ((w.alloc (parO' p 40)).alloc (.cells #[] 77)) (.slice (some ⟨w.heap.size + 1, 0, none⟩) 0 0) [] by
    have := World.ownsRow_lit (base := w.heap.size + 1) (e := 77) (size := 3) (w.alloc (parO' p 40)) #[] 0 (by simp) (by decide) rfl
    simpa [OwnE] using this)
  clear hc
  unfold pv tv at *
  go_enter Tryd.func37, Tryd.ntmps37
  go_wp2_with fail
  refine (HNew.out _).mono ?_
  rintro e w1 ⟨rfl, hf⟩
  have HPr := Lib.hid (HP0.out.keep0 hf)
  have HO := Lib.hid (HO0.out.keep0 hf)
  have G := Lib.hid (show Fr [] w w1 from Fr.trans (Fr.al (Fr.al (Fr.refl [] w))) hf)
  have hs1 := hf.size
  simp only [World.alloc, Array.size_push] at hs1
  clear hf HP0 HO0
  have HTr := Lib.hid (show At (w1.alloc (taskO (newT p from_) 116)) w1.heap.size (taskO (newT p from_) 116) from At.new rfl)
  go_wp2
  go_loopw [9, 11, 12] (fun v d c wr => ∃ k : Nat, k ≤ n ∧ c = .int .i64 (from_ + 1 + k) ∧ d = .int .i64 (stS pr p from_ k).2 ∧ Hid (OwnE 77 (w.heap.size + 1) wr v (evL pr p from_ k)) ∧ Hid (At wr w1.heap.size (taskO (stS pr p from_ k).1 116)) ∧ Hid (At wr w.heap.size (parO' p 40)) ∧ Hid (Fr [] w wr)) (fun _ _ c _ => (from_ + n + 1 - intOf c).toNat)
  case atStart => exact ⟨0, Nat.zero_le _, by simp, rfl, HO.out.keep0 (Fr.al (Fr.refl [] w1)), HTr.out, HPr.out.al, Fr.al G.out⟩
  case round =>
    obtain ⟨k, hk, rfl, rfl, HO, HTr, HPr, HF⟩ := hrel
    by_cases hkn : k < n
    · have hI := HST.out k
      have hB := hI.big hf0 hf1 (by omega)
      have hEV : evL pr p from_ (k + 1) = evL pr p from_ k ++ evS p (from_ + 1 + k) (stS pr p from_ k) := rfl
      have hSS : stS pr p from_ (k + 1) = shutS pr p (from_ + 1 + k) (stS pr p from_ k) := rfl
      have hlen := HLN.out k
      have hsz : wr.heap.size ≤ wr.heap.size := Nat.le_refl _
      have hsz2 := HF.out.size
      have hsz3 := HTr.out.lt
      have hll := hI.last
      obtain ⟨⟨t, m⟩, hs⟩ : ∃ s, stS pr p from_ k = s := ⟨_, rfl⟩
      rw [hs] at hB hEV hSS HTr hll ⊢
      obtain ⟨hTB, hM⟩ := hB
      have HTB := Lib.hid hTB
      have HBG := Lib.hid (show Big (from_ + 1 + k) from ⟨by omega, by omega⟩)
      have HEV := Lib.hid hEV
      have HSS := Lib.hid hSS
      have hm1 : m ≤ 4000000000000 := hM.2
      have hm0 : 0 ≤ m := hM.1
      have hcs : (wantsF p t (from_ + 1 + k) = 0) ∨ (wantsF p t (from_ + 1 + k) = 1) ∨ (m - 1 = t.opn ∧ wantsF p t (from_ + 1 + k) = 2) ∨ (m - 1 = t.opn ∧ wantsF p t (from_ + 1 + k) = 3) := by
        simp only at hll
        rcases wants_cases p t (from_ + 1 + k) with ⟨-, -, g⟩ | ⟨-, -, g⟩ | ⟨-, -, g⟩ | ⟨g1, -, -, g⟩ | ⟨g1, -, -, g⟩ <;> rw [g] <;> simp <;> omega
      have HWT := Lib.hid fun w => rwants_ok w t p HC.out (from_ + 1 + k)
      clear hI hs hTB hM hEV hSS hll
      unfold pv tv at HWT
      rcases hcs with g | g | ⟨gm, g⟩ | ⟨gm, g⟩
      · simp only [evS, stepS, shutS, g, ne_eq, not_true_eq_false, and_false, if_false, Int.reduceEq, List.append_nil] at HEV HSS
        rw [g] at HWT
        first | (have HGM := Lib.hid gm; clear gm) | skip
        clear g
        obtain ⟨k0, k1, k2, k3, k4, k5⟩ := parCells HPr.out
        obtain ⟨t0, t1, t2, t3⟩ := tskCells HTr.out
        go_wp2_with fail
        refine (HWT.out _).mono ?_
        rintro e w2 ⟨rfl, hf⟩
        have HTr := Lib.hid (HTr.out.keep0 hf)
        have HPr := Lib.hid (HPr.out.keep0 hf)
        have HO := Lib.hid (HO.out.keep0 hf)
        have HF := Lib.hid (HF.out.trans hf)
        have hsz := Nat.le_trans hsz hf.size
        clear hf k0 k1 k2 k3 k4 k5 t0 t1 t2 t3
        go_wp2
        go_roundw
        case rel => exact ⟨k + 1, by omega, by go_num, by rw [HSS.out], by rw [HEV.out]; exact HO.out, by rw [HSS.out]; exact HTr.out, HPr.out, HF.out⟩
        case measure => simp [intOf]; omega
      · simp only [evS, stepS, shutS, g, ne_eq, not_false_eq_true, and_true, if_true, if_false, Int.reduceEq] at HEV HSS
        rw [g] at HWT
        first | (have HGM := Lib.hid gm; clear gm) | skip
        clear g
        have HAK := Lib.hid fun w => rasked_ok w p HC.out m (from_ + 1 + k) HBG.out
        unfold pv tv at HAK
        obtain ⟨k0, k1, k2, k3, k4, k5⟩ := parCells HPr.out
        obtain ⟨t0, t1, t2, t3⟩ := tskCells HTr.out
        go_wp2_with fail
        refine (HWT.out _).mono ?_
        rintro e w2 ⟨rfl, hf⟩
        have HTr := Lib.hid (HTr.out.keep0 hf)
        have HPr := Lib.hid (HPr.out.keep0 hf)
        have HO := Lib.hid (HO.out.keep0 hf)
        have HF := Lib.hid (HF.out.trans hf)
        have hsz := Nat.le_trans hsz hf.size
        clear hf k0 k1 k2 k3 k4 k5 t0 t1 t2 t3
        obtain ⟨k0, k1, k2, k3, k4, k5⟩ := parCells HPr.out
        obtain ⟨t0, t1, t2, t3⟩ := tskCells HTr.out
        go_wp2_with fail
        refine (HAK.out _).mono ?_
        rintro e w3 ⟨rfl, hf⟩
        have HTr := Lib.hid (HTr.out.keep0 hf)
        have HPr := Lib.hid (HPr.out.keep0 hf)
        have HO := Lib.hid (HO.out.keep0 hf)
        have HF := Lib.hid (HF.out.trans hf)
        have hsz := Nat.le_trans hsz hf.size
        clear hf k0 k1 k2 k3 k4 k5 t0 t1 t2 t3
        go_wp2_with (refine wpl_store_at (.tmp 10) (.tmp 34) rfl rfl #[.int .i64 (askedT p m (from_ + 1 + k)).due, .int .i64 (askedT p m (from_ + 1 + k)).opn, .int .i64 (askedT p m (from_ + 1 + k)).tries, .int .i64 (askedT p m (from_ + 1 + k)).til] rfl rfl (by kernel_rfl) HTr.out (by simp) (by simp [Value.oneCell']) ?_)
        intro w4 hf hA hs
        have HO := Lib.hid (show OwnE 77 (w.heap.size + 1) w4 _ _ from own_keep HO.out hf (fun g hg hm => by
          simp at hm
          subst hm
          exact own_ne_ty HO.out HTr.out (by decide) hg))
        have HTr := Lib.hid (show At w4 w1.heap.size (taskO (askedT p m (from_ + 1 + k)) 116) from hA)
        have HPr := Lib.hid (HPr.out.keep hf (by simp; omega))
        have HF := Lib.hid (HF.out.then hf (fun x hx => .inr (by simp at hx; omega)))
        have hsz : wr.heap.size ≤ w4.heap.size := by omega
        clear hA hf hs
        have HO := Lib.hid (HO.out.keep0 (Fr.al (o := .cells #[.int .i64 (from_ + 1 + k), .int .i64 1, .int .i64 m] 77) (Fr.refl [] w4)))
        go_wp2_with (at_builtin; refine wpl_append_e (n := (from_ + 1 + k, 1, m)) Tryd.underlying75 Tryd.infoREvent rfl (by decide) rfl (.tmp 45) (.tmp 51) rfl rfl rfl (At.new (by simp)) HO.out (by omega) (by simp; omega) ?_)
        intro v' w5 h5 h6
        have HTr := Lib.hid (HTr.out.al.grown h6 (own_ne_ty HO.out HTr.out.al (by decide)))
        have HPr := Lib.hid (HPr.out.al.grown h6 (own_ne_ty HO.out HPr.out.al (by decide)))
        have HF := Lib.hid (Fr.own (Fr.al HF.out) h6 HO.out (by omega))
        have hsz : wr.heap.size ≤ w5.heap.size := by have := h6.size; simp at this; omega
        have HO := Lib.hid h5
        clear h5 h6
        cases pr
        · simp only [Bool.false_eq_true, if_false, false_and] at HSS
          go_wp2
          go_roundw
          case rel => exact ⟨k + 1, by omega, by go_num, by rw [HSS.out], by rw [HEV.out]; exact HO.out, by rw [HSS.out]; exact HTr.out, HPr.out, HF.out⟩
          case measure => simp [intOf]; omega
        · simp only [if_true, true_and] at HSS
          have HCL := Lib.hid fun w => rclosed_ok w (askedT p m (from_ + 1 + k))
          unfold tv at HCL
          obtain ⟨k0, k1, k2, k3, k4, k5⟩ := parCells HPr.out
          obtain ⟨t0, t1, t2, t3⟩ := tskCells HTr.out
          go_wp2_with fail
          refine (HCL.out _).mono ?_
          rintro e w6 ⟨rfl, hf⟩
          have HTr := Lib.hid (HTr.out.keep0 hf)
          have HPr := Lib.hid (HPr.out.keep0 hf)
          have HO := Lib.hid (HO.out.keep0 hf)
          have HF := Lib.hid (HF.out.trans hf)
          have hsz := Nat.le_trans hsz hf.size
          clear hf k0 k1 k2 k3 k4 k5 t0 t1 t2 t3
          go_wp2_with (refine wpl_store_at (.tmp 10) (.tmp 59) rfl rfl #[.int .i64 (closedT (askedT p m (from_ + 1 + k))).due, .int .i64 (closedT (askedT p m (from_ + 1 + k))).opn, .int .i64 (closedT (askedT p m (from_ + 1 + k))).tries, .int .i64 (closedT (askedT p m (from_ + 1 + k))).til] rfl rfl (by kernel_rfl) HTr.out (by simp) (by simp [Value.oneCell']) ?_)
          intro w7 hf hA hs
          have HO := Lib.hid (show OwnE 77 (w.heap.size + 1) w7 _ _ from own_keep HO.out hf (fun g hg hm => by
            simp at hm
            subst hm
            exact own_ne_ty HO.out HTr.out (by decide) hg))
          have HTr := Lib.hid (show At w7 w1.heap.size (taskO (closedT (askedT p m (from_ + 1 + k))) 116) from hA)
          have HPr := Lib.hid (HPr.out.keep hf (by simp; omega))
          have HF := Lib.hid (HF.out.then hf (fun x hx => .inr (by simp at hx; omega)))
          have hsz : wr.heap.size ≤ w7.heap.size := by omega
          clear hA hf hs
          go_wp2
          go_roundw
          case rel => exact ⟨k + 1, by omega, by go_num, by rw [HSS.out], by rw [HEV.out]; exact HO.out, by rw [HSS.out]; exact HTr.out, HPr.out, HF.out⟩
          case measure => simp [intOf]; omega
      · simp only [evS, stepS, shutS, g, ne_eq, not_false_eq_true, and_true, if_true, if_false, Int.reduceEq] at HEV HSS
        rw [g] at HWT
        first | (have HGM := Lib.hid gm; clear gm) | skip
        clear g
        have HAK := Lib.hid fun w => ragain_ok w t HTB.out p HC.out (from_ + 1 + k) HBG.out
        unfold pv tv at HAK
        obtain ⟨k0, k1, k2, k3, k4, k5⟩ := parCells HPr.out
        obtain ⟨t0, t1, t2, t3⟩ := tskCells HTr.out
        go_wp2_with fail
        refine (HWT.out _).mono ?_
        rintro e w2 ⟨rfl, hf⟩
        have HTr := Lib.hid (HTr.out.keep0 hf)
        have HPr := Lib.hid (HPr.out.keep0 hf)
        have HO := Lib.hid (HO.out.keep0 hf)
        have HF := Lib.hid (HF.out.trans hf)
        have hsz := Nat.le_trans hsz hf.size
        clear hf k0 k1 k2 k3 k4 k5 t0 t1 t2 t3
        obtain ⟨k0, k1, k2, k3, k4, k5⟩ := parCells HPr.out
        obtain ⟨t0, t1, t2, t3⟩ := tskCells HTr.out
        go_wp2_with fail
        refine (HAK.out _).mono ?_
        rintro e w3 ⟨rfl, hf⟩
        have HTr := Lib.hid (HTr.out.keep0 hf)
        have HPr := Lib.hid (HPr.out.keep0 hf)
        have HO := Lib.hid (HO.out.keep0 hf)
        have HF := Lib.hid (HF.out.trans hf)
        have hsz := Nat.le_trans hsz hf.size
        clear hf k0 k1 k2 k3 k4 k5 t0 t1 t2 t3
        go_wp2_with (refine wpl_store_at (.tmp 10) (.tmp 42) rfl rfl #[.int .i64 (againT p t (from_ + 1 + k)).due, .int .i64 (againT p t (from_ + 1 + k)).opn, .int .i64 (againT p t (from_ + 1 + k)).tries, .int .i64 (againT p t (from_ + 1 + k)).til] rfl rfl (by kernel_rfl) HTr.out (by simp) (by simp [Value.oneCell']) ?_)
        intro w4 hf hA hs
        have HO := Lib.hid (show OwnE 77 (w.heap.size + 1) w4 _ _ from own_keep HO.out hf (fun g hg hm => by
          simp at hm
          subst hm
          exact own_ne_ty HO.out HTr.out (by decide) hg))
        have HTr := Lib.hid (show At w4 w1.heap.size (taskO (againT p t (from_ + 1 + k)) 116) from hA)
        have HPr := Lib.hid (HPr.out.keep hf (by simp; omega))
        have HF := Lib.hid (HF.out.then hf (fun x hx => .inr (by simp at hx; omega)))
        have hsz : wr.heap.size ≤ w4.heap.size := by omega
        clear hA hf hs
        rw [← HGM.out] at HEV
        have HO := Lib.hid (HO.out.keep0 (Fr.al (o := .cells #[.int .i64 (from_ + 1 + k), .int .i64 2, .int .i64 (m - 1)] 77) (Fr.refl [] w4)))
        go_wp2_with (at_builtin; refine wpl_append_e (n := (from_ + 1 + k, 2, (m - 1))) Tryd.underlying75 Tryd.infoREvent rfl (by decide) rfl (.tmp 45) (.tmp 51) rfl rfl rfl (At.new (by simp)) HO.out (by omega) (by simp; omega) ?_)
        intro v' w5 h5 h6
        have HTr := Lib.hid (HTr.out.al.grown h6 (own_ne_ty HO.out HTr.out.al (by decide)))
        have HPr := Lib.hid (HPr.out.al.grown h6 (own_ne_ty HO.out HPr.out.al (by decide)))
        have HF := Lib.hid (Fr.own (Fr.al HF.out) h6 HO.out (by omega))
        have hsz : wr.heap.size ≤ w5.heap.size := by have := h6.size; simp at this; omega
        have HO := Lib.hid h5
        clear h5 h6
        cases pr
        · simp only [Bool.false_eq_true, if_false, false_and] at HSS
          go_wp2
          go_roundw
          case rel => exact ⟨k + 1, by omega, by go_num, by rw [HSS.out], by rw [HEV.out]; exact HO.out, by rw [HSS.out]; exact HTr.out, HPr.out, HF.out⟩
          case measure => simp [intOf]; omega
        · simp only [if_true, true_and] at HSS
          have HCL := Lib.hid fun w => rclosed_ok w (againT p t (from_ + 1 + k))
          unfold tv at HCL
          obtain ⟨k0, k1, k2, k3, k4, k5⟩ := parCells HPr.out
          obtain ⟨t0, t1, t2, t3⟩ := tskCells HTr.out
          go_wp2_with fail
          refine (HCL.out _).mono ?_
          rintro e w6 ⟨rfl, hf⟩
          have HTr := Lib.hid (HTr.out.keep0 hf)
          have HPr := Lib.hid (HPr.out.keep0 hf)
          have HO := Lib.hid (HO.out.keep0 hf)
          have HF := Lib.hid (HF.out.trans hf)
          have hsz := Nat.le_trans hsz hf.size
          clear hf k0 k1 k2 k3 k4 k5 t0 t1 t2 t3
          go_wp2_with (refine wpl_store_at (.tmp 10) (.tmp 59) rfl rfl #[.int .i64 (closedT (againT p t (from_ + 1 + k))).due, .int .i64 (closedT (againT p t (from_ + 1 + k))).opn, .int .i64 (closedT (againT p t (from_ + 1 + k))).tries, .int .i64 (closedT (againT p t (from_ + 1 + k))).til] rfl rfl (by kernel_rfl) HTr.out (by simp) (by simp [Value.oneCell']) ?_)
          intro w7 hf hA hs
          have HO := Lib.hid (show OwnE 77 (w.heap.size + 1) w7 _ _ from own_keep HO.out hf (fun g hg hm => by
            simp at hm
            subst hm
            exact own_ne_ty HO.out HTr.out (by decide) hg))
          have HTr := Lib.hid (show At w7 w1.heap.size (taskO (closedT (againT p t (from_ + 1 + k))) 116) from hA)
          have HPr := Lib.hid (HPr.out.keep hf (by simp; omega))
          have HF := Lib.hid (HF.out.then hf (fun x hx => .inr (by simp at hx; omega)))
          have hsz : wr.heap.size ≤ w7.heap.size := by omega
          clear hA hf hs
          go_wp2
          go_roundw
          case rel => exact ⟨k + 1, by omega, by go_num, by rw [HSS.out], by rw [HEV.out]; exact HO.out, by rw [HSS.out]; exact HTr.out, HPr.out, HF.out⟩
          case measure => simp [intOf]; omega
      · simp only [evS, stepS, shutS, g, ne_eq, not_false_eq_true, and_true, if_true, if_false, Int.reduceEq] at HEV HSS
        rw [g] at HWT
        first | (have HGM := Lib.hid gm; clear gm) | skip
        clear g
        obtain ⟨k0, k1, k2, k3, k4, k5⟩ := parCells HPr.out
        obtain ⟨t0, t1, t2, t3⟩ := tskCells HTr.out
        go_wp2_with fail
        refine (HWT.out _).mono ?_
        rintro e w2 ⟨rfl, hf⟩
        have HTr := Lib.hid (HTr.out.keep0 hf)
        have HPr := Lib.hid (HPr.out.keep0 hf)
        have HO := Lib.hid (HO.out.keep0 hf)
        have HF := Lib.hid (HF.out.trans hf)
        have hsz := Nat.le_trans hsz hf.size
        clear hf k0 k1 k2 k3 k4 k5 t0 t1 t2 t3
        rw [← HGM.out] at HEV
        have HO := Lib.hid (HO.out.keep0 (Fr.al (o := .cells #[.int .i64 (from_ + 1 + k), .int .i64 3, .int .i64 (m - 1)] 77) (Fr.refl [] w2)))
        go_wp2_with (at_builtin; refine wpl_append_e (n := (from_ + 1 + k, 3, (m - 1))) Tryd.underlying75 Tryd.infoREvent rfl (by decide) rfl (.tmp 45) (.tmp 51) rfl rfl rfl (At.new (by simp)) HO.out (by omega) (by simp; omega) ?_)
        intro v' w3 h5 h6
        have HTr := Lib.hid (HTr.out.al.grown h6 (own_ne_ty HO.out HTr.out.al (by decide)))
        have HPr := Lib.hid (HPr.out.al.grown h6 (own_ne_ty HO.out HPr.out.al (by decide)))
        have HF := Lib.hid (Fr.own (Fr.al HF.out) h6 HO.out (by omega))
        have hsz : wr.heap.size ≤ w3.heap.size := by have := h6.size; simp at this; omega
        have HO := Lib.hid h5
        clear h5 h6
        have HSS := Lib.hid (show stS pr p from_ (k + 1) = (closedT t, m) by rw [HSS.out]; split <;> rfl)
        have HCL := Lib.hid fun w => rclosed_ok w t
        unfold tv at HCL
        obtain ⟨k0, k1, k2, k3, k4, k5⟩ := parCells HPr.out
        obtain ⟨t0, t1, t2, t3⟩ := tskCells HTr.out
        go_wp2_with fail
        refine (HCL.out _).mono ?_
        rintro e w4 ⟨rfl, hf⟩
        have HTr := Lib.hid (HTr.out.keep0 hf)
        have HPr := Lib.hid (HPr.out.keep0 hf)
        have HO := Lib.hid (HO.out.keep0 hf)
        have HF := Lib.hid (HF.out.trans hf)
        have hsz := Nat.le_trans hsz hf.size
        clear hf k0 k1 k2 k3 k4 k5 t0 t1 t2 t3
        go_wp2_with (refine wpl_store_at (.tmp 10) (.tmp 59) rfl rfl #[.int .i64 (closedT t).due, .int .i64 (closedT t).opn, .int .i64 (closedT t).tries, .int .i64 (closedT t).til] rfl rfl (by kernel_rfl) HTr.out (by simp) (by simp [Value.oneCell']) ?_)
        intro w5 hf hA hs
        have HO := Lib.hid (show OwnE 77 (w.heap.size + 1) w5 _ _ from own_keep HO.out hf (fun g hg hm => by
          simp at hm
          subst hm
          exact own_ne_ty HO.out HTr.out (by decide) hg))
        have HTr := Lib.hid (show At w5 w1.heap.size (taskO (closedT t) 116) from hA)
        have HPr := Lib.hid (HPr.out.keep hf (by simp; omega))
        have HF := Lib.hid (HF.out.then hf (fun x hx => .inr (by simp at hx; omega)))
        have hsz : wr.heap.size ≤ w5.heap.size := by omega
        clear hA hf hs
        go_wp2
        go_roundw
        case rel => exact ⟨k + 1, by omega, by go_num, by rw [HSS.out], by rw [HEV.out]; exact HO.out, by rw [HSS.out]; exact HTr.out, HPr.out, HF.out⟩
        case measure => simp [intOf]; omega
    · obtain rfl : k = n := by omega
      clear HTr HPr HST HNew
      go_wp2
      go_ret
      exact ⟨_, rfl, own_base HO.out (by omega), HF.out⟩
end Go.Proofs.YtbohmnblegljkaaDoor
