/-
  Layer 40: Prompt.
-/
import Derived.Test.YtbohmnblegljkaaDoorPrm
namespace Go.Proofs.YtbohmnblegljkaaDoor
open Go.RowKit Go.Bl
set_option linter.unusedVariables false

theorem own_grown {e e' : TypeId} {base size n base' size' n' : Nat} {w w' : World} {v v' : Value} {xs xs' : List Value} (h : w.ownsRow base e size v n xs) (h' : w.ownsRow base' e' size' v' n' xs') (hne : e' ≠ e) (hg : w.grownBy w' v'.ownBlock) : w'.ownsRow base e size v n xs :=
  own_keep h (Fr.grown (S := v'.ownBlock.toList) hg (by intro k hk; simp [hk])) (own_apart h h' hne)

set_option maxRecDepth 100000 in
set_option maxHeartbeats 4000000 in
theorem events_prompt (L : List Nat) (E : Nat → Addr) (B : Nat) (w : World) (hE : Errs L E B w) (h1 : 1 ∈ L) (h8 : 8 ∈ L) (h18 : 18 ∈ L) (p : Par) (hc : chk p = 0) (from_ : Int) (hf0 : 0 ≤ from_) (hf1 : from_ ≤ 1099511627776) (n : Nat) (hn : n ≤ 2000) (pb : Nat) (hBp : B ≤ pb) (hpb : At w pb (.cells #[.slice none 0 0] 23)) :
    Calls Tryd.prog 44 #[pv p, .int .i64 from_, .int .i64 (from_ + n), .func (.func 57) #[] #[.pointer (some ⟨pb, 0, none⟩)]] w fun e w' => ∃ v, e = .returned v ∧ (∃ u, At w' pb (.cells #[u] 23) ∧ OwnI 3 w.heap.size w' u ((evL true p from_ n).map (·.1))) ∧ Fr [pb] w w' := by
  have HNew := Lib.hid fun w => new_ok w p hc from_ ⟨hf0, by omega⟩
  have HST := Lib.hid (stS_I true p hc from_ hf0)
  have HLN := Lib.hid (evL_len true p from_)
  have HE := Lib.hid hE
  have HC := Lib.hid hc
  have HP0 := Lib.hid (show At (w.alloc (parO' p 36)) w.heap.size (parO' p 36) from At.new rfl)
  have HPB := Lib.hid hpb
  have hpbl := hpb.lt
  clear hE hc hpb
  unfold pv tv at *
  go_enter Tryd.func44, Tryd.ntmps44
  go_wp2
  refine wp_region_pf [(.val, 1), (.val, 2), (.call, 3), (.val, 0), (.val, 4), (.mem, 5), (.val, 6)] (by kernel_rfl) (by kernel_rfl) ?_
  intro wa ha
  have HPa := Lib.hid (HP0.out.keep0 ha)
  have G := Lib.hid (Fr.trans (Fr.al (Fr.refl [] w)) ha)
  have hkin := fun x : Kin wa => parCells (HPa.out.keep0 x.fr)
  have k0 := fun x : Kin wa => (hkin x).1
  have k1 := fun x : Kin wa => (hkin x).2.1
  have k2 := fun x : Kin wa => (hkin x).2.2.1
  have k3 := fun x : Kin wa => (hkin x).2.2.2.1
  have k4 := fun x : Kin wa => (hkin x).2.2.2.2.1
  have k5 := fun x : Kin wa => (hkin x).2.2.2.2.2
  clear hkin
  refine poF_vals 2 _ _ _ (by kernel_rfl) ?_
  simp only [opersOf, List.take_succ_cons, List.take_zero, List.filterMap_cons, List.filterMap_nil, List.getElem?_toArray, List.getElem?_cons_succ, List.getElem?_cons_zero, List.drop_succ_cons, List.drop_zero]
  show wpQuiet _ _ _ _ [_, _] _
  iterate 2 go_big_quiet_step (fail)
  refine wpQuiet_nil ?_
  refine poF_call _ (by simp only [List.getElem?_toArray, List.getElem?_cons_succ, List.getElem?_cons_zero]; rfl) ?_
  intro u hu
  go_wp2_with fail
  refine (HNew.out _).mono ?_
  rintro e ub ⟨rfl, hf⟩
  rename_i K hK
  refine hK _ _ ?_
  refine ⟨rfl, rfl, hf, ?_⟩
  clear hK K
  refine poF_vals 2 _ _ _ (by kernel_rfl) ?_
  simp only [opersOf, List.take_succ_cons, List.take_zero, List.filterMap_cons, List.filterMap_nil, List.getElem?_toArray, List.getElem?_cons_succ, List.getElem?_cons_zero, List.drop_succ_cons, List.drop_zero]
  show wpQuiet _ _ _ _ [_, _] _
  iterate 2 go_big_quiet_step (fail)
  refine wpQuiet_nil ?_
  refine poF_new _ (by simp only [List.getElem?_toArray, List.getElem?_cons_succ, List.getElem?_cons_zero]; rfl) rfl (runO p (newT p from_) 0) (fun b => .pointer (some ⟨b, 0, none⟩)) (fun _ => by kernel_rfl) ?_
  intro rb wb hbs hwb hAt
  go_frame
  refine poF_vals 1 _ _ _ (by kernel_rfl) ?_
  simp only [opersOf, List.take_succ_cons, List.take_zero, List.filterMap_cons, List.filterMap_nil, List.getElem?_toArray, List.getElem?_cons_succ, List.getElem?_cons_zero, List.drop_succ_cons, List.drop_zero]
  show wpQuiet _ _ _ _ [_] _
  iterate 1 go_big_quiet_step (fail)
  refine wpQuiet_nil ?_
  refine poF_end ?_
  intro wc hwc
  have HEc := Lib.hid (HE.out.keep0 (G.out.trans (((hu.trans hf).trans hwb).trans hwc)))
  have G := Lib.hid (G.out.trans (((hu.trans hf).trans hwb).trans hwc))
  have HR := Lib.hid (At.keep0 hAt hwc)
  have HQ := Lib.hid (HPB.out.keep0 G.out)
  have hrb := HR.out.lt
  have hsz := G.out.size
  have hrw : w.heap.size ≤ rb := by have := (Fr.trans (Fr.al (Fr.refl [] w)) ha).size; omega
  clear hu hf hwb hwc hAt ha k0 k1 k2 k3 k4 k5 HPa HP0 hbs
  go_wp2
  go_loopw [10, 11] (fun v c wr => ∃ k : Nat, k ≤ n ∧ c = .int .i64 (from_ + 1 + k) ∧ Hid (OwnE 52 (rb + 1) wr v (evL true p from_ k)) ∧ Hid (At wr rb (runO p (stS true p from_ k).1 (stS true p from_ k).2)) ∧ Hid (∃ u, At wr pb (.cells #[u] 23) ∧ OwnI 3 w.heap.size wr u ((evL true p from_ k).map (·.1))) ∧ Hid (Fr [pb] w wr)) (fun _ c _ => (from_ + n + 1 - intOf c).toNat)
  case atStart => exact ⟨0, Nat.zero_le _, by simp, World.ownsRow_nil _ _ _ _, HR.out, ⟨_, HQ.out, OwnI.nil _ _ _⟩, G.out.weak⟩
  case round =>
    obtain ⟨k, hk, rfl, HO, HRr, HU, HF⟩ := hrel
    by_cases hkn : k < n
    · have hI := HST.out k
      have hB := hI.big hf0 hf1 (by omega)
      have HLAST := Lib.hid hI.last
      have hEV : evL true p from_ (k + 1) = evL true p from_ k ++ evS p (from_ + 1 + k) (stS true p from_ k) := rfl
      have hSS : stS true p from_ (k + 1) = shutS true p (from_ + 1 + k) (stS true p from_ k) := by
        rfl
      have hlen := HLN.out k
      have hsz2 := HF.out.size
      have hsz3 := HRr.out.lt
      obtain ⟨⟨t, m⟩, hs⟩ : ∃ s, stS true p from_ k = s := ⟨_, rfl⟩
      rw [hs] at hB hEV hSS HRr HLAST
      obtain ⟨hTB, hM⟩ := hB
      have HTB := Lib.hid hTB
      have HM := Lib.hid hM
      have HBG := Lib.hid (show Big (from_ + 1 + k) from ⟨by omega, by omega⟩)
      have HEr := Lib.hid (HE.out.keep HF.out (by simp; exact hBp))
      have HEV := Lib.hid hEV
      have HSS := Lib.hid hSS
      have HOWN := Lib.hid (fun g hg => (World.ownsRow.lt HO.out g hg).2)
      clear hI hs hTB hM hEV hSS
      have hcs : wantsF p t (from_ + 1 + k) = 0 ∨ wantsF p t (from_ + 1 + k) = 1 ∨ wantsF p t (from_ + 1 + k) = 2 ∨ wantsF p t (from_ + 1 + k) = 3 := by
        rcases wants_cases p t (from_ + 1 + k) with ⟨-, -, g⟩ | ⟨-, -, g⟩ | ⟨-, -, g⟩ | ⟨-, -, -, g⟩ | ⟨-, -, -, g⟩ <;> rw [g] <;> simp
      rcases hcs with g | g | g | g
      all_goals simp only [evS, stepS, shutS, g, ne_eq, not_true_eq_false, and_false, not_false_eq_true, and_self, true_and, if_true, Int.reduceEq, if_false] at HEV HSS
      all_goals have hpr : pb ≠ rb := by omega
      all_goals obtain ⟨u, hu1, hu2⟩ := HU.out
      all_goals have HU1 := Lib.hid hu1
      all_goals have HU2 := Lib.hid hu2
      all_goals clear hu1 hu2 HU
      · go_wp2_with fail
        refine (tick_0 L E B _ HEr.out h1 h8 h18 t HTB.out p HC.out _ HBG.out m HM.out rb HRr.out g).mono ?_
        rintro e w2 ⟨rfl, hR2, hf⟩
        have HR2 := Lib.hid (hR2.al (o' := .cells #[.int .i64 0, .int .i64 0, .int .i64 0] 52))
        have HO2 := Lib.hid (HO.out.keep (Fr.al (o := .cells #[.int .i64 0, .int .i64 0, .int .i64 0] 52) hf) (by simp))
        have HF2 := Lib.hid (Fr.al (o := .cells #[.int .i64 0, .int .i64 0, .int .i64 0] 52) (HF.out.then hf (fun x hx => .inr (by simp at hx; omega))))
        have HU3 := Lib.hid ((HU1.out.keep hf (by simpa using hpr)).al (o' := .cells #[.int .i64 0, .int .i64 0, .int .i64 0] 52))
        have HU4 := Lib.hid (show OwnI 3 w.heap.size _ u _ from own_keep HU2.out (Fr.al (o := .cells #[.int .i64 0, .int .i64 0, .int .i64 0] 52) hf) (fun g hg hm => by
          simp at hm
          subst hm
          exact own_ne_ty HU2.out HRr.out (by decide) hg))
        clear hf hR2 HO HF HRr g HU1 HU2
        go_wp2
        go_roundw
        case rel => exact ⟨k + 1, by omega, by go_num, by rw [HEV.out, List.append_nil]; exact HO2.out, by rw [HSS.out]; exact HR2.out, ⟨u, HU3.out, by rw [HEV.out, List.append_nil]; exact HU4.out⟩, HF2.out⟩
        case measure => simp [intOf]; omega
      · go_wp2_with fail
        refine (tick_1 L E B _ HEr.out h1 h8 h18 t HTB.out p HC.out _ HBG.out m HM.out rb HRr.out g).mono ?_
        rintro e w2 ⟨rfl, hR2, hf⟩
        have HR2 := Lib.hid hR2
        have HO2 := Lib.hid (HO.out.keep (Fr.al (o := .cells #[.int .i64 (from_ + 1 + k), .int .i64 1, .int .i64 (m)] 52) (Fr.al (o := .cells #[.int .i64 (from_ + 1 + k), .int .i64 1, .int .i64 (m)] 52) hf)) (by simp))
        have HF2 := Lib.hid (HF.out.then hf (fun x hx => .inr (by simp at hx; omega)))
        have hs2 := hf.size
        have HU3 := Lib.hid (((HU1.out.keep hf (by simpa using hpr)).al (o' := .cells #[.int .i64 (from_ + 1 + k), .int .i64 1, .int .i64 (m)] 52)).al (o' := .cells #[.int .i64 (from_ + 1 + k), .int .i64 1, .int .i64 (m)] 52))
        have HU4 := Lib.hid (show OwnI 3 w.heap.size _ u _ from own_keep HU2.out (Fr.al (o := .cells #[.int .i64 (from_ + 1 + k), .int .i64 1, .int .i64 (m)] 52) (Fr.al (o := .cells #[.int .i64 (from_ + 1 + k), .int .i64 1, .int .i64 (m)] 52) hf)) (fun g hg hm => by
          simp at hm
          subst hm
          exact own_ne_ty HU2.out HRr.out (by decide) hg))
        clear hf hR2 HO HF HRr g HU1 HU2
        go_wp2_with (at_builtin; refine wpl_append_e (n := (from_ + 1 + k, 1, m)) Tryd.underlying47 Tryd.infoEvent rfl (by decide) rfl (.tmp 34) (.tmp 36) rfl rfl rfl (At.new (by simp)) HO2.out (by omega) (by simp; omega) ?_)
        intro v' w' h5 h6
        have HR3 := Lib.hid (HR2.out.al.al.grown h6 (HO2.out.ne (by omega)))
        have HF3 := Lib.hid (Fr.own (Fr.al (Fr.al HF2.out)) h6 HO2.out (by omega))
        have HE3 := Lib.hid (show At w' w2.heap.size (.cells #[.int .i64 (from_ + 1 + k), .int .i64 1, .int .i64 (m)] 52) from (At.al (At.new rfl)).grown h6 (by
          intro hh
          have := HOWN.out _ hh
          omega))
        have HU5 := Lib.hid (HU3.out.grown h6 (own_ne_ty HO2.out HU3.out (by decide)))
        have HU6 := Lib.hid (show OwnI 3 w.heap.size w' u _ from own_grown HU4.out HO2.out (by decide) h6)
        have hs5 : w2.heap.size ≤ w'.heap.size := by have := h6.size; simp at this; omega
        clear HO2 h6 HR2 HF2 HU3 HU4
        have e0 := HE3.out.cell 0
        have e1 := HE3.out.cell 1
        have e2 := HE3.out.cell 2
        simp only [List.getElem?_toArray, List.getElem?_cons_zero, List.getElem?_cons_succ] at e0 e1 e2
        go_wp2_with fail
        refine (prm_ok _ p (askedT p m (from_ + 1 + k)) (m + 1) rb pb w.heap.size HR3.out u HU5.out _ HU6.out (by simp; omega) (by omega) _ _ _).mono ?_
        rintro e w4 ⟨rfl, hR4, hU7, hf⟩
        have HR4 := Lib.hid hR4
        have HU7 := Lib.hid hU7
        have HF4 := Lib.hid (HF3.out.then hf (fun x hx => by
          simp only [List.cons_append, List.nil_append, List.mem_cons, List.mem_singleton] at hx
          rcases hx with hx | hx | hx
          · right; omega
          · left; simp [hx]
          · right
            simp only [Option.mem_toList] at hx
            exact (World.ownsRow.lt HU6.out x hx).1))
        have HO4 := Lib.hid (show OwnE 52 (rb + 1) w4 _ _ from own_keep h5 hf (fun g hg hm => by
          simp only [List.cons_append, List.nil_append, List.mem_cons, List.mem_singleton] at hm
          rcases hm with hm | hm | hm
          · subst hm; exact own_ne_ty h5 HR3.out (by decide) hg
          · subst hm; exact own_ne_ty h5 HU5.out (by decide) hg
          · exact own_apart h5 HU6.out (by decide) g hg hm))
        clear hf HR3 HF3 h5 HE3 e0 e1 e2 hR4 hU7 HU5 HU6
        go_wp2
        go_roundw
        case rel => exact ⟨k + 1, by omega, by go_num, by rw [HEV.out]; exact HO4.out, by rw [HSS.out]; exact HR4.out, by rw [HEV.out, List.map_append]; exact HU7.out, HF4.out⟩
        case measure => simp [intOf]; omega
      · go_wp2_with fail
        refine (tick_2 L E B _ HEr.out h1 h8 h18 t HTB.out p HC.out _ HBG.out m HM.out rb HRr.out g).mono ?_
        rintro e w2 ⟨rfl, hR2, hf⟩
        have HR2 := Lib.hid hR2
        have HO2 := Lib.hid (HO.out.keep (Fr.al (o := .cells #[.int .i64 (from_ + 1 + k), .int .i64 2, .int .i64 (t.opn)] 52) (Fr.al (o := .cells #[.int .i64 (from_ + 1 + k), .int .i64 2, .int .i64 (t.opn)] 52) hf)) (by simp))
        have HF2 := Lib.hid (HF.out.then hf (fun x hx => .inr (by simp at hx; omega)))
        have hs2 := hf.size
        have HU3 := Lib.hid (((HU1.out.keep hf (by simpa using hpr)).al (o' := .cells #[.int .i64 (from_ + 1 + k), .int .i64 2, .int .i64 (t.opn)] 52)).al (o' := .cells #[.int .i64 (from_ + 1 + k), .int .i64 2, .int .i64 (t.opn)] 52))
        have HU4 := Lib.hid (show OwnI 3 w.heap.size _ u _ from own_keep HU2.out (Fr.al (o := .cells #[.int .i64 (from_ + 1 + k), .int .i64 2, .int .i64 (t.opn)] 52) (Fr.al (o := .cells #[.int .i64 (from_ + 1 + k), .int .i64 2, .int .i64 (t.opn)] 52) hf)) (fun g hg hm => by
          simp at hm
          subst hm
          exact own_ne_ty HU2.out HRr.out (by decide) hg))
        clear hf hR2 HO HF HRr g HU1 HU2
        go_wp2_with (at_builtin; refine wpl_append_e (n := (from_ + 1 + k, 2, t.opn)) Tryd.underlying47 Tryd.infoEvent rfl (by decide) rfl (.tmp 34) (.tmp 36) rfl rfl rfl (At.new (by simp)) HO2.out (by omega) (by simp; omega) ?_)
        intro v' w' h5 h6
        have HR3 := Lib.hid (HR2.out.al.al.grown h6 (HO2.out.ne (by omega)))
        have HF3 := Lib.hid (Fr.own (Fr.al (Fr.al HF2.out)) h6 HO2.out (by omega))
        have HE3 := Lib.hid (show At w' w2.heap.size (.cells #[.int .i64 (from_ + 1 + k), .int .i64 2, .int .i64 (t.opn)] 52) from (At.al (At.new rfl)).grown h6 (by
          intro hh
          have := HOWN.out _ hh
          omega))
        have HU5 := Lib.hid (HU3.out.grown h6 (own_ne_ty HO2.out HU3.out (by decide)))
        have HU6 := Lib.hid (show OwnI 3 w.heap.size w' u _ from own_grown HU4.out HO2.out (by decide) h6)
        have hs5 : w2.heap.size ≤ w'.heap.size := by have := h6.size; simp at this; omega
        clear HO2 h6 HR2 HF2 HU3 HU4
        have e0 := HE3.out.cell 0
        have e1 := HE3.out.cell 1
        have e2 := HE3.out.cell 2
        simp only [List.getElem?_toArray, List.getElem?_cons_zero, List.getElem?_cons_succ] at e0 e1 e2
        go_wp2_with fail
        refine (prm_ok _ p (againT p t (from_ + 1 + k)) (m) rb pb w.heap.size HR3.out u HU5.out _ HU6.out (by simp; omega) (by omega) _ _ _).mono ?_
        rintro e w4 ⟨rfl, hR4, hU7, hf⟩
        have HR4 := Lib.hid hR4
        have HU7 := Lib.hid hU7
        have HF4 := Lib.hid (HF3.out.then hf (fun x hx => by
          simp only [List.cons_append, List.nil_append, List.mem_cons, List.mem_singleton] at hx
          rcases hx with hx | hx | hx
          · right; omega
          · left; simp [hx]
          · right
            simp only [Option.mem_toList] at hx
            exact (World.ownsRow.lt HU6.out x hx).1))
        have HO4 := Lib.hid (show OwnE 52 (rb + 1) w4 _ _ from own_keep h5 hf (fun g hg hm => by
          simp only [List.cons_append, List.nil_append, List.mem_cons, List.mem_singleton] at hm
          rcases hm with hm | hm | hm
          · subst hm; exact own_ne_ty h5 HR3.out (by decide) hg
          · subst hm; exact own_ne_ty h5 HU5.out (by decide) hg
          · exact own_apart h5 HU6.out (by decide) g hg hm))
        clear hf HR3 HF3 h5 HE3 e0 e1 e2 hR4 hU7 HU5 HU6
        go_wp2
        go_roundw
        case rel => exact ⟨k + 1, by omega, by go_num, by rw [HEV.out]; exact HO4.out, by rw [HSS.out]; exact HR4.out, by rw [HEV.out, List.map_append]; exact HU7.out, HF4.out⟩
        case measure => simp [intOf]; omega
      · go_wp2_with fail
        refine (tick_3 L E B _ HEr.out h1 h8 h18 t HTB.out p HC.out _ HBG.out m HM.out rb HRr.out g).mono ?_
        rintro e w2 ⟨rfl, hR2, hf⟩
        have HR2 := Lib.hid hR2
        have HO2 := Lib.hid (HO.out.keep (Fr.al (o := .cells #[.int .i64 (from_ + 1 + k), .int .i64 3, .int .i64 (t.opn)] 52) (Fr.al (o := .cells #[.int .i64 (from_ + 1 + k), .int .i64 3, .int .i64 (t.opn)] 52) hf)) (by simp))
        have HF2 := Lib.hid (HF.out.then hf (fun x hx => .inr (by simp at hx; omega)))
        have hs2 := hf.size
        have HU3 := Lib.hid (((HU1.out.keep hf (by simpa using hpr)).al (o' := .cells #[.int .i64 (from_ + 1 + k), .int .i64 3, .int .i64 (t.opn)] 52)).al (o' := .cells #[.int .i64 (from_ + 1 + k), .int .i64 3, .int .i64 (t.opn)] 52))
        have HU4 := Lib.hid (show OwnI 3 w.heap.size _ u _ from own_keep HU2.out (Fr.al (o := .cells #[.int .i64 (from_ + 1 + k), .int .i64 3, .int .i64 (t.opn)] 52) (Fr.al (o := .cells #[.int .i64 (from_ + 1 + k), .int .i64 3, .int .i64 (t.opn)] 52) hf)) (fun g hg hm => by
          simp at hm
          subst hm
          exact own_ne_ty HU2.out HRr.out (by decide) hg))
        clear hf hR2 HO HF HRr g HU1 HU2
        go_wp2_with (at_builtin; refine wpl_append_e (n := (from_ + 1 + k, 3, t.opn)) Tryd.underlying47 Tryd.infoEvent rfl (by decide) rfl (.tmp 34) (.tmp 36) rfl rfl rfl (At.new (by simp)) HO2.out (by omega) (by simp; omega) ?_)
        intro v' w' h5 h6
        have HR3 := Lib.hid (HR2.out.al.al.grown h6 (HO2.out.ne (by omega)))
        have HF3 := Lib.hid (Fr.own (Fr.al (Fr.al HF2.out)) h6 HO2.out (by omega))
        have HE3 := Lib.hid (show At w' w2.heap.size (.cells #[.int .i64 (from_ + 1 + k), .int .i64 3, .int .i64 (t.opn)] 52) from (At.al (At.new rfl)).grown h6 (by
          intro hh
          have := HOWN.out _ hh
          omega))
        have HU5 := Lib.hid (HU3.out.grown h6 (own_ne_ty HO2.out HU3.out (by decide)))
        have HU6 := Lib.hid (show OwnI 3 w.heap.size w' u _ from own_grown HU4.out HO2.out (by decide) h6)
        have hs5 : w2.heap.size ≤ w'.heap.size := by have := h6.size; simp at this; omega
        clear HO2 h6 HR2 HF2 HU3 HU4
        have e0 := HE3.out.cell 0
        have e1 := HE3.out.cell 1
        have e2 := HE3.out.cell 2
        simp only [List.getElem?_toArray, List.getElem?_cons_zero, List.getElem?_cons_succ] at e0 e1 e2
        go_wp2_with fail
        refine (prm_ok _ p (closedT t) (m) rb pb w.heap.size HR3.out u HU5.out _ HU6.out (by simp; omega) (by omega) _ _ _).mono ?_
        rintro e w4 ⟨rfl, hR4, hU7, hf⟩
        have HR4 := Lib.hid hR4
        have HU7 := Lib.hid hU7
        have HF4 := Lib.hid (HF3.out.then hf (fun x hx => by
          simp only [List.cons_append, List.nil_append, List.mem_cons, List.mem_singleton] at hx
          rcases hx with hx | hx | hx
          · right; omega
          · left; simp [hx]
          · right
            simp only [Option.mem_toList] at hx
            exact (World.ownsRow.lt HU6.out x hx).1))
        have HO4 := Lib.hid (show OwnE 52 (rb + 1) w4 _ _ from own_keep h5 hf (fun g hg hm => by
          simp only [List.cons_append, List.nil_append, List.mem_cons, List.mem_singleton] at hm
          rcases hm with hm | hm | hm
          · subst hm; exact own_ne_ty h5 HR3.out (by decide) hg
          · subst hm; exact own_ne_ty h5 HU5.out (by decide) hg
          · exact own_apart h5 HU6.out (by decide) g hg hm))
        clear hf HR3 HF3 h5 HE3 e0 e1 e2 hR4 hU7 HU5 HU6
        go_wp2
        go_roundw
        case rel => exact ⟨k + 1, by omega, by go_num, by rw [HEV.out]; exact HO4.out, by rw [HSS.out]; exact HR4.out, by rw [HEV.out, List.map_append]; exact HU7.out, HF4.out⟩
        case measure => simp [intOf]; omega
    · obtain rfl : k = n := by omega
      clear HRr HST HNew HO
      go_wp2
      go_ret
      exact ⟨_, rfl, HU.out, HF.out⟩
end Go.Proofs.YtbohmnblegljkaaDoor
