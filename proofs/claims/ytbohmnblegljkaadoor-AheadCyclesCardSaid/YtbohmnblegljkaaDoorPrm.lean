/-
  Layer 40: spanned, Silent, Prompt.
-/
import Derived.Test.YtbohmnblegljkaaDoorEvt
namespace Go.Proofs.YtbohmnblegljkaaDoor
open Go.RowKit Go.Bl
set_option linter.unusedVariables false

/-- rows of one type and blocks of another one are apart -/
theorem own_ne_ty {e te : TypeId} {base size n : Nat} {w : World} {v : Value} {xs : List Value} (h : w.ownsRow base e size v n xs) {b : Nat} {c : Array Value} {fz : Nat × Nat} (hb : At w b (.cells c te fz)) (hne : te ≠ e) : v.ownBlock ≠ some b := by
  intro hg
  rcases h.2 with ⟨rfl, -⟩ | ⟨g, cap, cur, rfl, hbg, hh, -⟩
  · simp [Value.ownBlock] at hg
  · simp [Value.ownBlock] at hg
    subst hg
    have := hh.symm.trans hb
    simp at this
    exact hne this.2.1.symm
theorem own_apart {e e' : TypeId} {base size n base' size' n' : Nat} {w : World} {v v' : Value} {xs xs' : List Value} (h : w.ownsRow base e size v n xs) (h' : w.ownsRow base' e' size' v' n' xs') (hne : e' ≠ e) :
    ∀ g, v.ownBlock = some g → g ∉ v'.ownBlock.toList := by
  intro g hg hg'
  rcases h'.2 with ⟨rfl, -⟩ | ⟨g', cap, cur, rfl, hbg, hh, -⟩
  · simp [Value.ownBlock] at hg'
  · simp [Value.ownBlock] at hg'
    subst hg'
    exact own_ne_ty h hh hne hg

def spn (p : Par) (from_ to : Int) : Nat := if bgn p from_ ≠ 0 then bgn p from_ else if to < from_ ∨ from_ + 2000 < to then 1 else 0
theorem spn_zero (p : Par) (from_ to : Int) (h : spn p from_ to = 0) : bgn p from_ = 0 ∧ from_ ≤ to ∧ to ≤ from_ + 2000 := by
  unfold spn at h
  by_cases hc : bgn p from_ = 0
  · rw [if_neg (by simp [hc])] at h
    refine ⟨hc, ?_⟩
    split at h
    · cases h
    · omega
  · rw [if_pos hc] at h
    exact absurd h hc

set_option maxHeartbeats 1000000 in
theorem spanned_any (L : List Nat) (E : Nat → Addr) (B : Nat) (w : World) (hE : Errs L E B w) (h1 : 1 ∈ L) (h8 : 8 ∈ L) (h18 : 18 ∈ L) (p : Par) (from_ to : Int) :
    Calls Tryd.prog 43 #[pv p, .int .i64 from_, .int .i64 to] w fun e w' => ∃ v, e = .returned v ∧ ErrV E w' (spn p from_ to) v ∧ Fr [] w w' := by
  have HE := Lib.hid hE
  clear hE
  unfold pv
  go_enter Tryd.func43, Tryd.ntmps43
  have G := Lib.hid (Fr.refl [] w)
  go_wp2_with fail
  refine (begun_any L E B _ (HE.out.keep0 (by repeat (first | exact Fr.refl _ _ | exact G.out | refine Fr.al ?_ | refine Fr.dn ?_ | refine Fr.dr ?_))) h1 h8 h18 p from_).mono ?_
  rintro e w1 ⟨v, rfl, hv, hf⟩
  have hf : Fr [] w w1 := Fr.trans (by repeat (first | exact Fr.refl _ _ | refine Fr.al ?_ | refine Fr.dn ?_ | refine Fr.dr ?_)) hf
  replace G := Lib.hid (G.out.trans hf)
  clear hf
  by_cases hc : bgn p from_ = 0
  · have hb : spn p from_ to = if to < from_ ∨ from_ + 2000 < to then 1 else 0 := by unfold spn; rw [if_neg (by simp [hc])]
    have hz := (bgn_zero p from_ hc).2
    rw [hc] at hv
    have := hv.nil_iff
    subst this
    have c1 := (HE.out.keep0 G.out).cell 1 h1
    simp only [gOf, List.getD_eq_getElem?_getD, List.getElem?_cons_zero, List.getElem?_cons_succ, Option.getD_some] at c1
    clear hv hc
    have h3 : to < from_ ∨ (from_ ≤ to ∧ from_ + 2000 < to) ∨ (from_ ≤ to ∧ to ≤ from_ + 2000) := by omega
    rcases h3 with h | h | h
    · rw [if_pos (by omega)] at hb
      have HB := Lib.hid hb
      clear hb
      go_wp2
      go_ret
      exact ⟨_, rfl, by rw [HB.out]; exact .plain 1 (by decide), (by repeat (first | exact Fr.refl _ _ | exact G.out | refine Fr.al ?_ | refine Fr.dn ?_ | refine Fr.dr ?_))⟩
    · rw [if_pos (by omega)] at hb
      have HB := Lib.hid hb
      clear hb
      go_wp2
      go_ret
      exact ⟨_, rfl, by rw [HB.out]; exact .plain 1 (by decide), (by repeat (first | exact Fr.refl _ _ | exact G.out | refine Fr.al ?_ | refine Fr.dn ?_ | refine Fr.dr ?_))⟩
    · rw [if_neg (by omega)] at hb
      have HB := Lib.hid hb
      clear hb
      go_wp2
      go_ret
      exact ⟨_, rfl, by rw [HB.out]; exact .nil, (by repeat (first | exact Fr.refl _ _ | exact G.out | refine Fr.al ?_ | refine Fr.dn ?_ | refine Fr.dr ?_))⟩
  · have hb : spn p from_ to = bgn p from_ := by unfold spn; rw [if_pos hc]
    obtain ⟨t, a, rfl⟩ := hv.some_of hc
    have HV := Lib.hid hv
    have HB := Lib.hid hb
    clear hv hb hc
    go_wp2
    go_ret
    exact ⟨_, rfl, by rw [HB.out]; exact HV.out, (by repeat (first | exact Fr.refl _ _ | exact G.out | refine Fr.al ?_ | refine Fr.dn ?_ | refine Fr.dr ?_))⟩

set_option maxHeartbeats 1000000 in
theorem silent_bad (L : List Nat) (E : Nat → Addr) (B : Nat) (w : World) (hE : Errs L E B w) (h1 : 1 ∈ L) (h8 : 8 ∈ L) (h18 : 18 ∈ L) (p : Par) (from_ to : Int) (h : spn p from_ to ≠ 0) :
    Calls Tryd.prog 22 #[pv p, .int .i64 from_, .int .i64 to] w fun e w' => ∃ ev, e = .returned (.tuple #[.slice none 0 0, ev]) ∧ ErrV E w' (spn p from_ to) ev ∧ Fr [] w w' := by
  have HE := Lib.hid hE
  clear hE
  unfold pv
  go_enter Tryd.func22, Tryd.ntmps22
  have G := Lib.hid (Fr.refl [] w)
  go_wp2_with fail
  refine (spanned_any L E B _ (HE.out.keep0 (by repeat (first | exact Fr.refl _ _ | exact G.out | refine Fr.al ?_ | refine Fr.dn ?_ | refine Fr.dr ?_))) h1 h8 h18 p from_ to).mono ?_
  rintro e w1 ⟨v, rfl, hv, hf⟩
  have hf : Fr [] w w1 := Fr.trans (by repeat (first | exact Fr.refl _ _ | refine Fr.al ?_ | refine Fr.dn ?_ | refine Fr.dr ?_)) hf
  replace G := Lib.hid (G.out.trans hf)
  clear hf
  obtain ⟨t, a, rfl⟩ := hv.some_of h
  have HV := Lib.hid hv
  clear hv h
  go_wp2
  go_ret2
  exact ⟨_, rfl, HV.out, (by repeat (first | exact Fr.refl _ _ | exact G.out | refine Fr.al ?_ | refine Fr.dn ?_ | refine Fr.dr ?_))⟩

set_option maxHeartbeats 1000000 in
theorem silent_ok (L : List Nat) (E : Nat → Addr) (B : Nat) (w : World) (hE : Errs L E B w) (h1 : 1 ∈ L) (h8 : 8 ∈ L) (h18 : 18 ∈ L) (p : Par) (from_ : Int) (n : Nat) (h : spn p from_ (from_ + n) = 0) :
    Calls Tryd.prog 22 #[pv p, .int .i64 from_, .int .i64 (from_ + n)] w fun e w' => ∃ v, e = .returned (.tuple #[v, .nilIface]) ∧ OwnE 52 w.heap.size w' v (evL false p from_ n) ∧ Fr [] w w' := by
  obtain ⟨hb, g1, g2⟩ := spn_zero p from_ _ h
  obtain ⟨hc, g3, g4⟩ := bgn_zero p from_ hb
  have HEV := Lib.hid fun w hE => events_silent L E B w hE h1 h8 h18 p hc from_ g3 g4 n (by omega)
  have HE := Lib.hid hE
  have HS := Lib.hid h
  have HP0 := Lib.hid (show At (w.alloc (parO' p 36)) w.heap.size (parO' p 36) from At.new rfl)
  clear hE h hb hc
  unfold pv at *
  go_enter Tryd.func22, Tryd.ntmps22
  have G := Lib.hid (show Fr [] w (w.alloc (parO' p 36)) from (by repeat (first | exact Fr.refl _ _ | refine Fr.al ?_ | refine Fr.dn ?_ | refine Fr.dr ?_)))
  go_wp2_with fail
  refine (spanned_any L E B _ (HE.out.keep0 (by repeat (first | exact Fr.refl _ _ | exact G.out | refine Fr.al ?_ | refine Fr.dn ?_ | refine Fr.dr ?_))) h1 h8 h18 p from_ (from_ + n)).mono ?_
  rintro e w1 ⟨v, rfl, hv, hf⟩
  have hf : Fr [] (w.alloc (parO' p 36)) w1 := Fr.trans (by repeat (first | exact Fr.refl _ _ | refine Fr.al ?_ | refine Fr.dn ?_ | refine Fr.dr ?_)) hf
  replace G := Lib.hid (G.out.trans hf)
  replace HP0 := Lib.hid (HP0.out.keep0 hf)
  clear hf
  rw [HS.out] at hv
  have := hv.nil_iff
  subst this
  clear hv
  obtain ⟨k0, k1, k2, k3, k4, k5⟩ := parCells HP0.out
  have hsz := G.out.size
  go_wp2_with fail
  refine (HEV.out _ (HE.out.keep0 (by repeat (first | exact Fr.refl _ _ | exact G.out | refine Fr.al ?_ | refine Fr.dn ?_ | refine Fr.dr ?_)))).mono ?_
  rintro e w2 ⟨v, rfl, hv, hf⟩
  have hf : Fr [] w1 w2 := Fr.trans (by repeat (first | exact Fr.refl _ _ | refine Fr.al ?_ | refine Fr.dn ?_ | refine Fr.dr ?_)) hf
  replace G := Lib.hid (G.out.trans hf)
  replace HP0 := Lib.hid (HP0.out.keep0 hf)
  clear hf
  have HV := Lib.hid (show OwnE 52 w.heap.size w2 v (evL false p from_ n) from own_base hv hsz)
  clear hv
  go_wp2
  go_ret2
  exact ⟨_, rfl, HV.out, (by repeat (first | exact Fr.refl _ _ | exact G.out | refine Fr.al ?_ | refine Fr.dn ?_ | refine Fr.dr ?_))⟩

set_option maxRecDepth 100000 in
set_option maxHeartbeats 2000000 in
theorem prm_ok (w : World) (p : Par) (t : Tsk) (m : Int) (rb pb base : Nat) (hb : At w rb (runO p t m)) (u : Value) (hp : At w pb (.cells #[u] 23)) (xs : List Int) (ho : OwnI 3 base w u xs) (hx : xs.length ≤ 4000) (hbase : base ≤ w.heap.size) (now b c : Int) :
    Calls Tryd.prog 57 #[.pointer (some ⟨rb, 0, none⟩), .agg #[.int .i64 now, .int .i64 b, .int .i64 c], .pointer (some ⟨pb, 0, none⟩)] w fun e w' => e = .returned (.tuple #[]) ∧ At w' rb (runO p (closedT t) m) ∧ (∃ u', At w' pb (.cells #[u'] 23) ∧ OwnI 3 base w' u' (xs ++ [now])) ∧ Fr ([rb, pb] ++ u.ownBlock.toList) w w' := by
  have HC := Lib.hid fun w => closed_ok w t
  have HB := Lib.hid (hb.al (o' := .cells #[.int .i64 now, .int .i64 b, .int .i64 c] 52))
  have HP := Lib.hid (hp.al (o' := .cells #[.int .i64 now, .int .i64 b, .int .i64 c] 52))
  have HO := Lib.hid (OwnI.keep0 ho (Fr.al (o := .cells #[.int .i64 now, .int .i64 b, .int .i64 c] 52) (Fr.refl [] w)))
  have HV := Lib.hid (show At (w.alloc (.cells #[.int .i64 now, .int .i64 b, .int .i64 c] 52)) w.heap.size _ from At.new rfl)
  have hne : rb ≠ pb := by
    intro e
    subst e
    have := hb.symm.trans hp
    simp [runO] at this
  have h1 := hb.lt
  have h2 := hp.lt
  clear hb hp ho
  unfold tv at *
  go_enter Tryd.func57, Tryd.ntmps57
  obtain ⟨⟨k0, k1, k2, k3, k4, k5⟩, k6, k7, k8, k9, k10⟩ := runCells HB.out
  go_wp2_with fail
  refine (HC.out _).mono ?_
  rintro e w1 ⟨rfl, hf⟩
  have HB1 := Lib.hid (HB.out.keep0 hf)
  have HP1 := Lib.hid (HP.out.keep0 hf)
  have HO1 := Lib.hid (OwnI.keep0 HO.out hf)
  have HV1 := Lib.hid (HV.out.keep0 hf)
  have G := Lib.hid (show Fr [rb, pb] w w1 from (Fr.trans (Fr.al (Fr.refl [] w)) hf).weak)
  have hsz := hf.size
  simp only [World.alloc, Array.size_push] at hsz
  clear hf HB HP HO HV k0 k1 k2 k3 k4 k5 k6 k7 k8 k9 k10
  go_wp2_with (refine wpl_store_at (.tmp 12) (.tmp 10) rfl rfl #[.int .i64 (closedT t).due, .int .i64 (closedT t).opn, .int .i64 (closedT t).tries, .int .i64 (closedT t).til] rfl rfl (by kernel_rfl) HB1.out (by simp) (by simp [Value.oneCell']) ?_)
  intro w2 hf2 hA2 hs2
  have HB2 := Lib.hid (show At w2 rb (runO p (closedT t) m) from hA2)
  have HP2 := Lib.hid (HP1.out.keep hf2 (by simpa using Ne.symm hne))
  have HV2 := Lib.hid (HV1.out.keep hf2 (by simp; omega))
  have HO2 := Lib.hid (show OwnI 3 base w2 u xs from own_keep HO1.out hf2 (fun g hg hm => by
    simp at hm
    subst hm
    exact own_ne_ty HO1.out HB1.out (by decide) hg))
  have G := Lib.hid (show Fr [rb, pb] w w2 from G.out.then hf2 (fun x hx => .inl (by simp at hx; simp [hx])))
  have hs3 : w1.heap.size ≤ w2.heap.size := hf2.size
  clear HB1 HP1 HO1 HV1 hf2 hA2 hs2
  have q0 := HP2.out.cell 0
  have e0 := HV2.out.cell 0
  simp only [List.getElem?_toArray, List.getElem?_cons_zero] at q0 e0
  go_wp2_with (at_builtin; refine wpl_append_n Tryd.underlying23 Tryd.infoInt rfl (.tmp 13) (.tmp 16) rfl rfl rfl (At.new (by simp)) (OwnI.keep0 HO2.out (Fr.al (o := .cells #[.int .i64 now] 3) (Fr.refl [] w2))) (by omega) (by simp; omega) ?_)
  intro u' w3 h5 h6
  obtain ⟨a', cap', hu, -, -, -⟩ := (OwnI.is (A := fun _ => False) h5 (by simp)).shape
  obtain ⟨n', hn'⟩ : ∃ n', (xs ++ [now]).length = n' := ⟨_, rfl⟩
  rw [hn'] at hu
  subst hu
  clear hn'
  have HP3 := Lib.hid (HP2.out.al.grown h6 (own_ne_ty HO2.out HP2.out (by decide)))
  have HB3 := Lib.hid (HB2.out.al.grown h6 (own_ne_ty HO2.out HB2.out (by decide)))
  have G := Lib.hid (show Fr ([rb, pb] ++ u.ownBlock.toList) w w3 from (((G.out.al (o := .cells #[.int .i64 now] 3)).mono (S' := [rb, pb] ++ u.ownBlock.toList) (fun x hx => .inl (by simp at hx ⊢; omega)))).then (Fr.grown (S := u.ownBlock.toList) h6 (by intro k hk; simp [hk])) (fun x hx => .inl (by simp at hx ⊢; simp [hx])))
  have hf4 : (Value.slice a' n' cap').ownBlock ≠ some pb := own_ne_ty h5 HP3.out (by decide)
  have HO3 := Lib.hid h5
  clear HP2 HB2 HV2 HO2 h6 h5 q0 e0
  have q0 := HP3.out.cell 0
  have qf := HP3.out.free 0
  simp only [List.getElem?_toArray, List.getElem?_cons_zero] at q0
  have HP4 := Lib.hid (show At (w3.setCell ⟨pb, 0, none⟩ (.slice a' n' cap')) pb (.cells #[.slice a' n' cap'] 23) from HP3.out.set 0 (.slice a' n' cap'))
  have HB4 := Lib.hid (HB3.out.other (a := ⟨pb, 0, none⟩) (v := .slice a' n' cap') (by simpa using Ne.symm hne))
  have HO4 := Lib.hid (show OwnI 3 base (w3.setCell ⟨pb, 0, none⟩ (.slice a' n' cap')) (.slice a' n' cap') (xs ++ [now]) from own_keep HO3.out (Fr.setCell (S := [pb]) w3 ⟨pb, 0, none⟩ (.slice a' n' cap') (by simp)) (fun g hg hm => by
    simp at hm
    subst hm
    exact hf4 hg))
  have G := Lib.hid (G.out.sc (a := ⟨pb, 0, none⟩) (u := .slice a' n' cap') (.inr (by simp)))
  clear hf4
  go_wp2
  go_end0
  exact ⟨rfl, HB4.out, ⟨_, HP4.out, HO4.out⟩, G.out⟩
end Go.Proofs.YtbohmnblegljkaaDoor
