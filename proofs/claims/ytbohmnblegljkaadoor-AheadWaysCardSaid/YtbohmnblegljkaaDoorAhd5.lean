/-
  Layer 40: the document's Ways; Spots.
-/
import Derived.Test.YtbohmnblegljkaaDoorAhd4
namespace Go.Proofs.YtbohmnblegljkaaDoor
open Go.RowKit Go.Bl
set_option linter.unusedVariables false

set_option maxHeartbeats 2000000 in
theorem rways_ok (w : World) (p : Par) (n s : Nat) (hn : n ≤ 1000) (hs : p.sent = s) :
    Calls Tryd.prog 26 #[pv p, .int .i64 n] w fun e w' => ∃ v, e = .returned v ∧ OwnI 3 w.heap.size w' v (waysL s n) ∧ Fr [] w w' := by
  have HS := Lib.hid hs
  clear hs
  have HPB := Lib.hid (show At (w.alloc (.cells #[.int .i64 p.size, .int .i64 p.sent, .int .i64 p.spots, .int .i64 p.per, .int .i64 p.pat, .int .i64 p.ret] 40)) w.heap.size _ from At.new rfl)
  have hO0 := Lib.hid (OwnV.lit 3 (w.heap.size + 1) (w.alloc (.cells #[.int .i64 p.size, .int .i64 p.sent, .int .i64 p.spots, .int .i64 p.per, .int .i64 p.pat, .int .i64 p.ret] 40)) #[] (by simp) (by simp [maxLen]))
  unfold pv
  go_enter Tryd.func26, Tryd.ntmps26
  go_wp2
  go_loopw [5, 6, 7] (fun v x y wr => ∃ k : Nat, k ≤ n ∧ x = .int .i64 (usedN s k : Nat) ∧ y = .int .i64 (k - usedN s k : Nat) ∧ Hid (OwnI 3 (w.heap.size + 1) wr v (waysL s k)) ∧ Hid (At wr w.heap.size (.cells #[.int .i64 p.size, .int .i64 p.sent, .int .i64 p.spots, .int .i64 p.per, .int .i64 p.pat, .int .i64 p.ret] 40 (0, 0))) ∧ Hid (Fr [] w wr)) (fun _ x y _ => n - (intOf x + intOf y).toNat)
  case atStart => exact ⟨0, Nat.zero_le _, by simp [usedN], by simp, (by show OwnI _ _ _ _ _; unfold OwnI waysL; simpa using hO0.out), HPB.out.al, (by repeat (first | exact Fr.refl _ _ | exact G.out | refine Fr.al ?_ | refine Fr.dn ?_ | refine Fr.dr ?_))⟩
  case round =>
    obtain ⟨k, hk, rfl, rfl, HO, HP, HF⟩ := hrel
    obtain ⟨a, cap, rfl, h2, h3, -⟩ := (HO.out.is (A := fun _ => False) (by simp)).shape
    have hlen := waysL_len s k
    rw [hlen] at h2 ⊢
    rw [hlen] at HO
    unfold maxLen at h3
    have hu := usedN_le s k
    have hst := way_step s k
    have hsp : p.sent = s := HS.out
    have hsucc := waysL_succ s k
    have hsz2 := HF.out.size
    have hsz3 := HP.out.lt
    obtain ⟨u, hU⟩ : ∃ u, usedN s k = u := ⟨_, rfl⟩
    obtain ⟨r, hR⟩ : ∃ r, k - u = r := ⟨_, rfl⟩
    have hur : u + r = k := by omega
    rw [hU] at hu hst ⊢
    rw [hR] at hst ⊢
    have HLEN := Lib.hid hlen
    have HSUC := Lib.hid hsucc
    by_cases hkn : k < n
    · have hrk : r ≤ k := by omega
      obtain ⟨k0, k1, k2, k3, k4, k5⟩ := rpar_cells HP.out
      have HUR := Lib.hid hur
      clear hlen hsucc hU hR hur
      rcases hst with ⟨g1, g2, g3, g4, g5⟩ | ⟨g1, g2, g4, g5⟩
      · rw [g1] at HSUC
        have hus : (u : Int) < p.sent ∧ (u : Int) < r := by omega
        have HX4 := Lib.hid g4
        have HX5 := Lib.hid g5
        clear g1 g4 g5 hsp
        go_wp2_with fail
        refine (rway_two _ p u r hus.1 hus.2).mono ?_
        rintro e w2 ⟨rfl, hf⟩
        have HP2 := Lib.hid (HP.out.keep0 hf)
        have HF2 := Lib.hid (HF.out.trans hf)
        have HO3 := Lib.hid (HO.out.keep0 (Fr.al (o := .cells #[.int .i64 2] 3) hf))
        have hsz4 := hf.size
        clear hf k0 k1 k2 k3 k4 k5 HP HO HF
        go_wp2_with (at_builtin; refine wpl_append_n Tryd.underlying23 Tryd.infoInt rfl (.tmp 24) (.tmp 26) rfl rfl rfl (At.new (by simp)) HO3.out (by rw [HLEN.out]; omega) (by simp; omega) ?_)
        intro v' w' h5 h6
        have HP3 := Lib.hid (HP2.out.al.grown h6 (HO3.out.ne (by omega)))
        have HF3 := Lib.hid (OwnI.fr HO3.out (Fr.al HF2.out) h6 (by omega))
        clear HP2 HO3 HF2 h6
        go_wp2
        go_roundw
        case rel => exact ⟨k + 1, by omega, by rw [HX4.out]; go_num, by rw [HX5.out], by rw [HSUC.out]; exact h5, HP3.out, HF3.out⟩
        case measure => have := HUR.out; simp [intOf]; omega
      · rw [g1] at HSUC
        have hus : p.sent ≤ (u : Int) ∨ (r : Int) ≤ u := by omega
        have HX4 := Lib.hid g4
        have HX5 := Lib.hid g5
        clear g1 g4 g5 hsp
        go_wp2_with fail
        refine (rway_one _ p u r hus).mono ?_
        rintro e w2 ⟨rfl, hf⟩
        have HP2 := Lib.hid (HP.out.keep0 hf)
        have HF2 := Lib.hid (HF.out.trans hf)
        have HO3 := Lib.hid (HO.out.keep0 (Fr.al (o := .cells #[.int .i64 1] 3) hf))
        have hsz4 := hf.size
        clear hf k0 k1 k2 k3 k4 k5 HP HO HF
        go_wp2_with (at_builtin; refine wpl_append_n Tryd.underlying23 Tryd.infoInt rfl (.tmp 24) (.tmp 26) rfl rfl rfl (At.new (by simp)) HO3.out (by rw [HLEN.out]; omega) (by simp; omega) ?_)
        intro v' w' h5 h6
        have HP3 := Lib.hid (HP2.out.al.grown h6 (HO3.out.ne (by omega)))
        have HF3 := Lib.hid (OwnI.fr HO3.out (Fr.al HF2.out) h6 (by omega))
        clear HP2 HO3 HF2 h6
        go_wp2
        go_roundw
        case rel => exact ⟨k + 1, by omega, by rw [HX4.out], by rw [HX5.out]; go_num, by rw [HSUC.out]; exact h5, HP3.out, HF3.out⟩
        case measure => have := HUR.out; simp [intOf]; omega
    · obtain rfl : k = n := by omega
      clear HS HP hst hlen hsucc hur hU hR
      go_wp2
      go_ret
      exact ⟨_, rfl, OwnV.base HO.out (by omega), HF.out⟩

/-- how many are one -/
def ones (l : List Int) : Nat := l.foldl (fun a x => if x = 1 then a + 1 else a) 0
theorem ones_take (l : List Int) (k : Nat) (h : k < l.length) : ones (l.take (k + 1)) = ones (l.take k) + if l.getD k 0 = 1 then 1 else 0 := by
  unfold ones
  rw [List.take_succ_eq_append_getElem h, List.foldl_append]
  simp only [List.foldl_cons, List.foldl_nil, List.getD_eq_getElem?_getD, List.getElem?_eq_getElem h, Option.getD_some]
  split <;> rfl
theorem ones_le (l : List Int) (k : Nat) (h : k ≤ l.length) : ones (l.take k) ≤ k := by
  induction k with
  | zero => simp [ones]
  | succ k ih =>
    have := ih (by omega)
    rw [ones_take l k (by omega)]
    split <;> omega
/-- how many ways are spot checks -/
def spotsV (p : Par) (many : Int) : Int := if waysE p many ≠ 0 then 0 else ones (waysL p.sent.toNat many.toNat)

set_option maxHeartbeats 2000000 in
theorem spots_any (L : List Nat) (E : Nat → Addr) (B : Nat) (w : World) (hE : Errs L E B w) (h1 : 1 ∈ L) (h8 : 8 ∈ L) (h18 : 18 ∈ L) (p : Par) (many : Int) :
    Calls Tryd.prog 25 #[pv p, .int .i64 many] w fun e w' => e = .returned (.int .i64 (spotsV p many)) ∧ Fr [] w w' := by
  by_cases hw : waysE p many = 0
  · have hc : chk p = 0 ∧ 0 ≤ many ∧ many ≤ 1000 := by
      unfold waysE at hw
      by_cases hc : chk p = 0
      · rw [if_neg (by simp [hc])] at hw
        refine ⟨hc, ?_⟩
        split at hw
        · cases hw
        · omega
      · rw [if_pos hc] at hw; exact absurd hw hc
    obtain ⟨hc, hm0, hm1⟩ := hc
    have hs := (chk_zero p hc).2.1
    have hsp : spotsV p many = ones (waysL p.sent.toNat many.toNat) := by unfold spotsV; rw [if_neg (by simp [hw])]
    obtain ⟨n, rfl⟩ : ∃ n : Nat, many = n := ⟨many.toNat, by omega⟩
    obtain ⟨s, hsn⟩ : ∃ s : Nat, p.sent = s := ⟨p.sent.toNat, by omega⟩
    rw [hsp, hsn, Int.toNat_natCast, Int.toNat_natCast]
    have HW := Lib.hid fun w hE => ways_ok L E B w hE h1 h8 h18 p hc n s (by omega) hsn
    have hll := waysL_len s n
    obtain ⟨l, hL⟩ : ∃ l, waysL s n = l := ⟨_, rfl⟩
    rw [hL] at HW hll ⊢
    have HLL := Lib.hid hll
    have HE := Lib.hid hE
    clear hE hw hc hsp hL hsn hll
    unfold pv at *
    go_enter Tryd.func25, Tryd.ntmps25
    have G := Lib.hid (Fr.refl [] w)
    go_wp2_with fail
    refine (HW.out _ (HE.out.keep0 (by repeat (first | exact Fr.refl _ _ | exact G.out | refine Fr.al ?_ | refine Fr.dn ?_ | refine Fr.dr ?_)))).mono ?_
    rintro e w1 ⟨v, rfl, hv, hf⟩
    have hf : Fr [] w w1 := Fr.trans (by repeat (first | exact Fr.refl _ _ | refine Fr.al ?_ | refine Fr.dn ?_ | refine Fr.dr ?_)) hf
    replace G := Lib.hid (G.out.trans hf)
    clear hf
    obtain ⟨a, cap, rfl, h2, h3, hcell⟩ := (hv.is (A := fun _ => False) (by simp)).shape
    rw [HLL.out] at h2 hcell ⊢
    unfold maxLen at h3
    clear hv
    go_wp2
    go_loop [7, 20] (fun t i => ∃ j : Nat, j ≤ n ∧ i = .int .i64 j ∧ t = .int .i64 (ones (l.take j) : Nat)) (fun _ i => n - (intOf i).toNat)
    case atStart => exact ⟨0, Nat.zero_le _, rfl, rfl⟩
    case round =>
      obtain ⟨j, hj, rfl, rfl⟩ := hrel
      have hle := ones_le l j (by have := HLL.out; omega)
      have hjn' := HLL.out
      by_cases hjn : j < n
      · obtain ⟨b1, o1, rfl, -, hcc⟩ := hcell (by omega)
        have g1 := hcc j hjn
        have hst := ones_take l j (by omega)
        obtain ⟨x, HX⟩ : ∃ x, Hid (l.getD j 0 = x) := ⟨_, rfl⟩
        rw [HX.out] at g1 hst
        obtain ⟨y, HY⟩ : ∃ y, Hid (ones (l.take j) = y) := ⟨_, rfl⟩
        rw [HY.out] at hst hle ⊢
        clear hcc hcell hjn'
        by_cases hx : x = 1
        · rw [if_pos hx] at hst
          subst hx
          have HST := Lib.hid hst
          clear hst
          go_wp2
          go_round
          case rel => exact ⟨j + 1, by omega, by go_num, by rw [HST.out]; go_num⟩
          case measure => simp [intOf]; omega
        · rw [if_neg hx] at hst
          have HST := Lib.hid hst
          have hx1 : (x == 1) = false := by simpa using hx
          clear hst
          go_wp2
          go_round
          case rel => exact ⟨j + 1, by omega, by go_num, by rw [HST.out]; rfl⟩
          case measure => simp [intOf]; omega
      · obtain rfl : j = n := by omega
        have he := Lib.hid (List.take_of_length_le (Nat.le_of_eq hjn'))
        rw [he.out]
        clear hcell hjn' hle
        go_wp2
        go_ret
        exact ⟨rfl, (by repeat (first | exact Fr.refl _ _ | exact G.out | refine Fr.al ?_ | refine Fr.dn ?_ | refine Fr.dr ?_))⟩
  · have hsp : spotsV p many = 0 := by unfold spotsV; rw [if_pos hw]
    have HSP := Lib.hid hsp
    have HW := Lib.hid fun w hE => ways_bad L E B w hE h1 h8 h18 p many hw
    have HE := Lib.hid hE
    rw [HSP.out]
    clear hE hsp
    unfold pv at *
    go_enter Tryd.func25, Tryd.ntmps25
    have G := Lib.hid (Fr.refl [] w)
    go_wp2_with fail
    refine (HW.out _ (HE.out.keep0 (by repeat (first | exact Fr.refl _ _ | exact G.out | refine Fr.al ?_ | refine Fr.dn ?_ | refine Fr.dr ?_)))).mono ?_
    rintro e w1 ⟨ev, rfl, hv, hf⟩
    have hf : Fr [] w w1 := Fr.trans (by repeat (first | exact Fr.refl _ _ | refine Fr.al ?_ | refine Fr.dn ?_ | refine Fr.dr ?_)) hf
    replace G := Lib.hid (G.out.trans hf)
    clear hf
    obtain ⟨t, a, rfl⟩ := hv.some_of hw
    clear hv hw
    go_wp2
    go_ret
    exact ⟨rfl, (by repeat (first | exact Fr.refl _ _ | exact G.out | refine Fr.al ?_ | refine Fr.dn ?_ | refine Fr.dr ?_))⟩
end Go.Proofs.YtbohmnblegljkaaDoor
