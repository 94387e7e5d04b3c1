/-
  Layer 40: Ways, Spots; the document's Ways.
-/
import Derived.Test.YtbohmnblegljkaaDoorRchk
import Derived.Test.YtbohmnblegljkaaDoorG3
namespace Go.Proofs.YtbohmnblegljkaaDoor
open Go.RowKit Go.Bl
set_option linter.unusedVariables false

def wayN (s k : Nat) : Int := if k % 2 = 1 ∧ k / 2 < s then 2 else 1
def usedN (s k : Nat) : Nat := min (k / 2) s
def waysL (s n : Nat) : List Int := (List.range n).map (wayN s)
theorem waysL_succ (s k : Nat) : waysL s (k + 1) = waysL s k ++ [wayN s k] := by simp [waysL, List.range_succ]
theorem waysL_len (s n : Nat) : (waysL s n).length = n := by simp [waysL]
theorem waysL_get (s n k : Nat) (h : k < n) : (waysL s n).getD k 0 = wayN s k := by simp [waysL, List.getD_eq_getElem?_getD, h]
/-- what a round finds: two ways -/
theorem way_step (s k : Nat) : (wayN s k = 2 ∧ usedN s k < s ∧ usedN s k < k - usedN s k ∧ usedN s (k + 1) = usedN s k + 1 ∧ k + 1 - usedN s (k + 1) = k - usedN s k) ∨
    (wayN s k = 1 ∧ (s ≤ usedN s k ∨ k - usedN s k ≤ usedN s k) ∧ usedN s (k + 1) = usedN s k ∧ k + 1 - usedN s (k + 1) = k - usedN s k + 1) := by
  unfold wayN usedN
  by_cases h : k % 2 = 1 ∧ k / 2 < s
  · rw [if_pos h]; left; omega
  · rw [if_neg h]; right; omega
theorem usedN_le (s k : Nat) : usedN s k ≤ k := by unfold usedN; omega

set_option maxHeartbeats 1000000 in
theorem way_two (w : World) (p : Par) (u r : Int) (h1 : u < p.sent) (h2 : u < r) : Calls Tryd.prog 47 #[pv p, .int .i64 u, .int .i64 r] w fun e w' => e = .returned (.int .i64 2) ∧ Fr [] w w' := by
  unfold pv
  go_enter Tryd.func47, Tryd.ntmps47
  go_wp2
  go_ret
  exact ⟨rfl, Fr.alloc _ _⟩
set_option maxHeartbeats 1000000 in
theorem way_one (w : World) (p : Par) (u r : Int) (h : p.sent ≤ u ∨ r ≤ u) : Calls Tryd.prog 47 #[pv p, .int .i64 u, .int .i64 r] w fun e w' => e = .returned (.int .i64 1) ∧ Fr [] w w' := by
  have h' : p.sent ≤ u ∨ (u < p.sent ∧ r ≤ u) := by omega
  unfold pv
  rcases h' with h' | h'
  all_goals
    go_enter Tryd.func47, Tryd.ntmps47
    go_wp2
    go_ret
    exact ⟨rfl, Fr.alloc _ _⟩
set_option maxHeartbeats 1000000 in
theorem rway_two (w : World) (p : Par) (u r : Int) (h1 : u < p.sent) (h2 : u < r) : Calls Tryd.prog 48 #[pv p, .int .i64 u, .int .i64 r] w fun e w' => e = .returned (.int .i64 2) ∧ Fr [] w w' := by
  unfold pv
  go_enter Tryd.func48, Tryd.ntmps48
  go_wp2
  go_ret
  exact ⟨rfl, Fr.alloc _ _⟩
set_option maxHeartbeats 1000000 in
theorem rway_one (w : World) (p : Par) (u r : Int) (h : p.sent ≤ u ∨ r ≤ u) : Calls Tryd.prog 48 #[pv p, .int .i64 u, .int .i64 r] w fun e w' => e = .returned (.int .i64 1) ∧ Fr [] w w' := by
  have h' : p.sent ≤ u ∨ (u < p.sent ∧ r ≤ u) := by omega
  unfold pv
  rcases h' with h' | h'
  all_goals
    go_enter Tryd.func48, Tryd.ntmps48
    go_wp2
    go_ret
    exact ⟨rfl, Fr.alloc _ _⟩

def waysE (p : Par) (many : Int) : Nat := if chk p ≠ 0 then chk p else if many < 0 ∨ 1000 < many then 1 else 0

set_option maxHeartbeats 1000000 in
theorem ways_bad (L : List Nat) (E : Nat → Addr) (B : Nat) (w : World) (hE : Errs L E B w) (h1 : 1 ∈ L) (h8 : 8 ∈ L) (h18 : 18 ∈ L) (p : Par) (many : Int) (h : waysE p many ≠ 0) :
    Calls Tryd.prog 24 #[pv p, .int .i64 many] w fun e w' => ∃ ev, e = .returned (.tuple #[.slice none 0 0, ev]) ∧ ErrV E w' (waysE p many) ev ∧ Fr [] w w' := by
  have HE := Lib.hid hE
  clear hE
  by_cases hc : chk p = 0
  · have hw : waysE p many = 1 ∧ (many < 0 ∨ (0 ≤ many ∧ 1000 < many)) := by
      unfold waysE at h ⊢
      rw [if_neg (by simp [hc])] at h ⊢
      split at h
      · rename_i h'
        exact ⟨if_pos h', by omega⟩
      · exact absurd rfl h
    obtain ⟨hw1, h3⟩ := hw
    have HW := Lib.hid hw1
    have HC := Lib.hid hc
    clear hw1 hc h
    unfold pv
    rcases h3 with h3 | h3
    all_goals
      go_enter Tryd.func24, Tryd.ntmps24
      have G := Lib.hid (Fr.refl [] w)
      go_wp2_with fail
      refine (check_any L E B _ (HE.out.keep0 (by repeat (first | exact Fr.refl _ _ | exact G.out | refine Fr.al ?_ | refine Fr.dn ?_ | refine Fr.dr ?_))) h1 h8 h18 p).mono ?_
      rintro e w1 ⟨v, rfl, hv, hf⟩
      have hf : Fr [] w w1 := Fr.trans (by repeat (first | exact Fr.refl _ _ | refine Fr.al ?_ | refine Fr.dn ?_ | refine Fr.dr ?_)) hf
      replace G := Lib.hid (G.out.trans hf)
      clear hf
      rw [HC.out] at hv
      have := hv.nil_iff
      subst this
      clear hv
      have c1 := (HE.out.keep0 G.out).cell 1 h1
      simp only [gOf, List.getD_eq_getElem?_getD, List.getElem?_cons_zero, List.getElem?_cons_succ, Option.getD_some] at c1
      go_wp2
      go_quiet (fail)
      go_wp2
      go_ret2
      exact ⟨_, rfl, by rw [HW.out]; exact .plain 1 (by decide), (by repeat (first | exact Fr.refl _ _ | exact G.out | refine Fr.al ?_ | refine Fr.dn ?_ | refine Fr.dr ?_))⟩
  · have hw1 : waysE p many = chk p := by unfold waysE; rw [if_pos hc]
    have HW := Lib.hid hw1
    clear hw1 h
    unfold pv
    go_enter Tryd.func24, Tryd.ntmps24
    have G := Lib.hid (Fr.refl [] w)
    go_wp2_with fail
    refine (check_any L E B _ (HE.out.keep0 (by repeat (first | exact Fr.refl _ _ | exact G.out | refine Fr.al ?_ | refine Fr.dn ?_ | refine Fr.dr ?_))) h1 h8 h18 p).mono ?_
    rintro e w1 ⟨v, rfl, hv, hf⟩
    have hf : Fr [] w w1 := Fr.trans (by repeat (first | exact Fr.refl _ _ | refine Fr.al ?_ | refine Fr.dn ?_ | refine Fr.dr ?_)) hf
    replace G := Lib.hid (G.out.trans hf)
    clear hf
    obtain ⟨t, a, rfl⟩ := hv.some_of hc
    have HV := Lib.hid hv
    clear hv hc
    go_wp2
    go_ret2
    exact ⟨_, rfl, by rw [HW.out]; exact HV.out, (by repeat (first | exact Fr.refl _ _ | exact G.out | refine Fr.al ?_ | refine Fr.dn ?_ | refine Fr.dr ?_))⟩

set_option maxHeartbeats 2000000 in
theorem ways_ok (L : List Nat) (E : Nat → Addr) (B : Nat) (w : World) (hE : Errs L E B w) (h1 : 1 ∈ L) (h8 : 8 ∈ L) (h18 : 18 ∈ L) (p : Par) (hc : chk p = 0) (n s : Nat) (hn : n ≤ 1000) (hs : p.sent = s) :
    Calls Tryd.prog 24 #[pv p, .int .i64 n] w fun e w' => ∃ v, e = .returned (.tuple #[v, .nilIface]) ∧ OwnI 3 w.heap.size w' v (waysL s n) ∧ Fr [] w w' := by
  have HE := Lib.hid hE
  have HC := Lib.hid hc
  have HS := Lib.hid hs
  clear hE hc hs
  unfold pv
  go_enter Tryd.func24, Tryd.ntmps24
  go_wp2_with fail
  refine (check_any L E B _ (HE.out.keep0 (Fr.alloc _ _)) h1 h8 h18 p).mono ?_
  rintro e w1 ⟨v, rfl, hv, hf0⟩
  have G := Lib.hid ((Fr.alloc (S := []) w _).trans hf0)
  rw [HC.out] at hv
  have := hv.nil_iff
  subst this
  clear hv HC
  have HPB := Lib.hid (show At w1 w.heap.size _ from (At.new rfl).keep0 hf0)
  have hsz1 := hf0.size
  simp only [World.alloc, Array.size_push] at hsz1
  clear hf0
  go_wp2
  go_loopw [7, 24] (fun v c wr => ∃ k : Nat, k ≤ n ∧ c = .int .i64 k ∧ Hid (OwnI 3 (w1.heap.size + 1) wr v (waysL s k)) ∧ Hid (At wr w.heap.size (.cells #[.int .i64 p.size, .int .i64 p.sent, .int .i64 p.spots, .int .i64 p.per, .int .i64 p.pat, .int .i64 p.ret] 36 (0, 0))) ∧ Hid (At wr w1.heap.size (.cells #[.int .i64 0, .int .i64 ((k - usedN s k : Nat) : Int), .int .i64 (usedN s k : Nat)] 95 (0, 0))) ∧ Hid (Fr [] w wr)) (fun _ c _ => n - (intOf c).toNat)
  case atStart => exact ⟨0, Nat.zero_le _, rfl, OwnI.nil _ _ _, HPB.out.al, At.new rfl, (by repeat (first | exact Fr.refl _ _ | exact G.out | refine Fr.al ?_ | refine Fr.dn ?_ | refine Fr.dr ?_))⟩
  case round =>
    obtain ⟨k, hk, rfl, HO, HP, HC, HF⟩ := hrel
    by_cases hkn : k < n
    · have hu := usedN_le s k
      have hst := way_step s k
      have hsp : p.sent = s := HS.out
      have hlen := waysL_len s k
      have hsucc := waysL_succ s k
      have hsz2 := HF.out.size
      have hsz3 := HC.out.lt
      obtain ⟨k0, k1, k2, k3, k4, k5⟩ := par_cells HP.out
      have q1 := HC.out.cell 1
      have q2 := HC.out.cell 2
      simp only [List.getElem?_toArray, List.getElem?_cons_zero, List.getElem?_cons_succ] at q1 q2
      obtain ⟨u, hU⟩ : ∃ u, usedN s k = u := ⟨_, rfl⟩
      obtain ⟨r, hR⟩ : ∃ r, k - u = r := ⟨_, rfl⟩
      rw [hU] at hu hst HC q1 q2
      rw [hR] at hst HC q1
      have hrk : r ≤ k := by omega
      have HLEN := Lib.hid hlen
      have HSUC := Lib.hid hsucc
      clear hlen hsucc hU hR
      rcases hst with ⟨g1, g2, g3, g4, g5⟩ | ⟨g1, g2, g4, g5⟩
      · rw [g1] at HSUC
        have hus : (u : Int) < p.sent ∧ (u : Int) < r := by omega
        have HX4 := Lib.hid g4
        have HX5 := Lib.hid g5
        clear g1 g4 g5 hsp
        go_wp2_with fail
        refine (way_two _ p u r hus.1 hus.2).mono ?_
        rintro e w2 ⟨rfl, hf⟩
        have HP2 := Lib.hid (HP.out.keep0 hf)
        have HC2 := Lib.hid (HC.out.keep0 hf)
        have HO2 := Lib.hid (HO.out.keep0 hf)
        have HF2 := Lib.hid (HF.out.trans hf)
        have hsz4 := hf.size
        clear hf k0 k1 k2 k3 k4 k5 q1 q2 HP HC HO HF
        have q2 := HC2.out.cell 2
        have qf := HC2.out.free 2
        simp only [List.getElem?_toArray, List.getElem?_cons_zero, List.getElem?_cons_succ] at q2
        have HO3 := Lib.hid (HO2.out.keepS (Fr.al (o := .cells #[.int .i64 2] 3) (Fr.sc (S := [w1.heap.size]) (a := ⟨w1.heap.size, 2, none⟩) (u := .int .i64 ((u : Int) + 1)) (Fr.refl _ w2) (.inr (by simp)))) (by simp))
        go_wp2_with (at_builtin; refine wpl_append_n Tryd.underlying23 Tryd.infoInt rfl (.tmp 37) (.tmp 39) rfl rfl rfl (At.new (by simp)) HO3.out (by rw [HLEN.out]; omega) (by simp; omega) ?_)
        intro v' w' h5 h6
        have HP3 := Lib.hid ((HP2.out.other (a := ⟨w1.heap.size, 2, none⟩) (v := .int .i64 ((u : Int) + 1)) (by simp; omega)).al.grown h6 (HO3.out.ne (by omega)))
        have HC3 := Lib.hid (show At w' w1.heap.size (.cells #[.int .i64 0, .int .i64 (r : Nat), .int .i64 (u + 1 : Nat)] 95 (0, 0)) from (HC2.out.set 2 (.int .i64 ((u : Int) + 1))).al.grown h6 (HO3.out.ne (by omega)))
        have HF3 := Lib.hid (OwnI.fr HO3.out (Fr.al (HF2.out.sc (.inl (by simp; omega)))) h6 (by omega))
        clear HP2 HC2 HO2 HO3 HF2 h6 q2 qf
        go_wp2
        go_roundw
        case rel => exact ⟨k + 1, by omega, by go_num, by rw [HSUC.out]; exact h5, HP3.out, by rw [HX5.out, HX4.out]; exact HC3.out, HF3.out⟩
        case measure => simp [intOf]; omega
      · rw [g1] at HSUC
        have hus : p.sent ≤ (u : Int) ∨ (r : Int) ≤ u := by omega
        have HX4 := Lib.hid g4
        have HX5 := Lib.hid g5
        clear g1 g4 g5 hsp
        go_wp2_with fail
        refine (way_one _ p u r hus).mono ?_
        rintro e w2 ⟨rfl, hf⟩
        have HP2 := Lib.hid (HP.out.keep0 hf)
        have HC2 := Lib.hid (HC.out.keep0 hf)
        have HO2 := Lib.hid (HO.out.keep0 hf)
        have HF2 := Lib.hid (HF.out.trans hf)
        have hsz4 := hf.size
        clear hf k0 k1 k2 k3 k4 k5 q1 q2 HP HC HO HF
        have q2 := HC2.out.cell 1
        have qf := HC2.out.free 1
        simp only [List.getElem?_toArray, List.getElem?_cons_zero, List.getElem?_cons_succ] at q2
        have HO3 := Lib.hid (HO2.out.keepS (Fr.al (o := .cells #[.int .i64 1] 3) (Fr.sc (S := [w1.heap.size]) (a := ⟨w1.heap.size, 1, none⟩) (u := .int .i64 ((r : Int) + 1)) (Fr.refl _ w2) (.inr (by simp)))) (by simp))
        go_wp2_with (at_builtin; refine wpl_append_n Tryd.underlying23 Tryd.infoInt rfl (.tmp 37) (.tmp 39) rfl rfl rfl (At.new (by simp)) HO3.out (by rw [HLEN.out]; omega) (by simp; omega) ?_)
        intro v' w' h5 h6
        have HP3 := Lib.hid ((HP2.out.other (a := ⟨w1.heap.size, 1, none⟩) (v := .int .i64 ((r : Int) + 1)) (by simp; omega)).al.grown h6 (HO3.out.ne (by omega)))
        have HC3 := Lib.hid (show At w' w1.heap.size (.cells #[.int .i64 0, .int .i64 (r + 1 : Nat), .int .i64 (u : Nat)] 95 (0, 0)) from (HC2.out.set 1 (.int .i64 ((r : Int) + 1))).al.grown h6 (HO3.out.ne (by omega)))
        have HF3 := Lib.hid (OwnI.fr HO3.out (Fr.al (HF2.out.sc (.inl (by simp; omega)))) h6 (by omega))
        clear HP2 HC2 HO2 HO3 HF2 h6 q2 qf
        go_wp2
        go_roundw
        case rel => exact ⟨k + 1, by omega, by go_num, by rw [HSUC.out]; exact h5, HP3.out, by rw [HX5.out, HX4.out]; exact HC3.out, HF3.out⟩
        case measure => simp [intOf]; omega
    · obtain rfl : k = n := by omega
      clear HS HP HC
      go_wp2
      go_ret2
      exact ⟨_, rfl, OwnV.base HO.out (by omega), HF.out⟩
end Go.Proofs.YtbohmnblegljkaaDoor
