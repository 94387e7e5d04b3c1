/-
  Layer 26: tasks; and the document's.
-/
import Derived.Test.YtbohmnblegljkaaDoorRchk
import Derived.Test.YtbohmnblegljkaaDoorG3
namespace Go.Proofs.YtbohmnblegljkaaDoor
open Go.RowKit Go.Bl
set_option linter.unusedVariables false

structure Tsk where
  due : Int
  opn : Int
  tries : Int
  til : Int
def tv (t : Tsk) : Value := .agg #[.int .i64 t.due, .int .i64 t.opn, .int .i64 t.tries, .int .i64 t.til]
/-- small numbers everywhere -/
structure TskB (t : Tsk) (B : Int) : Prop where
  due0 : 0 ≤ t.due
  due : t.due ≤ B
  opn0 : -1 ≤ t.opn
  opn : t.opn ≤ B
  tries0 : 0 ≤ t.tries
  tries : t.tries ≤ B
  til0 : 0 ≤ t.til
  til : t.til ≤ B
def wantsF (p : Par) (t : Tsk) (now : Int) : Int := if t.opn ≤ -1 then (if t.due ≤ now then 1 else 0) else if now < t.til then 0 else if t.tries < p.ret then 2 else 3
def newT (p : Par) (now : Int) : Tsk := ⟨now + p.per, -1, 0, 0⟩
def askedT (p : Par) (id now : Int) : Tsk := ⟨now + p.per, id, 0, now + p.pat⟩
def againT (p : Par) (t : Tsk) (now : Int) : Tsk := ⟨t.due, t.opn, t.tries + 1, now + p.pat⟩
def closedT (t : Tsk) : Tsk := ⟨t.due, -1, 0, 0⟩

def Big (n : Int) : Prop := 0 ≤ n ∧ n ≤ 4000000000000

set_option maxHeartbeats 1000000 in
theorem new_ok (w : World) (p : Par) (hc : chk p = 0) (now : Int) (h : Big now) : Calls Tryd.prog 66 #[pv p, .int .i64 now] w fun e w' => e = .returned (tv (newT p now)) ∧ Fr [] w w' := by
  have hp := (chk_zero p hc).2.2.2.1
  have h1 := h.1
  have h2 := h.2
  have HP := Lib.hid (And.intro hc h)
  clear hc h
  unfold pv
  go_enter Tryd.func66, Tryd.ntmps66
  go_wp2
  exact bodyPost_ret (v := tv (newT p now)) (by simp [results, Tryd.results66, go_sem, tv, newT]) rfl ⟨rfl, (by repeat (first | exact Fr.refl _ _ | refine Fr.al ?_ | refine Fr.dn ?_ | refine Fr.dr ?_))⟩
set_option maxHeartbeats 1000000 in
theorem rnew_ok (w : World) (p : Par) (hc : chk p = 0) (now : Int) (h : Big now) : Calls Tryd.prog 59 #[pv p, .int .i64 now] w fun e w' => e = .returned (tv (newT p now)) ∧ Fr [] w w' := by
  have hp := (chk_zero p hc).2.2.2
  have h1 := h.1
  have h2 := h.2
  have hp1 := hp.1
  have hp2 := hp.2.1
  have HP := Lib.hid (And.intro hc h)
  clear hc h hp
  unfold pv
  go_enter Tryd.func59, Tryd.ntmps59
  go_wp2
  exact bodyPost_ret (v := tv (newT p now)) (by simp [results, Tryd.results59, go_sem, tv, newT, askedT, againT, closedT]) rfl ⟨rfl, (by repeat (first | exact Fr.refl _ _ | refine Fr.al ?_ | refine Fr.dn ?_ | refine Fr.dr ?_))⟩

set_option maxHeartbeats 1000000 in
theorem asked_ok (w : World) (t : Tsk) (p : Par) (hc : chk p = 0) (id now : Int) (h : Big now) : Calls Tryd.prog 78 #[tv t, pv p, .int .i64 id, .int .i64 now] w fun e w' => e = .returned (tv (askedT p id now)) ∧ Fr [] w w' := by
  have hp := (chk_zero p hc).2.2.2
  have h1 := h.1
  have h2 := h.2
  have hp1 := hp.1
  have hp2 := hp.2.1
  have HP := Lib.hid (And.intro hc h)
  clear hc h hp
  unfold pv tv
  go_enter Tryd.func78, Tryd.ntmps78
  go_wp2
  exact bodyPost_ret (v := tv (askedT p id now)) (by simp [results, Tryd.results78, go_sem, tv, newT, askedT, againT, closedT]) rfl ⟨rfl, (by repeat (first | exact Fr.refl _ _ | refine Fr.al ?_ | refine Fr.dn ?_ | refine Fr.dr ?_))⟩

set_option maxHeartbeats 1000000 in
theorem rasked_ok (w : World) (p : Par) (hc : chk p = 0) (id now : Int) (h : Big now) : Calls Tryd.prog 61 #[pv p, .int .i64 id, .int .i64 now] w fun e w' => e = .returned (tv (askedT p id now)) ∧ Fr [] w w' := by
  have hp := (chk_zero p hc).2.2.2
  have h1 := h.1
  have h2 := h.2
  have hp1 := hp.1
  have hp2 := hp.2.1
  have HP := Lib.hid (And.intro hc h)
  clear hc h hp
  unfold pv
  go_enter Tryd.func61, Tryd.ntmps61
  go_wp2
  exact bodyPost_ret (v := tv (askedT p id now)) (by simp [results, Tryd.results61, go_sem, tv, newT, askedT, againT, closedT]) rfl ⟨rfl, (by repeat (first | exact Fr.refl _ _ | refine Fr.al ?_ | refine Fr.dn ?_ | refine Fr.dr ?_))⟩

set_option maxHeartbeats 1000000 in
theorem again_ok (w : World) (t : Tsk) (ht : TskB t 4000000000000) (p : Par) (hc : chk p = 0) (now : Int) (h : Big now) : Calls Tryd.prog 79 #[tv t, pv p, .int .i64 now] w fun e w' => e = .returned (tv (againT p t now)) ∧ Fr [] w w' := by
  have hp := (chk_zero p hc).2.2.2
  have h1 := h.1
  have h2 := h.2
  have hp1 := hp.1
  have hp2 := hp.2.1
  have HP := Lib.hid (And.intro hc h)
  clear hc h hp
  have ht2 := ht.tries
  have ht1 := ht.tries0
  have HT := Lib.hid ht
  clear ht
  unfold pv tv
  go_enter Tryd.func79, Tryd.ntmps79
  go_wp2
  exact bodyPost_ret (v := tv (againT p t now)) (by simp [results, Tryd.results79, go_sem, tv, newT, askedT, againT, closedT]) rfl ⟨rfl, (by repeat (first | exact Fr.refl _ _ | refine Fr.al ?_ | refine Fr.dn ?_ | refine Fr.dr ?_))⟩

set_option maxHeartbeats 1000000 in
theorem ragain_ok (w : World) (t : Tsk) (ht : TskB t 4000000000000) (p : Par) (hc : chk p = 0) (now : Int) (h : Big now) : Calls Tryd.prog 62 #[tv t, pv p, .int .i64 now] w fun e w' => e = .returned (tv (againT p t now)) ∧ Fr [] w w' := by
  have hp := (chk_zero p hc).2.2.2
  have h1 := h.1
  have h2 := h.2
  have hp1 := hp.1
  have hp2 := hp.2.1
  have HP := Lib.hid (And.intro hc h)
  clear hc h hp
  have ht2 := ht.tries
  have ht1 := ht.tries0
  have HT := Lib.hid ht
  clear ht
  unfold pv tv
  go_enter Tryd.func62, Tryd.ntmps62
  go_wp2
  exact bodyPost_ret (v := tv (againT p t now)) (by simp [results, Tryd.results62, go_sem, tv, newT, askedT, againT, closedT]) rfl ⟨rfl, (by repeat (first | exact Fr.refl _ _ | refine Fr.al ?_ | refine Fr.dn ?_ | refine Fr.dr ?_))⟩

set_option maxHeartbeats 1000000 in
theorem closed_ok (w : World) (t : Tsk) : Calls Tryd.prog 58 #[tv t] w fun e w' => e = .returned (tv (closedT t)) ∧ Fr [] w w' := by
  unfold tv
  go_enter Tryd.func58, Tryd.ntmps58
  go_wp2
  exact bodyPost_ret (v := tv (closedT t)) (by simp [results, Tryd.results58, go_sem, tv, newT, askedT, againT, closedT]) rfl ⟨rfl, (by repeat (first | exact Fr.refl _ _ | refine Fr.al ?_ | refine Fr.dn ?_ | refine Fr.dr ?_))⟩

set_option maxHeartbeats 1000000 in
theorem rclosed_ok (w : World) (t : Tsk) : Calls Tryd.prog 63 #[tv t] w fun e w' => e = .returned (tv (closedT t)) ∧ Fr [] w w' := by
  unfold tv
  go_enter Tryd.func63, Tryd.ntmps63
  go_wp2
  exact bodyPost_ret (v := tv (closedT t)) (by simp [results, Tryd.results63, go_sem, tv, newT, askedT, againT, closedT]) rfl ⟨rfl, (by repeat (first | exact Fr.refl _ _ | refine Fr.al ?_ | refine Fr.dn ?_ | refine Fr.dr ?_))⟩

set_option maxHeartbeats 1000000 in
theorem right15_ok (w : World) (p : Par) (hc : chk p = 0) : Calls Tryd.prog 76 #[pv p] w fun e w' => e = .returned (.bool true) ∧ Fr [] w w' := by
  have HR := Lib.hid fun w => rcheck_any w p
  rw [hc] at HR
  clear hc
  unfold pv
  go_enter Tryd.func76, Tryd.ntmps76
  have G := Lib.hid (Fr.refl [] w)
  go_wp2_with fail
  refine (HR.out _).mono ?_
  rintro e w1 ⟨s, v, rfl, hf⟩
  have hf : Fr [] w w1 := Fr.trans (by repeat (first | exact Fr.refl _ _ | refine Fr.al ?_ | refine Fr.dn ?_ | refine Fr.dr ?_)) hf
  replace G := Lib.hid (G.out.trans hf)
  clear hf
  go_wp2
  go_ret
  exact ⟨rfl, (by repeat (first | exact Fr.refl _ _ | exact G.out | refine Fr.al ?_ | refine Fr.dn ?_ | refine Fr.dr ?_))⟩

def taskO (t : Tsk) (ty : TypeId) : Obj := .cells #[.int .i64 t.due, .int .i64 t.opn, .int .i64 t.tries, .int .i64 t.til] ty
theorem tskCells {w : World} {b ty : Nat} {t : Tsk} (h : At w b (taskO t ty)) :
    w.cell? ⟨b, 0, none⟩ = some (.int .i64 t.due) ∧ w.cell? ⟨b, 1, none⟩ = some (.int .i64 t.opn) ∧ w.cell? ⟨b, 2, none⟩ = some (.int .i64 t.tries) ∧ w.cell? ⟨b, 3, none⟩ = some (.int .i64 t.til) :=
  ⟨by rw [cell_of h]; rfl, by rw [cell_of h]; rfl, by rw [cell_of h]; rfl, by rw [cell_of h]; rfl⟩
def parO' (p : Par) (ty : TypeId) : Obj := .cells #[.int .i64 p.size, .int .i64 p.sent, .int .i64 p.spots, .int .i64 p.per, .int .i64 p.pat, .int .i64 p.ret] ty
theorem parCells {w : World} {b ty : Nat} {p : Par} (h : At w b (parO' p ty)) :
    w.cell? ⟨b, 0, none⟩ = some (.int .i64 p.size) ∧ w.cell? ⟨b, 1, none⟩ = some (.int .i64 p.sent) ∧ w.cell? ⟨b, 2, none⟩ = some (.int .i64 p.spots) ∧ w.cell? ⟨b, 3, none⟩ = some (.int .i64 p.per) ∧ w.cell? ⟨b, 4, none⟩ = some (.int .i64 p.pat) ∧ w.cell? ⟨b, 5, none⟩ = some (.int .i64 p.ret) :=
  ⟨by rw [cell_of h]; rfl, by rw [cell_of h]; rfl, by rw [cell_of h]; rfl, by rw [cell_of h]; rfl, by rw [cell_of h]; rfl, by rw [cell_of h]; rfl⟩

/-- the ways a task's wish goes -/
theorem wants_cases (p : Par) (t : Tsk) (now : Int) : (t.opn ≤ -1 ∧ t.due ≤ now ∧ wantsF p t now = 1) ∨ (t.opn ≤ -1 ∧ now < t.due ∧ wantsF p t now = 0) ∨ (-1 < t.opn ∧ now < t.til ∧ wantsF p t now = 0) ∨
    (-1 < t.opn ∧ t.til ≤ now ∧ t.tries < p.ret ∧ wantsF p t now = 2) ∨ (-1 < t.opn ∧ t.til ≤ now ∧ p.ret ≤ t.tries ∧ wantsF p t now = 3) := by
  unfold wantsF
  by_cases h1 : t.opn ≤ -1
  · rw [if_pos h1]
    by_cases h2 : t.due ≤ now
    · rw [if_pos h2]; omega
    · rw [if_neg h2]; omega
  · rw [if_neg h1]
    by_cases h2 : now < t.til
    · rw [if_pos h2]; omega
    · rw [if_neg h2]
      by_cases h3 : t.tries < p.ret
      · rw [if_pos h3]; omega
      · rw [if_neg h3]; omega

set_option maxHeartbeats 1000000 in
theorem wants_ok (L : List Nat) (E : Nat → Addr) (B : Nat) (w : World) (hE : Errs L E B w) (h1 : 1 ∈ L) (h8 : 8 ∈ L) (h18 : 18 ∈ L) (t : Tsk) (p : Par) (hc : chk p = 0) (now : Int) :
    Calls Tryd.prog 77 #[tv t, pv p, .int .i64 now] w fun e w' => e = .returned (.int .i64 (wantsF p t now)) ∧ Fr [] w w' := by
  have hcs := wants_cases p t now
  have HC := Lib.hid fun w hE => check_any L E B w hE h1 h8 h18 p
  rw [hc] at HC
  obtain ⟨r, hr⟩ : ∃ r, wantsF p t now = r := ⟨_, rfl⟩
  rw [hr] at hcs ⊢
  have HT := Lib.hid (show At ((w.alloc (taskO t 112)).alloc (parO' p 36)) w.heap.size (taskO t 112) from (At.new rfl).al)
  have HPP := Lib.hid (show At ((w.alloc (taskO t 112)).alloc (parO' p 36)) (w.heap.size + 1) (parO' p 36) from At.new (by simp))
  have HE := Lib.hid (hE.keep0 (Fr.al (o := parO' p 36) (Fr.alloc w (taskO t 112))))
  clear hE hc hr
  unfold pv tv at *
  rcases hcs with ⟨g1, g2, rfl⟩ | ⟨g1, g2, rfl⟩ | ⟨g1, g2, rfl⟩ | ⟨g1, g2, g3, rfl⟩ | ⟨g1, g2, g3, rfl⟩
  all_goals
    go_enter Tryd.func77, Tryd.ntmps77
    have G := Lib.hid (show Fr [] w ((w.alloc (taskO t 112)).alloc (parO' p 36)) from (by repeat (first | exact Fr.refl _ _ | refine Fr.al ?_ | refine Fr.dn ?_ | refine Fr.dr ?_)))
    go_wp2_with fail
    refine (HC.out _ HE.out).mono ?_
    rintro e w1 ⟨v, rfl, hv, hf⟩
    have hf : Fr [] ((w.alloc (taskO t 112)).alloc (parO' p 36)) w1 := Fr.trans (by repeat (first | exact Fr.refl _ _ | refine Fr.al ?_ | refine Fr.dn ?_ | refine Fr.dr ?_)) hf
    replace G := Lib.hid (G.out.trans hf)
    replace HT := Lib.hid (HT.out.keep0 hf)
    replace HPP := Lib.hid (HPP.out.keep0 hf)
    clear hf
    have := hv.nil_iff
    subst this
    clear hv
    obtain ⟨k0, k1, k2, k3⟩ := tskCells HT.out
    obtain ⟨q0, q1, q2, q3, q4, q5⟩ := parCells HPP.out
    go_wp2
    go_ret
    exact ⟨rfl, (by repeat (first | exact Fr.refl _ _ | exact G.out | refine Fr.al ?_ | refine Fr.dn ?_ | refine Fr.dr ?_))⟩

set_option maxHeartbeats 1000000 in
theorem rwants_ok (w : World) (t : Tsk) (p : Par) (hc : chk p = 0) (now : Int) :
    Calls Tryd.prog 60 #[tv t, pv p, .int .i64 now] w fun e w' => e = .returned (.int .i64 (wantsF p t now)) ∧ Fr [] w w' := by
  have hcs := wants_cases p t now
  have HC := Lib.hid fun w => right15_ok w p hc
  obtain ⟨r, hr⟩ : ∃ r, wantsF p t now = r := ⟨_, rfl⟩
  rw [hr] at hcs ⊢
  have HT := Lib.hid (show At ((w.alloc (taskO t 116)).alloc (parO' p 40)) w.heap.size (taskO t 116) from (At.new rfl).al)
  have HPP := Lib.hid (show At ((w.alloc (taskO t 116)).alloc (parO' p 40)) (w.heap.size + 1) (parO' p 40) from At.new (by simp))
  clear hc hr
  unfold pv tv at *
  rcases hcs with ⟨g1, g2, rfl⟩ | ⟨g1, g2, rfl⟩ | ⟨g1, g2, rfl⟩ | ⟨g1, g2, g3, rfl⟩ | ⟨g1, g2, g3, rfl⟩
  all_goals
    go_enter Tryd.func60, Tryd.ntmps60
    have G := Lib.hid (show Fr [] w ((w.alloc (taskO t 116)).alloc (parO' p 40)) from (by repeat (first | exact Fr.refl _ _ | refine Fr.al ?_ | refine Fr.dn ?_ | refine Fr.dr ?_)))
    go_wp2_with fail
    refine (HC.out _).mono ?_
    rintro e w1 ⟨rfl, hf⟩
    have hf : Fr [] ((w.alloc (taskO t 116)).alloc (parO' p 40)) w1 := Fr.trans (by repeat (first | exact Fr.refl _ _ | refine Fr.al ?_ | refine Fr.dn ?_ | refine Fr.dr ?_)) hf
    replace G := Lib.hid (G.out.trans hf)
    replace HT := Lib.hid (HT.out.keep0 hf)
    replace HPP := Lib.hid (HPP.out.keep0 hf)
    clear hf
    obtain ⟨k0, k1, k2, k3⟩ := tskCells HT.out
    obtain ⟨q0, q1, q2, q3, q4, q5⟩ := parCells HPP.out
    go_wp2
    go_ret
    exact ⟨rfl, (by repeat (first | exact Fr.refl _ _ | exact G.out | refine Fr.al ?_ | refine Fr.dn ?_ | refine Fr.dr ?_))⟩
end Go.Proofs.YtbohmnblegljkaaDoor
