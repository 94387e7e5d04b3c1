/-
  Plain: at which ticks a silent run asks and stops.
-/
import Derived.Test.YtbohmnblegljkaaDoorEvP
namespace Go.Proofs.YtbohmnblegljkaaDoor
open Go.RowKit Go.Bl
set_option linter.unusedVariables false

def cnt1 (l : List Ev) : Nat := l.foldl (fun a e => if e.2.1 = 1 then a + 1 else a) 0
def cnt3 (l : List Ev) : Nat := l.foldl (fun a e => if e.2.1 = 3 then a + 1 else a) 0
theorem cnt1_snoc (l : List Ev) (e : Ev) : cnt1 (l ++ [e]) = if e.2.1 = 1 then cnt1 l + 1 else cnt1 l := by simp [cnt1]
theorem cnt3_snoc (l : List Ev) (e : Ev) : cnt3 (l ++ [e]) = if e.2.1 = 3 then cnt3 l + 1 else cnt3 l := by simp [cnt3]
/-- when is asked for the k-th time -/
def askT_ (p : Par) (from_ : Int) (k : Int) : Int := from_ + p.per + k * cyc p
/-- an event that comes behind a asks and d ends is right -/
def Rgt (p : Par) (from_ : Int) (a d : Nat) (e : Ev) : Prop :=
  (e.2.1 = 1 → e.1 = askT_ p from_ a ∧ e.2.2 = a ∧ d = a) ∧ (e.2.1 = 3 → e.1 = askT_ p from_ d + waitN p ∧ e.2.2 = d ∧ a = d + 1)
def EvOK (p : Par) (from_ : Int) (l : List Ev) : Prop := ∀ i, i < l.length → Rgt p from_ (cnt1 (l.take i)) (cnt3 (l.take i)) (l.getD i (0, 0, 0))
theorem EvOK.nil (p : Par) (from_ : Int) : EvOK p from_ [] := fun i hi => by simp at hi
theorem EvOK.snoc {p : Par} {from_ : Int} {l : List Ev} {e : Ev} (h : EvOK p from_ l) (he : Rgt p from_ (cnt1 l) (cnt3 l) e) : EvOK p from_ (l ++ [e]) := by
  intro i hi
  rw [List.length_append, List.length_singleton] at hi
  by_cases hl : i < l.length
  · have := h i hl
    rw [List.take_append_of_le_length (by omega)]
    simpa [List.getD_eq_getElem?_getD, List.getElem?_append_left hl] using this
  · have : i = l.length := by omega
    subst this
    simpa [List.getD_eq_getElem?_getD] using he
/-- what holds of a silent run behind its tick 'now': X is the last ask's tick, a asks, d ends -/
structure Cy (p : Par) (from_ now X : Int) (a d : Nat) (s : Tsk × Int) : Prop where
  id : s.2 = a
  due : (a ≠ 0 ∧ s.1.due = X + p.per) ∨ (a = 0 ∧ s.1.due = from_ + p.per)
  st : (s.1.opn = -1 ∧ d = a ∧ (a ≠ 0 → s.1.due = X + p.per ∧ X + waitN p ≤ now) ∧ now < X + cyc p) ∨
    (s.1.opn = (a : Int) - 1 ∧ a = d + 1 ∧ s.1.due = X + p.per ∧ 0 ≤ s.1.tries ∧ s.1.tries ≤ p.ret ∧ s.1.til = X + p.pat * (s.1.tries + 1) ∧ X ≤ now ∧ now < s.1.til)

theorem cy_start (p : Par) (hc : chk p = 0) (from_ : Int) : Cy p from_ from_ (from_ + p.per - cyc p) 0 0 (newT p from_, 0) := by
  have hp := (chk_zero p hc).2.2.2.1
  have hcy := cyc_bd p hc
  refine ⟨rfl, .inr ⟨rfl, rfl⟩, .inl ⟨rfl, rfl, fun h => absurd rfl h, by omega⟩⟩

theorem cy_step (p : Par) (hc : chk p = 0) (from_ now X : Int) (a d : Nat) (s : Tsk × Int) (h : Cy p from_ now X a d s) (hX : X = askT_ p from_ ((a : Int) - 1)) :
    ∃ X' a' d', Cy p from_ (now + 1) X' a' d' (stepS p (now + 1) s) ∧ X' = askT_ p from_ ((a' : Int) - 1) ∧
      (evS p (now + 1) s = [] ∧ a' = a ∧ d' = d ∨ ∃ e, evS p (now + 1) s = [e] ∧ Rgt p from_ a d e ∧ a' = (if e.2.1 = 1 then a + 1 else a) ∧ d' = (if e.2.1 = 3 then d + 1 else d)) := by
  obtain ⟨-, -, -, hp1, hp2, hp3⟩ := chk_zero p hc
  have hcy := cyc_ok p hc
  have hcb := cyc_bd p hc
  have hwb := waitN_bd p hc
  have hX2 : X + cyc p = askT_ p from_ (a : Int) := by rw [hX]; unfold askT_; rw [Int.sub_mul]; omega
  obtain ⟨⟨due, opn, tries, til⟩, id⟩ := s
  obtain ⟨h1, h2, h3⟩ := h
  simp only at h1 h2 h3
  subst h1
  rcases h3 with ⟨rfl, rfl, h5, h6⟩ | ⟨rfl, rfl, h5, h6, h7, h8, h9, h10⟩
  · -- none is open
    by_cases hd : due ≤ now + 1
    · have hw : wantsF p ⟨due, -1, tries, til⟩ (now + 1) = 1 := by unfold wantsF; simp [hd]
      have hev : evS p (now + 1) (⟨due, -1, tries, til⟩, (d : Int)) = [(now + 1, 1, (d : Int))] := by simp [evS, hw]
      have hss : stepS p (now + 1) (⟨due, -1, tries, til⟩, (d : Int)) = (askedT p d (now + 1), (d : Int) + 1) := by simp [stepS, hw]
      have hn : now + 1 = X + cyc p := by
        by_cases ha : d = 0
        · rcases h2 with h2 | ⟨_, h2⟩
          · subst ha
            unfold askT_ at hX
            simp at hX
            omega
          · subst ha
            unfold askT_ at hX
            simp at hX
            omega
        · have := h5 ha
          omega
      refine ⟨X + cyc p, d + 1, d, ⟨?_, ?_, ?_⟩, ?_, .inr ⟨_, hev, ⟨fun _ => ⟨?_, rfl, rfl⟩, fun h => by simp at h⟩, by simp, by simp⟩⟩
      · rw [hss]; simp
      · rw [hss]; left; simp [askedT]; omega
      · rw [hss]
        right
        simp only [askedT]
        refine ⟨by simp, by simp, by omega, by omega, by omega, by rw [show p.pat * (0 + 1) = p.pat by simp]; omega, by omega, by omega⟩
      · rw [hX2]; simp
      · show now + 1 = _
        rw [hn, hX2]
    · have hw : wantsF p ⟨due, -1, tries, til⟩ (now + 1) = 0 := by unfold wantsF; simp [hd]
      have hev : evS p (now + 1) (⟨due, -1, tries, til⟩, (d : Int)) = [] := by simp [evS, hw]
      have hss : stepS p (now + 1) (⟨due, -1, tries, til⟩, (d : Int)) = (⟨due, -1, tries, til⟩, (d : Int)) := by simp [stepS, hw]
      refine ⟨X, d, d, ⟨by rw [hss], by rw [hss]; exact h2, ?_⟩, hX, .inl ⟨hev, rfl, rfl⟩⟩
      rw [hss]
      refine .inl ⟨rfl, rfl, fun h => ⟨(h5 h).1, by have := h5 h; omega⟩, ?_⟩
      rcases h2 with ⟨h2', h2⟩ | ⟨ha, h2⟩
      · omega
      · subst ha
        unfold askT_ at hX
        simp at hX
        omega
  · -- one is open
    have ho : ¬ ((d + 1 : Nat) : Int) - 1 ≤ -1 := by omega
    by_cases ht : now + 1 < til
    · have hw : wantsF p ⟨due, ((d + 1 : Nat) : Int) - 1, tries, til⟩ (now + 1) = 0 := by unfold wantsF; simp only [ho, if_false, ht, if_true]
      have hev : evS p (now + 1) (⟨due, ((d + 1 : Nat) : Int) - 1, tries, til⟩, ((d + 1 : Nat) : Int)) = [] := by simp only [evS, hw]; simp
      have hss : stepS p (now + 1) (⟨due, ((d + 1 : Nat) : Int) - 1, tries, til⟩, ((d + 1 : Nat) : Int)) = (⟨due, ((d + 1 : Nat) : Int) - 1, tries, til⟩, ((d + 1 : Nat) : Int)) := by simp only [stepS, hw]; simp
      refine ⟨X, d + 1, d, ⟨by rw [hss], by rw [hss]; exact h2, ?_⟩, hX, .inl ⟨hev, rfl, rfl⟩⟩
      rw [hss]
      exact .inr ⟨rfl, rfl, h5, h6, h7, h8, by omega, ht⟩
    · have hn : now + 1 = til := by omega
      by_cases hr : tries < p.ret
      · have hw : wantsF p ⟨due, ((d + 1 : Nat) : Int) - 1, tries, til⟩ (now + 1) = 2 := by unfold wantsF; simp only [ho, if_false, ht, hr, if_true]
        have hev : evS p (now + 1) (⟨due, ((d + 1 : Nat) : Int) - 1, tries, til⟩, ((d + 1 : Nat) : Int)) = [(now + 1, 2, ((d + 1 : Nat) : Int) - 1)] := by simp only [evS, hw]; simp
        have hss : stepS p (now + 1) (⟨due, ((d + 1 : Nat) : Int) - 1, tries, til⟩, ((d + 1 : Nat) : Int)) = (againT p ⟨due, ((d + 1 : Nat) : Int) - 1, tries, til⟩ (now + 1), ((d + 1 : Nat) : Int)) := by simp only [stepS, hw]; simp
        refine ⟨X, d + 1, d, ⟨by rw [hss], by rw [hss]; exact h2, ?_⟩, hX, .inr ⟨_, hev, ⟨fun h => by simp at h, fun h => by simp at h⟩, by simp, by simp⟩⟩
        rw [hss]
        right
        simp only [againT]
        have hm : p.pat * (tries + 1 + 1) = p.pat * (tries + 1) + p.pat := by rw [Int.mul_add p.pat (tries + 1) 1]; omega
        refine ⟨by simp, by simp, h5, by omega, by omega, by rw [hm]; omega, by omega, by omega⟩
      · have htr : tries = p.ret := by omega
        have hw : wantsF p ⟨due, ((d + 1 : Nat) : Int) - 1, tries, til⟩ (now + 1) = 3 := by unfold wantsF; simp only [ho, if_false, ht, hr]
        have hev : evS p (now + 1) (⟨due, ((d + 1 : Nat) : Int) - 1, tries, til⟩, ((d + 1 : Nat) : Int)) = [(now + 1, 3, ((d + 1 : Nat) : Int) - 1)] := by simp only [evS, hw]; simp
        have hss : stepS p (now + 1) (⟨due, ((d + 1 : Nat) : Int) - 1, tries, til⟩, ((d + 1 : Nat) : Int)) = (closedT ⟨due, ((d + 1 : Nat) : Int) - 1, tries, til⟩, ((d + 1 : Nat) : Int)) := by simp only [stepS, hw]; simp
        have htw : til = X + waitN p := by rw [h8, htr]; rfl
        refine ⟨X, d + 1, d + 1, ⟨by rw [hss], by rw [hss]; exact .inl ⟨by omega, h5⟩, ?_⟩, hX, .inr ⟨_, hev, ⟨fun h => by simp at h, fun _ => ⟨?_, ?_, rfl⟩⟩, by simp, by simp⟩⟩
        · rw [hss]
          left
          simp only [closedT]
          refine ⟨trivial, trivial, fun _ => ⟨h5, by omega⟩, by omega⟩
        · show now + 1 = _
          rw [hn, htw, hX]
          congr 2
          omega
        · show ((d + 1 : Nat) : Int) - 1 = _
          omega

/-- the whole silent run -/
theorem cy_all (p : Par) (hc : chk p = 0) (from_ : Int) : ∀ n : Nat, ∃ X, Cy p from_ (from_ + n) X (cnt1 (evL false p from_ n)) (cnt3 (evL false p from_ n)) (stS false p from_ n) ∧ X = askT_ p from_ ((cnt1 (evL false p from_ n) : Int) - 1) ∧
    EvOK p from_ (evL false p from_ n) ∧ cnt1 (evL false p from_ n) ≤ n
  | 0 => by
    refine ⟨_, by simpa [evL, stS, cnt1, cnt3] using cy_start p hc from_, ?_, EvOK.nil _ _, by simp [evL, cnt1]⟩
    simp [evL, cnt1, askT_]
    omega
  | n + 1 => by
    obtain ⟨X, h1, h2, h3, h4⟩ := cy_all p hc from_ n
    obtain ⟨X', a', d', g1, g2, g3⟩ := cy_step p hc from_ _ X _ _ _ h1 h2
    have e1 : from_ + 1 + (n : Int) = from_ + (n : Int) + 1 := by omega
    have e2 : from_ + ((n + 1 : Nat) : Int) = from_ + (n : Int) + 1 := by omega
    have hss : stS false p from_ (n + 1) = stepS p (from_ + n + 1) (stS false p from_ n) := by
      show shutS false p _ _ = _
      unfold shutS
      rw [if_neg (by simp), e1]
    have hev : evL false p from_ (n + 1) = evL false p from_ n ++ evS p (from_ + n + 1) (stS false p from_ n) := by
      show _ ++ evS p _ _ = _
      rw [e1]
    rcases g3 with ⟨g3, rfl, rfl⟩ | ⟨e, g3, g4, g5, g6⟩
    · rw [hss, hev, g3, List.append_nil, e2]
      exact ⟨X', g1, g2, h3, by omega⟩
    · rw [hss, hev, g3, e2, cnt1_snoc, cnt3_snoc, ← g5, ← g6]
      refine ⟨X', g1, g2, h3.snoc g4, ?_⟩
      rw [g5]
      split <;> omega

theorem cy_end (p : Par) (hc : chk p = 0) (from_ : Int) (n : Nat) : from_ + n < askT_ p from_ (cnt1 (evL false p from_ n)) ∧ from_ + n < askT_ p from_ (cnt3 (evL false p from_ n)) + waitN p ∧
    (cnt1 (evL false p from_ n) ≠ 0 → askT_ p from_ ((cnt1 (evL false p from_ n) : Int) - 1) ≤ from_ + n) ∧ cnt3 (evL false p from_ n) ≤ cnt1 (evL false p from_ n) := by
  obtain ⟨X, ⟨h1, h2, h3⟩, hX, -, -⟩ := cy_all p hc from_ n
  obtain ⟨-, -, -, hp1, hp2, hp3⟩ := chk_zero p hc
  have hcb := cyc_bd p hc
  have hwb := waitN_bd p hc
  have hX2 : X + cyc p = askT_ p from_ (cnt1 (evL false p from_ n) : Int) := by rw [hX]; unfold askT_; rw [Int.sub_mul]; omega
  rw [← hX2, ← hX]
  rcases h3 with ⟨g1, g2, g3, g4⟩ | ⟨g1, g2, g3, g4, g5, g6, g7, g8⟩
  · rw [g2, ← hX2]
    exact ⟨by omega, by omega, fun h => by have := g3 h; omega, Nat.le_refl _⟩
  · have hd : askT_ p from_ (cnt3 (evL false p from_ n) : Int) = X := by rw [hX, g2]; congr 1; omega
    rw [hd]
    have hm : p.pat * ((stS false p from_ n).1.tries + 1) ≤ p.pat * (p.ret + 1) := Int.mul_le_mul_of_nonneg_left (by omega) (by omega)
    have hwn : waitN p = p.pat * (p.ret + 1) := rfl
    refine ⟨by omega, by omega, fun _ => by omega, by omega⟩
end Go.Proofs.YtbohmnblegljkaaDoor
