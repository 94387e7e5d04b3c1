/-
  Plain: the states and events of a run, tick by tick.
-/
import Derived.Test.YtbohmnblegljkaaDoorClk
namespace Go.Proofs.YtbohmnblegljkaaDoor
open Go.RowKit Go.Bl
set_option linter.unusedVariables false

abbrev Ev := Int × Int × Int
def stepS (p : Par) (now : Int) (s : Tsk × Int) : Tsk × Int :=
  if wantsF p s.1 now = 1 then (askedT p s.2 now, s.2 + 1) else if wantsF p s.1 now = 2 then (againT p s.1 now, s.2) else if wantsF p s.1 now = 3 then (closedT s.1, s.2) else s
def evS (p : Par) (now : Int) (s : Tsk × Int) : List Ev :=
  if wantsF p s.1 now = 1 then [(now, 1, s.2)] else if wantsF p s.1 now = 2 then [(now, 2, s.1.opn)] else if wantsF p s.1 now = 3 then [(now, 3, s.1.opn)] else []
def shutS (pr : Bool) (p : Par) (now : Int) (s : Tsk × Int) : Tsk × Int := if pr = true ∧ wantsF p s.1 now ≠ 0 then (closedT (stepS p now s).1, (stepS p now s).2) else stepS p now s
def stS (pr : Bool) (p : Par) (from_ : Int) : Nat → Tsk × Int
  | 0 => (newT p from_, 0)
  | k + 1 => shutS pr p (from_ + 1 + k) (stS pr p from_ k)
def evL (pr : Bool) (p : Par) (from_ : Int) : Nat → List Ev
  | 0 => []
  | k + 1 => evL pr p from_ k ++ evS p (from_ + 1 + k) (stS pr p from_ k)

/-- what holds of a state behind k ticks -/
structure StI (p : Par) (from_ : Int) (k : Nat) (s : Tsk × Int) : Prop where
  due0 : 0 ≤ s.1.due
  due : s.1.due ≤ from_ + k + 10000
  opn0 : -1 ≤ s.1.opn
  opn : s.1.opn ≤ k
  tries0 : 0 ≤ s.1.tries
  tries : s.1.tries ≤ 5
  til0 : 0 ≤ s.1.til
  til : s.1.til ≤ from_ + k + 10000
  id0 : 0 ≤ s.2
  id : s.2 ≤ k
  last : s.1.opn = -1 ∨ s.1.opn = s.2 - 1
  own : -1 < s.1.opn → s.1.tries ≤ p.ret

theorem stepS_I (p : Par) (hc : chk p = 0) (from_ : Int) (hf : 0 ≤ from_) (k : Nat) (s : Tsk × Int) (h : StI p from_ k s) : StI p from_ (k + 1) (stepS p (from_ + 1 + k) s) := by
  obtain ⟨-, -, -, h3, h4, h5⟩ := chk_zero p hc
  obtain ⟨a1, a2, a3, a4, a5, a6, a7, a8, a9, a10, a11, a12⟩ := h
  rcases wants_cases p s.1 (from_ + 1 + k) with ⟨g1, g2, g⟩ | ⟨g1, g2, g⟩ | ⟨g1, g2, g⟩ | ⟨g1, g2, g3, g⟩ | ⟨g1, g2, g3, g⟩
  · unfold stepS
    simp only [g, if_true]
    constructor <;> simp only [askedT] <;> omega
  · unfold stepS
    simp only [g]
    constructor <;> simp <;> omega
  · unfold stepS
    simp only [g]
    constructor <;> simp <;> omega
  · unfold stepS
    simp only [g]
    have := a12 g1
    constructor <;> simp [againT] <;> omega
  · unfold stepS
    simp only [g]
    constructor <;> simp [closedT] <;> omega
theorem shutS_I (pr : Bool) (p : Par) (hc : chk p = 0) (from_ : Int) (hf : 0 ≤ from_) (k : Nat) (s : Tsk × Int) (h : StI p from_ k s) : StI p from_ (k + 1) (shutS pr p (from_ + 1 + k) s) := by
  have h1 := stepS_I p hc from_ hf k s h
  unfold shutS
  split
  · obtain ⟨a1, a2, a3, a4, a5, a6, a7, a8, a9, a10, a11, a12⟩ := h1
    constructor <;> simp [closedT] <;> omega
  · exact h1
theorem stS_I (pr : Bool) (p : Par) (hc : chk p = 0) (from_ : Int) (hf : 0 ≤ from_) : ∀ k : Nat, StI p from_ k (stS pr p from_ k)
  | 0 => by
    obtain ⟨-, -, -, h3, h4, h5⟩ := chk_zero p hc
    constructor <;> simp only [stS, newT] <;> omega
  | k + 1 => shutS_I pr p hc from_ hf k _ (stS_I pr p hc from_ hf k)
theorem StI.big {p : Par} {from_ : Int} {k : Nat} {s : Tsk × Int} (h : StI p from_ k s) (hf0 : 0 ≤ from_) (hf : from_ ≤ 1099511627776) (hk : k ≤ 4000) : TskB s.1 4000000000000 ∧ 0 ≤ s.2 ∧ s.2 ≤ 4000000000000 := by
  obtain ⟨a1, a2, a3, a4, a5, a6, a7, a8, a9, a10, a11, a12⟩ := h
  refine ⟨?_, by omega, by omega⟩
  constructor <;> omega
theorem evL_len (pr : Bool) (p : Par) (from_ : Int) : ∀ k : Nat, (evL pr p from_ k).length ≤ k
  | 0 => by simp [evL]
  | k + 1 => by
    have := evL_len pr p from_ k
    have : (evS p (from_ + 1 + k) (stS pr p from_ k)).length ≤ 1 := by
      unfold evS
      split
      · simp
      · split
        · simp
        · split <;> simp
    simp only [evL, List.length_append]
    omega
end Go.Proofs.YtbohmnblegljkaaDoor
