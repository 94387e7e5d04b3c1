/-
  Layer 35: a state, and its lines. (printed by genlst.py)
-/
import Derived.Test.YtdkhgpnidamalaaDoorItw
namespace Go.Proofs.YtdkhgpnidamalaaDoor
open Go.RowKit Go.Bl
set_option linter.unusedVariables false
def entR (e : EntP) : List Value := [.int .i64 e.id, .int .i64 e.obj, .int .i64 e.way, .int .i64 e.idx, .int .i64 e.tick, .int .i64 e.verd, .int .i64 e.at_]
theorem entR_C (e : EntP) : (entR e).toArray = entC e := rfl
theorem entR_all (e : EntP) : (entR e).toArray.all (·.oneCell') = true := by simp [entR, Value.oneCell']
theorem entR_one (e : EntP) : ∀ u ∈ entR e, u.oneCell' = true := by
  intro u hu
  simp only [entR, List.mem_cons, List.not_mem_nil, or_false] at hu
  rcases hu with rfl | rfl | rfl | rfl | rfl | rfl | rfl <;> rfl
def itS (x : ItP) : Value := .string (bA (itemL x))
def enS (e : EntP) : Value := .string (bA (entL e))
/-- what a state's arguments are -/
structure StA (A : Nat → Prop) (w : World) (iv ev : Value) (its : List ItP) (ens : List EntP) : Prop where
  ri : RdK A 76 w iv (its.map itC)
  re : RdK A 7 w ev (ens.map entR)
  wi : ∀ x ∈ its, x.wf
  we : ∀ e ∈ ens, e.ok
theorem StA.keep0 {A : Nat → Prop} {w w' : World} {iv ev : Value} {its : List ItP} {ens : List EntP} (h : StA A w iv ev its ens) (hf : Fr [] w w') : StA A w' iv ev its ens := ⟨h.ri.keep0 hf, h.re.keep0 hf, h.wi, h.we⟩
end Go.Proofs.YtdkhgpnidamalaaDoor
