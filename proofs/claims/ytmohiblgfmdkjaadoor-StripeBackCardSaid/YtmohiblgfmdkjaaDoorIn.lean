/-
  baileenum's copies of integers: with marked room behind, and whether they stand as they stood.
-/
import Derived.Test.YtmohiblgfmdkjaaDoorStr
import Derived.Test.YtmohiblgfmdkjaaDoorHR
import Derived.Test.YtmohiblgfmdkjaaDoorRer
import Derived.OwnWalk
import Derived.BigQuiet
namespace Go.Proofs.YtmohiblgfmdkjaaDoor
open Go.RowKit Go.Bl
set_option linter.unusedVariables false
theorem Tryd.infoIntI : (Tryd.prog.info? 3).map (fun i => (i.zero, i.size, i.bytes)) = some (some (.int .i64 0), 1, 8) := by kernel_rfl
theorem info_ints {P : Program} {e : TypeId} (h : (P.info? e).map (fun i => (i.zero, i.size, i.bytes)) = some (some (.int .i64 0), 1, 8)) : ∃ i, P.info? e = some i ∧ i.zero = some (.int .i64 0) ∧ i.size = 1 ∧ i.bytes = 8 := by
  cases hi : P.info? e with
  | none => simp [hi] at h
  | some i => simp [hi] at h; exact ⟨i, rfl, h.1, h.2.1, h.2.2⟩
theorem wpl_append_isI {P : Program} {w : World} {ops : Array Oper} {rest : List Oper} {o : Oper} {a : Go.Act} {Q : Exit → Go.Act → World → Prop} {A : Nat → Prop} {t e : TypeId}
    (ht : P.underlying t = some (.slice e)) (hinfo : (P.info? e).map (fun i => (i.zero, i.size, i.bytes)) = some (some (.int .i64 0), 1, 8)) (hgd : o.guard = none) (s x : Operand)
    (ho : o.op = .call { callee := .builtin .append, args := #[s, x], argTypes := #[t, t] })
    {base : Nat} {v u : Value} {xs ys : List Int} (hs : a.eval s = v) (hx : a.eval x = u) (hown : OwnI e base w v xs) (hb : Is A w u ys)
    (hlen : xs.length + ys.length ≤ 17592186044415) (hbase : base ≤ w.heap.size)
    (h : ∀ v' w', OwnI e base w' v' (xs ++ ys) → w.grownBy w' v.ownBlock → wpList P ops Q rest (a.put o.dst v') w') : wpList P ops Q (o :: rest) a w := by
  refine wpl_append_vs ht hinfo rfl hgd s x ho hs hx hown hb (by intro u hu; simp at hu; obtain ⟨y, -, rfl⟩ := hu; rfl) (by simp [maxLen]; omega) (by simp; omega) hbase fun v' w' h1 h2 => ?_
  refine h v' w' ?_ h2
  unfold OwnI
  rw [List.map_append]
  exact h1
theorem getD_eq_of_map (xs : List Int) (j : Nat) : xs.getD j 0 = xs[j]?.getD 0 := by simp [List.getD_eq_getElem?_getD]

def marksI : List Int := [-91, -92, -93, -94]
/-- integers with marked room behind -/
def MkI (base : Nat) (w : World) (u : Value) (xs : List Int) : Prop :=
  ∃ g cap cur, u = .slice (some ⟨g, 0, none⟩) xs.length cap ∧ base ≤ g ∧ At w g (.cells cur 3 (0, 0)) ∧ xs.length + 4 ≤ cap ∧ cap ≤ maxLen ∧ cur.size = cap ∧ cur.toList.take (xs.length + 4) = (xs ++ marksI).map iv
theorem MkI.keep {base : Nat} {w w' : World} {u : Value} {xs : List Int} {S : List Nat} (h : MkI base w u xs) (hf : Fr S w w') (hS : ∀ g ∈ S, g < base) : MkI base w' u xs := by
  obtain ⟨g, cap, cur, h1, h2, h3, h4⟩ := h
  exact ⟨g, cap, cur, h1, h2, h3.keep hf (fun hm => by have := hS g hm; omega), h4⟩
theorem MkI.keep0 {base : Nat} {w w' : World} {u : Value} {xs : List Int} (h : MkI base w u xs) (hf : Fr [] w w') : MkI base w' u xs := h.keep hf (by simp)
theorem MkI.is {A : Nat → Prop} {base : Nat} {w : World} {u : Value} {xs : List Int} (h : MkI base w u xs) (hA : ∀ b, A b → b < base) : Is A w u xs := by
  obtain ⟨g, cap, cur, h1, h2, h3, h4, h5, h6, h7⟩ := h
  refine ⟨_, cap, by rw [h1, List.length_map], by rw [List.length_map]; omega, h5, .inr ⟨g, 0, cur, 3, (0, 0), rfl, fun h => by have := hA g h; omega, h3, fun i hi => ?_⟩⟩
  simp only [List.length_map] at hi
  have : (cur.toList.take (xs.length + 4))[i]? = ((xs ++ marksI).map iv)[i]? := by rw [h7]
  rw [List.getElem?_take, if_pos (by omega), List.map_append, List.getElem?_append_left (by simpa using hi)] at this
  simpa using this

end Go.Proofs.YtmohiblgfmdkjaaDoor
