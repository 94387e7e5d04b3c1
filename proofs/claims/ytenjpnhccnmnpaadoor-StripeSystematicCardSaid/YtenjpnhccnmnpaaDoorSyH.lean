/-
  Layer 6 in plain Lean: what the law StripeSystematic gathers, block by block.
-/
import Derived.Test.YtenjpnhccnmnpaaDoorSyL
namespace Go.Bl
open Go.RowKit
set_option linter.unusedVariables false

theorem sys_elem {ls : List (Value × List UInt8)} {data rest : List (List UInt8)} {s k j : Nat} (h : ls.map (·.2) = grpB ((data.drop s).take k) ++ rest) (hk : s + k ≤ data.length) (hj : j < k) :
    ∃ x, ls[j]? = some x ∧ data[s + j]? = some x.2 := by
  have hl : ((data.drop s).take k).length = k := by rw [List.length_take, List.length_drop]; omega
  have e : (ls.map (·.2))[j]? = data[s + j]? := by
    rw [h]
    unfold grpB
    rw [List.append_assoc, List.getElem?_append_left (by omega), List.getElem?_take, if_pos hj, List.getElem?_drop]
  rw [List.getElem?_map] at e
  have hd : s + j < data.length := by omega
  rw [List.getElem?_eq_getElem hd] at e ⊢
  obtain ⟨x, hx, h2⟩ := Option.map_eq_some_iff.1 e
  exact ⟨x, hx, by rw [h2]⟩
theorem sflat_step {data : List (List UInt8)} {n : Nat} {d : List UInt8} (h : data[n]? = some d) : (data.take (n + 1)).flatten = (data.take n).flatten ++ d := by
  rw [List.take_add_one, h]
  simp
theorem sflat_len {data : List (List UInt8)} (h8 : ∀ x ∈ data, x.length = 8) : data.flatten.length = 8 * data.length := by
  induction data with
  | nil => rfl
  | cons x data ih =>
    rw [List.flatten_cons, List.length_append, h8 x (by simp), ih (fun y hy => h8 y (by simp [hy])), List.length_cons]
    omega
theorem sflat_le {data : List (List UInt8)} (h8 : ∀ x ∈ data, x.length = 8) (hl : data.length ≤ 250) (n : Nat) : (data.take n).flatten.length ≤ 2000 := by
  rw [sflat_len fun x hx => h8 x (List.mem_of_mem_take hx), List.length_take]
  omega
theorem blkGo_nil (data : List (List UInt8)) : blkGo data [] = [] := by unfold blkGo; rfl
end Go.Bl
