/-
  Layer 6: stripe.Column: a byte of each block.
-/
import Derived.Test.YtdkhgpnidamalaaDoorGI
namespace Go.Proofs.YtdkhgpnidamalaaDoor
open Go.RowKit Go.Bl
set_option linter.unusedVariables false

/-- a list of rows of bytes that can be read -/
def RdB (A : Nat → Prop) (w : World) (v : Value) (ls : List (Value × List UInt8)) : Prop := Vs A w v (ls.map (·.1)) ∧ ∀ x ∈ ls, Bs A w x.1 x.2
theorem RdB.keep {A : Nat → Prop} {w w' : World} {S : List Nat} {v : Value} {ls : List (Value × List UInt8)} (h : RdB A w v ls) (hf : Fr S w w') (hS : ∀ b ∈ S, A b) : RdB A w' v ls := by
  obtain ⟨⟨a, cap, h1, h2, h3, h4⟩, h5⟩ := h
  exact ⟨⟨a, cap, h1, h2, h3, h4.keep hf hS⟩, fun x hx => (h5 x hx).keep hf hS⟩
theorem rdb_shape {A : Nat → Prop} {w : World} {v : Value} {ls : List (Value × List UInt8)} (h : RdB A w v ls) : ∃ a cap, v = .slice a ls.length cap ∧ ls.length ≤ cap ∧ cap ≤ maxLen := by
  obtain ⟨⟨a, cap, h1, h2, h3, h4⟩, -⟩ := h
  rw [List.length_map] at h1 h2
  exact ⟨a, cap, h1, h2, h3⟩
theorem rdb_cell {A : Nat → Prop} {w : World} {a : Option Addr} {n cap : Nat} {ls : List (Value × List UInt8)} (h : RdB A w (.slice a n cap) ls) (j : Nat) (x : Value × List UInt8) (hx : ls[j]? = some x) :
    ∃ b off, a = some ⟨b, off, none⟩ ∧ w.cell? ⟨b, off + j, none⟩ = some x.1 ∧ Bs A w x.1 x.2 := by
  obtain ⟨⟨a', cap', e, h2, h3, h4⟩, h5⟩ := h
  cases e
  have hj : j < ls.length := (List.getElem?_eq_some_iff.1 hx).1
  obtain ⟨b, off, rfl, -, hc⟩ := h4.some_of (by simp; omega)
  refine ⟨b, off, rfl, ?_, h5 x (List.mem_of_getElem? hx)⟩
  rw [hc j (by simpa using hj), List.getElem?_map, hx]
  rfl
def colF (j : Nat) (x : List UInt8) : UInt8 := x.getD j 0
/-- the column's row behind k rounds -/
def colR (j n k : Nat) (ls : List (Value × List UInt8)) : List UInt8 := (ls.take k).map (fun x => colF j x.2) ++ List.replicate (n - k) 0
theorem colR_step (j n k : Nat) (ls : List (Value × List UInt8)) (x : Value × List UInt8) (hx : ls[k]? = some x) (hn : ls.length = n) : (colR j n k ls).set k (colF j x.2) = colR j n (k + 1) ls := by
  have hk : k < ls.length := (List.getElem?_eq_some_iff.1 hx).1
  unfold colR
  rw [List.take_add_one, hx, show n - k = (n - (k + 1)) + 1 by omega, List.replicate_succ]
  have hl : ((ls.take k).map (fun x => colF j x.2)).length = k := by simp; omega
  rw [List.set_append_right _ _ (by omega), hl, Nat.sub_self]
  simp
theorem colR_len (j n k : Nat) (ls : List (Value × List UInt8)) (hn : ls.length = n) (hk : k ≤ n) : (colR j n k ls).length = n := by
  simp [colR]; omega

end Go.Proofs.YtdkhgpnidamalaaDoor
