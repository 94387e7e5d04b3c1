/-
  Layer 2: poly.Trim, poly.Mul, poly.Roots.
  Layers 2 and 3: poly.Roots, code.Generator.
-/
import Derived.Test.YtdkhgpnidamalaaDoorGO
import Derived.Test.YtdkhgpnidamalaaDoorPm
import Derived.Deep.OwnRows
namespace Go.Proofs.YtdkhgpnidamalaaDoor
open Go.RowKit Go.Bl
set_option linter.unusedVariables false

theorem Fr.of_below {w w' : World} (h : Below w.heap.size w w') : Fr [] w w' := ⟨h.os, h.tape, h.output, h.size, fun k hk _ => h.block k hk⟩
set_option maxRecDepth 100000 in
theorem bs_shp {A : Nat → Prop} {w : World} {v : Value} {xs : List UInt8} (h : Bs A w v xs) : ∃ bo bn bc, v = .slice bo bn bc := by
  obtain ⟨a, cap, rfl, -⟩ := h
  exact ⟨_, _, _, rfl⟩
theorem bs_cell {A : Nat → Prop} {w : World} {a : Option Addr} {n cap : Nat} {xs : List UInt8} (h : Bs A w (.slice a n cap) xs) (j : Nat) (x : UInt8) (hx : xs[j]? = some x) :
    ∃ b off, a = some ⟨b, off, none⟩ ∧ w.cell? ⟨b, off + j, none⟩ = some (.int .u8 (x.toNat : Int)) := by
  obtain ⟨a', cap', e, h2, h3, h4⟩ := h
  cases e
  have hj : j < xs.length := (List.getElem?_eq_some_iff.1 hx).1
  obtain ⟨b, off, rfl, -, hc⟩ := h4.some_of (by simp; omega)
  refine ⟨b, off, rfl, ?_⟩
  rw [hc j (by simpa using hj), List.getElem?_map, hx]
  rfl
theorem frame48 (a : Go.Act) (hs : a.tmps.size = 48) (hd : a.defers = []) : a = ⟨((List.range 48).map (slot a)).toArray, []⟩ := frameX a 48 hs hd
end Go.Proofs.YtdkhgpnidamalaaDoor
namespace Go.Proofs.YtdkhgpnidamalaaDoor
open Go.RowKit Go.Bl
set_option linter.unusedVariables false

theorem proots_len (rs : List UInt8) : ∀ k, (proots (rs.take k)).length ≤ 1 + 2 * k
  | 0 => by simp [proots]
  | k + 1 => by
    cases h : rs[k]? with
    | none =>
      have hl := List.getElem?_eq_none_iff.1 h
      rw [List.take_of_length_le (by omega)]
      have := proots_len rs k
      rw [List.take_of_length_le hl] at this
      omega
    | some r =>
      rw [proots_take rs k r h]
      have := pmul_len (proots (rs.take k)) [r, 1]
      have := proots_len rs k
      simp at *
      omega
theorem own_lit {e : TypeId} {base : Nat} (w : World) (c : Array Value) (xs : List UInt8) (hb : base ≤ w.heap.size) (hc : c.toList = xs.map u8v) (hl : xs.length ≤ 1000) : OwnB e base (w.alloc (.cells c e)) (.slice (some ⟨w.heap.size, 0, none⟩) xs.length xs.length) xs := by
  have hs : c.size = xs.length := by have := congrArg List.length hc; simpa using this
  refine ⟨by simp, .inr ⟨w.heap.size, xs.length, c, rfl, hb, heap_alloc_new _ _, Nat.le_refl _, by simp [maxLen]; omega, by omega, ?_⟩⟩
  rw [List.take_of_length_le (by simp; omega), hc]
theorem bs_lit {A : Nat → Prop} (w : World) (c : Array Value) (e : TypeId) (xs : List UInt8) (hA : ¬ A w.heap.size) (hc : c.toList = xs.map u8v) (hl : xs.length ≤ 1000) : Bs A (w.alloc (.cells c e)) (.slice (some ⟨w.heap.size, 0, none⟩) xs.length xs.length) xs :=
  ⟨_, _, rfl, Nat.le_refl _, by simp [maxLen]; omega, by
    have := Row.of_block (A := A) (show (w.alloc (.cells c e)).heap[w.heap.size]? = some (.cells c e (0, 0)) from heap_alloc_new _ _) hA
    rwa [hc] at this⟩

end Go.Proofs.YtdkhgpnidamalaaDoor
