/-
  More generic words: what lies at a block.
-/
import Derived.Test.YtenjpnhccnmnpaaDoorG2
namespace Go.Bl
open Go.RowKit
set_option linter.unusedVariables false

/-- block b holds o -/
def At (w : World) (b : Nat) (o : Obj) : Prop := w.heap[b]? = some o
theorem At.keep {w w' : World} {b : Nat} {o : Obj} {S : List Nat} (h : At w b o) (hf : Fr S w w') (hn : b ∉ S) : At w' b o := hf.keep h hn
theorem At.keep0 {w w' : World} {b : Nat} {o : Obj} (h : At w b o) (hf : Fr [] w w') : At w' b o := hf.keep h (by simp)
theorem At.lt {w : World} {b : Nat} {o : Obj} (h : At w b o) : b < w.heap.size := lt_of_heap h
theorem At.al {w : World} {b : Nat} {o o' : Obj} (h : At w b o) : At (w.alloc o') b o := heap_alloc_old h
theorem At.new {w : World} {b : Nat} {o : Obj} (h : b = w.heap.size) : At (w.alloc o) b o := heap_alloc_at h
theorem At.other {w : World} {b : Nat} {o : Obj} {a : Addr} {v : Value} (h : At w b o) (hne : a.block ≠ b) : At (w.setCell a v) b o := heap_set_other h hne
theorem At.set {w : World} {b : Nat} {c : Array Value} {e : TypeId} {fz : Nat × Nat} (h : At w b (.cells c e fz)) (i : Nat) (v : Value) : At (w.setCell ⟨b, i, none⟩ v) b (.cells (c.setIfInBounds i v) e fz) := setCell_block h i v
theorem At.grown {w w' : World} {row : Option Nat} {b : Nat} {o : Obj} (h : At w b o) (hg : w.grownBy w' row) (hne : row ≠ some b) : At w' b o := grown_keep hg h hne
theorem At.cell {w : World} {b : Nat} {c : Array Value} {e : TypeId} {fz : Nat × Nat} (h : At w b (.cells c e fz)) (i : Nat) : w.cell? ⟨b, i, none⟩ = c[i]? := cell_of h i
theorem At.free {w : World} {b : Nat} {c : Array Value} {e : TypeId} (h : At w b (.cells c e (0, 0))) (i : Nat) : w.frozen? ⟨b, i, none⟩ = false := free_of h i
theorem own_ne {e : TypeId} {base : Nat} {size n : Nat} {w : World} {v : Value} {xs : List Value} (h : w.ownsRow base e size v n xs) {b : Nat} (hb : b < base) : v.ownBlock ≠ some b := fun e => by
  have := (h.lt b e).1; omega
end Go.Bl
