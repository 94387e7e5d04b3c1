import Derived.Test.YtnafknkchbfpaaaGreatDoorPH
import Derived.Shelf.SlicesQ.Reverse
set_option linter.unusedVariables false
set_option linter.unusedSimpArgs false
set_option maxRecDepth 1000000
set_option maxHeartbeats 8000000
namespace Go.Proofs.YtnafknkchbfpaaaGreatDoor
open Go.RowKit Go.Bl
attribute [local go_sem] Oper.semAt_some
attribute [local go_sem] Oper.semAt_some
attribute [local go_sem] Oper.semAt_some
attribute [local go_sem] Oper.semAt_some
end Go.Proofs.YtnafknkchbfpaaaGreatDoor
namespace Go.Proofs.YtnafknkchbfpaaaGreatDoor
open Go.RowKit Go.Bl Go.Shelf
attribute [local go_sem] Oper.semAt_some
attribute [local go_sem] Oper.semAt_some
end Go.Proofs.YtnafknkchbfpaaaGreatDoor
namespace Go.Proofs.YtnafknkchbfpaaaGreatDoor
open Go.RowKit Go.Bl
end Go.Proofs.YtnafknkchbfpaaaGreatDoor
namespace Go.Bl
open Go.RowKit Go.Proofs
def aP (xs : List UInt8) : PV := .a (xs.map u8P)
attribute [local irreducible] qH
end Go.Bl
namespace Go.Bl
open Go.RowKit Go.Proofs
attribute [local irreducible] qH
end Go.Bl
namespace Go.Bl
open Go.RowKit Go.Shelf Go.Sort
structure Cel (k : Nat) where
 l : List Value
 len : l.length = k
 one : ∀ v ∈ l, v.oneCell' = true
instance (k : Nat) : Inhabited (Cel k) := ⟨⟨List.replicate k (.bool false), by simp, fun v hv => by rw [List.eq_of_mem_replicate hv]; rfl⟩⟩
variable {A A' : Nat -> Prop} {w w' : World} {k : Nat}
inductive Rw (A : Nat -> Prop) (w : World) : List PV -> List (Cel k) -> Prop
 | nil : Rw A w [] []
 | cons {x : PV} {r : Cel k} {xs : List PV} {rs : List (Cel k)} : qd A w x.cells r.l -> Rw A w xs rs -> Rw A w (x :: xs) (r :: rs)
theorem Rw.stay (h : jx A A' w w') : ∀ {xs : List PV} {rs : List (Cel k)}, Rw A w xs rs -> Rw A' w' xs rs
 | _, _, .nil => .nil
 | _, _, .cons h1 h2 => .cons (h1.stay h) (Rw.stay h h2)
theorem Rw.app : ∀ {xs ys : List PV} {rs ss : List (Cel k)}, Rw A w xs rs -> Rw A w ys ss -> Rw A w (xs ++ ys) (rs ++ ss)
 | _, _, _, _, .nil, h => h
 | _, _, _, _, .cons h1 h2, h => .cons h1 (Rw.app h2 h)
theorem Rw.flat : ∀ {xs : List PV} {rs : List (Cel k)}, Rw A w xs rs -> qd A w (xs.flatMap PV.cells) (rs.flatMap Cel.l)
 | _, _, .nil => .nil
 | _, _, .cons h1 h2 => by
  rw [List.flatMap_cons, List.flatMap_cons]
  exact h1.app (Rw.flat h2)
theorem Rw.length : ∀ {xs : List PV} {rs : List (Cel k)}, Rw A w xs rs -> xs.length = rs.length
 | _, _, .nil => rfl
 | _, _, .cons _ h2 => by simp [Rw.length h2]
theorem Xw {cur fl : Array Value} (h : fl.size <= cur.size) : (putCells id 0 fl cur).toList.take fl.size = fl.toList := by
 apply List.ext_getElem?
 intro j
 rw [List.getElem?_take]
 by_cases hj : j < fl.size
 ·have : j < cur.size := by omega
  rw [if_pos hj, Array.getElem?_toList, putCells, Array.getElem?_mapIdx, Array.getElem?_eq_getElem this, Array.getElem?_toList, Array.getElem?_eq_getElem hj]
  simp [hj]
 ·rw [if_neg hj, List.getElem?_eq_none WM]
end Go.Bl
namespace Go.Bl
open Go.RowKit Go.Proofs Go.Shelf
end Go.Bl
