/-
  The law ScriptSame: the walk.
-/
import Derived.Test.YtbohmnblegljkaaSno
import Derived.Test.YtbohmnblegljkaaSsame
import Derived.Test.YtbohmnblegljkaaLong
import Derived.Test.YtbohmnblegljkaaSLa
import Derived.Test.YtbohmnblegljkaaAlv
namespace Go.Proofs.Ytbohmnblegljkaa
open Go.RowKit Go.Bl
set_option linter.unusedVariables false

theorem ssame_eq (A : Nat → Prop) (w : World) (x y : ActP) (bx bv : Value) (hx : Bs A w bx x.bytes) (hy : Bs A w bv y.bytes) (h : x = y) :
    Calls Try.prog 13 #[.agg (actC x bx), .agg (actC y bv)] w fun e w' => e = .returned (.bool true) ∧ Fr [] w w' := by
  subst h
  exact ssame_all A w x x bx bv hx hy ⟨rfl, rfl, rfl, rfl, rfl⟩ rfl ⟨rfl, rfl, rfl, rfl, rfl, rfl⟩ ⟨rfl, rfl, rfl⟩ rfl
theorem ssame_ne (A : Nat → Prop) (w : World) (x y : ActP) (bx bv : Value) (hx : Bs A w bx x.bytes) (hy : Bs A w bv y.bytes) (h : x ≠ y) :
    Calls Try.prog 13 #[.agg (actC x bx), .agg (actC y bv)] w fun e w' => e = .returned (.bool false) ∧ Fr [] w w' := by
  by_cases e0 : x.kind = y.kind ∧ x.n = y.n ∧ x.i = y.i ∧ x.at_ = y.at_ ∧ x.by_ = y.by_
  rotate_left
  · exact ssame_head A w x y bx bv hx hy e0
  by_cases e1 : x.name = y.name
  rotate_left
  · exact ssame_name A w x y bx bv hx hy e0 e1
  by_cases e2 : x.p0 = y.p0 ∧ x.p1 = y.p1 ∧ x.p2 = y.p2 ∧ x.p3 = y.p3 ∧ x.p4 = y.p4 ∧ x.p5 = y.p5
  rotate_left
  · exact ssame_par A w x y bx bv hx hy e0 e1 e2
  by_cases e3 : x.kept = y.kept ∧ x.torn = y.torn ∧ x.scat = y.scat
  rotate_left
  · exact ssame_crash A w x y bx bv hx hy e0 e1 e2 e3
  by_cases e4 : x.bytes = y.bytes
  rotate_left
  · exact ssame_bytes A w x y bx bv hx hy e0 e1 e2 e3 e4
  exfalso
  refine h ?_
  obtain ⟨x0, x1, x2, x3, x4, x5, x6, x7, x8, x9, x10, x11, x12, x13, x14, x15⟩ := x
  obtain ⟨y0, y1, y2, y3, y4, y5, y6, y7, y8, y9, y10, y11, y12, y13, y14, y15⟩ := y
  simp_all
theorem ssame_any (A : Nat → Prop) (w : World) (x y : ActP) (bx bv : Value) (hx : Bs A w bx x.bytes) (hy : Bs A w bv y.bytes) (r : Bool) (hr : (r = true ∧ x = y) ∨ (r = false ∧ x ≠ y)) :
    Calls Try.prog 13 #[.agg (actC x bx), .agg (actC y bv)] w fun e w' => e = .returned (.bool r) ∧ Fr [] w w' := by
  rcases hr with ⟨rfl, h⟩ | ⟨rfl, h⟩
  · exact ssame_eq A w x y bx bv hx hy h
  · exact ssame_ne A w x y bx bv hx hy h
theorem rsame_any (A : Nat → Prop) (w : World) (v1 v2 : Value) (x y : AV) (hr1 : RdA A w v1 [x]) (hr2 : RdA A w v2 [y]) (r : Bool) (hr : (r = true ∧ x.1 = y.1) ∨ (r = false ∧ x.1 ≠ y.1)) :
    Calls Try.prog 7 #[v1, v2] w fun e w' => e = .returned (.bool r) ∧ Fr [] w w' := by
  rcases hr with ⟨rfl, h⟩ | ⟨rfl, h⟩
  · exact rsame_eq A w v1 v2 [x] [y] hr1 hr2 (by simp) (by simp [h])
  · exact rsame_no A w v1 v2 [x] [y] hr1 hr2 x y rfl rfl h

end Go.Proofs.Ytbohmnblegljkaa
