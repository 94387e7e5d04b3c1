import Derived.Test.YtdloaifdpajcjaaGreatDoorQA
import Derived.Test.YtdloaifdpajcjaaGreatDoorPP
set_option linter.unusedVariables false
set_option linter.unusedSimpArgs false
set_option maxRecDepth 1000000
set_option maxHeartbeats 8000000
namespace Go.Bl
open Go.RowKit Go.Proofs
attribute [local irreducible] qz
end Go.Bl
namespace Go.Bl
open Go.RowKit Go.Proofs
attribute [local irreducible] qz
open Go.Proofs.YtdloaifdpajcjaaGreatDoor (Par chk blk qU)
theorem Yb (Z : Ad) (h : Hh) (hh : ∀ α g, h α g = g ()) (xs ys : List Int) (hl : xs.length <= 100000) : qi Z 99 [.pv (lH h iP xs), .pv (lH h iP ys)] (.pv (tH h (xs == ys))) [.any, .any] := by
 by_cases n1 : xs.length = ys.length
 ·refine qB Z h hh ⟨Tryz.func99, Tryz.ntmps99⟩ rfl rfl rfl rfl rfl fun C hC => ?_
  unfold Tryz.f99
  cbv
  repeat' first
   | exact s0
   | apply And.intro
   | exact sq
   | trivial
   | (refine sz fun e => ?_; simp [hh, n1] at e <;> (try simp only [qD] at *) <;> omega)
   | (refine sy fun e => ?_; cbv)
  refine ⟨Nat, fun j => ⟨[(0, some (.pv (lH h iP xs))), (1, some (.pv (lH h iP ys))), (12, some (.pv (nH h xs.length))), (13, some (.pv (nH h j)))], []⟩, fun j => j <= xs.length /\ ∀ i, i < j -> xs[i]? = ys[i]?, fun j => xs.length - j, 0, [], ⟨Nat.zero_le _, fun i q => absurd q (Nat.not_lt_zero i)⟩, trivial, ⟨[], rfl, rfl, trivial, ?_, ?_, ?_, ?_, trivial⟩, ?_⟩
  ·exact sp
  ·exact sp
  ·exact sp
  ·exact sp
  intro j hj
  dsimp only
  cbv
  refine ⟨fun _ => rfl, fun e => ?_, fun e => ?_⟩ <;> simp only [hh, nI, decide_eq_true_eq, decide_eq_false_iff_not, qD] at e
  ·have e' : j < xs.length := jI e
   have e2 : j < ys.length := by omega
   by_cases q : xs[j] = ys[j]
   ·have hj2 : ∀ i, i < j + 1 -> xs[i]? = ys[i]? := fun i hi => by
     rcases Nat.lt_or_ge i j with r | r
     ·exact hj.2 i r
     ·have : i = j := by omega
      subst this
      rw [List.getElem?_eq_getElem e', List.getElem?_eq_getElem e2, q]
    replace hj2 := Hdq hj2
    have n2 := n1.symm
    clear hj n1
    cbv
    repeat' first
     | exact s0
     | apply And.intro
     | exact sq
     | trivial
     | (refine sz fun e => ?_; simp [hh, q, e', e2, n2, iP] at e <;> (try simp only [qD] at *) <;> omega)
     | (refine sy fun e => ?_; cbv)
    refine ⟨j + 1, ⟨e', hj2.out⟩, by show xs.length - (j + 1) < xs.length - j; omega, ⟨[], rfl, rfl, trivial, ?_, ?_, ?_, ?_, trivial⟩⟩
    ·exact sp
    ·exact sp
    ·exact sp
    ·exact sp
   ·have hq : (xs == ys) = false := by
     rw [beq_eq_false_iff_ne]
     intro g
     subst g
     exact q rfl
    rw [hq]
    clear hj hq
    cbv
    repeat' first
     | exact s0
     | apply And.intro
     | exact sq
     | trivial
     | (refine sz fun e => ?_; simp [hh, q, e', e2, iP] at e <;> (try simp only [qD] at *) <;> omega)
     | (refine sy fun e => ?_; cbv)
  ·have e' : j = xs.length := Nat.le_antisymm hj.1 (jN e)
   subst e'
   have hq : (xs == ys) = true := by
    rw [beq_iff_eq]
    refine List.ext_getElem? fun i => ?_
    rcases Nat.lt_or_ge i xs.length with r | r
    ·exact hj.2 i r
    ·rw [List.getElem?_eq_none r, List.getElem?_eq_none Y54]
   rw [hq]
   clear hj hq
   cbv
   repeat' first
    | exact s0
    | apply And.intro
    | exact sq
    | trivial
    | exact sx
    | (refine sy fun e => ?_; cbv)
 ·have hq : (xs == ys) = false := by
   rw [beq_eq_false_iff_ne]
   intro g
   subst g
   exact n1 rfl
  rw [hq]
  have n2 : ¬ (xs.length : Int) = (ys.length : Int) := by omega
  clear hq
  refine qB Z h hh ⟨Tryz.func99, Tryz.ntmps99⟩ rfl rfl rfl rfl rfl fun C hC => ?_
  unfold Tryz.f99
  cbv
  repeat' first
   | exact s0
   | apply And.intro
   | exact sq
   | trivial
   | (refine sz fun e => ?_; simp [hh, n2, n1] at e <;> (try simp only [qD] at *) <;> omega)
   | (refine sy fun e => ?_; cbv)
theorem yD (Z : Ad) (h : Hh) (hh : ∀ α g, h α g = g ()) (a b : List UInt8) (ha : a.length <= 10000000) (hb : b.length <= 10000000) : qi Z 46 [.pv (bH h a), .pv (bH h b)] (.pv (tH h (a == b))) [.any, .any] := by
 refine qB Z h hh ⟨Tryz.func46, Tryz.ntmps46⟩ rfl rfl rfl rfl rfl fun C hC => ?_
 unfold Tryz.f46
 cbv
 repeat' first
  | exact s0
  | apply And.intro
  | exact sq
  | trivial
  | exact sx
  | (refine sy fun e => ?_; cbv)
end Go.Bl
namespace Go.Bl
open Go.RowKit Go.Proofs
attribute [local irreducible] qz
open Go.Proofs.YtdloaifdpajcjaaGreatDoor (Par chk blk qU qj qg qS ql qG jd jK qA jL jy)
def zG (f : zk -> Nat) : List zk -> Nat
 | [] => 0
 | s :: r => if f s = 0 then zG f r else f s
theorem yh (f : zk -> Nat) {l : List zk} {j : Nat} (hj : j < l.length) : zG f (l.drop j) = if f l[j] = 0 then zG f (l.drop (j + 1)) else f l[j] := by
 rw [List.drop_eq_getElem_cons hj]; rfl
end Go.Bl
namespace Go.Bl
open Go.RowKit Go.Proofs
attribute [local irreducible] qz
open Go.Proofs.YtdloaifdpajcjaaGreatDoor (Par chk blk qU qj qg qS ql qG jd jK qA jL jy)
def Xb (m : List UInt8) (x : jY) (y : jc) : List UInt8 := jL (qg m jd x.num) (Xy m x y : Nat) (jy (qg m qG x.num) y.idx)
theorem qbH (m : List UInt8) (x : jY) (y : jc) : (Xb m x y).length = 16 := by
 rw [Xb, Go.Proofs.YtdloaifdpajcjaaGreatDoor.tgdL_len, Go.Proofs.YtdloaifdpajcjaaGreatDoor.strL_len]
end Go.Bl
