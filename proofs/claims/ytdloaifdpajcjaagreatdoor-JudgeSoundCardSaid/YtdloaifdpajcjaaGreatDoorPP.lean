import Derived.Test.YtdloaifdpajcjaaGreatDoorPO
set_option linter.unusedVariables false
set_option linter.unusedSimpArgs false
set_option maxRecDepth 1000000
set_option maxHeartbeats 8000000
namespace Go.Bl
open Go.RowKit Go.Proofs
attribute [local irreducible] qz
open Go.Proofs.YtdloaifdpajcjaaGreatDoor (Par chk blk qU jU zK qj)
structure zk where
 place : Int
 stored : List UInt8
 path : List Dg
def shownP (s : zk) : PV := .a [iP s.place, bP s.stored, .l (s.path.map aP)]
@[simp] theorem shownP_w (s : zk) : (shownP s).cells.length = 3 := rfl
structure zu where
 kind : Int
 id : Int
 obj : Int
 places : List Int
 shown : List zk
 fr : Int
 cnt : Int
 blocks : List (List UInt8)
 code : Int
abbrev zq (h : Hh) (l : zu) : PV := .a [iH h l.kind, iH h l.id, iH h l.obj, lH h iP l.places, lH h shownP l.shown, iH h l.fr, iH h l.cnt, lH h bP l.blocks, iH h l.code]
theorem JE (Z : Ad) (h : Hh) (hh : ∀ α g, h α g = g ()) (l : zu) (hl : l.shown.length <= 100000) : qi Z 100 [.pv (zq h l)] (.pv (lH h iP (l.shown.map (·.place)))) [.any] := by
 obtain ⟨xs, hx⟩ := exq (l.shown)
 rw [hx] at hl ⊢
 refine qB Z h hh ⟨Tryz.func100, Tryz.ntmps100⟩ rfl rfl rfl rfl rfl fun C hC => ?_
 unfold Tryz.f100
 cbv
 repeat' first
  | exact s0
  | apply And.intro
  | exact sq
  | (refine fun (_ : PUnit) => ?_; simp [hh, hx]; done)
  | trivial
  | (refine sz fun e => ?_; simp [hh, hx] at e <;> (try simp only [qD] at *) <;> omega)
  | (refine sy fun e => ?_; cbv)
 refine ⟨Nat, fun j => ⟨[(3, some (.own 990)), (7, some (.pv (lH h shownP xs))), (8, some (.pv (nH h xs.length))), (9, some (.pv (nH h j)))], [(990, some (.row 3 1 (h _ fun _ => (xs.take j).map fun s => iP s.place) false))]⟩,
  fun j => j <= xs.length, fun j => xs.length - j, 0, [(3, 990, 3, 1)], Nat.zero_le _, ⟨rfl, by decide, rfl, trivial⟩, ⟨[], rfl, rfl, ⟨?_, trivial⟩, rfl, ?_, ?_, ?_, trivial⟩, ?_⟩
 ·cbv; simp [hh]
 ·cbv; simp [hh, hx]
 ·cbv; simp [hh, hx]
 ·cbv; simp [hh]
 ·intro j hj
  cbv
  refine ⟨fun _ => rfl, fun e => ?_, fun e => ?_⟩ <;> simp only [hh, nI, decide_eq_true_eq, decide_eq_false_iff_not] at e
  ·have e' : j < xs.length := jI e
   cbv
   repeat' first
    | exact s0
    | apply And.intro
    | exact sq
    | (refine fun (_ : PUnit) => ?_; simp [hh, *, shownP]; done)
    | trivial
    | exact sx
    | (refine sy fun e => ?_; cbv)
   refine ⟨j + 1, e', by show xs.length - (j + 1) < xs.length - j; omega, [(990, 17)], rfl, rfl, ⟨?_, trivial⟩, rfl, rfl, rfl, ?_, trivial⟩
   ·cbv
    simp only [hh, List.take_succ_eq_append_getElem e', List.map_append]
    simp [e', shownP]
   ·cbv
    simp [hh]
    rw [wrap_i64 Y54 Y54]
  ·have e' : j = xs.length := Nat.le_antisymm hj (jN e)
   subst e'
   cbv
   repeat' first
    | exact s0
    | apply And.intro
    | exact sq
    | trivial
    | exact sx
    | (refine sy fun e => ?_; cbv)
def zk.ok (s : zk) : Prop := s.stored.length <= 10000 /\ s.path.length <= 1000 /\ ∀ p ∈ s.path, p.length = 32
def jW (x : jY) (s : zk) : Nat := WK x.root (blk x.par.size + x.par.sent).toNat s.place s.stored s.path
theorem J3 (Z : Ad) (h : Hh) (hh : ∀ α g, h α g = g ()) (x : jY) (lr : x.root.length = 32) (lf : x.file.length = 32) (s : zk) (hs : s.ok) (hc : chk x.par = 0) : qi Z 63 [.pv (jk h x), .pv (.a [iH h s.place, bH h s.stored, lH h aP s.path])] (.pv (WI Z (jW x s))) [.any, .any] := by
 have c1 := zT Z h hh x.par hc
 have il := jR lr lf
 have zb := Go.Proofs.YtdloaifdpajcjaaGreatDoor.blk_le (p := x.par) (Z0 hc).1
 have z1 : 0 <= x.par.sent /\ x.par.sent <= 8 := (Z0 hc).2.1
 obtain ⟨n, hn⟩ := Int.eq_ofNat_of_zero_le (a := blk x.par.size + x.par.sent) Y54
 have c2 := KS Z h hh x.root n s.place s.stored (by have := hs.1; omega) s.path hs.2.2 lr
 rw [show WK x.root n s.place s.stored s.path = jW x s by rw [jW, hn]; rfl] at c2
 obtain ⟨q, hq⟩ := exq (WI Z (jW x s))
 rw [hq] at c2 ⊢
 rw [hn] at c1
 have g : List.take 32 (List.drop 8 (qK x)) = x.root.map u8P := by simp [qK, lr]
 clear hc hn hs hq zb z1
 refine qB Z h hh ⟨Tryz.func63, Tryz.ntmps63⟩ rfl rfl rfl rfl rfl fun C hC => ?_
 unfold Tryz.f63
 cbv
 repeat' first
  | exact s0
  | apply And.intro
  | exact sq
  | (refine fun (_ : PUnit) => ?_; simp [hh, *, qK]; done)
  | trivial
  | exact sx
  | (refine sy fun e => ?_; cbv)
  | (refine ⟨_, _, _, hC _ _ _ _ c1, ?_⟩; cbv; clear c1)
  | (refine ⟨_, _, _, hC _ _ _ _ c2, ?_⟩; cbv; clear c2)
end Go.Bl
namespace Go.Bl
open Go.RowKit Go.Proofs
attribute [local irreducible] qz
open Go.Proofs.YtdloaifdpajcjaaGreatDoor (Par chk blk qU jU zK qj)
theorem qeH (Z : Ad) (h : Hh) (hh : ∀ α g, h α g = g ()) (m : List UInt8) (x : jY) (e : jc) (l : zu) (lr : x.root.length = 32) (lf : x.file.length = 32) (ps : List Int) (hk : l.kind ≠ 4) (c1 : qi Z 8 [.pv (bH h m), .pv (jk h x), .pv (qX h e)] (.tup [.pv (lH h iP ps), .pv (.v .nilIface)]) [.any, .any, .any]) : qi Z 45 [.pv (bH h m), .pv (jk h x), .pv (qX h e), .pv (zq h l)] (.pv (qP Z 7)) [.any, .any, .any, .any] := by
 have il := jR lr lf
 refine qB Z h hh ⟨Tryz.func45, Tryz.ntmps45⟩ rfl rfl rfl rfl rfl fun C hC => ?_
 unfold Tryz.f45
 cbv
 repeat' first
  | exact s0
  | apply And.intro
  | exact sq
  | (refine fun (_ : PUnit) => ?_; simp [hh, *, qK]; done)
  | trivial
  | exact sx
  | (refine sy fun e => ?_; cbv)
 refine ⟨_, _, _, hC _ _ _ _ c1, ?_⟩
 cbv
 clear c1
 repeat' first
  | exact s0
  | apply And.intro
  | exact sq
  | (refine fun (_ : PUnit) => ?_; simp [hh, *, qK]; done)
  | trivial
  | (refine sz fun e => ?_; simp [hh, hk] at e <;> (try simp only [qD] at *) <;> omega)
  | (refine sy fun e => ?_; cbv)
theorem YE (Z : Ad) (h : Hh) (hh : ∀ α g, h α g = g ()) (m : List UInt8) (x : jY) (e : jc) (l : zu) (lr : x.root.length = 32) (lf : x.file.length = 32) (ps : List Int) (hk : l.kind ≠ 4) (c1 : qi Z 8 [.pv (bH h m), .pv (jk h x), .pv (qX h e)] (.tup [.pv (lH h iP ps), .pv (.v .nilIface)]) [.any, .any, .any]) : qi Z 10 [.pv (bH h m), .pv (jk h x), .pv (qX h e), .pv (zq h l)] (.tup [.pv (iH h 2), .pv (.v .nilIface)]) [.any, .any, .any, .any] := by
 have il := jR lr lf
 have c2 := qeH Z h hh m x e l lr lf ps hk c1
 refine qB Z h hh ⟨Tryz.func10, Tryz.ntmps10⟩ rfl rfl rfl rfl rfl fun C hC => ?_
 unfold Tryz.f10
 cbv
 repeat' first
  | exact s0
  | apply And.intro
  | exact sq
  | (refine fun (_ : PUnit) => ?_; simp [hh, *, qK]; done)
  | trivial
  | exact sx
  | (refine sy fun e => ?_; cbv)
  | (refine ⟨_, _, _, hC _ _ _ _ c1, ?_⟩; cbv; clear c1)
  | (refine ⟨_, _, _, hC _ _ _ _ c2, ?_⟩; cbv; clear c2)
end Go.Bl
namespace Go.Bl
open Go.RowKit Go.Proofs
attribute [local irreducible] qz
open Go.Proofs.YtdloaifdpajcjaaGreatDoor (Par chk blk qU jU zK qj)
end Go.Bl
namespace Go.Bl
open Go.RowKit Go.Proofs
attribute [local irreducible] qz
open Go.Proofs.YtdloaifdpajcjaaGreatDoor (Par chk blk qU jU zK qj)
end Go.Bl
