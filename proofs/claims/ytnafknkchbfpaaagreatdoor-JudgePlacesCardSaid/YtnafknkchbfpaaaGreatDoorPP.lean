import Derived.Test.YtnafknkchbfpaaaGreatDoorPO
set_option linter.unusedVariables false
set_option linter.unusedSimpArgs false
set_option maxRecDepth 1000000
set_option maxHeartbeats 8000000
namespace Go.Bl
open Go.RowKit Go.Proofs
attribute [local irreducible] qH
open Go.Proofs.YtnafknkchbfpaaaGreatDoor (Par chk blk jh jV j7 qe)
structure Qs where
 place : Int
 stored : List UInt8
 path : List Dg
def jR (s : Qs) : PV := .a [iP s.place, bP s.stored, .l (s.path.map aP)]
@[simp] theorem shownP_w (s : Qs) : (jR s).cells.length = 3 := rfl
structure jv where
 kind : Int
 id : Int
 obj : Int
 places : List Int
 shown : List Qs
 fr : Int
 cnt : Int
 blocks : List (List UInt8)
 code : Int
abbrev jB (h : Hh) (l : jv) : PV := .a [iH h l.kind, iH h l.id, iH h l.obj, lH h iP l.places, lH h jR l.shown, iH h l.fr, iH h l.cnt, lH h bP l.blocks, iH h l.code]
def uF : jv := ⟨0, 0, 0, [], [], 0, 0, [], 0⟩
def Uh (x : js) (e : jf) (l : List Int) : jv := ⟨3, e.id, x.num, l, [], 0, 0, [], 0⟩
theorem YS (Z : Ad) (h : Hh) (hh : ∀ α g, h α g = g ()) (m : List UInt8) (x : js) (e : jf) (lr : x.root.length = 32) (lf : x.file.length = 32) (l : List Int) (c1 : qo Z 37 [.pv (bH h m), .pv (jp h x), .pv (qZ h e)] (.tup [.pv (lH h iP l), .pv (.v .nilIface)]) [.any, .any, .any]) : qo Z 40 [.pv (bH h m), .pv (jp h x), .pv (qZ h e)] (.tup [.pv (jB h (Uh x e l)), .pv (.v .nilIface)]) [.any, .any, .any] := by
 have il := qE lr lf
 refine qD Z h hh ⟨Tryz.func40, Tryz.ntmps40⟩ rfl rfl rfl rfl rfl fun C hC => ?_
 unfold Tryz.f40
 cbv
 repeat' first
  | exact s0
  | apply And.intro
  | exact sq
  | (refine fun (_ : PUnit) => ?_; simp [hh, *, qy]; done)
  | trivial
  | exact sx
  | (refine sy fun e => ?_; cbv)
 refine ⟨_, _, _, hC _ _ _ _ c1, ?_⟩
 cbv
 clear c1
 repeat' first
  | exact s0
  | apply And.intro
  | exact sq
  | (refine fun (_ : PUnit) => ?_; simp [hh, *, qy, uF, Uh]; done)
  | trivial
  | exact sx
  | (refine sy fun e => ?_; cbv)
theorem Xc (Z : Ad) (h : Hh) (hh : ∀ α g, h α g = g ()) (m : List UInt8) (x : js) (e : jf) (lr : x.root.length = 32) (lf : x.file.length = 32) (j : Nat) (c1 : qo Z 37 [.pv (bH h m), .pv (jp h x), .pv (qZ h e)] (.tup [.pv (lH h iP []), .pv (wrP h Z x.par j)]) [.any, .any, .any]) : qo Z 40 [.pv (bH h m), .pv (jp h x), .pv (qZ h e)] (.tup [.pv (jB h (uF)), .pv (wrP h Z x.par j)]) [.any, .any, .any] := by
 have il := qE lr lf
 refine qD Z h hh ⟨Tryz.func40, Tryz.ntmps40⟩ rfl rfl rfl rfl rfl fun C hC => ?_
 unfold Tryz.f40
 cbv
 repeat' first
  | exact s0
  | apply And.intro
  | exact sq
  | (refine fun (_ : PUnit) => ?_; simp [hh, *, qy]; done)
  | trivial
  | exact sx
  | (refine sy fun e => ?_; cbv)
 refine ⟨_, _, _, hC _ _ _ _ c1, ?_⟩
 cbv
 clear c1
 repeat' first
  | exact s0
  | apply And.intro
  | exact sq
  | (refine fun (_ : PUnit) => ?_; simp [hh, *, qy, uF, Uh]; done)
  | trivial
  | exact sx
  | (refine sy fun e => ?_; cbv)
theorem XI (Z : Ad) (h : Hh) (hh : ∀ α g, h α g = g ()) (m : List UInt8) (x : js) (e : jf) (lr : x.root.length = 32) (lf : x.file.length = 32) (k : Nat) (c1 : qo Z 37 [.pv (bH h m), .pv (jp h x), .pv (qZ h e)] (.tup [.pv (lH h iP []), .pv (jw Z k)]) [.any, .any, .any]) : qo Z 40 [.pv (bH h m), .pv (jp h x), .pv (qZ h e)] (.tup [.pv (jB h (uF)), .pv (jw Z k)]) [.any, .any, .any] := by
 have il := qE lr lf
 refine qD Z h hh ⟨Tryz.func40, Tryz.ntmps40⟩ rfl rfl rfl rfl rfl fun C hC => ?_
 unfold Tryz.f40
 cbv
 repeat' first
  | exact s0
  | apply And.intro
  | exact sq
  | (refine fun (_ : PUnit) => ?_; simp [hh, *, qy]; done)
  | trivial
  | exact sx
  | (refine sy fun e => ?_; cbv)
 refine ⟨_, _, _, hC _ _ _ _ c1, ?_⟩
 cbv
 clear c1
 repeat' first
  | exact s0
  | apply And.intro
  | exact sq
  | (refine fun (_ : PUnit) => ?_; simp [hh, *, qy, uF, Uh]; done)
  | trivial
  | exact sx
  | (refine sy fun e => ?_; cbv)
def Qs.ok (s : Qs) : Prop := s.stored.length <= 10000 /\ s.path.length <= 1000 /\ ∀ p ∈ s.path, p.length = 32
end Go.Bl
namespace Go.Bl
open Go.RowKit Go.Proofs
attribute [local irreducible] qH
open Go.Proofs.YtnafknkchbfpaaaGreatDoor (Par chk blk jh jV j7 qe)
theorem qbt (Z : Ad) (h : Hh) (hh : ∀ α g, h α g = g ()) (m : List UInt8) (x : js) (e : jf) (l : jv) (lr : x.root.length = 32) (lf : x.file.length = 32) (ps : List Int) (hk : l.kind ≠ 4) (c1 : qo Z 37 [.pv (bH h m), .pv (jp h x), .pv (qZ h e)] (.tup [.pv (lH h iP ps), .pv (.v .nilIface)]) [.any, .any, .any]) : qo Z 46 [.pv (bH h m), .pv (jp h x), .pv (qZ h e), .pv (jB h l)] (.pv (jw Z 7)) [.any, .any, .any, .any] := by
 have il := qE lr lf
 refine qD Z h hh ⟨Tryz.func46, Tryz.ntmps46⟩ rfl rfl rfl rfl rfl fun C hC => ?_
 unfold Tryz.f46
 cbv
 repeat' first
  | exact s0
  | apply And.intro
  | exact sq
  | (refine fun (_ : PUnit) => ?_; simp [hh, *, qy]; done)
  | trivial
  | exact sx
  | (refine sy fun e => ?_; cbv)
 refine ⟨_, _, _, hC _ _ _ _ c1, ?_⟩
 cbv
 clear c1
 repeat' first
  | exact s0
  | apply And.intro
  | exact sq
  | (refine fun (_ : PUnit) => ?_; simp [hh, *, qy]; done)
  | trivial
  | (refine sz fun e => ?_; simp [hh, hk] at e <;> (try simp only [natc] at *) <;> omega)
  | (refine sy fun e => ?_; cbv)
theorem VG (Z : Ad) (h : Hh) (hh : ∀ α g, h α g = g ()) (m : List UInt8) (x : js) (e : jf) (l : jv) (lr : x.root.length = 32) (lf : x.file.length = 32) (ps : List Int) (hk : l.kind ≠ 4) (c1 : qo Z 37 [.pv (bH h m), .pv (jp h x), .pv (qZ h e)] (.tup [.pv (lH h iP ps), .pv (.v .nilIface)]) [.any, .any, .any]) : qo Z 47 [.pv (bH h m), .pv (jp h x), .pv (qZ h e), .pv (jB h l)] (.tup [.pv (iH h 2), .pv (.v .nilIface)]) [.any, .any, .any, .any] := by
 have il := qE lr lf
 have c2 := qbt Z h hh m x e l lr lf ps hk c1
 refine qD Z h hh ⟨Tryz.func47, Tryz.ntmps47⟩ rfl rfl rfl rfl rfl fun C hC => ?_
 unfold Tryz.f47
 cbv
 repeat' first
  | exact s0
  | apply And.intro
  | exact sq
  | (refine fun (_ : PUnit) => ?_; simp [hh, *, qy]; done)
  | trivial
  | exact sx
  | (refine sy fun e => ?_; cbv)
  | (refine ⟨_, _, _, hC _ _ _ _ c1, ?_⟩; cbv; clear c1)
  | (refine ⟨_, _, _, hC _ _ _ _ c2, ?_⟩; cbv; clear c2)
theorem yB {n : Nat} (h : n < 4611686018427387904) : IntKind.i64.wrap ((n : Int) + 1) = (n : Int) + 1 := qj Y66 Y66
def yX (s : Qs) : Bool := decide (100 < s.stored.length) || decide (40 < s.path.length)
def Xi (l : jv) : Bool := decide (100 < l.places.length) || (decide (30 < l.shown.length) || decide (600 < l.blocks.length))
def uY (l : jv) : Bool := Xi l || (l.shown.any yX || l.blocks.any fun b => decide (100 < b.length))
theorem qcR (Z : Ad) (h : Hh) (hh : ∀ α g, h α g = g ()) (l : jv) (n1 : (100 : Int) < (l.places.length : Int)) : qo Z 89 [.pv (jB h l)] (.pv (.v (.bool true))) [.any] := by
 refine qD Z h hh ⟨Tryz.func89, Tryz.ntmps89⟩ rfl rfl rfl rfl rfl fun C hC => ?_
 unfold Tryz.f89
 cbv
 repeat' first
  | exact s0
  | apply And.intro
  | exact sq
  | trivial
  | (refine sz fun e => ?_; simp [hh, n1] at e <;> (try simp only [natc] at *) <;> omega)
  | (refine sy fun e => ?_; cbv)
theorem qcH (Z : Ad) (h : Hh) (hh : ∀ α g, h α g = g ()) (l : jv) (n1 : ¬ (100 : Int) < (l.places.length : Int)) (n2 : (30 : Int) < (l.shown.length : Int)) : qo Z 89 [.pv (jB h l)] (.pv (.v (.bool true))) [.any] := by
 refine qD Z h hh ⟨Tryz.func89, Tryz.ntmps89⟩ rfl rfl rfl rfl rfl fun C hC => ?_
 unfold Tryz.f89
 cbv
 repeat' first
  | exact s0
  | apply And.intro
  | exact sq
  | trivial
  | (refine sz fun e => ?_; simp [hh, n1, n2] at e <;> (try simp only [natc] at *) <;> omega)
  | (refine sy fun e => ?_; cbv)
theorem qcK (Z : Ad) (h : Hh) (hh : ∀ α g, h α g = g ()) (l : jv) (n1 : ¬ (100 : Int) < (l.places.length : Int)) (n2 : ¬ (30 : Int) < (l.shown.length : Int)) (n3 : (600 : Int) < (l.blocks.length : Int)) : qo Z 89 [.pv (jB h l)] (.pv (.v (.bool true))) [.any] := by
 refine qD Z h hh ⟨Tryz.func89, Tryz.ntmps89⟩ rfl rfl rfl rfl rfl fun C hC => ?_
 unfold Tryz.f89
 cbv
 repeat' first
  | exact s0
  | apply And.intro
  | exact sq
  | trivial
  | (refine sz fun e => ?_; simp [hh, n1, n2, n3] at e <;> (try simp only [natc] at *) <;> omega)
  | (refine sy fun e => ?_; cbv)
theorem Lr (Z : Ad) (h : Hh) (hh : ∀ α g, h α g = g ()) (l : jv) (q : Bool) (n1 : ¬ (100 : Int) < (l.places.length : Int)) (n2 : ¬ (30 : Int) < (l.shown.length : Int)) (n3 : ¬ (600 : Int) < (l.blocks.length : Int)) (q2 : ∀ j (hj : j < l.shown.length), yX l.shown[j] = true -> q = true) (q3 : ∀ j (hj : j < l.blocks.length), 100 < l.blocks[j].length -> q = true)
  (q4 : (∀ i, i < l.shown.length -> yX (l.shown.getD i ⟨0, [], []⟩) = false) -> (∀ i, i < l.blocks.length -> ¬ 100 < (l.blocks.getD i []).length) -> q = false) : qo Z 89 [.pv (jB h l)] (.pv (tH h q)) [.any] := by
 obtain ⟨xs, hxs⟩ := exq (l.shown)
 obtain ⟨bs, hbs⟩ := exq (l.blocks)
 have h30 : l.shown.length <= 30 := Nat.le_of_not_lt fun g => n2 (Int.ofNat_lt.2 g)
 have h600 : l.blocks.length <= 600 := Nat.le_of_not_lt fun g => n3 (Int.ofNat_lt.2 g)
 simp only [hxs, hbs] at n2 n3 q2 q3 q4 h30 h600
 have Q2 := Hdq q2
 have Q3 := Hdq q3
 have Q4 := Hdq q4
 clear q2 q3 q4
 refine qD Z h hh ⟨Tryz.func89, Tryz.ntmps89⟩ rfl rfl rfl rfl rfl fun C hC => ?_
 unfold Tryz.f89
 cbv
 repeat' first
  | exact s0
  | apply And.intro
  | exact sq
  | (refine fun (_ : PUnit) => ?_; simp [hh, hxs, hbs]; done)
  | trivial
  | (refine sz fun e => ?_; simp [hh, n1, n2, n3, hxs, hbs] at e <;> (try simp only [natc] at *) <;> omega)
  | (refine sy fun e => ?_; cbv)
 refine ⟨Nat, fun j => ⟨[(1, some (.ref 990 0 0)), (24, some (.pv (lH h jR xs))), (25, some (.pv (nH h xs.length))), (26, some (.pv (nH h j)))], [(990, some (.box 81 [.pv (iH h l.kind), .pv (iH h l.id), .pv (iH h l.obj), .pv (lH h iP l.places), .pv (lH h jR xs), .pv (iH h l.fr), .pv (iH h l.cnt), .pv (lH h bP bs), .pv (iH h l.code)] false))]⟩,
  fun j => j <= xs.length /\ (∀ i, i < j -> yX (xs.getD i ⟨0, [], []⟩) = false), fun j => xs.length - j, 0, [], ⟨Nat.zero_le _, fun i hi => by omega⟩, trivial, ⟨[(990, 1)], rfl, rfl, ⟨?_, trivial⟩, rfl, ?_, ?_, ?_, trivial⟩, ?_⟩
 ·cbv; simp [hh, hxs, hbs]
 ·cbv; simp [hh, hxs]
 ·cbv; simp [hh, hxs]
 ·cbv; simp [hh]
 ·rintro j ⟨hj, hpre⟩
  cbv
  refine ⟨fun _ => rfl, fun e => ?_, fun e => ?_⟩ <;> simp only [hh, nI, decide_eq_true_eq, decide_eq_false_iff_not] at e
  ·have e' : j < xs.length := jG e
   have q2' := Q2.out j e'
   obtain ⟨s, hs⟩ := exq (xs[j])
   rw [hs] at q2'
   have hpj : yX s = false -> ∀ i, i < j + 1 -> yX (xs.getD i ⟨0, [], []⟩) = false := fun hls i hi => by
    rcases Nat.lt_or_ge i j with g | g
    ·exact hpre i g
    ·obtain rfl : i = j := by omega
     rw [List.getD_eq_getElem?_getD, List.getElem?_eq_getElem e', hs]
     exact hls
   by_cases f1 : (100 : Int) < (s.stored.length : Int)
   ·have hqt : q = true := q2' (by have : 100 < s.stored.length := Y66; simp [yX, this])
    clear q2' hpj hpre
    cbv
    repeat' first
     | exact s0
     | apply And.intro
     | exact sq
     | (refine fun (_ : PUnit) => ?_; simp [hh, *, jR]; done)
     | trivial
     | (refine sz fun e => ?_; simp [hh, e', hs, jR, f1] at e <;> (try simp only [natc] at *) <;> omega)
     | (refine sy fun e => ?_; cbv)
   ·by_cases f2 : (40 : Int) < (s.path.length : Int)
    ·have hqt : q = true := q2' (by have : 40 < s.path.length := Y66; simp [yX, this])
     clear q2' hpj hpre
     cbv
     repeat' first
      | exact s0
      | apply And.intro
      | exact sq
      | (refine fun (_ : PUnit) => ?_; simp [hh, *, jR]; done)
      | trivial
      | (refine sz fun e => ?_; simp [hh, e', hs, jR, f1, f2] at e <;> (try simp only [natc] at *) <;> omega)
      | (refine sy fun e => ?_; cbv)
    ·have hpj := Hdq (hpj (by
      have g1 : ¬ 100 < s.stored.length := by omega
      have g2 : ¬ 40 < s.path.length := by omega
      simp [yX, g1, g2]))
     clear q2' hpre
     cbv
     repeat' first
      | exact s0
      | apply And.intro
      | exact sq
      | (refine fun (_ : PUnit) => ?_; simp [hh, *, jR]; done)
      | trivial
      | (refine sz fun e => ?_; simp [hh, e', hs, jR, f1, f2] at e <;> (try simp only [natc] at *) <;> omega)
      | (refine sy fun e => ?_; cbv)
     refine ⟨j + 1, ⟨e', hpj.out⟩, by show xs.length - (j + 1) < xs.length - j; omega, [], rfl, rfl, ⟨rfl, trivial⟩, rfl, rfl, rfl, ?_, trivial⟩
     cbv
     simp [hh]
     exact yB Y66
  ·have e' : j = xs.length := Nat.le_antisymm hj (jE e)
   subst e'
   cbv
   repeat' first
    | exact s0
    | apply And.intro
    | exact sq
    | (refine fun (_ : PUnit) => ?_; simp [hh, hbs]; done)
    | trivial
    | (refine sz fun e => ?_; simp [hh, hbs] at e <;> (try simp only [natc] at *) <;> omega)
    | (refine sy fun e => ?_; cbv)
   refine ⟨Nat, fun i => ⟨[(42, some (.pv (lH h bP bs))), (43, some (.pv (nH h bs.length))), (44, some (.pv (nH h i)))], []⟩,
    fun i => i <= bs.length /\ (∀ a, a < i -> ¬ 100 < (bs.getD a []).length), fun i => bs.length - i, 0, [], ⟨Nat.zero_le _, fun i hi => by omega⟩, trivial, ⟨[], rfl, rfl, trivial, rfl, ?_, ?_, trivial⟩, ?_⟩
   ·cbv; simp [hh]
   ·cbv; simp [hh]
   ·rintro i ⟨hi, hpi⟩
    cbv
    refine ⟨fun _ => rfl, fun e => ?_, fun e => ?_⟩ <;> simp only [hh, nI, decide_eq_true_eq, decide_eq_false_iff_not] at e
    ·have e' : i < bs.length := jG e
     have q3' := Q3.out i e'
     obtain ⟨b, hb⟩ := exq (bs[i])
     rw [hb] at q3'
     have hbl : (bs.getD i []) = b := by rw [List.getD_eq_getElem?_getD, List.getElem?_eq_getElem e', hb]; rfl
     by_cases f1 : (100 : Int) < (b.length : Int)
     ·have hqt : q = true := q3' Y66
      clear q3' hbl hpre hpi
      cbv
      repeat' first
       | exact s0
       | apply And.intro
       | exact sq
       | trivial
       | (refine sz fun e => ?_; simp [hh, e', hb, f1] at e <;> (try simp only [natc] at *) <;> omega)
       | (refine sy fun e => ?_; cbv)
     ·have hpj : ∀ a, a < i + 1 -> ¬ 100 < (bs.getD a []).length := fun a ha => by
       rcases Nat.lt_or_ge a i with g | g
       ·exact hpi a g
       ·obtain rfl : a = i := by omega
        rw [hbl]
        omega
      have hpj := Hdq hpj
      clear q3' hbl hpre hpi
      cbv
      repeat' first
       | exact s0
       | apply And.intro
       | exact sq
       | trivial
       | (refine sz fun e => ?_; simp [hh, e', hb, f1] at e <;> (try simp only [natc] at *) <;> omega)
       | (refine sy fun e => ?_; cbv)
      refine ⟨i + 1, ⟨e', hpj.out⟩, by show bs.length - (i + 1) < bs.length - i; omega, [], rfl, rfl, trivial, rfl, rfl, ?_, trivial⟩
      cbv
      simp [hh]
      exact yB Y66
    ·have e' : i = bs.length := Nat.le_antisymm hi (jE e)
     have hqt : q = false := Q4.out hpre (e' ▸ hpi)
     clear hpre hpi
     cbv
     repeat' first
      | exact s0
      | apply And.intro
      | exact sq
      | trivial
      | exact sx
      | (refine sy fun e => ?_; cbv)
end Go.Bl
namespace Go.Bl
open Go.RowKit Go.Proofs
attribute [local irreducible] qH
open Go.Proofs.YtnafknkchbfpaaaGreatDoor (Par chk blk jh jV j7 qe)
theorem qcF (Z : Ad) (h : Hh) (hh : ∀ α g, h α g = g ()) (xs : List Int) (hl : xs.length <= 100000) : qo Z 93 [.pv (lH h iP xs), .pv (lH h iP xs)] (.pv (.v (.bool true))) [.any, .any] := by
 refine qD Z h hh ⟨Tryz.func93, Tryz.ntmps93⟩ rfl rfl rfl rfl rfl fun C hC => ?_
 unfold Tryz.f93
 cbv
 repeat' first
  | exact s0
  | apply And.intro
  | exact sq
  | trivial
  | exact sx
  | (refine sy fun e => ?_; cbv)
 refine ⟨Nat, fun j => ⟨[(0, some (.pv (lH h iP xs))), (1, some (.pv (lH h iP xs))), (12, some (.pv (nH h xs.length))), (13, some (.pv (nH h j)))], []⟩,
  fun j => j <= xs.length, fun j => xs.length - j, 0, [], Nat.zero_le _, trivial, ⟨[], rfl, rfl, trivial, rfl, rfl, ?_, ?_, trivial⟩, ?_⟩
 ·cbv; simp [hh]
 ·cbv; simp [hh]
 ·intro j hj
  cbv
  refine ⟨fun _ => rfl, fun e => ?_, fun e => ?_⟩ <;> simp only [hh, nI, decide_eq_true_eq, decide_eq_false_iff_not] at e
  ·have e' : j < xs.length := jG e
   cbv
   repeat' first
    | exact s0
    | apply And.intro
    | exact sq
    | trivial
    | exact sx
    | (refine sy fun e => ?_; cbv)
   refine ⟨j + 1, e', by show xs.length - (j + 1) < xs.length - j; omega, [], rfl, rfl, trivial, rfl, rfl, rfl, ?_, trivial⟩
   cbv
   simp [hh]
   exact yB Y66
  ·have e' : j = xs.length := Nat.le_antisymm hj (jE e)
   subst e'
   cbv
   repeat' first
    | exact s0
    | apply And.intro
    | exact sq
    | trivial
    | exact sx
    | (refine sy fun e => ?_; cbv)
theorem yJ (Z : Ad) (h : Hh) (hh : ∀ α g, h α g = g ()) (xs : List Int) (hl : xs.length <= 100000) : qo Z 41 [.pv (lH h iP xs), .pv (lH h iP xs)] (.pv (.v (.bool true))) [.any, .any] := by
 refine qD Z h hh ⟨Tryz.func41, Tryz.ntmps41⟩ rfl rfl rfl rfl rfl fun C hC => ?_
 unfold Tryz.f41
 cbv
 repeat' first
  | exact s0
  | apply And.intro
  | exact sq
  | trivial
  | exact sx
  | (refine sy fun e => ?_; cbv)
 refine ⟨Nat, fun j => ⟨[(0, some (.pv (lH h iP xs))), (1, some (.pv (lH h iP xs))), (12, some (.pv (nH h xs.length))), (13, some (.pv (nH h j)))], []⟩,
  fun j => j <= xs.length, fun j => xs.length - j, 0, [], Nat.zero_le _, trivial, ⟨[], rfl, rfl, trivial, rfl, rfl, ?_, ?_, trivial⟩, ?_⟩
 ·cbv; simp [hh]
 ·cbv; simp [hh]
 ·intro j hj
  cbv
  refine ⟨fun _ => rfl, fun e => ?_, fun e => ?_⟩ <;> simp only [hh, nI, decide_eq_true_eq, decide_eq_false_iff_not] at e
  ·have e' : j < xs.length := jG e
   cbv
   repeat' first
    | exact s0
    | apply And.intro
    | exact sq
    | trivial
    | exact sx
    | (refine sy fun e => ?_; cbv)
   refine ⟨j + 1, e', by show xs.length - (j + 1) < xs.length - j; omega, [], rfl, rfl, trivial, rfl, rfl, rfl, ?_, trivial⟩
   cbv
   simp [hh]
   exact yB Y66
  ·have e' : j = xs.length := Nat.le_antisymm hj (jE e)
   subst e'
   cbv
   repeat' first
    | exact s0
    | apply And.intro
    | exact sq
    | trivial
    | exact sx
    | (refine sy fun e => ?_; cbv)
theorem Lx (Z : Ad) (h : Hh) (hh : ∀ α g, h α g = g ()) : qo Z 28 [.pv (lH h bP []), .pv (lH h bP [])] (.pv (.v (.bool true))) [.any, .any] := by
 refine qD Z h hh ⟨Tryz.func28, Tryz.ntmps28⟩ rfl rfl rfl rfl rfl fun C hC => ?_
 unfold Tryz.f28
 cbv
 repeat' first
  | exact s0
  | apply And.intro
  | exact sq
  | trivial
  | exact sx
  | (refine sy fun e => ?_; cbv)
 refine ⟨Unit, fun _ => ⟨[(12, some (.pv (iH h 0))), (13, some (.pv (iH h 0)))], []⟩,
  fun _ => True, fun _ => 0, (), [], trivial, trivial, ⟨[], rfl, rfl, trivial, ?_, ?_, trivial⟩, ?_⟩
 ·cbv; simp [hh]
 ·cbv; simp [hh]
 ·rintro - -
  cbv
  refine ⟨fun _ => rfl, fun e => ?_, fun e => ?_⟩
  ·exfalso
   simp [hh] at e
  ·cbv
   repeat' first
    | exact s0
    | apply And.intro
    | exact sq
    | trivial
    | exact sx
    | (refine sy fun e => ?_; cbv)
theorem qc1 (Z : Ad) (h : Hh) (hh : ∀ α g, h α g = g ()) : qo Z 94 [.pv (lH h jR []), .pv (lH h jR []), .pv (.f (.func 95) [] [])] (.pv (.v (.bool true))) [.any, .any, .any] := by
 refine qD Z h hh ⟨Tryz.func94, Tryz.ntmps94⟩ rfl rfl rfl rfl rfl fun C hC => ?_
 unfold Tryz.f94
 cbv
 repeat' first
  | exact s0
  | apply And.intro
  | exact sq
  | trivial
  | exact sx
  | (refine sy fun e => ?_; cbv)
 refine ⟨Unit, fun _ => ⟨[(16, some (.pv (iH h 0))), (17, some (.pv (iH h 0)))], []⟩,
  fun _ => True, fun _ => 0, (), [], trivial, trivial, ⟨[], rfl, rfl, trivial, ?_, ?_, trivial⟩, ?_⟩
 ·cbv; simp [hh]
 ·cbv; simp [hh]
 ·rintro - -
  cbv
  refine ⟨fun _ => rfl, fun e => ?_, fun e => ?_⟩
  ·exfalso
   simp [hh] at e
  ·cbv
   repeat' first
    | exact s0
    | apply And.intro
    | exact sq
    | trivial
    | exact sx
    | (refine sy fun e => ?_; cbv)
theorem qdl (Z : Ad) (h : Hh) (hh : ∀ α g, h α g = g ()) : qo Z 96 [.pv (lH h bP []), .pv (lH h bP []), .pv (.f (.func 97) [] [])] (.pv (.v (.bool true))) [.any, .any, .any] := by
 refine qD Z h hh ⟨Tryz.func96, Tryz.ntmps96⟩ rfl rfl rfl rfl rfl fun C hC => ?_
 unfold Tryz.f96
 cbv
 repeat' first
  | exact s0
  | apply And.intro
  | exact sq
  | trivial
  | exact sx
  | (refine sy fun e => ?_; cbv)
 refine ⟨Unit, fun _ => ⟨[(16, some (.pv (iH h 0))), (17, some (.pv (iH h 0)))], []⟩,
  fun _ => True, fun _ => 0, (), [], trivial, trivial, ⟨[], rfl, rfl, trivial, ?_, ?_, trivial⟩, ?_⟩
 ·cbv; simp [hh]
 ·cbv; simp [hh]
 ·rintro - -
  cbv
  refine ⟨fun _ => rfl, fun e => ?_, fun e => ?_⟩
  ·exfalso
   simp [hh] at e
  ·cbv
   repeat' first
    | exact s0
    | apply And.intro
    | exact sq
    | trivial
    | exact sx
    | (refine sy fun e => ?_; cbv)
theorem Zy (Z : Ad) (h : Hh) (hh : ∀ α g, h α g = g ()) : qo Z 42 [.pv (jB h uF), .pv (jB h uF)] (.pv (.v (.bool true))) [.any, .any] := by
 have c1 := qcF Z h hh [] qc
 have c2 := qc1 Z h hh
 have c3 := qdl Z h hh
 refine qD Z h hh ⟨Tryz.func42, Tryz.ntmps42⟩ rfl rfl rfl rfl rfl fun C hC => ?_
 unfold Tryz.f42
 cbv
 repeat' first
  | exact s0
  | apply And.intro
  | exact sq
  | (refine fun (_ : PUnit) => ?_; simp [hh, *, uF, jU, splice, qdB]; done)
  | trivial
  | exact sx
  | (refine sy fun e => ?_; cbv)
 refine ⟨_, _, _, hC _ _ _ _ c1, ?_⟩
 cbv
 clear c1
 repeat' first
  | exact s0
  | apply And.intro
  | exact sq
  | (refine fun (_ : PUnit) => ?_; simp [hh, *, uF]; done)
  | trivial
  | exact sx
  | (refine sy fun e => ?_; cbv)
  | (refine ⟨_, _, _, hC _ _ _ _ c2, ?_⟩; cbv; clear c2)
  | (refine ⟨_, _, _, hC _ _ _ _ c3, ?_⟩; cbv; clear c3)
end Go.Bl
namespace Go.Bl
open Go.RowKit Go.Proofs
attribute [local irreducible] qH
open Go.Proofs.YtnafknkchbfpaaaGreatDoor (Par chk blk jh jV j7 qe)
theorem qdp (Z : Ad) (h : Hh) (hh : ∀ α g, h α g = g ()) (l : jv) (hs : l.shown = []) : qo Z 44 [.pv (jB h l)] (.pv (jB h l)) [.any] := by
 obtain ⟨k, id, o, ps, sh, f, c, bs, cd⟩ := l
 obtain rfl : sh = [] := hs
 refine qD Z h hh ⟨Tryz.func44, Tryz.ntmps44⟩ rfl rfl rfl rfl rfl fun C hC => ?_
 unfold Tryz.f44
 cbv
 repeat' first
  | exact s0
  | apply And.intro
  | exact sq
  | trivial
  | exact sx
  | (refine sy fun e => ?_; cbv)
 refine ⟨Unit, fun _ => ⟨[(2, some (.ref 990 0 0)), (3, some (.ref 991 0 0)), (28, some (.pv (iH h 0))), (29, some (.pv (iH h 0)))],
   [(990, some (.box 100 [.pv (iH h 0), .pv (iH h 0), .pv (iH h 0), .nil, .nil, .pv (iH h 0), .pv (iH h 0), .nil, .pv (iH h 0)] false)), (991, some (.box 100 [.pv (iH h k), .pv (iH h id), .pv (iH h o), .pv (lH h iP ps), .nil, .pv (iH h f), .pv (iH h c), .pv (lH h bP bs), .pv (iH h cd)] false))]⟩,
  fun _ => True, fun _ => 0, (), [], trivial, trivial, ⟨[(990, 2), (991, 3)], rfl, rfl, ⟨?_, ?_, trivial⟩, rfl, rfl, ?_, ?_, trivial⟩, ?_⟩
 ·cbv; try simp [hh]
 ·cbv; try simp [hh]
 ·cbv; try simp [hh]
 ·cbv; try simp [hh]
 ·rintro - -
  cbv
  refine ⟨fun _ => rfl, fun e => ?_, fun e => ?_⟩
  ·exfalso
   simp [hh] at e
  ·cbv
   repeat' first
    | exact s0
    | apply And.intro
    | exact sq
    | trivial
    | exact sx
    | (refine sy fun e => ?_; cbv)
theorem L0 (Z : Ad) (h : Hh) (hh : ∀ α g, h α g = g ()) (l : jv) (hs : l.shown = []) (hb : l.blocks = []) (hl : l.places.length <= 100000) : qo Z 43 [.pv (jB h l), .pv (jB h l)] (.pv (.v (.bool true))) [.any, .any] := by
 obtain ⟨k, id, o, ps, sh, f, c, bs, cd⟩ := l
 obtain rfl : sh = [] := hs
 obtain rfl : bs = [] := hb
 have c1 := yJ Z h hh ps hl
 have c2 := Lx Z h hh
 refine qD Z h hh ⟨Tryz.func43, Tryz.ntmps43⟩ rfl rfl rfl rfl rfl fun C hC => ?_
 unfold Tryz.f43
 cbv
 repeat' first
  | exact s0
  | apply And.intro
  | exact sq
  | trivial
  | exact sx
  | (refine sy fun e => ?_; cbv)
 refine ⟨Unit, fun _ => ⟨[(2, some (.ref 990 0 0)), (3, some (.ref 991 0 0)), (60, some (.pv (iH h 0))), (61, some (.pv (iH h 0)))],
   [(990, some (.box 100 [.pv (iH h k), .pv (iH h id), .pv (iH h o), .pv (lH h iP ps), .pv (lH h jR []), .pv (iH h f), .pv (iH h c), .pv (lH h bP []), .pv (iH h cd)] false)), (991, some (.box 100 [.pv (iH h k), .pv (iH h id), .pv (iH h o), .pv (lH h iP ps), .pv (lH h jR []), .pv (iH h f), .pv (iH h c), .pv (lH h bP []), .pv (iH h cd)] false))]⟩,
  fun _ => True, fun _ => 0, (), [], trivial, trivial, ⟨[(990, 2), (991, 3)], rfl, rfl, ⟨?_, ?_, trivial⟩, rfl, rfl, ?_, ?_, trivial⟩, ?_⟩
 ·cbv; try simp [hh]
 ·cbv; try simp [hh]
 ·cbv; try simp [hh]
 ·cbv; try simp [hh]
 ·rintro - -
  cbv
  refine ⟨fun _ => rfl, fun e => ?_, fun e => ?_⟩
  ·exfalso
   simp [hh] at e
  ·cbv
   repeat' first
    | exact s0
    | apply And.intro
    | exact sq
    | trivial
    | exact sx
    | (refine sy fun e => ?_; cbv)
    | (refine ⟨_, _, _, hC _ _ _ _ c1, ?_⟩; cbv; clear c1)
    | (refine ⟨_, _, _, hC _ _ _ _ c2, ?_⟩; cbv; clear c2)
end Go.Bl
