import Derived.Test.YtnafknkchbfpaaaGreatDoorPO
set_option linter.unusedVariables false
set_option linter.unusedSimpArgs false
set_option maxRecDepth 1000000
set_option maxHeartbeats 8000000
namespace Go.Bl
open Go.RowKit Go.Proofs
attribute [local irreducible] qw
open Go.Proofs.YtnafknkchbfpaaaGreatDoor (Par chk blk jj jG jQ qc)
structure qA where
 place : Int
 stored : List UInt8
 path : List Dg
def qa (s : qA) : PV := .a [iP s.place, bP s.stored, .l (s.path.map aP)]
@[simp] theorem shownP_w (s : qA) : (qa s).cells.length = 3 := rfl
structure qu where
 kind : Int
 id : Int
 obj : Int
 places : List Int
 shown : List qA
 fr : Int
 cnt : Int
 blocks : List (List UInt8)
 code : Int
abbrev qr (h : Hh) (l : qu) : PV := .a [iH h l.kind, iH h l.id, iH h l.obj, lH h iP l.places, lH h qa l.shown, iH h l.fr, iH h l.cnt, lH h bP l.blocks, iH h l.code]
def J1 (x : qD) (e : qz) (l : List Int) : qu := ⟨3, e.id, x.num, l, [], 0, 0, [], 0⟩
theorem yK (Z : Ad) (h : Hh) (hh : ∀ α g, h α g = g ()) (l : qu) (hl : l.shown.length <= 100000) : qb Z 98 [.pv (qr h l)] (.pv (lH h iP (l.shown.map (·.place)))) [.any] := by
 obtain ⟨xs, hx⟩ := exq (l.shown)
 rw [hx] at hl ⊢
 refine qh Z h hh ⟨Tryz.func98, Tryz.ntmps98⟩ rfl rfl rfl rfl rfl fun C hC => ?_
 unfold Tryz.f98
 cbv
 repeat' first
  | exact s0
  | apply And.intro
  | exact sq
  | (refine fun (_ : PUnit) => ?_; simp [hh, hx]; done)
  | trivial
  | (refine sz fun e => ?_; simp [hh, hx] at e <;> (try simp only [natc] at *) <;> omega)
  | (refine sy fun e => ?_; cbv)
 refine ⟨Nat, fun j => ⟨[(3, some (.own 990)), (7, some (.pv (lH h qa xs))), (8, some (.pv (nH h xs.length))), (9, some (.pv (nH h j)))], [(990, some (.row 3 1 (h _ fun _ => (xs.take j).map fun s => iP s.place) false))]⟩,
  fun j => j <= xs.length, fun j => xs.length - j, 0, [(3, 990, 3, 1)], Nat.zero_le _, ⟨rfl, by decide, rfl, trivial⟩, ⟨[], rfl, rfl, ⟨?_, trivial⟩, rfl, ?_, ?_, ?_, trivial⟩, ?_⟩
 ·cbv; simp [hh]
 ·cbv; simp [hh, hx]
 ·cbv; simp [hh, hx]
 ·cbv; simp [hh]
 ·intro j hj
  cbv
  refine ⟨fun _ => rfl, fun e => ?_, fun e => ?_⟩ <;> simp only [hh, nI, decide_eq_true_eq, decide_eq_false_iff_not] at e
  ·have e' : j < xs.length := qK e
   cbv
   repeat' first
    | exact s0
    | apply And.intro
    | exact sq
    | (refine fun (_ : PUnit) => ?_; simp [hh, *, qa]; done)
    | trivial
    | exact sx
    | (refine sy fun e => ?_; cbv)
   refine ⟨j + 1, e', by show xs.length - (j + 1) < xs.length - j; omega, [(990, 17)], rfl, rfl, ⟨?_, trivial⟩, rfl, rfl, rfl, ?_, trivial⟩
   ·cbv
    simp only [hh, List.take_succ_eq_append_getElem e', List.map_append]
    simp [e', qa]
   ·cbv
    exact Y32
  ·have e' : j = xs.length := Nat.le_antisymm hj (ge_nat e)
   subst e'
   cbv
   repeat' first
    | exact s0
    | apply And.intro
    | exact sq
    | trivial
    | exact sx
    | (refine sy fun e => ?_; cbv)
def qA.ok (s : qA) : Prop := s.stored.length <= 10000 /\ s.path.length <= 1000 /\ ∀ p ∈ s.path, p.length = 32
def qI (x : qD) (s : qA) : Nat := QK x.root (blk x.par.size + x.par.sent).toNat s.place s.stored s.path
theorem qaP (Z : Ad) (h : Hh) (hh : ∀ α g, h α g = g ()) (x : qD) (lr : x.root.length = 32) (lf : x.file.length = 32) (s : qA) (j : Nat) (c0 : qb Z 72 [.pv (zX h x.par)] (.pv (wrP h Z x.par j)) [.any]) : qb Z 99 [.pv (qj h x), .pv (.a [iH h s.place, bH h s.stored, lH h aP s.path])] (.pv (wrP h Z x.par j)) [.any, .any] := by
 have c1 := ZQ Z h hh x.par j c0
 have il := qv lr lf
 clear c0
 refine qh Z h hh ⟨Tryz.func99, Tryz.ntmps99⟩ rfl rfl rfl rfl rfl fun C hC => ?_
 unfold Tryz.f99
 cbv
 repeat' first
  | exact s0
  | apply And.intro
  | exact sq
  | (refine fun (_ : PUnit) => ?_; simp [hh, *, qd]; done)
  | trivial
  | exact sx
  | (refine sy fun e => ?_; cbv)
  | (refine ⟨_, _, _, hC _ _ _ _ c1, ?_⟩; cbv; clear c1)
theorem yE (Z : Ad) (h : Hh) (hh : ∀ α g, h α g = g ()) (x : qD) (lr : x.root.length = 32) (lf : x.file.length = 32) (s : qA) (hs : s.ok) (hc : chk x.par = 0) : qb Z 99 [.pv (qj h x), .pv (.a [iH h s.place, bH h s.stored, lH h aP s.path])] (.pv (Qt Z (qI x s))) [.any, .any] := by
 have c1 := j6 Z h hh x.par hc
 have il := qv lr lf
 have zb := Go.Proofs.YtnafknkchbfpaaaGreatDoor.blk_le (p := x.par) (ue hc).1
 have z1 : 0 <= x.par.sent /\ x.par.sent <= 8 := (ue hc).2.1
 obtain ⟨n, hn⟩ := Int.eq_ofNat_of_zero_le (a := blk x.par.size + x.par.sent) Y44
 have c2 := W7 Z h hh x.root n s.place s.stored (by have := hs.1; omega) s.path hs.2.2 lr
 rw [show QK x.root n s.place s.stored s.path = qI x s by rw [qI, hn]; rfl] at c2
 obtain ⟨q, hq⟩ := exq (Qt Z (qI x s))
 rw [hq] at c2 ⊢
 rw [hn] at c1
 have g : List.take 32 (List.drop 8 (qd x)) = x.root.map u8P := by simp [qd, lr]
 clear hc hn hs hq zb z1
 refine qh Z h hh ⟨Tryz.func99, Tryz.ntmps99⟩ rfl rfl rfl rfl rfl fun C hC => ?_
 unfold Tryz.f99
 cbv
 repeat' first
  | exact s0
  | apply And.intro
  | exact sq
  | (refine fun (_ : PUnit) => ?_; simp [hh, *, qd]; done)
  | trivial
  | exact sx
  | (refine sy fun e => ?_; cbv)
  | (refine ⟨_, _, _, hC _ _ _ _ c1, ?_⟩; cbv; clear c1)
  | (refine ⟨_, _, _, hC _ _ _ _ c2, ?_⟩; cbv; clear c2)
end Go.Bl
namespace Go.Bl
open Go.RowKit Go.Proofs
attribute [local irreducible] qw
open Go.Proofs.YtnafknkchbfpaaaGreatDoor (Par chk blk jj jG jQ qc)
theorem Yk (Z : Ad) (h : Hh) (hh : ∀ α g, h α g = g ()) (m : List UInt8) (x : qD) (e : qz) (l : qu) (lr : x.root.length = 32) (lf : x.file.length = 32) (ps : List Int) (hk : l.kind ≠ 4) (c1 : qb Z 37 [.pv (bH h m), .pv (qj h x), .pv (qk h e)] (.tup [.pv (lH h iP ps), .pv (.v .nilIface)]) [.any, .any, .any]) : qb Z 46 [.pv (bH h m), .pv (qj h x), .pv (qk h e), .pv (qr h l)] (.pv (qY Z 7)) [.any, .any, .any, .any] := by
 have il := qv lr lf
 refine qh Z h hh ⟨Tryz.func46, Tryz.ntmps46⟩ rfl rfl rfl rfl rfl fun C hC => ?_
 unfold Tryz.f46
 cbv
 repeat' first
  | exact s0
  | apply And.intro
  | exact sq
  | (refine fun (_ : PUnit) => ?_; simp [hh, *, qd]; done)
  | trivial
  | exact sx
  | (refine sy fun e => ?_; cbv)
 refine ⟨_, _, _, hC _ _ _ _ c1, ?_⟩
 cbv
 clear c1
 repeat' first
  | exact s0
  | apply And.intro
  | exact sq
  | (refine fun (_ : PUnit) => ?_; simp [hh, *, qd]; done)
  | trivial
  | (refine sz fun e => ?_; simp [hh, hk] at e <;> (try simp only [natc] at *) <;> omega)
  | (refine sy fun e => ?_; cbv)
theorem V6 (Z : Ad) (h : Hh) (hh : ∀ α g, h α g = g ()) (m : List UInt8) (x : qD) (e : qz) (l : qu) (lr : x.root.length = 32) (lf : x.file.length = 32) (ps : List Int) (hk : l.kind ≠ 4) (c1 : qb Z 37 [.pv (bH h m), .pv (qj h x), .pv (qk h e)] (.tup [.pv (lH h iP ps), .pv (.v .nilIface)]) [.any, .any, .any]) : qb Z 47 [.pv (bH h m), .pv (qj h x), .pv (qk h e), .pv (qr h l)] (.tup [.pv (iH h 2), .pv (.v .nilIface)]) [.any, .any, .any, .any] := by
 have il := qv lr lf
 have c2 := Yk Z h hh m x e l lr lf ps hk c1
 refine qh Z h hh ⟨Tryz.func47, Tryz.ntmps47⟩ rfl rfl rfl rfl rfl fun C hC => ?_
 unfold Tryz.f47
 cbv
 repeat' first
  | exact s0
  | apply And.intro
  | exact sq
  | (refine fun (_ : PUnit) => ?_; simp [hh, *, qd]; done)
  | trivial
  | exact sx
  | (refine sy fun e => ?_; cbv)
  | (refine ⟨_, _, _, hC _ _ _ _ c1, ?_⟩; cbv; clear c1)
  | (refine ⟨_, _, _, hC _ _ _ _ c2, ?_⟩; cbv; clear c2)
theorem Vu {n : Nat} (h : n < 4611686018427387904) : IntKind.i64.wrap ((n : Int) + 1) = (n : Int) + 1 := wrap_i64 Y44 Y44
def xH (s : qA) : Bool := decide (100 < s.stored.length) || decide (40 < s.path.length)
def UX (l : qu) : Bool := decide (100 < l.places.length) || (decide (30 < l.shown.length) || decide (600 < l.blocks.length))
def uq (l : qu) : Bool := UX l || (l.shown.any xH || l.blocks.any fun b => decide (100 < b.length))
theorem qeo (Z : Ad) (h : Hh) (hh : ∀ α g, h α g = g ()) (l : qu) (n1 : (100 : Int) < (l.places.length : Int)) : qb Z 89 [.pv (qr h l)] (.pv (.v (.bool true))) [.any] := by
 refine qh Z h hh ⟨Tryz.func89, Tryz.ntmps89⟩ rfl rfl rfl rfl rfl fun C hC => ?_
 unfold Tryz.f89
 cbv
 repeat' first
  | exact s0
  | apply And.intro
  | exact sq
  | trivial
  | (refine sz fun e => ?_; simp [hh, n1] at e <;> (try simp only [natc] at *) <;> omega)
  | (refine sy fun e => ?_; cbv)
theorem qdU (Z : Ad) (h : Hh) (hh : ∀ α g, h α g = g ()) (l : qu) (n1 : ¬ (100 : Int) < (l.places.length : Int)) (n2 : (30 : Int) < (l.shown.length : Int)) : qb Z 89 [.pv (qr h l)] (.pv (.v (.bool true))) [.any] := by
 refine qh Z h hh ⟨Tryz.func89, Tryz.ntmps89⟩ rfl rfl rfl rfl rfl fun C hC => ?_
 unfold Tryz.f89
 cbv
 repeat' first
  | exact s0
  | apply And.intro
  | exact sq
  | trivial
  | (refine sz fun e => ?_; simp [hh, n1, n2] at e <;> (try simp only [natc] at *) <;> omega)
  | (refine sy fun e => ?_; cbv)
theorem qdT (Z : Ad) (h : Hh) (hh : ∀ α g, h α g = g ()) (l : qu) (n1 : ¬ (100 : Int) < (l.places.length : Int)) (n2 : ¬ (30 : Int) < (l.shown.length : Int)) (n3 : (600 : Int) < (l.blocks.length : Int)) : qb Z 89 [.pv (qr h l)] (.pv (.v (.bool true))) [.any] := by
 refine qh Z h hh ⟨Tryz.func89, Tryz.ntmps89⟩ rfl rfl rfl rfl rfl fun C hC => ?_
 unfold Tryz.f89
 cbv
 repeat' first
  | exact s0
  | apply And.intro
  | exact sq
  | trivial
  | (refine sz fun e => ?_; simp [hh, n1, n2, n3] at e <;> (try simp only [natc] at *) <;> omega)
  | (refine sy fun e => ?_; cbv)
theorem qa4 (Z : Ad) (h : Hh) (hh : ∀ α g, h α g = g ()) (l : qu) (q : Bool) (n1 : ¬ (100 : Int) < (l.places.length : Int)) (n2 : ¬ (30 : Int) < (l.shown.length : Int)) (n3 : ¬ (600 : Int) < (l.blocks.length : Int)) (q2 : ∀ j (hj : j < l.shown.length), xH l.shown[j] = true -> q = true) (q3 : ∀ j (hj : j < l.blocks.length), 100 < l.blocks[j].length -> q = true)
  (q4 : (∀ i, i < l.shown.length -> xH (l.shown.getD i ⟨0, [], []⟩) = false) -> (∀ i, i < l.blocks.length -> ¬ 100 < (l.blocks.getD i []).length) -> q = false) : qb Z 89 [.pv (qr h l)] (.pv (tH h q)) [.any] := by
 obtain ⟨xs, hxs⟩ := exq (l.shown)
 obtain ⟨bs, hbs⟩ := exq (l.blocks)
 have h30 : l.shown.length <= 30 := Nat.le_of_not_lt fun g => n2 (Int.ofNat_lt.2 g)
 have h600 : l.blocks.length <= 600 := Nat.le_of_not_lt fun g => n3 (Int.ofNat_lt.2 g)
 simp only [hxs, hbs] at n2 n3 q2 q3 q4 h30 h600
 have Q2 := Hdq q2
 have Q3 := Hdq q3
 have Q4 := Hdq q4
 clear q2 q3 q4
 refine qh Z h hh ⟨Tryz.func89, Tryz.ntmps89⟩ rfl rfl rfl rfl rfl fun C hC => ?_
 unfold Tryz.f89
 cbv
 repeat' first
  | exact s0
  | apply And.intro
  | exact sq
  | (refine fun (_ : PUnit) => ?_; simp [hh, hxs, hbs]; done)
  | trivial
  | (refine sz fun e => ?_; simp [hh, n1, n2, n3, hxs, hbs] at e <;> (try simp only [natc] at *) <;> omega)
  | (refine sy fun e => ?_; cbv)
 refine ⟨Nat, fun j => ⟨[(1, some (.ref 990 0 0)), (24, some (.pv (lH h qa xs))), (25, some (.pv (nH h xs.length))), (26, some (.pv (nH h j)))], [(990, some (.box 81 [.pv (iH h l.kind), .pv (iH h l.id), .pv (iH h l.obj), .pv (lH h iP l.places), .pv (lH h qa xs), .pv (iH h l.fr), .pv (iH h l.cnt), .pv (lH h bP bs), .pv (iH h l.code)] false))]⟩,
  fun j => j <= xs.length /\ (∀ i, i < j -> xH (xs.getD i ⟨0, [], []⟩) = false), fun j => xs.length - j, 0, [], ⟨Nat.zero_le _, fun i hi => by omega⟩, trivial, ⟨[(990, 1)], rfl, rfl, ⟨?_, trivial⟩, rfl, ?_, ?_, ?_, trivial⟩, ?_⟩
 ·cbv; simp [hh, hxs, hbs]
 ·cbv; simp [hh, hxs]
 ·cbv; simp [hh, hxs]
 ·cbv; simp [hh]
 ·rintro j ⟨hj, hpre⟩
  cbv
  refine ⟨fun _ => rfl, fun e => ?_, fun e => ?_⟩ <;> simp only [hh, nI, decide_eq_true_eq, decide_eq_false_iff_not] at e
  ·have e' : j < xs.length := qK e
   have q2' := Q2.out j e'
   obtain ⟨s, hs⟩ := exq (xs[j])
   rw [hs] at q2'
   have hpj : xH s = false -> ∀ i, i < j + 1 -> xH (xs.getD i ⟨0, [], []⟩) = false := fun hls i hi => by
    rcases Nat.lt_or_ge i j with g | g
    ·exact hpre i g
    ·obtain rfl : i = j := by omega
     rw [List.getD_eq_getElem?_getD, List.getElem?_eq_getElem e', hs]
     exact hls
   by_cases f1 : (100 : Int) < (s.stored.length : Int)
   ·have hqt : q = true := q2' (by have : 100 < s.stored.length := Y44; simp [xH, this])
    clear q2' hpj hpre
    cbv
    repeat' first
     | exact s0
     | apply And.intro
     | exact sq
     | (refine fun (_ : PUnit) => ?_; simp [hh, *, qa]; done)
     | trivial
     | (refine sz fun e => ?_; simp [hh, e', hs, qa, f1] at e <;> (try simp only [natc] at *) <;> omega)
     | (refine sy fun e => ?_; cbv)
   ·by_cases f2 : (40 : Int) < (s.path.length : Int)
    ·have hqt : q = true := q2' (by have : 40 < s.path.length := Y44; simp [xH, this])
     clear q2' hpj hpre
     cbv
     repeat' first
      | exact s0
      | apply And.intro
      | exact sq
      | (refine fun (_ : PUnit) => ?_; simp [hh, *, qa]; done)
      | trivial
      | (refine sz fun e => ?_; simp [hh, e', hs, qa, f1, f2] at e <;> (try simp only [natc] at *) <;> omega)
      | (refine sy fun e => ?_; cbv)
    ·have hpj := Hdq (hpj (by
      have g1 : ¬ 100 < s.stored.length := by omega
      have g2 : ¬ 40 < s.path.length := by omega
      simp [xH, g1, g2]))
     clear q2' hpre
     cbv
     repeat' first
      | exact s0
      | apply And.intro
      | exact sq
      | (refine fun (_ : PUnit) => ?_; simp [hh, *, qa]; done)
      | trivial
      | (refine sz fun e => ?_; simp [hh, e', hs, qa, f1, f2] at e <;> (try simp only [natc] at *) <;> omega)
      | (refine sy fun e => ?_; cbv)
     refine ⟨j + 1, ⟨e', hpj.out⟩, by show xs.length - (j + 1) < xs.length - j; omega, [], rfl, rfl, ⟨rfl, trivial⟩, rfl, rfl, rfl, ?_, trivial⟩
     cbv
     simp [hh]
     exact Vu Y44
  ·have e' : j = xs.length := Nat.le_antisymm hj (ge_nat e)
   subst e'
   cbv
   repeat' first
    | exact s0
    | apply And.intro
    | exact sq
    | (refine fun (_ : PUnit) => ?_; simp [hh, hbs]; done)
    | trivial
    | (refine sz fun e => ?_; simp [hh, hbs] at e <;> (try simp only [natc] at *) <;> omega)
    | (refine sy fun e => ?_; cbv)
   refine ⟨Nat, fun i => ⟨[(42, some (.pv (lH h bP bs))), (43, some (.pv (nH h bs.length))), (44, some (.pv (nH h i)))], []⟩,
    fun i => i <= bs.length /\ (∀ a, a < i -> ¬ 100 < (bs.getD a []).length), fun i => bs.length - i, 0, [], ⟨Nat.zero_le _, fun i hi => by omega⟩, trivial, ⟨[], rfl, rfl, trivial, rfl, ?_, ?_, trivial⟩, ?_⟩
   ·cbv; simp [hh]
   ·cbv; simp [hh]
   ·rintro i ⟨hi, hpi⟩
    cbv
    refine ⟨fun _ => rfl, fun e => ?_, fun e => ?_⟩ <;> simp only [hh, nI, decide_eq_true_eq, decide_eq_false_iff_not] at e
    ·have e' : i < bs.length := qK e
     have q3' := Q3.out i e'
     obtain ⟨b, hb⟩ := exq (bs[i])
     rw [hb] at q3'
     have hbl : (bs.getD i []) = b := by rw [List.getD_eq_getElem?_getD, List.getElem?_eq_getElem e', hb]; rfl
     by_cases f1 : (100 : Int) < (b.length : Int)
     ·have hqt : q = true := q3' Y44
      clear q3' hbl hpre hpi
      cbv
      repeat' first
       | exact s0
       | apply And.intro
       | exact sq
       | trivial
       | (refine sz fun e => ?_; simp [hh, e', hb, f1] at e <;> (try simp only [natc] at *) <;> omega)
       | (refine sy fun e => ?_; cbv)
     ·have hpj : ∀ a, a < i + 1 -> ¬ 100 < (bs.getD a []).length := fun a ha => by
       rcases Nat.lt_or_ge a i with g | g
       ·exact hpi a g
       ·obtain rfl : a = i := by omega
        rw [hbl]
        omega
      have hpj := Hdq hpj
      clear q3' hbl hpre hpi
      cbv
      repeat' first
       | exact s0
       | apply And.intro
       | exact sq
       | trivial
       | (refine sz fun e => ?_; simp [hh, e', hb, f1] at e <;> (try simp only [natc] at *) <;> omega)
       | (refine sy fun e => ?_; cbv)
      refine ⟨i + 1, ⟨e', hpj.out⟩, by show bs.length - (i + 1) < bs.length - i; omega, [], rfl, rfl, trivial, rfl, rfl, ?_, trivial⟩
      cbv
      simp [hh]
      exact Vu Y44
    ·have e' : i = bs.length := Nat.le_antisymm hi (ge_nat e)
     have hqt : q = false := Q4.out hpre (e' ▸ hpi)
     clear hpre hpi
     cbv
     repeat' first
      | exact s0
      | apply And.intro
      | exact sq
      | trivial
      | exact sx
      | (refine sy fun e => ?_; cbv)
end Go.Bl
namespace Go.Bl
open Go.RowKit Go.Proofs
attribute [local irreducible] qw
open Go.Proofs.YtnafknkchbfpaaaGreatDoor (Par chk blk jj jG jQ qc)
end Go.Bl
namespace Go.Bl
open Go.RowKit Go.Proofs
attribute [local irreducible] qw
open Go.Proofs.YtnafknkchbfpaaaGreatDoor (Par chk blk jj jG jQ qc)
end Go.Bl
