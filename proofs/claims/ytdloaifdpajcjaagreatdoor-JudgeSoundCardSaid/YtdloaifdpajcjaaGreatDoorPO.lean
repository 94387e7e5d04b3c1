import Derived.Test.YtdloaifdpajcjaaGreatDoorPM
import Derived.Test.YtdloaifdpajcjaaGreatDoorPN
set_option linter.unusedVariables false
set_option linter.unusedSimpArgs false
set_option maxRecDepth 1000000
set_option maxHeartbeats 8000000
namespace Go.Bl
open Go.RowKit Go.Proofs
attribute [local irreducible] qz
theorem qhx {a b : Nat} (h : ((a : Int) != (b : Int)) = false) : a = b := by
 have : (a : Int) = b := by simpa using h
 omega
theorem qbq {n i : Nat} {leaf : List UInt8} {ps : List Dg} (hps : ps.length = zH n i) : (vl n i (qy leaf) ps).length = 32 := by
 have hT : (jo n i).reverse.length = ps.length := by rw [List.length_reverse]; exact hps.symm
 have := (XB (leaf := leaf) hT).2
 unfold vl
 rw [<- this]
 exact jv _
def WI (Z : Ad) (k : Nat) : PV := if k = 0 then .v .nilIface else qP Z k
def WK (root : Dg) (n : Nat) (i : Int) (leaf : List UInt8) (ps : List Dg) : Nat :=
 if n <= 512 /\ 0 <= i /\ i < n then if zH n i.toNat = ps.length then if vl n i.toNat (qy leaf) ps = root then 0 else 15 else 8 else 1
theorem Ls (Z : Ad) (h : Hh) (hh : ∀ α g, h α g = g ()) (n i : Int) (hb : ¬(n <= 512 /\ 0 <= i /\ i < n)) : qi Z 164 [.pv (iH h n), .pv (iH h i)] (.pv (iH h (-1))) [.any, .any] := by
 have c1 := JT Z h hh n i
 rw [decide_eq_false hb] at c1
 refine qB Z h hh ⟨Tryz.func164, Tryz.ntmps164⟩ rfl rfl rfl rfl rfl fun C hC => ?_
 unfold Tryz.f164
 cbv
 repeat' first
  | exact s0
  | apply And.intro
  | exact sq
  | trivial
  | exact sx
  | (refine sy fun e => ?_; cbv)
  | (refine ⟨_, _, _, hC _ _ _ _ c1, ?_⟩; cbv; clear c1)
theorem LR (Z : Ad) (h : Hh) (hh : ∀ α g, h α g = g ()) (n : Nat) (i : Int) (leaf : List UInt8) (ps : List Dg) (hb : ¬((n : Int) <= 512 /\ 0 <= i /\ i < n)) : qi Z 101 [.pv (nH h n), .pv (iH h i), .pv (bH h leaf), .pv (lH h aP ps)] (.tup [.pv (aH h u8P (List.replicate 32 0)), .pv (qP Z 1)]) [.any, .any, .any, .any] := by
 have c1 := Ls Z h hh n i hb
 refine qB Z h hh ⟨Tryz.func101, Tryz.ntmps101⟩ rfl rfl rfl rfl rfl fun C hC => ?_
 unfold Tryz.f101
 cbv
 repeat' first
  | exact s0
  | apply And.intro
  | exact sq
  | trivial
  | exact sx
  | (refine sy fun e => ?_; cbv)
 refine ⟨_, _, _, hC _ _ _ _ c1, ?_⟩
 cbv
 clear c1
 repeat' first
  | exact s0
  | apply And.intro
  | exact sq
  | (refine fun (_ : PUnit) => ?_; simp [hh, *, jn, List.replicate]; done)
  | trivial
  | exact sx
  | (refine sy fun e => ?_; cbv)
theorem qb5 (Z : Ad) (h : Hh) (hh : ∀ α g, h α g = g ()) (n i : Nat) (hn : n <= 512) (hi : i < n) (leaf : List UInt8) (ps : List Dg) (hb : zH n i ≠ ps.length) : qi Z 101 [.pv (nH h n), .pv (nH h i), .pv (bH h leaf), .pv (lH h aP ps)] (.tup [.pv (aH h u8P (List.replicate 32 0)), .pv (qP Z 8)]) [.any, .any, .any, .any] := by
 have c1 := Zn Z h hh n i hn hi
 refine qB Z h hh ⟨Tryz.func101, Tryz.ntmps101⟩ rfl rfl rfl rfl rfl fun C hC => ?_
 unfold Tryz.f101
 cbv
 repeat' first
  | exact s0
  | apply And.intro
  | exact sq
  | trivial
  | exact sx
  | (refine sy fun e => ?_; cbv)
 refine ⟨_, _, _, hC _ _ _ _ c1, ?_⟩
 cbv
 clear c1
 repeat' first
  | exact s0
  | apply And.intro
  | exact sq
  | (refine fun (_ : PUnit) => ?_; simp [hh, *, jn, List.replicate]; done)
  | trivial
  | (refine fun (e : (_ : Bool) = _) => ?_; first | (exfalso; simp [hh] at e; done) | (exfalso; simp [hh] at e; omega) | (exfalso; simp only [hh, nI, List.length_map] at e; exact hb (qhx e)) | (replace e := Ev.mk e; cbv))
theorem Yq (Z : Ad) (h : Hh) (hh : ∀ α g, h α g = g ()) (root : Dg) (n : Nat) (i : Int) (leaf : List UInt8) (ps : List Dg) (hb : ¬((n : Int) <= 512 /\ 0 <= i /\ i < n)) : qi Z 47 [.pv (aH h u8P root), .pv (nH h n), .pv (iH h i), .pv (bH h leaf), .pv (lH h aP ps)] (.pv (qP Z 1)) [.any, .any, .any, .any, .any] := by
 have c1 := LR Z h hh n i leaf ps hb
 refine qB Z h hh ⟨Tryz.func47, Tryz.ntmps47⟩ rfl rfl rfl rfl rfl fun C hC => ?_
 unfold Tryz.f47
 cbv
 repeat' first
  | exact s0
  | apply And.intro
  | exact sq
  | trivial
  | exact sx
  | (refine sy fun e => ?_; cbv)
  | (refine ⟨_, _, _, hC _ _ _ _ c1, ?_⟩; cbv; clear c1)
theorem Ky (Z : Ad) (h : Hh) (hh : ∀ α g, h α g = g ()) (root : Dg) (n i : Nat) (hn : n <= 512) (hi : i < n) (leaf : List UInt8) (ps : List Dg) (hb : zH n i ≠ ps.length) : qi Z 47 [.pv (aH h u8P root), .pv (nH h n), .pv (nH h i), .pv (bH h leaf), .pv (lH h aP ps)] (.pv (qP Z 8)) [.any, .any, .any, .any, .any] := by
 have c1 := qb5 Z h hh n i hn hi leaf ps hb
 refine qB Z h hh ⟨Tryz.func47, Tryz.ntmps47⟩ rfl rfl rfl rfl rfl fun C hC => ?_
 unfold Tryz.f47
 cbv
 repeat' first
  | exact s0
  | apply And.intro
  | exact sq
  | trivial
  | exact sx
  | (refine sy fun e => ?_; cbv)
  | (refine ⟨_, _, _, hC _ _ _ _ c1, ?_⟩; cbv; clear c1)
theorem Yw (Z : Ad) (h : Hh) (hh : ∀ α g, h α g = g ()) (root : Dg) (n i : Nat) (hn : n <= 512) (hi : i < n) (leaf : List UInt8) (hl : leaf.length <= 10000000) (ps : List Dg) (hp : ∀ p ∈ ps, p.length = 32) (hps : ps.length = zH n i) (hr : root.length = 32) (hb : vl n i (qy leaf) ps ≠ root) : qi Z 47 [.pv (aH h u8P root), .pv (nH h n), .pv (nH h i), .pv (bH h leaf), .pv (lH h aP ps)] (.pv (qP Z 15)) [.any, .any, .any, .any, .any] := by
 have c1 := KB Z h hh n i hn hi leaf hl ps hp hps
 have hf : (vl n i (qy leaf) ps).length = 32 := qbq hps
 obtain ⟨d, hd⟩ := exq (vl n i (qy leaf) ps)
 rw [hd] at c1 hb hf
 have hb' : (d == root) = false := by simpa using hb
 clear hd hps hp hl
 refine qB Z h hh ⟨Tryz.func47, Tryz.ntmps47⟩ rfl rfl rfl rfl rfl fun C hC => ?_
 unfold Tryz.f47
 cbv
 repeat' first
  | exact s0
  | apply And.intro
  | exact sq
  | trivial
  | exact sx
  | (refine sy fun e => ?_; cbv)
 refine ⟨_, _, _, hC _ _ _ _ c1, ?_⟩
 cbv
 clear c1
 repeat' first
  | exact s0
  | apply And.intro
  | exact sq
  | trivial
  | (refine sz fun e => ?_; simp [hh, hr, hf, hb] at e <;> (try simp only [qD] at *) <;> omega)
  | (refine sy fun e => ?_; cbv)
theorem KS (Z : Ad) (h : Hh) (hh : ∀ α g, h α g = g ()) (root : Dg) (n : Nat) (i : Int) (leaf : List UInt8) (hl : leaf.length <= 10000000) (ps : List Dg) (hp : ∀ p ∈ ps, p.length = 32) (hr : root.length = 32) : qi Z 47 [.pv (aH h u8P root), .pv (nH h n), .pv (iH h i), .pv (bH h leaf), .pv (lH h aP ps)] (.pv (WI Z (WK root n i leaf ps))) [.any, .any, .any, .any, .any] := by
 unfold WK
 split
 ·rename_i e
  obtain ⟨j, rfl⟩ := Int.eq_ofNat_of_zero_le e.2.1
  simp only [Int.toNat_natCast]
  split
  ·rename_i e2
   split
   ·rename_i e3
    exact Ue Z h hh root n j Y54 Y54 leaf hl ps hp e2.symm hr e3
   ·rename_i e3
    exact Yw Z h hh root n j Y54 Y54 leaf hl ps hp e2.symm hr e3
  ·rename_i e2
   exact Ky Z h hh root n j Y54 Y54 leaf ps e2
 ·rename_i e
  exact Yq Z h hh root n i leaf ps Y54
end Go.Bl
namespace Go.Proofs.YtdloaifdpajcjaaGreatDoor
open Go.RowKit Go.Bl Go.Extern.Stop Go.Stop Go.Extern
end Go.Proofs.YtdloaifdpajcjaaGreatDoor
namespace Go.Proofs.YtdloaifdpajcjaaGreatDoor
open Go.RowKit Go.Bl
end Go.Proofs.YtdloaifdpajcjaaGreatDoor
namespace Go.Bl
open Go.RowKit Go.Proofs
attribute [local irreducible] qz
open Go.Proofs.YtdloaifdpajcjaaGreatDoor (Par chk blk qU jU jD Yk zK qj)
theorem qhg {p : Par} {t : Int} {j0 : Nat} (t3 : 0 <= p.size /\ p.size <= 2000 -> t = blk p.size) (t1 : 0 <= t) (t2 : t <= 510) (hj : j0 < 6) (h2 : ∀ j, j < j0 -> bOk p (IntKind.i64.wrap (t + p.sent)) j) (h3 : ¬ bOk p (IntKind.i64.wrap (t + p.sent)) j0) : chk p = jU j0 := by
 by_cases z0 : j0 = 0
 ·subst z0
  exact jD p 0 Y86 (fun i hi => by omega) h3
 have h0 : 0 <= p.size /\ p.size <= 2000 := h2 0 Y54
 by_cases z1 : j0 = 1
 ·subst z1
  refine jD p 1 Y86 (fun i hi => ?_) h3
  obtain rfl : i = 0 := by omega
  exact h0
 have h1 : 0 <= p.sent /\ p.sent <= 8 := h2 1 Y54
 have e := t3 h0
 rw [wrap_i64 Y54 Y54, e] at h2 h3
 have ok2 : bOk p (blk p.size + p.sent) 2 ↔ qU p 2 := by
  constructor
  ·intro q
   have q' : 1 <= p.spots /\ p.spots <= (if blk p.size + p.sent < 12 then blk p.size + p.sent else 12) := q
   refine ⟨q'.1, ?_⟩
   have := q'.2
   split at this <;> omega
  ·intro q
   have q' : 1 <= p.spots /\ p.spots <= min 12 (blk p.size + p.sent) := q
   refine ⟨q'.1, ?_⟩
   show p.spots <= (if blk p.size + p.sent < 12 then blk p.size + p.sent else 12)
   split <;> omega
 have all : ∀ i, i < 6 -> (bOk p (blk p.size + p.sent) i ↔ qU p i) := fun i hi => by
  have : i = 0 ∨ i = 1 ∨ i = 2 ∨ i = 3 ∨ i = 4 ∨ i = 5 := by omega
  rcases this with rfl | rfl | rfl | rfl | rfl | rfl
  ·exact Iff.rfl
  ·exact Iff.rfl
  ·exact ok2
  ·exact Iff.rfl
  ·exact Iff.rfl
  ·exact Iff.rfl
 exact jD p j0 hj (fun i hi => (all i Y54).1 (h2 i hi)) fun q => h3 ((all j0 hj).2 q)
abbrev wrP (h : Hh) (Z : Ad) (p : Par) (j : Nat) : PV := .i 171 (.p (h _ fun _ => XN Z p j))
theorem UJ (Z : Ad) (h : Hh) (hh : ∀ α g, h α g = g ()) (p : Par) : (chk p = 0 /\ qi Z 31 [.pv (uH h p)] (.pv (.v .nilIface)) [.any]) ∨ ∃ j, j < 6 /\ chk p = jU j /\ chk p ≠ 0 /\ qi Z 31 [.pv (uH h p)] (.pv (wrP h Z p j)) [.any] := by
 obtain ⟨t, k0, t1, t2, t3, ht⟩ := JU Z h hh p.size
 by_cases hok : ∀ j, j < 6 -> bOk p (IntKind.i64.wrap (t + p.sent)) j
 ·exact .inl ⟨qgN (fun q => (t3 q).1) t1 t2 hok, qeB Z h hh p t k0 ht hok⟩
 ·obtain ⟨j0, h1, h2, h3⟩ := Xf 6 hok
  have e := qhg (fun q => (t3 q).1) t1 t2 h1 h2 h3
  refine .inr ⟨j0, h1, e, ?_, qbo Z h hh p t k0 ht j0 h1 h2 h3⟩
  rw [e]
  unfold jU
  split
  ·decide
  ·split <;> decide
end Go.Bl
namespace Go.Bl
open Go.RowKit Go.Proofs
attribute [local irreducible] qz
open Go.Proofs.YtdloaifdpajcjaaGreatDoor (Par chk blk qU jU zK qj j7)
theorem Qf (Z : Ad) (h : Hh) (hh : ∀ α g, h α g = g ()) {p : Par} (hc : chk p = 0) : 0 <= blk p.size /\ blk p.size <= 510 /\ 0 <= p.sent /\ p.sent <= 8 := by
 obtain ⟨t, k, t1, t2, t3, -⟩ := JU Z h hh p.size
 have ho := j7 hc
 obtain ⟨rfl, -⟩ := t3 ho.1
 exact ⟨t1, t2, ho.2⟩
theorem qbs (Z : Ad) (h : Hh) (hh : ∀ α g, h α g = g ()) (p : Par) (hc : chk p = 0) : qi Z 88 [.pv (uH h p)] (.tup [.pv (iH h (blk p.size)), .pv (.v .nilIface)]) [.any] := by
 obtain ⟨t, k, -, -, t3, c2⟩ := JU Z h hh p.size
 obtain ⟨rfl, rfl⟩ := t3 (j7 hc).1
 rw [hh, show zK Z.e 0 = Value.nilIface from rfl] at c2
 rcases UJ Z h hh p with ⟨-, c1⟩ | ⟨j, -, -, hz, -⟩
 ·clear t3 hc
  refine qB Z h hh ⟨Tryz.func88, Tryz.ntmps88⟩ rfl rfl rfl rfl rfl fun C hC => ?_
  unfold Tryz.f88
  cbv
  repeat' first
   | exact s0
   | apply And.intro
   | exact sq
   | trivial
   | exact sx
   | (refine sy fun e => ?_; cbv)
   | (refine ⟨_, _, _, hC _ _ _ _ c1, ?_⟩; cbv; clear c1)
   | (refine ⟨_, _, _, hC _ _ _ _ c2, ?_⟩; cbv; clear c2)
 ·exact absurd hc hz
theorem zT (Z : Ad) (h : Hh) (hh : ∀ α g, h α g = g ()) (p : Par) (hc : chk p = 0) : qi Z 36 [.pv (uH h p)] (.tup [.pv (iH h (blk p.size + p.sent)), .pv (.v .nilIface)]) [.any] := by
 have c1 := qbs Z h hh p hc
 obtain ⟨l1, l2, l3, l4⟩ := Qf Z h hh hc
 have w1 : IntKind.i64.wrap (blk p.size + p.sent) = blk p.size + p.sent := wrap_i64 Y54 Y54
 obtain ⟨B, hB⟩ := exq (blk p.size)
 rw [hB] at c1 w1 ⊢
 clear hB l1 l2 l3 l4 hc
 refine qB Z h hh ⟨Tryz.func36, Tryz.ntmps36⟩ rfl rfl rfl rfl rfl fun C hC => ?_
 unfold Tryz.f36
 cbv
 repeat' first
  | exact s0
  | apply And.intro
  | exact sq
  | trivial
  | exact sx
  | (refine sy fun e => ?_; cbv)
  | (refine ⟨_, _, _, hC _ _ _ _ c1, ?_⟩; cbv; clear c1)
end Go.Bl
namespace Go.Bl
open Go.RowKit Go.Proofs
attribute [local irreducible] qz
open Go.Proofs.YtdloaifdpajcjaaGreatDoor (qj yK qg subL_len qS ql qG jd jK beK beK_len x9 yT xX yU Jc yN)
theorem V3 (Z : Ad) (h : Hh) (hh : ∀ α g, h α g = g ()) {S : ByteArray} {nm : List UInt8} (hL : x9 S nm) : qi Z 157 [.pv (.v (.string S))] (.pv (.v (.bool true))) [.any] := by
 refine Ji (xs := [.v (.string S)]) (.bool true) Tryz.func157 rfl rfl (fun A w => .pv (.v rfl)) fun A w us hA he hr => ?_
 cases hr with
 | cons h1 h2 =>
  cases h2
  rw [VE h1]
  exact hL.ok w
theorem qgu (Z : Ad) (h : Hh) (hh : ∀ α g, h α g = g ()) (k : List UInt8) (ls : List (List UInt8)) (hk : k.length <= 100000000) (h1 : 1 <= ls.length) (hl : ls.length <= 1000) (hb : ls.flatten.length <= 90000000) : qi Z 159 [.pv (bH h k), .pv (lH h bP ls)] (.pv (aH h u8P (JK k ls.flatten))) [.any, .any] := by
 have c1 := vf Z h hh k hk
 have c2 := Z2 Z h hh k ls h1 hl hb
 obtain ⟨d, hd⟩ := exq (JK k ls.flatten)
 have l3 : d.length = 32 := by rw [<- hd]; exact xe _ _
 rw [hd] at c2 ⊢
 clear hd
 refine qB Z h hh ⟨Tryz.func159, Tryz.ntmps159⟩ rfl rfl rfl rfl rfl fun C hC => ?_
 unfold Tryz.f159
 cbv
 repeat' first
  | exact s0
  | apply And.intro
  | exact sq
  | (refine fun (_ : PUnit) => ?_; simp [hh, *, splice]; done)
  | trivial
  | exact sx
  | (refine sy fun e => ?_; cbv)
  | (refine ⟨_, _, _, hC _ _ _ _ c1, ?_⟩; cbv; clear c1)
  | (refine ⟨_, _, _, hC _ _ _ _ c2, ?_⟩; cbv; clear c2)
theorem Va (Z : Ad) (h : Hh) (hh : ∀ α g, h α g = g ()) (m : List UInt8) : qi Z 156 [.pv (bH h m)] (.pv (tH h (decide (16 <= m.length /\ m.length <= 64)))) [.any] := by
 by_cases h1 : 16 <= m.length
 ·by_cases h2 : m.length <= 64
  ·rw [decide_eq_true ⟨h1, h2⟩]
   have z1 : (16 : Int) <= (m.length : Int) := by omega
   have z2 : (m.length : Int) <= 64 := by omega
   refine qB Z h hh ⟨Tryz.func156, Tryz.ntmps156⟩ rfl rfl rfl rfl rfl fun C hC => ?_
   unfold Tryz.f156
   cbv
   repeat' first
    | exact s0
    | apply And.intro
    | exact sq
    | trivial
    | (refine sz fun e => ?_; simp [hh, z1, z2, h1, h2] at e <;> (try simp only [qD] at *) <;> omega)
    | (refine sy fun e => ?_; cbv)
  ·rw [decide_eq_false fun q => h2 q.2]
   refine qB Z h hh ⟨Tryz.func156, Tryz.ntmps156⟩ rfl rfl rfl rfl rfl fun C hC => ?_
   unfold Tryz.f156
   cbv
   repeat' first
    | exact s0
    | apply And.intro
    | exact sq
    | trivial
    | (refine sz fun e => ?_; simp [hh, h1, h2] at e <;> (try simp only [qD] at *) <;> omega)
    | (refine sy fun e => ?_; cbv)
 ·rw [decide_eq_false fun q => h1 q.1]
  refine qB Z h hh ⟨Tryz.func156, Tryz.ntmps156⟩ rfl rfl rfl rfl rfl fun C hC => ?_
  unfold Tryz.f156
  cbv
  repeat' first
   | exact s0
   | apply And.intro
   | exact sq
   | trivial
   | (refine sz fun e => ?_; simp [hh, h1] at e <;> (try simp only [qD] at *) <;> omega)
   | (refine sy fun e => ?_; cbv)
theorem WA (Z : Ad) (h : Hh) (hh : ∀ α g, h α g = g ()) (n : Int) : qi Z 158 [.pv (iH h n)] (.pv (tH h (decide (0 <= n /\ n <= 1099511627776)))) [.any] := by
 by_cases h1 : 0 <= n
 ·by_cases h2 : n <= 1099511627776
  ·rw [decide_eq_true ⟨h1, h2⟩]
   refine qB Z h hh ⟨Tryz.func158, Tryz.ntmps158⟩ rfl rfl rfl rfl rfl fun C hC => ?_
   unfold Tryz.f158
   cbv
   repeat' first
    | exact s0
    | apply And.intro
    | exact sq
    | trivial
    | (refine sz fun e => ?_; simp [hh, h1, h2] at e <;> (try simp only [qD] at *) <;> omega)
    | (refine sy fun e => ?_; cbv)
  ·rw [decide_eq_false fun q => h2 q.2]
   refine qB Z h hh ⟨Tryz.func158, Tryz.ntmps158⟩ rfl rfl rfl rfl rfl fun C hC => ?_
   unfold Tryz.f158
   cbv
   repeat' first
    | exact s0
    | apply And.intro
    | exact sq
    | trivial
    | (refine sz fun e => ?_; simp [hh, h1, h2] at e <;> (try simp only [qD] at *) <;> omega)
    | (refine sy fun e => ?_; cbv)
 ·rw [decide_eq_false fun q => h1 q.1]
  refine qB Z h hh ⟨Tryz.func158, Tryz.ntmps158⟩ rfl rfl rfl rfl rfl fun C hC => ?_
  unfold Tryz.f158
  cbv
  repeat' first
   | exact s0
   | apply And.intro
   | exact sq
   | trivial
   | (refine sz fun e => ?_; simp [hh, h1] at e <;> (try simp only [qD] at *) <;> omega)
   | (refine sy fun e => ?_; cbv)
theorem yc (Z : Ad) (h : Hh) (hh : ∀ α g, h α g = g ()) {S : ByteArray} {nm : List UInt8} (hL : x9 S nm) (m : List UInt8) (n : Int) (hk : qj m n = 0) : qi Z 91 [.pv (bH h m), .pv (.v (.string S)), .pv (iH h n)] (.tup [.pv (bH h (qg m nm n)), .pv (.v .nilIface)]) [.any, .any, .any] := by
 obtain ⟨k1, k2, k3, k4⟩ := yK hk
 have c1 := Va Z h hh m
 rw [decide_eq_true ⟨k1, k2⟩] at c1
 have c2 := V3 Z h hh hL
 have c3 := WA Z h hh n
 rw [decide_eq_true ⟨k3, k4⟩] at c3
 have c4 := vI Z h hh n
 have hSn : S.data.toList = nm := hL.bytes
 have hSs : S.size = nm.length := by rw [<- hSn]; simp
 have hnl : nm.length <= 1000 := by have := hL.le; omega
 have c5 := qgu Z h hh m [nm, [0], beK 8 n] Y54 Y85 Y85 (by simp [beK_len]; omega)
 have e : qg m nm n = JK m [nm, [0], beK 8 n].flatten := by rw [qg]; simp
 rw [e]
 obtain ⟨d, hd⟩ := exq (JK m [nm, [0], beK 8 n].flatten)
 have l3 : d.length = 32 := by rw [<- hd]; exact xe _ _
 rw [hd] at c5 ⊢
 have c6 := JD Z h hh d Y54
 obtain ⟨nb, hnb⟩ := exq (beK 8 n)
 rw [hnb] at c4 c5
 have u0 : u8P 0 = .v (.int .u8 0) := rfl
 clear hd hnb e hk k1 k2 k3 k4
 refine qB Z h hh ⟨Tryz.func91, Tryz.ntmps91⟩ rfl rfl rfl rfl rfl fun C hC => ?_
 unfold Tryz.f91
 cbv
 repeat' first
  | exact s0
  | apply And.intro
  | exact sq
  | (refine fun (_ : PUnit) => ?_; simp [hh, *, splice, hSn, hSs, bP, u0]; done)
  | trivial
  | exact sx
  | (refine sy fun e => ?_; cbv)
  | (refine ⟨_, _, _, hC _ _ _ _ c1, ?_⟩; cbv; clear c1)
  | (refine ⟨_, _, _, hC _ _ _ _ c2, ?_⟩; cbv; clear c2)
  | (refine ⟨_, _, _, hC _ _ _ _ c3, ?_⟩; cbv; clear c3)
  | (refine ⟨_, _, _, hC _ _ _ _ c4, ?_⟩; cbv; clear c4)
  | (refine ⟨_, _, _, hC _ _ _ _ c5, ?_⟩; cbv; clear c5)
  | (refine ⟨_, _, _, hC _ _ _ _ c6, ?_⟩; cbv; clear c6)
end Go.Bl
namespace Go.Bl
open Go.RowKit Go.Proofs
attribute [local irreducible] qz
open Go.Proofs.YtdloaifdpajcjaaGreatDoor (qj qg qS ql qG jd jK x9 yT xX yU Jc yN)
theorem qd6 (Z : Ad) (h : Hh) (hh : ∀ α g, h α g = g ()) (m : List UInt8) (n : Int) (hk : qj m n = 0) (ρ0 ρ1 : List (Nat × Nat)) : Con Tryz.prog (gZ Z) 90 [.hp ρ0 [(999, .box 98 [.nil, .nil, .nil, .nil, .nil] false), (1999, .box 40 [.pv (.v .nilIface)] false), (2999, .box 22 [.pv (bH h m)] false), (3999, .box 3 [.pv (iH h n)] false)] [.pv (.v (.string ⟨#[109, 97, 115, 107]⟩)), .ref 999 0 0, .ref 2999 0 0, .ref 3999 0 0, .ref 1999 0 0]] (.hp ρ1 [(999, .box 98 [.pv (bH h (qg m qS n)), .nil, .nil, .nil, .nil] false), (1999, .box 40 [.pv (.v .nilIface)] false), (2999, .box 22 [.pv (bH h m)] false), (3999, .box 3 [.pv (iH h n)] false)] []) [] := by
 have c1 := yc Z h hh yT m n hk
 refine ZT [] Z h hh ⟨Tryz.func90, Tryz.ntmps90⟩ rfl rfl rfl (by cbv) rfl fun C hC => ?_
 unfold Tryz.f90
 cbv
 repeat' first
  | exact s0
  | apply And.intro
  | exact sq
  | trivial
  | exact sx
  | (refine sy fun e => ?_; cbv)
  | (refine ⟨_, _, _, hC _ _ _ _ c1, ?_⟩; cbv; clear c1)
 refine ⟨[], by cbv, ?_⟩
 cbv
 repeat' first
  | exact s0
  | apply And.intro
  | exact sq
  | trivial
  | exact sx
  | (refine sy fun e => ?_; cbv)
theorem qe9 (Z : Ad) (h : Hh) (hh : ∀ α g, h α g = g ()) (m : List UInt8) (n : Int) (hk : qj m n = 0) (ρ0 ρ1 : List (Nat × Nat)) : Con Tryz.prog (gZ Z) 90 [.hp ρ0 [(999, .box 98 [.pv (bH h (qg m qS n)), .nil, .nil, .nil, .nil] false), (1999, .box 40 [.pv (.v .nilIface)] false), (2999, .box 22 [.pv (bH h m)] false), (3999, .box 3 [.pv (iH h n)] false)] [.pv (.v (.string ⟨#[112, 108, 97, 99, 101]⟩)), .ref 999 0 1, .ref 2999 0 0, .ref 3999 0 0, .ref 1999 0 0]] (.hp ρ1 [(999, .box 98 [.pv (bH h (qg m qS n)), .pv (bH h (qg m ql n)), .nil, .nil, .nil] false), (1999, .box 40 [.pv (.v .nilIface)] false), (2999, .box 22 [.pv (bH h m)] false), (3999, .box 3 [.pv (iH h n)] false)] []) [] := by
 have c1 := yc Z h hh xX m n hk
 refine ZT [] Z h hh ⟨Tryz.func90, Tryz.ntmps90⟩ rfl rfl rfl (by cbv) rfl fun C hC => ?_
 unfold Tryz.f90
 cbv
 repeat' first
  | exact s0
  | apply And.intro
  | exact sq
  | trivial
  | exact sx
  | (refine sy fun e => ?_; cbv)
  | (refine ⟨_, _, _, hC _ _ _ _ c1, ?_⟩; cbv; clear c1)
 refine ⟨[], by cbv, ?_⟩
 cbv
 repeat' first
  | exact s0
  | apply And.intro
  | exact sq
  | trivial
  | exact sx
  | (refine sy fun e => ?_; cbv)
theorem qdz (Z : Ad) (h : Hh) (hh : ∀ α g, h α g = g ()) (m : List UInt8) (n : Int) (hk : qj m n = 0) (ρ0 ρ1 : List (Nat × Nat)) : Con Tryz.prog (gZ Z) 90 [.hp ρ0 [(999, .box 98 [.pv (bH h (qg m qS n)), .pv (bH h (qg m ql n)), .nil, .nil, .nil] false), (1999, .box 40 [.pv (.v .nilIface)] false), (2999, .box 22 [.pv (bH h m)] false), (3999, .box 3 [.pv (iH h n)] false)] [.pv (.v (.string ⟨#[115, 101, 110, 116, 105, 110, 101, 108]⟩)), .ref 999 0 2, .ref 2999 0 0, .ref 3999 0 0, .ref 1999 0 0]] (.hp ρ1 [(999, .box 98 [.pv (bH h (qg m qS n)), .pv (bH h (qg m ql n)), .pv (bH h (qg m qG n)), .nil, .nil] false), (1999, .box 40 [.pv (.v .nilIface)] false), (2999, .box 22 [.pv (bH h m)] false), (3999, .box 3 [.pv (iH h n)] false)] []) [] := by
 have c1 := yc Z h hh yU m n hk
 refine ZT [] Z h hh ⟨Tryz.func90, Tryz.ntmps90⟩ rfl rfl rfl (by cbv) rfl fun C hC => ?_
 unfold Tryz.f90
 cbv
 repeat' first
  | exact s0
  | apply And.intro
  | exact sq
  | trivial
  | exact sx
  | (refine sy fun e => ?_; cbv)
  | (refine ⟨_, _, _, hC _ _ _ _ c1, ?_⟩; cbv; clear c1)
 refine ⟨[], by cbv, ?_⟩
 cbv
 repeat' first
  | exact s0
  | apply And.intro
  | exact sq
  | trivial
  | exact sx
  | (refine sy fun e => ?_; cbv)
theorem qe7 (Z : Ad) (h : Hh) (hh : ∀ α g, h α g = g ()) (m : List UInt8) (n : Int) (hk : qj m n = 0) (ρ0 ρ1 : List (Nat × Nat)) : Con Tryz.prog (gZ Z) 90 [.hp ρ0 [(999, .box 98 [.pv (bH h (qg m qS n)), .pv (bH h (qg m ql n)), .pv (bH h (qg m qG n)), .nil, .nil] false), (1999, .box 40 [.pv (.v .nilIface)] false), (2999, .box 22 [.pv (bH h m)] false), (3999, .box 3 [.pv (iH h n)] false)] [.pv (.v (.string ⟨#[116, 97, 103]⟩)), .ref 999 0 3, .ref 2999 0 0, .ref 3999 0 0, .ref 1999 0 0]] (.hp ρ1 [(999, .box 98 [.pv (bH h (qg m qS n)), .pv (bH h (qg m ql n)), .pv (bH h (qg m qG n)), .pv (bH h (qg m jd n)), .nil] false), (1999, .box 40 [.pv (.v .nilIface)] false), (2999, .box 22 [.pv (bH h m)] false), (3999, .box 3 [.pv (iH h n)] false)] []) [] := by
 have c1 := yc Z h hh Jc m n hk
 refine ZT [] Z h hh ⟨Tryz.func90, Tryz.ntmps90⟩ rfl rfl rfl (by cbv) rfl fun C hC => ?_
 unfold Tryz.f90
 cbv
 repeat' first
  | exact s0
  | apply And.intro
  | exact sq
  | trivial
  | exact sx
  | (refine sy fun e => ?_; cbv)
  | (refine ⟨_, _, _, hC _ _ _ _ c1, ?_⟩; cbv; clear c1)
 refine ⟨[], by cbv, ?_⟩
 cbv
 repeat' first
  | exact s0
  | apply And.intro
  | exact sq
  | trivial
  | exact sx
  | (refine sy fun e => ?_; cbv)
theorem qew (Z : Ad) (h : Hh) (hh : ∀ α g, h α g = g ()) (m : List UInt8) (n : Int) (hk : qj m n = 0) (ρ0 ρ1 : List (Nat × Nat)) : Con Tryz.prog (gZ Z) 90 [.hp ρ0 [(999, .box 98 [.pv (bH h (qg m qS n)), .pv (bH h (qg m ql n)), .pv (bH h (qg m qG n)), .pv (bH h (qg m jd n)), .nil] false), (1999, .box 40 [.pv (.v .nilIface)] false), (2999, .box 22 [.pv (bH h m)] false), (3999, .box 3 [.pv (iH h n)] false)] [.pv (.v (.string ⟨#[115, 112, 111, 116]⟩)), .ref 999 0 4, .ref 2999 0 0, .ref 3999 0 0, .ref 1999 0 0]] (.hp ρ1 [(999, .box 98 [.pv (bH h (qg m qS n)), .pv (bH h (qg m ql n)), .pv (bH h (qg m qG n)), .pv (bH h (qg m jd n)), .pv (bH h (qg m jK n))] false), (1999, .box 40 [.pv (.v .nilIface)] false), (2999, .box 22 [.pv (bH h m)] false), (3999, .box 3 [.pv (iH h n)] false)] []) [] := by
 have c1 := yc Z h hh yN m n hk
 refine ZT [] Z h hh ⟨Tryz.func90, Tryz.ntmps90⟩ rfl rfl rfl (by cbv) rfl fun C hC => ?_
 unfold Tryz.f90
 cbv
 repeat' first
  | exact s0
  | apply And.intro
  | exact sq
  | trivial
  | exact sx
  | (refine sy fun e => ?_; cbv)
  | (refine ⟨_, _, _, hC _ _ _ _ c1, ?_⟩; cbv; clear c1)
 refine ⟨[], by cbv, ?_⟩
 cbv
 repeat' first
  | exact s0
  | apply And.intro
  | exact sq
  | trivial
  | exact sx
  | (refine sy fun e => ?_; cbv)
theorem qbt (Z : Ad) (h : Hh) (hh : ∀ α g, h α g = g ()) (m : List UInt8) (n : Int) (k : Nat) (hk : ∀ S nm, x9 S nm -> qi Z 91 [.pv (bH h m), .pv (.v (.string S)), .pv (iH h n)] (.tup [.pv (.l []), .pv (qP Z k)]) [.any, .any, .any]) (ρ0 ρ1 : List (Nat × Nat)) : Con Tryz.prog (gZ Z) 90 [.hp ρ0 [(999, .box 98 [.nil, .nil, .nil, .nil, .nil] false), (1999, .box 40 [.pv (.v .nilIface)] false), (2999, .box 22 [.pv (bH h m)] false), (3999, .box 3 [.pv (iH h n)] false)] [.pv (.v (.string ⟨#[109, 97, 115, 107]⟩)), .ref 999 0 0, .ref 2999 0 0, .ref 3999 0 0, .ref 1999 0 0]] (.hp ρ1 [(999, .box 98 [.pv (.l []), .nil, .nil, .nil, .nil] false), (1999, .box 40 [.pv (qP Z k)] false), (2999, .box 22 [.pv (bH h m)] false), (3999, .box 3 [.pv (iH h n)] false)] []) [] := by
 have c1 := hk _ _ yT
 refine ZT [] Z h hh ⟨Tryz.func90, Tryz.ntmps90⟩ rfl rfl rfl (by cbv) rfl fun C hC => ?_
 unfold Tryz.f90
 cbv
 repeat' first
  | exact s0
  | apply And.intro
  | exact sq
  | trivial
  | exact sx
  | (refine sy fun e => ?_; cbv)
  | (refine ⟨_, _, _, hC _ _ _ _ c1, ?_⟩; cbv; clear c1)
 refine ⟨[], by cbv, ?_⟩
 cbv
 repeat' first
  | exact s0
  | apply And.intro
  | exact sq
  | trivial
  | exact sx
  | (refine sy fun e => ?_; cbv)
theorem qbC (Z : Ad) (h : Hh) (hh : ∀ α g, h α g = g ()) (m : List UInt8) (n : Int) (k : Nat) (hk : ∀ S nm, x9 S nm -> qi Z 91 [.pv (bH h m), .pv (.v (.string S)), .pv (iH h n)] (.tup [.pv (.l []), .pv (qP Z k)]) [.any, .any, .any]) (ρ0 ρ1 : List (Nat × Nat)) : Con Tryz.prog (gZ Z) 90 [.hp ρ0 [(999, .box 98 [.pv (.l []), .nil, .nil, .nil, .nil] false), (1999, .box 40 [.pv (qP Z k)] false), (2999, .box 22 [.pv (bH h m)] false), (3999, .box 3 [.pv (iH h n)] false)] [.pv (.v (.string ⟨#[112, 108, 97, 99, 101]⟩)), .ref 999 0 1, .ref 2999 0 0, .ref 3999 0 0, .ref 1999 0 0]] (.hp ρ1 [(999, .box 98 [.pv (.l []), .pv (.l []), .nil, .nil, .nil] false), (1999, .box 40 [.pv (qP Z k)] false), (2999, .box 22 [.pv (bH h m)] false), (3999, .box 3 [.pv (iH h n)] false)] []) [] := by
 have c1 := hk _ _ xX
 refine ZT [] Z h hh ⟨Tryz.func90, Tryz.ntmps90⟩ rfl rfl rfl (by cbv) rfl fun C hC => ?_
 unfold Tryz.f90
 cbv
 repeat' first
  | exact s0
  | apply And.intro
  | exact sq
  | trivial
  | exact sx
  | (refine sy fun e => ?_; cbv)
  | (refine ⟨_, _, _, hC _ _ _ _ c1, ?_⟩; cbv; clear c1)
 refine ⟨[], by cbv, ?_⟩
 cbv
 repeat' first
  | exact s0
  | apply And.intro
  | exact sq
  | trivial
  | exact sx
  | (refine sy fun e => ?_; cbv)
theorem qby (Z : Ad) (h : Hh) (hh : ∀ α g, h α g = g ()) (m : List UInt8) (n : Int) (k : Nat) (hk : ∀ S nm, x9 S nm -> qi Z 91 [.pv (bH h m), .pv (.v (.string S)), .pv (iH h n)] (.tup [.pv (.l []), .pv (qP Z k)]) [.any, .any, .any]) (ρ0 ρ1 : List (Nat × Nat)) : Con Tryz.prog (gZ Z) 90 [.hp ρ0 [(999, .box 98 [.pv (.l []), .pv (.l []), .nil, .nil, .nil] false), (1999, .box 40 [.pv (qP Z k)] false), (2999, .box 22 [.pv (bH h m)] false), (3999, .box 3 [.pv (iH h n)] false)] [.pv (.v (.string ⟨#[115, 101, 110, 116, 105, 110, 101, 108]⟩)), .ref 999 0 2, .ref 2999 0 0, .ref 3999 0 0, .ref 1999 0 0]] (.hp ρ1 [(999, .box 98 [.pv (.l []), .pv (.l []), .pv (.l []), .nil, .nil] false), (1999, .box 40 [.pv (qP Z k)] false), (2999, .box 22 [.pv (bH h m)] false), (3999, .box 3 [.pv (iH h n)] false)] []) [] := by
 have c1 := hk _ _ yU
 refine ZT [] Z h hh ⟨Tryz.func90, Tryz.ntmps90⟩ rfl rfl rfl (by cbv) rfl fun C hC => ?_
 unfold Tryz.f90
 cbv
 repeat' first
  | exact s0
  | apply And.intro
  | exact sq
  | trivial
  | exact sx
  | (refine sy fun e => ?_; cbv)
  | (refine ⟨_, _, _, hC _ _ _ _ c1, ?_⟩; cbv; clear c1)
 refine ⟨[], by cbv, ?_⟩
 cbv
 repeat' first
  | exact s0
  | apply And.intro
  | exact sq
  | trivial
  | exact sx
  | (refine sy fun e => ?_; cbv)
theorem qco (Z : Ad) (h : Hh) (hh : ∀ α g, h α g = g ()) (m : List UInt8) (n : Int) (k : Nat) (hk : ∀ S nm, x9 S nm -> qi Z 91 [.pv (bH h m), .pv (.v (.string S)), .pv (iH h n)] (.tup [.pv (.l []), .pv (qP Z k)]) [.any, .any, .any]) (ρ0 ρ1 : List (Nat × Nat)) : Con Tryz.prog (gZ Z) 90 [.hp ρ0 [(999, .box 98 [.pv (.l []), .pv (.l []), .pv (.l []), .nil, .nil] false), (1999, .box 40 [.pv (qP Z k)] false), (2999, .box 22 [.pv (bH h m)] false), (3999, .box 3 [.pv (iH h n)] false)] [.pv (.v (.string ⟨#[116, 97, 103]⟩)), .ref 999 0 3, .ref 2999 0 0, .ref 3999 0 0, .ref 1999 0 0]] (.hp ρ1 [(999, .box 98 [.pv (.l []), .pv (.l []), .pv (.l []), .pv (.l []), .nil] false), (1999, .box 40 [.pv (qP Z k)] false), (2999, .box 22 [.pv (bH h m)] false), (3999, .box 3 [.pv (iH h n)] false)] []) [] := by
 have c1 := hk _ _ Jc
 refine ZT [] Z h hh ⟨Tryz.func90, Tryz.ntmps90⟩ rfl rfl rfl (by cbv) rfl fun C hC => ?_
 unfold Tryz.f90
 cbv
 repeat' first
  | exact s0
  | apply And.intro
  | exact sq
  | trivial
  | exact sx
  | (refine sy fun e => ?_; cbv)
  | (refine ⟨_, _, _, hC _ _ _ _ c1, ?_⟩; cbv; clear c1)
 refine ⟨[], by cbv, ?_⟩
 cbv
 repeat' first
  | exact s0
  | apply And.intro
  | exact sq
  | trivial
  | exact sx
  | (refine sy fun e => ?_; cbv)
theorem qcz (Z : Ad) (h : Hh) (hh : ∀ α g, h α g = g ()) (m : List UInt8) (n : Int) (k : Nat) (hk : ∀ S nm, x9 S nm -> qi Z 91 [.pv (bH h m), .pv (.v (.string S)), .pv (iH h n)] (.tup [.pv (.l []), .pv (qP Z k)]) [.any, .any, .any]) (ρ0 ρ1 : List (Nat × Nat)) : Con Tryz.prog (gZ Z) 90 [.hp ρ0 [(999, .box 98 [.pv (.l []), .pv (.l []), .pv (.l []), .pv (.l []), .nil] false), (1999, .box 40 [.pv (qP Z k)] false), (2999, .box 22 [.pv (bH h m)] false), (3999, .box 3 [.pv (iH h n)] false)] [.pv (.v (.string ⟨#[115, 112, 111, 116]⟩)), .ref 999 0 4, .ref 2999 0 0, .ref 3999 0 0, .ref 1999 0 0]] (.hp ρ1 [(999, .box 98 [.pv (.l []), .pv (.l []), .pv (.l []), .pv (.l []), .pv (.l [])] false), (1999, .box 40 [.pv (qP Z k)] false), (2999, .box 22 [.pv (bH h m)] false), (3999, .box 3 [.pv (iH h n)] false)] []) [] := by
 have c1 := hk _ _ yN
 refine ZT [] Z h hh ⟨Tryz.func90, Tryz.ntmps90⟩ rfl rfl rfl (by cbv) rfl fun C hC => ?_
 unfold Tryz.f90
 cbv
 repeat' first
  | exact s0
  | apply And.intro
  | exact sq
  | trivial
  | exact sx
  | (refine sy fun e => ?_; cbv)
  | (refine ⟨_, _, _, hC _ _ _ _ c1, ?_⟩; cbv; clear c1)
 refine ⟨[], by cbv, ?_⟩
 cbv
 repeat' first
  | exact s0
  | apply And.intro
  | exact sq
  | trivial
  | exact sx
  | (refine sy fun e => ?_; cbv)
theorem qge (Z : Ad) (h : Hh) (hh : ∀ α g, h α g = g ()) (m : List UInt8) (n : Int) (hk : qj m n = 0) (ρ0 ρ1 : List (Nat × Nat)) : Con Tryz.prog (gZ Z) 89 [.hp ρ0 [(999, .box 98 [.nil, .nil, .nil, .nil, .nil] false), (1999, .box 40 [.pv (.v .nilIface)] false), (2999, .box 22 [.pv (bH h m)] false), (3999, .box 3 [.pv (iH h n)] false)] [.ref 999 0 0, .fn (.func 90) [] [.ref 2999 0 0, .ref 3999 0 0, .ref 1999 0 0]]] (.hp ρ1 [(999, .box 98 [.pv (bH h (qg m qS n)), .pv (bH h (qg m ql n)), .pv (bH h (qg m qG n)), .pv (bH h (qg m jd n)), .pv (bH h (qg m jK n))] false), (1999, .box 40 [.pv (.v .nilIface)] false), (2999, .box 22 [.pv (bH h m)] false), (3999, .box 3 [.pv (iH h n)] false)] []) [] := by
 have c0 := qd6 Z h hh m n hk [] []
 have c1 := qe9 Z h hh m n hk [] []
 have c2 := qdz Z h hh m n hk [] []
 have c3 := qe7 Z h hh m n hk [] []
 have c4 := qew Z h hh m n hk [] []
 refine ZT [] Z h hh ⟨Tryz.func89, Tryz.ntmps89⟩ rfl rfl rfl (by cbv) rfl fun C hC => ?_
 unfold Tryz.f89
 cbv
 repeat' first
  | exact s0
  | apply And.intro
  | exact sq
  | trivial
  | exact sx
  | (refine sy fun e => ?_; cbv)
  | (refine ⟨_, _, _, hC _ _ _ _ c0, ?_⟩; cbv; clear c0)
  | (refine ⟨_, _, _, hC _ _ _ _ c1, ?_⟩; cbv; clear c1)
  | (refine ⟨_, _, _, hC _ _ _ _ c2, ?_⟩; cbv; clear c2)
  | (refine ⟨_, _, _, hC _ _ _ _ c3, ?_⟩; cbv; clear c3)
  | (refine ⟨_, _, _, hC _ _ _ _ c4, ?_⟩; cbv; clear c4)
 refine ⟨[], by cbv, ?_⟩
 cbv
 repeat' first
  | exact s0
  | apply And.intro
  | exact sq
  | trivial
  | exact sx
  | (refine sy fun e => ?_; cbv)
theorem qfd (Z : Ad) (h : Hh) (hh : ∀ α g, h α g = g ()) (m : List UInt8) (n : Int) (k : Nat) (hk : ∀ S nm, x9 S nm -> qi Z 91 [.pv (bH h m), .pv (.v (.string S)), .pv (iH h n)] (.tup [.pv (.l []), .pv (qP Z k)]) [.any, .any, .any]) (ρ0 ρ1 : List (Nat × Nat)) : Con Tryz.prog (gZ Z) 89 [.hp ρ0 [(999, .box 98 [.nil, .nil, .nil, .nil, .nil] false), (1999, .box 40 [.pv (.v .nilIface)] false), (2999, .box 22 [.pv (bH h m)] false), (3999, .box 3 [.pv (iH h n)] false)] [.ref 999 0 0, .fn (.func 90) [] [.ref 2999 0 0, .ref 3999 0 0, .ref 1999 0 0]]] (.hp ρ1 [(999, .box 98 [.pv (.l []), .pv (.l []), .pv (.l []), .pv (.l []), .pv (.l [])] false), (1999, .box 40 [.pv (qP Z k)] false), (2999, .box 22 [.pv (bH h m)] false), (3999, .box 3 [.pv (iH h n)] false)] []) [] := by
 have c0 := qbt Z h hh m n k hk [] []
 have c1 := qbC Z h hh m n k hk [] []
 have c2 := qby Z h hh m n k hk [] []
 have c3 := qco Z h hh m n k hk [] []
 have c4 := qcz Z h hh m n k hk [] []
 refine ZT [] Z h hh ⟨Tryz.func89, Tryz.ntmps89⟩ rfl rfl rfl (by cbv) rfl fun C hC => ?_
 unfold Tryz.f89
 cbv
 repeat' first
  | exact s0
  | apply And.intro
  | exact sq
  | trivial
  | exact sx
  | (refine sy fun e => ?_; cbv)
  | (refine ⟨_, _, _, hC _ _ _ _ c0, ?_⟩; cbv; clear c0)
  | (refine ⟨_, _, _, hC _ _ _ _ c1, ?_⟩; cbv; clear c1)
  | (refine ⟨_, _, _, hC _ _ _ _ c2, ?_⟩; cbv; clear c2)
  | (refine ⟨_, _, _, hC _ _ _ _ c3, ?_⟩; cbv; clear c3)
  | (refine ⟨_, _, _, hC _ _ _ _ c4, ?_⟩; cbv; clear c4)
 refine ⟨[], by cbv, ?_⟩
 cbv
 repeat' first
  | exact s0
  | apply And.intro
  | exact sq
  | trivial
  | exact sx
  | (refine sy fun e => ?_; cbv)
theorem qhy (Z : Ad) (h : Hh) (hh : ∀ α g, h α g = g ()) (m : List UInt8) (n : Int) (hk : qj m n = 0) : qi Z 37 [.pv (bH h m), .pv (iH h n)] (.tup [.pv (.a [bH h (qg m qS n), bH h (qg m ql n), bH h (qg m qG n), bH h (qg m jd n), bH h (qg m jK n)]), .pv (.v .nilIface)]) [.any, .any] := by
 have c1 := qge Z h hh m n hk [(999, 6), (1999, 7), (2999, 2), (3999, 3)] []
 refine qB Z h hh ⟨Tryz.func37, Tryz.ntmps37⟩ rfl rfl rfl rfl rfl fun C hC => ?_
 unfold Tryz.f37
 cbv
 repeat' first
  | exact s0
  | apply And.intro
  | exact sq
  | trivial
  | exact sx
  | (refine sy fun e => ?_; cbv)
  | (refine ⟨_, _, _, hC _ _ _ _ c1, ?_⟩; cbv; clear c1)
theorem qg4 (Z : Ad) (h : Hh) (hh : ∀ α g, h α g = g ()) (m : List UInt8) (n : Int) (k : Nat) (hk : ∀ S nm, x9 S nm -> qi Z 91 [.pv (bH h m), .pv (.v (.string S)), .pv (iH h n)] (.tup [.pv (.l []), .pv (qP Z k)]) [.any, .any, .any]) : qi Z 37 [.pv (bH h m), .pv (iH h n)] (.tup [.pv (.a [.l [], .l [], .l [], .l [], .l []]), .pv (qP Z k)]) [.any, .any] := by
 have c1 := qfd Z h hh m n k hk [(999, 6), (1999, 7), (2999, 2), (3999, 3)] []
 refine qB Z h hh ⟨Tryz.func37, Tryz.ntmps37⟩ rfl rfl rfl rfl rfl fun C hC => ?_
 unfold Tryz.f37
 cbv
 repeat' first
  | exact s0
  | apply And.intro
  | exact sq
  | trivial
  | exact sx
  | (refine sy fun e => ?_; cbv)
  | (refine ⟨_, _, _, hC _ _ _ _ c1, ?_⟩; cbv; clear c1)
theorem qgd (Z : Ad) (h : Hh) (hh : ∀ α g, h α g = g ()) {S : ByteArray} {nm : List UInt8} (hL : x9 S nm) (m : List UInt8) (n : Int) (hk : qj m n ≠ 0) : qi Z 91 [.pv (bH h m), .pv (.v (.string S)), .pv (iH h n)] (.tup [.pv (.l []), .pv (qP Z (qj m n))]) [.any, .any, .any] := by
 have c1 := Va Z h hh m
 by_cases h1 : 16 <= m.length /\ m.length <= 64
 ·rw [decide_eq_true h1] at c1
  have c2 := V3 Z h hh hL
  have c3 := WA Z h hh n
  have e : qj m n = 1 := by unfold qj at hk ⊢; rw [if_neg Y54] at hk ⊢; split at hk; (rename_i q; rw [if_pos q]); (exact absurd rfl hk)
  have h2 : ¬ (0 <= n /\ n <= 1099511627776) := fun q => hk (by unfold qj; rw [if_neg Y54, if_neg Y54])
  rw [decide_eq_false h2] at c3
  rw [e]
  clear hk e h1 h2
  refine qB Z h hh ⟨Tryz.func91, Tryz.ntmps91⟩ rfl rfl rfl rfl rfl fun C hC => ?_
  unfold Tryz.f91
  cbv
  repeat' first
   | exact s0
   | apply And.intro
   | exact sq
   | trivial
   | exact sx
   | (refine sy fun e => ?_; cbv)
   | (refine ⟨_, _, _, hC _ _ _ _ c1, ?_⟩; cbv; clear c1)
   | (refine ⟨_, _, _, hC _ _ _ _ c2, ?_⟩; cbv; clear c2)
   | (refine ⟨_, _, _, hC _ _ _ _ c3, ?_⟩; cbv; clear c3)
 ·rw [decide_eq_false h1] at c1
  have e : qj m n = 9 := by unfold qj; rw [if_pos Y54]
  rw [e]
  clear hk e h1
  refine qB Z h hh ⟨Tryz.func91, Tryz.ntmps91⟩ rfl rfl rfl rfl rfl fun C hC => ?_
  unfold Tryz.f91
  cbv
  repeat' first
   | exact s0
   | apply And.intro
   | exact sq
   | trivial
   | exact sx
   | (refine sy fun e => ?_; cbv)
   | (refine ⟨_, _, _, hC _ _ _ _ c1, ?_⟩; cbv; clear c1)
theorem qdn (Z : Ad) (h : Hh) (hh : ∀ α g, h α g = g ()) (m : List UInt8) (n : Int) (hk : qj m n ≠ 0) : qi Z 37 [.pv (bH h m), .pv (iH h n)] (.tup [.pv (.a [.l [], .l [], .l [], .l [], .l []]), .pv (qP Z (qj m n))]) [.any, .any] :=
 qg4 Z h hh m n _ fun S nm hL => qgd Z h hh hL m n hk
end Go.Bl
namespace Go.Bl
open Go.RowKit Go.Proofs
attribute [local irreducible] qz
open Go.Proofs.YtdloaifdpajcjaaGreatDoor (Par chk blk qU jU zK qj qg qS ql qG jd jK sdE)
structure jY where
 num : Int
 name : ByteArray
 par : Par
 root : List UInt8
 file : List UInt8
 tick : Int
 kept : Bool
 used : Int
 rounds : Int
def qK (x : jY) : List PV := iP x.num :: .v (.string x.name) :: iP x.par.size :: iP x.par.sent :: iP x.par.spots :: iP x.par.per :: iP x.par.pat :: iP x.par.ret :: (x.root.map u8P ++ (x.file.map u8P ++ [iP x.tick, .v (.bool x.kept), iP x.used, iP x.rounds]))
abbrev jk (h : Hh) (x : jY) : PV := .a (h _ fun _ => qK x)
structure jc where
 id : Int
 obj : Int
 way : Int
 idx : Int
 tick : Int
 verd : Int
 at' : Int
abbrev qX (h : Hh) (e : jc) : PV := .a [iH h e.id, iH h e.obj, iH h e.way, iH h e.idx, iH h e.tick, iH h e.verd, iH h e.at']
theorem jR {x : jY} (h1 : x.root.length = 32) (h2 : x.file.length = 32) : (qK x).length = 76 := by simp [qK, h1, h2]
theorem yO (Z : Ad) (h : Hh) (hh : ∀ α g, h α g = g ()) (m : List UInt8) (n : Int) (hk : qj m n = 0) : qi Z 37 [.pv (bH h m), .pv (iH h n)] (.tup [.pv (.a [bH h (qg m qS n), bH h (qg m ql n), bH h (qg m qG n), bH h (qg m jd n), bH h (qg m jK n)]), .pv (.v .nilIface)]) [.any, .any] :=
 qhy Z h hh m n hk
end Go.Bl
namespace Go.Bl
open Go.RowKit Go.Proofs
attribute [local irreducible] qz
open Go.Proofs.YtdloaifdpajcjaaGreatDoor (beK b8 ZZ beK_len fnS vY ua Jp xG xH qA jO)
theorem ZN : ∀ (k w n : Nat), w <= 10 -> n <= 1048576 -> uT k w n <= 10
 | 0, w, n, h, _ => h
 | k + 1, w, n, h, hn => by
  rw [uT]
  split
  ·rename_i hlt
   refine ZN k (w + 1) n ?_ hn
   rcases Nat.lt_or_ge w 10 with h2 | h2
   ·omega
   ·have : (4 : Nat) ^ 10 <= 4 ^ w := Nat.pow_le_pow_right Y86 h2
    have e : (4 : Nat) ^ 10 = 1048576 := by decide
    omega
  ·exact h
theorem Wd {n : Nat} (h : n <= 1048576) : 1 <= jl n /\ jl n <= 10 := ⟨(Jp n).1, ZN 10 1 n Y86 h⟩
theorem qaj (l : List UInt8) : xD l = qig l := by cases l <;> rfl
def ud (k : List UInt8) (n w : Nat) : List PV := [.p (vC k), iP n, iP w]
theorem qc5 {a b : Nat} (ha : a < 2 ^ 62) (hb : b < 2 ^ 62) : yp .xor .i64 (a : Int) (b : Int) = ((a ^^^ b : Nat) : Int) := by
 have h1 : a ^^^ b < 2 ^ 62 := Nat.xor_lt_two_pow ha hb
 change IntKind.i64.wrap (((BitVec.ofInt 64 (a : Int) ^^^ BitVec.ofInt 64 (b : Int)).toNat : Nat) : Int) = _
 simp only [BitVec.ofInt_natCast, BitVec.toNat_xor, BitVec.toNat_ofNat]
 exact Y21
theorem qdZ {a b : Nat} (ha : a < 2 ^ 62) (hb : b < 2 ^ 62) : yp .and .i64 (a : Int) (b : Int) = ((a &&& b : Nat) : Int) := by
 have h1 : a &&& b < 2 ^ 62 := Nat.and_lt_two_pow _ hb
 change IntKind.i64.wrap (((BitVec.ofInt 64 (a : Int) &&& BitVec.ofInt 64 (b : Int)).toNat : Nat) : Int) = _
 simp only [BitVec.ofInt_natCast, BitVec.toNat_and, BitVec.toNat_ofNat]
 exact Y21
theorem qfz {a b : Nat} (ha : a < 2 ^ 62) (hb : b < 2 ^ 62) : yp .or .i64 (a : Int) (b : Int) = ((a ||| b : Nat) : Int) := by
 have h1 : a ||| b < 2 ^ 62 := Nat.or_lt_two_pow ha hb
 change IntKind.i64.wrap (((BitVec.ofInt 64 (a : Int) ||| BitVec.ofInt 64 (b : Int)).toNat : Nat) : Int) = _
 simp only [BitVec.ofInt_natCast, BitVec.toNat_or, BitVec.toNat_ofNat]
 exact Y21
theorem Kf (w : Nat) (hw : w <= 60) (k : IntKind) (hk : k.bits = 64) : min w k.bits = w := by rw [hk]; omega
theorem YI (w : Nat) : (2 : Int) ^ w = ((2 ^ w : Nat) : Int) := by simp
theorem LK (Z : Ad) (h : Hh) (hh : ∀ α g, h α g = g ()) (k : List UInt8) (n w t r : Nat) (hw : w <= 10) : qi Z 207 [.pv (.p (h _ fun _ => ud k n w)), .pv (nH h t), .pv (nH h r)] (.pv (nH h (fnS k w t r))) [.any, .any, .any] := by
 have hfn : fnS k w t r = xD (JN k (b8 (t : Int) :: beK 8 (r : Int))) % 2 ^ w := by rw [qaj]; rfl
 rw [hfn]
 clear hfn
 have hS0 : 2 ^ w <= 1024 := Nat.le_trans (Nat.pow_le_pow_right Y86 hw) Y86
 have hS1 : 0 < 2 ^ w := Nat.two_pow_pos w
 have m1 := Kf w Y54 .u64 rfl
 obtain ⟨nb, hnb⟩ := exq (beK 8 (r : Int))
 have ln : nb.length = 8 := by rw [<- hnb]; rfl
 obtain ⟨d, hd⟩ := exq (JK k ([[b8 (t : Int)], nb].flatten))
 have l3 : d.length = 32 := by rw [<- hd]; exact xe _ _
 have c1 := vI Z h hh (r : Int)
 rw [hnb] at c1
 have c2 := Z2 Z h hh k [[b8 (t : Int)], nb] Y85 Y85 Y57
 rw [hd] at c2
 rw [hnb, show JN k (b8 (t : Int) :: nb) = d.take 8 by rw [JN, <- hd]; simp]
 have wt : u8P (b8 (t : Int)) = .v (.int .u8 (IntKind.u8.wrap t)) := by rw [u8P, u8v, ZZ]
 obtain ⟨tb, htb⟩ := exq (b8 (t : Int))
 rw [htb] at wt c2
 have wt2 : (tb.toNat : Int) = IntKind.u8.wrap t := by simpa [u8P, u8v] using wt
 clear hnb hd htb
 refine qB Z h hh ⟨Tryz.func207, Tryz.ntmps207⟩ rfl rfl rfl rfl rfl fun C hC => ?_
 unfold Tryz.f207
 cbv
 repeat' first
  | exact s0
  | apply And.intro
  | exact sq
  | (refine fun (_ : PUnit) => ?_; simp [hh, *, ud, vC, iP, bP, u8P, u8v, wt2]; done)
  | trivial
  | (refine sz fun e => ?_; simp [hh, wt] at e <;> (try simp only [qD] at *) <;> omega)
  | (refine sy fun e => ?_; cbv)
  | (refine ⟨_, _, _, hC _ _ _ _ c1, ?_⟩; cbv; clear c1)
  | (refine ⟨_, _, _, hC _ _ _ _ c2, ?_⟩; cbv; clear c2)
 refine ⟨Nat, fun i => ⟨[(0, some (.pv (.p (h _ fun _ => ud k n w)))), (8, some (.pv (kH h .u64 (nI (xD (d.take i)))))), (22, some (.sl 990 0 8)), (23, some (.pv (iH h 8))), (24, some (.pv (nH h i)))], [(990, some (.var 36 (h _ fun _ => d.map u8P) false))]⟩, fun i => i <= 8, fun i => 8 - i, 0, [], by omega, trivial, ⟨[(990, 7)], rfl, rfl, ⟨?_, trivial⟩, ?_, ?_, ?_, ?_, ?_, trivial⟩, ?_⟩
 ·cbv; simp [hh, l3, splice]
 ·exact sp
 ·cbv; simp [hh, xD]
 ·exact sp
 ·exact sp
 ·exact sp
 intro i hi
 dsimp only
 cbv
 refine ⟨fun _ => rfl, fun e => ?_, fun e => ?_⟩ <;> simp only [hh, nI, decide_eq_true_eq, decide_eq_false_iff_not, qD] at e
 ·have e' : i < 8 := by
   have : (i : Int) < 8 := e
   omega
  have e2 : i < d.length := by omega
  have hlt : xD (d.take i) < 72057594037927936 := by
   have := Jz i d Y54
   have h2 : 256 ^ i <= 256 ^ 7 := Nat.pow_le_pow_right Y86 Y54
   omega
  have hor := Hdq (qaR (c := d[i]) hlt)
  have l3p := Hdq l3
  clear hlt l3 wt wt2
  cbv
  repeat' first
   | exact s0
   | apply And.intro
   | exact sq
   | trivial
   | exact sx
   | (refine sy fun e => ?_; cbv)
  refine ⟨i + 1, by omega, by show 8 - (i + 1) < 8 - i; omega, ⟨[], rfl, rfl, ⟨?_, trivial⟩, ?_, ?_, ?_, ?_, ?_, trivial⟩⟩
  ·exact sp
  ·exact sp
  ·cbv
   simp only [hh, nI, J2 e2]
   refine congrArg (fun x : Int => some (AV.pv (PV.v (Value.int .u64 x)))) (Eq.trans ?_ hor.out)
   rw [show (2 : Int) ^ min (Int.toNat 8) IntKind.u64.bits = 256 from rfl]
   simp [e2, u8P, u8v]
  ·exact sp
  ·exact sp
  ·exact sp
 ·have e' : i = 8 := Nat.le_antisymm hi (by
   have : ¬ (i : Int) < 8 := e
   omega)
  subst e'
  have hN : xD (d.take 8) < 18446744073709551616 := Jz 8 d Y54
  obtain ⟨N, hN'⟩ : ∃ N, xD (d.take 8) = N := ⟨_, rfl⟩
  rw [hN'] at hN ⊢
  obtain ⟨S, hS⟩ := exq (2 ^ w)
  have q1 : IntKind.u64.wrap (2 ^ min w IntKind.u64.bits) = (S : Int) := by rw [m1, YI, hS, xa Y54 Y54]
  rw [hS] at hS0 hS1 ⊢
  have w3 : N % S < S := Nat.mod_lt _ hS1
  have w2 : (N : Int).tmod (S : Int) = ((N % S : Nat) : Int) := by rw [<- Int.ofNat_tmod]
  obtain ⟨M, hM⟩ := exq (N % S)
  rw [hM] at w3 w2 ⊢
  have w4 : IntKind.i64.wrap (M : Int) = (M : Int) := wrap_i64 Y54 Y54
  have nS : S ≠ 0 := by omega
  clear hN' hN hM hS m1
  cbv
  repeat' first
   | exact s0
   | apply And.intro
   | exact sq
   | (refine fun (_ : PUnit) => ?_; simp [hh, *, ud, iP, q1, w2, w4, nS]; done)
   | trivial
   | (refine sz fun e => ?_; simp [hh, nS, q1] at e <;> (try simp only [qD] at *) <;> omega)
   | (refine sy fun e => ?_; cbv)
theorem WH (Z : Ad) (h : Hh) (hh : ∀ α g, h α g = g ()) (k : List UInt8) (n w x : Nat) (hw : w <= 10) (hx : x < 4 ^ w) : qi Z 206 [.pv (.p (h _ fun _ => ud k n w)), .pv (nH h x)] (.tup [.pv (nH h (x / 2 ^ w)), .pv (nH h (x % 2 ^ w))]) [.any, .any] := by
 have hS0 : 2 ^ w <= 1024 := Nat.le_trans (Nat.pow_le_pow_right Y86 hw) Y86
 have hS1 : 0 < 2 ^ w := Nat.two_pow_pos w
 have hx4 : x < 1048577 := Nat.lt_of_lt_of_le hx (Nat.le_trans (Nat.pow_le_pow_right Y86 hw) Y86)
 have q1 : (x : Int).fdiv (2 ^ min w IntKind.i64.bits) = ((x / 2 ^ w : Nat) : Int) := by
  rw [Kf w Y54 .i64 rfl, Int.fdiv_eq_ediv_of_nonneg _ (Int.le_of_lt (Int.pow_pos Y86)), YI]
  omega
 have q2 : IntKind.i64.wrap (2 ^ min w IntKind.i64.bits) = ((2 ^ w : Nat) : Int) := by
  rw [Kf w Y54 .i64 rfl, YI, wrap_i64 Y54 Y54]
 have q3 : IntKind.i64.wrap (((2 ^ w : Nat) : Int) - 1) = ((2 ^ w - 1 : Nat) : Int) := by rw [wrap_i64 Y54 Y54]; omega
 have q4 : yp .and .i64 (x : Int) ((2 ^ w - 1 : Nat) : Int) = ((x % 2 ^ w : Nat) : Int) := by rw [qdZ Y54 Y54, Nat.and_two_pow_sub_one_eq_mod]
 obtain ⟨A, hA⟩ := exq (x / 2 ^ w)
 obtain ⟨B, hB⟩ := exq (x % 2 ^ w)
 obtain ⟨S1, hS1'⟩ : ∃ A, 2 ^ w - 1 = A := ⟨_, rfl⟩
 rw [hS1'] at q3 q4
 rw [hA] at q1 ⊢
 rw [hB] at q4 ⊢
 obtain ⟨S, hS⟩ := exq (2 ^ w)
 rw [hS] at q2 q3
 clear hA hB hS1' hS hS0 hS1 hx
 refine qB Z h hh ⟨Tryz.func206, Tryz.ntmps206⟩ rfl rfl rfl rfl rfl fun C hC => ?_
 unfold Tryz.f206
 cbv
 repeat' first
  | exact s0
  | apply And.intro
  | exact sq
  | (refine fun (_ : PUnit) => ?_; simp [hh, *, ud, iP, q1, q2, q3, q4]; done)
  | trivial
  | (refine sz fun e => ?_; simp [hh, q1] at e <;> (try simp only [qD] at *) <;> omega)
  | (refine sy fun e => ?_; cbv)
theorem qbN (Z : Ad) (h : Hh) (hh : ∀ α g, h α g = g ()) (k : List UInt8) (n w x : Nat) (hw : w <= 10) (hx : x < 4 ^ w) : qi Z 154 [.pv (.p (h _ fun _ => ud k n w)), .pv (nH h x)] (.pv (nH h (z6 w (fnS k w) x))) [.any, .any] := by
 have hS0 : 2 ^ w <= 1024 := Nat.le_trans (Nat.pow_le_pow_right Y86 hw) Y86
 have hS1 : 0 < 2 ^ w := Nat.two_pow_pos w
 have m1 := Kf w Y54 .i64 rfl
 have hf := vY k w
 obtain ⟨x1, x2⟩ := xy hx
 have est : z6 w (fnS k w) x = (uO (fnS k w) 4 (x / 2 ^ w, x % 2 ^ w)).1 * 2 ^ w + (uO (fnS k w) 4 (x / 2 ^ w, x % 2 ^ w)).2 := rfl
 have hlt : ∀ t, (uO (fnS k w) t (x / 2 ^ w, x % 2 ^ w)).1 < 2 ^ w /\ (uO (fnS k w) t (x / 2 ^ w, x % 2 ^ w)).2 < 2 ^ w := fun t => Z7 hf t _ x1 x2
 rw [est]
 have c1 := WH Z h hh k n w x hw hx
 have cr := fun t r => LK Z h hh k n w t r hw
 have hrec : ∀ t p, uO (fnS k w) (t + 1) p = ((uO (fnS k w) t p).2, (uO (fnS k w) t p).1 ^^^ fnS k w t (uO (fnS k w) t p).2) := fun t p => rfl
 have hr0 : ∀ p, uO (fnS k w) 0 p = p := fun p => rfl
 clear hx hf est
 obtain ⟨R, hR⟩ := exq (uO (fnS k w))
 rw [hR] at hrec hr0 hlt ⊢
 obtain ⟨fn, hfn'⟩ : ∃ fn, fnS k w = fn := ⟨_, rfl⟩
 rw [hfn'] at hrec cr
 obtain ⟨a, ha⟩ := exq (x / 2 ^ w)
 obtain ⟨b, hb⟩ := exq (x % 2 ^ w)
 rw [ha] at x1 hlt c1 ⊢
 rw [hb] at x2 hlt c1 ⊢
 obtain ⟨S, hS⟩ := exq (2 ^ w)
 rw [hS] at hlt x1 x2 hS0 hS1 ⊢
 clear hR hfn' ha hb
 replace cr := Hdq cr
 replace hrec := Hdq hrec
 replace hlt := Hdq hlt
 replace hS := Hdq hS
 refine qB Z h hh ⟨Tryz.func154, Tryz.ntmps154⟩ rfl rfl rfl rfl rfl fun C hC => ?_
 unfold Tryz.f154
 cbv
 repeat' first
  | exact s0
  | apply And.intro
  | exact sq
  | trivial
  | exact sx
  | (refine sy fun e => ?_; cbv)
  | (refine ⟨_, _, _, hC _ _ _ _ c1, ?_⟩; cbv; clear c1)
 refine ⟨Nat, fun t => ⟨[(0, some (.pv (.p (h _ fun _ => ud k n w)))), (5, some (.pv (nH h (R t (a, b)).1))), (6, some (.pv (nH h (R t (a, b)).2))), (14, some (.pv (nH h t)))], []⟩, fun t => t <= 4, fun t => 4 - t, 0, [], by omega, trivial, ⟨[], rfl, rfl, trivial, ?_, ?_, ?_, ?_, trivial⟩, ?_⟩
 ·exact sp
 ·cbv; simp only [hh, nI, hr0]
 ·cbv; simp only [hh, nI, hr0]
 ·exact sp
 intro t ht
 dsimp only
 cbv
 refine ⟨fun _ => rfl, fun e => ?_, fun e => ?_⟩ <;> simp only [hh, nI, decide_eq_true_eq, decide_eq_false_iff_not, qD] at e
 ·have e' : t < 4 := by
   have : (t : Int) < 4 := e
   omega
  obtain ⟨l1, l2⟩ := hlt.out t
  have r1 : (R (t + 1) (a, b)).1 = (R t (a, b)).2 := by rw [hrec.out]
  have r2 : (R (t + 1) (a, b)).2 = (R t (a, b)).1 ^^^ fn t (R t (a, b)).2 := by rw [hrec.out]
  have l3 := (hlt.out (t + 1)).2
  have c2 := cr.out t (R t (a, b)).2
  obtain ⟨u, hu⟩ := exq ((R t (a, b)).1)
  obtain ⟨v, hv⟩ := exq ((R t (a, b)).2)
  rw [hu] at l1 r2 ⊢
  rw [hv] at l2 r1 r2 c2 ⊢
  obtain ⟨g, hg⟩ := exq (fn t v)
  rw [hg] at r2 c2
  have lg : g < 2 ^ 62 := by
   have q : u ^^^ (u ^^^ g) = g := by rw [<- Nat.xor_assoc, Nat.xor_self, Nat.zero_xor]
   rw [<- q]
   exact Nat.xor_lt_two_pow Y54 (by rw [<- r2]; omega)
  have w5 := qc5 (a := u) (b := g) Y54 lg
  rw [<- r2] at w5
  clear hu hv hg hr0
  cbv
  repeat' first
   | exact s0
   | apply And.intro
   | exact sq
   | trivial
   | exact sx
   | (refine sy fun e => ?_; cbv)
   | (refine ⟨_, _, _, hC _ _ _ _ c2, ?_⟩; cbv; clear c2)
  refine ⟨t + 1, by omega, by show 4 - (t + 1) < 4 - t; omega, ⟨[], rfl, rfl, trivial, ?_, ?_, ?_, ?_, trivial⟩⟩
  ·exact sp
  ·cbv; simp only [hh, nI, r1]
  ·cbv; simp only [hh, nI, w5]
  ·exact sp
 ·have e' : t = 4 := Nat.le_antisymm ht (by
   have : ¬ (t : Int) < 4 := e
   omega)
  subst e'
  obtain ⟨l1, l2⟩ := hlt.out 4
  obtain ⟨L, hL⟩ := exq (R 4 (a, b))
  rw [hL] at l1 l2 ⊢
  have w1 : L.1 * S <= 1024 * 1024 := Nat.mul_le_mul Y54 hS0
  have w0 : IntKind.i64.wrap ((L.1 : Int) * 2 ^ min w IntKind.i64.bits) = ((L.1 * S : Nat) : Int) := by
   rw [m1, YI, hS.out, <- Int.natCast_mul, wrap_i64 Y54 Y54]
  have w2 : yp .or .i64 ((L.1 * S : Nat) : Int) (L.2 : Int) = ((L.1 * S + L.2 : Nat) : Int) := by
   rw [qfz Y54 Y54, <- hS.out, qgk (by rw [hS.out]; exact l2)]
  obtain ⟨V, hV⟩ := exq (L.1 * S + L.2)
  obtain ⟨V1, hV1⟩ := exq (L.1 * S)
  rw [hV, hV1] at w2
  rw [hV1] at w0
  rw [hV]
  clear hV hV1 hL w1 hr0 m1
  cbv
  repeat' first
   | exact s0
   | apply And.intro
   | exact sq
   | (refine fun (_ : PUnit) => ?_; simp [hh, *, ud, iP, w0, w2]; done)
   | trivial
   | exact sx
   | (refine sy fun e => ?_; cbv)
end Go.Bl
namespace Go.Bl
open Go.RowKit Go.Proofs
attribute [local irreducible] qz
open Go.Proofs.YtdloaifdpajcjaaGreatDoor (beK b8 fnS vY ua Jp xG xH qA jO)
theorem qcg (Z : Ad) (h : Hh) (hh : ∀ α g, h α g = g ()) (k : List UInt8) (n x : Nat) (hn : n <= 1048576) (hx : x < n) : qi Z 153 [.pv (.p (h _ fun _ => ud k n (jl n))), .pv (nH h x), .pv (.f (.func 154) [.p (h _ fun _ => ud k n (jl n))] [])] (.tup [.pv (nH h (qA k n x)), .pv (.v .nilIface)]) [.any, .any, .any] := by
 obtain ⟨K, k1, k2, k3, k4⟩ := Jv (vY k (jl n)) (ua n Y54) hx
 have hx4 : x < 4 ^ jl n := Nat.lt_of_lt_of_le hx (ua n Y54)
 have it := Ya (w := jl n) (f := z6 (jl n) (fnS k (jl n))) (fun x h => U6 (vY k (jl n)) h) hx4
 have hx1 : 1 <= n := by omega
 have hw := (Wd (n := n) Y54).2
 change qZ _ K x = qA k n x at k2
 change qA k n x < n at k3
 obtain ⟨p, hp⟩ := exq (qA k n x)
 rw [hp] at k2 k3 ⊢
 obtain ⟨w, hw'⟩ : ∃ w, jl n = w := ⟨_, rfl⟩
 rw [hw'] at k2 k4 it hx4 hw ⊢
 have s : ∀ j, qi Z 154 [.pv (.p (h _ fun _ => ud k n w)), .pv (nH h (qZ (z6 w (fnS k w)) j x))] (.pv (nH h (qZ (z6 w (fnS k w)) (j + 1) x))) [.any, .any] := fun j => qbN Z h hh k n w _ hw (it j)
 obtain ⟨g, hg⟩ : ∃ g : Nat -> Nat, (fun j => qZ (z6 w (fnS k w)) j x) = g := ⟨_, rfl⟩
 have hg' : ∀ j, qZ (z6 w (fnS k w)) j x = g j := fun j => congrFun hg j
 have g0 : g 0 = x := (hg' 0).symm
 simp only [hg'] at s k2 k4
 clear hp hw' it hx4 hw hg hg' hn hx1
 replace s := Hdq s
 replace k4 := Hdq k4
 refine qB Z h hh ⟨Tryz.func153, Tryz.ntmps153⟩ rfl rfl rfl rfl rfl fun C hC => ?_
 unfold Tryz.f153
 cbv
 repeat' first
  | exact s0
  | apply And.intro
  | exact sq
  | (refine fun (_ : PUnit) => ?_; simp [hh, *, ud, iP, hx]; done)
  | trivial
  | (refine sz fun e => ?_; simp [hh, hx, ud, iP] at e <;> (try simp only [qD] at *) <;> omega)
  | (refine sy fun e => ?_; cbv)
 refine ⟨Nat, fun j => ⟨[(0, some (.pv (.p (h _ fun _ => ud k n w)))), (1, some (.pv (nH h (g j)))), (2, some (.pv (.f (.func 154) [.p (h _ fun _ => ud k n w)] [])))], []⟩, fun j => j < K, fun j => K - j, 0, [], k1, trivial, ⟨[], rfl, rfl, trivial, ?_, ?_, ?_, trivial⟩, ?_⟩
 ·exact sp
 ·cbv; simp only [hh, g0]
 ·exact sp
 intro j hj
 dsimp only
 have s1 := s.out j
 have y0 : 0 < K - j := by omega
 by_cases hj1 : j + 1 < K
 ·have e' : ¬ g (j + 1) < n := k4.out (j + 1) Y54 hj1
  have e2 : ¬ ((g (j + 1) : Int) < (n : Int)) := by omega
  clear e'
  cbv
  repeat' first
   | exact s0
   | apply And.intro
   | exact sq
   | (refine fun (_ : PUnit) => ?_; simp [hh, *, ud, iP]; done)
   | trivial
   | (refine sz fun e => ?_; simp [hh, e2, ud, iP] at e <;> (try simp only [qD] at *) <;> omega)
   | (refine sy fun e => ?_; cbv)
   | (refine ⟨_, _, _, hC _ _ _ _ s1, ?_⟩; cbv; clear s1)
  refine ⟨j + 1, hj1, by show K - (j + 1) < K - j; omega, ⟨[], rfl, rfl, trivial, ?_, ?_, ?_, trivial⟩⟩
  ·exact sp
  ·exact sp
  ·exact sp
 ·have e' : j + 1 = K := by omega
  rw [e', k2] at s1
  clear e' hj1 hj g0 k2
  cbv
  repeat' first
   | exact s0
   | apply And.intro
   | exact sq
   | (refine fun (_ : PUnit) => ?_; simp [hh, *, ud, iP, k3]; done)
   | trivial
   | (refine sz fun e => ?_; simp [hh, k3, ud, iP] at e <;> (try simp only [qD] at *) <;> omega)
   | (refine sy fun e => ?_; cbv)
   | (refine ⟨_, _, _, hC _ _ _ _ s1, ?_⟩; cbv; clear s1)
theorem qa9 (Z : Ad) (h : Hh) (hh : ∀ α g, h α g = g ()) (k : List UInt8) (n x : Nat) (hn : n <= 1048576) (hx : x < n) : qi Z 86 [.pv (.p (h _ fun _ => ud k n (jl n))), .pv (nH h x)] (.tup [.pv (nH h (qA k n x)), .pv (.v .nilIface)]) [.any, .any] := by
 have c1 := qcg Z h hh k n x hn hx
 obtain ⟨w, hw'⟩ : ∃ w, jl n = w := ⟨_, rfl⟩
 obtain ⟨p, hp⟩ := exq (qA k n x)
 rw [hp] at c1 ⊢
 rw [hw'] at c1 ⊢
 refine qB Z h hh ⟨Tryz.func86, Tryz.ntmps86⟩ rfl rfl rfl rfl rfl fun C hC => ?_
 unfold Tryz.f86
 cbv
 repeat' first
  | exact s0
  | apply And.intro
  | exact sq
  | trivial
  | exact sx
  | (refine sy fun e => ?_; cbv)
  | (refine ⟨_, _, _, hC _ _ _ _ c1, ?_⟩; cbv; clear c1)
theorem qdU (Z : Ad) (h : Hh) (hh : ∀ α g, h α g = g ()) (k : List UInt8) (n : Nat) (hk : k.length <= 100000000) (h1 : 1 <= n) (h2 : n <= 1048576) : qi Z 81 [.pv (bH h k), .pv (nH h n)] (.tup [.pv (.p (h _ fun _ => ud k n (jl n))), .pv (.v .nilIface)]) [.any, .any] := by
 have c1 := vf Z h hh k hk
 have z1 : ¬ (n : Int) < 1 := by omega
 have z2 : ¬ (1048576 : Int) < (n : Int) := by omega
 refine qB Z h hh ⟨Tryz.func81, Tryz.ntmps81⟩ rfl rfl rfl rfl rfl fun C hC => ?_
 unfold Tryz.f81
 cbv
 repeat' first
  | exact s0
  | apply And.intro
  | exact sq
  | trivial
  | (refine sz fun e => ?_; simp [hh, z1, z2] at e <;> (try simp only [qD] at *) <;> omega)
  | (refine sy fun e => ?_; cbv)
 refine ⟨Nat, fun j => ⟨[(0, some (.pv (bH h k))), (1, some (.pv (nH h n))), (6, some (.pv (nH h (j + 1))))], []⟩, fun j => j <= 10 /\ uT (10 - j) (j + 1) n = jl n, fun j => 10 - j, 0, [], ⟨by omega, rfl⟩, trivial, ⟨[], rfl, rfl, trivial, ?_, ?_, ?_, trivial⟩, ?_⟩
 ·exact sp
 ·exact sp
 ·exact sp
 intro j hj
 dsimp only
 obtain ⟨j1, j2⟩ := hj
 have q4 : (4 : Nat) ^ (j + 1) <= 4 ^ 11 := Nat.pow_le_pow_right Y86 Y54
 have q5 : (2 : Nat) ^ (2 * (j + 1)) = 4 ^ (j + 1) := by rw [Nat.pow_mul]
 obtain ⟨w, hw⟩ := exq (j + 1)
 have w1 : IntKind.i64.wrap (2 * (w : Int)) = ((2 * w : Nat) : Int) := by rw [wrap_i64 Y54 Y54]; omega
 obtain ⟨w2, hw2⟩ := exq (2 * w)
 rw [hw] at q4 q5 j2 ⊢
 rw [hw2] at w1 q5
 obtain ⟨F4, hF⟩ := exq (4 ^ w)
 have w3 : IntKind.i64.wrap (2 ^ min w2 IntKind.i64.bits) = (F4 : Int) := by rw [Kf w2 Y54 .i64 rfl, YI, q5, hF, wrap_i64 Y54 Y54]; 
 have w5 : 0 <= w2 := Nat.zero_le _
 by_cases hlt : 4 ^ w < n
 ·have j3 : j < 10 := by
   rcases Nat.lt_or_ge j 10 with q | q
   ·exact q
   ·have : w = 11 := by omega
    subst this
    exact absurd hlt Y54
  rw [show 10 - j = (10 - (j + 1)) + 1 by omega, xG hlt] at j2
  have i1 : IntKind.i64.wrap ((w : Int) + 1) = ((w + 1 : Nat) : Int) := by rw [wrap_i64 Y54 Y54]; omega
  have j2' : uT (10 - (j + 1)) (j + 1 + 1) n = jl n := by rw [<- hw] at j2; exact j2
  have i2 : j + 1 + 1 = w + 1 := by omega
  replace j2' := Hdq j2'
  have hlt' : (F4 : Int) < (n : Int) := by rw [<- hF]; exact Int.ofNat_lt.2 hlt
  replace hw := Hdq hw
  replace i2 := Hdq i2
  clear j2 hlt hF q4 q5 hw2
  cbv
  repeat' first
   | exact s0
   | apply And.intro
   | exact sq
   | (refine fun (_ : PUnit) => ?_; simp [hh, *, w1, w3]; done)
   | trivial
   | (refine sz fun e => ?_; simp [hh, w1, w3, hlt'] at e <;> (try simp only [qD] at *) <;> omega)
   | (refine sy fun e => ?_; cbv)
  refine ⟨j + 1, ⟨j3, j2'.out⟩, by show 10 - (j + 1) < 10 - j; omega, ⟨[], rfl, rfl, trivial, ?_, ?_, ?_, trivial⟩⟩
  ·exact sp
  ·exact sp
  ·cbv; simp only [hh, nI, i2.out, i1]
 ·rw [xH hlt] at j2
  have hlt' : ¬ (F4 : Int) < (n : Int) := by rw [<- hF]; exact fun q => hlt (Int.ofNat_lt.1 q)
  rw [<- j2]
  clear j2 hlt hF q4 q5 hw2 hw
  cbv
  repeat' first
   | exact s0
   | apply And.intro
   | exact sq
   | (refine fun (_ : PUnit) => ?_; simp [hh, *, w1, w3, ud, iP]; done)
   | trivial
   | (refine sz fun e => ?_; simp [hh, w1, w3, hlt'] at e <;> (try simp only [qD] at *) <;> omega)
   | (refine sy fun e => ?_; cbv)
   | (refine ⟨_, _, _, hC _ _ _ _ c1, ?_⟩; cbv; clear c1)
end Go.Bl
namespace Go.Bl
open Go.RowKit Go.Proofs
attribute [local irreducible] qz
open Go.Proofs.YtdloaifdpajcjaaGreatDoor (Par chk blk qU jU zK qj j7 qg qS ql qG jd jK sdE qA jL jy beK subL_len blk_ge yK)
@[simp] theorem cells_p (x : List PV) : (PV.p x).cells = [.p x] := rfl
theorem ZX {α : Type} {l : List α} {i : Nat} {x : α} (h : l[i]? = some x) : ∀ q : i < l.length, l[i]'q = x := fun q => by rwa [List.getElem?_eq_getElem q, Option.some_inj] at h
theorem qfM (Z : Ad) (h : Hh) (hh : ∀ α g, h α g = g ()) (k : List UInt8) (i : Int) (hk : k.length <= 100000000) (hi : 0 <= i /\ i <= 1099511627776) : qi Z 161 [.pv (bH h k), .pv (iH h i)] (.tup [.pv (.a [.p (h _ fun _ => vC k)]), .pv (.v .nilIface)]) [.any, .any] := by
 have c1 := ZH Z h hh i
 rw [decide_eq_true hi] at c1
 have c2 := vf Z h hh k hk
 refine qB Z h hh ⟨Tryz.func161, Tryz.ntmps161⟩ rfl rfl rfl rfl rfl fun C hC => ?_
 unfold Tryz.f161
 cbv
 repeat' first
  | exact s0
  | apply And.intro
  | exact sq
  | trivial
  | exact sx
  | (refine sy fun e => ?_; cbv)
  | (refine ⟨_, _, _, hC _ _ _ _ c1, ?_⟩; cbv; clear c1)
  | (refine ⟨_, _, _, hC _ _ _ _ c2, ?_⟩; cbv; clear c2)
theorem UV (Z : Ad) (h : Hh) (hh : ∀ α g, h α g = g ()) (k : List UInt8) (i : Int) (hk : k.length <= 100000000) (hi : 0 <= i /\ i <= 1099511627776) : qi Z 93 [.pv (bH h k), .pv (iH h i)] (.tup [.own 5 1 (h _ fun _ => (jy k i).map u8P), .pv (.v .nilIface)]) [.any, .any] := by
 have c1 := qfM Z h hh k i hk hi
 have c2 := QU Z h hh k i
 refine qB Z h hh ⟨Tryz.func93, Tryz.ntmps93⟩ rfl rfl rfl rfl rfl fun C hC => ?_
 unfold Tryz.f93
 cbv
 repeat' first
  | exact s0
  | apply And.intro
  | exact sq
  | trivial
  | exact sx
  | (refine sy fun e => ?_; cbv)
  | (refine ⟨_, _, _, hC _ _ _ _ c1, ?_⟩; cbv; clear c1)
  | (refine ⟨_, _, _, hC _ _ _ _ c2, ?_⟩; cbv; clear c2)
def je (m : List UInt8) (n : Int) (N : Nat) (B : Int) : List PV := [bP (qg m qS n), bP (qg m ql n), bP (qg m qG n), bP (qg m jd n), bP (qg m jK n), .p (ud (qg m ql n) N (jl N)), .p (vC (qg m jd n)), iP B, iP N]
theorem UG (Z : Ad) (h : Hh) (hh : ∀ α g, h α g = g ()) (m : List UInt8) (n : Int) (p : Par) (N : Nat) (hc : chk p = 0) (hkb : qj m n = 0) (hN : (N : Int) = blk p.size + p.sent) : qi Z 32 [.pv (bH h m), .pv (iH h n), .pv (uH h p)] (.tup [.pv (.p (h _ fun _ => je m n N (blk p.size))), .pv (.v .nilIface)]) [.any, .any, .any] := by
 have c1 := zT Z h hh p hc
 rw [<- hN] at c1
 have c2 := yO Z h hh m n hkb
 obtain ⟨l1, l2, l3, l4⟩ := Qf Z h hh hc
 have l5 := blk_ge (j7 hc).1
 have c3 := qdU Z h hh (qg m ql n) N Y83 Y54 Y54
 have c4 := vf Z h hh (qg m jd n) Y83
 have w1 : IntKind.i64.wrap ((N : Int) - p.sent) = blk p.size := by rw [wrap_i64 Y54 Y54]; omega
 unfold je
 obtain ⟨a1, e1⟩ := exq (qg m qS n)
 obtain ⟨a2, e2⟩ := exq (qg m ql n)
 obtain ⟨a3, e3⟩ := exq (qg m qG n)
 obtain ⟨a4, e4⟩ := exq (qg m jd n)
 obtain ⟨a5, e5⟩ := exq (qg m jK n)
 obtain ⟨a6, e6⟩ := exq (jl N)
 obtain ⟨B, e7⟩ := exq (blk p.size)
 rw [e1, e2, e3, e4, e5] at c2
 rw [e2, e6] at c3
 rw [e4] at c4
 rw [e7] at w1
 rw [e1, e2, e3, e4, e5, e6, e7]
 clear e1 e2 e3 e4 e5 e6 e7 l1 l2 l3 l4 l5 hN hc hkb
 refine qB Z h hh ⟨Tryz.func32, Tryz.ntmps32⟩ rfl rfl rfl rfl rfl fun C hC => ?_
 unfold Tryz.f32
 cbv
 repeat' first
  | exact s0
  | apply And.intro
  | exact sq
  | (refine fun (_ : PUnit) => ?_; simp [hh, *, splice, bP, iP, ud, w1]; done)
  | trivial
  | (refine sz fun e => ?_; simp [hh, w1] at e <;> (try simp only [qD] at *) <;> omega)
  | (refine sy fun e => ?_; cbv)
  | (refine ⟨_, _, _, hC _ _ _ _ c1, ?_⟩; cbv; clear c1)
  | (refine ⟨_, _, _, hC _ _ _ _ c2, ?_⟩; cbv; clear c2)
  | (refine ⟨_, _, _, hC _ _ _ _ c3, ?_⟩; cbv; clear c3)
  | (refine ⟨_, _, _, hC _ _ _ _ c4, ?_⟩; cbv; clear c4)
theorem VZ (Z : Ad) (h : Hh) (hh : ∀ α g, h α g = g ()) (m : List UInt8) (n : Int) (N : Nat) (B : Int) (x : Int) (b : List UInt8) (hb : b.length <= 100000) : qi Z 87 [.pv (.p (h _ fun _ => je m n N B)), .pv (iH h x), .pv (bH h b)] (.own 5 1 (h _ fun _ => (jL (qg m jd n) x b).map u8P)) [.any, .any, .any] := by
 have c1 := vI Z h hh x
 have c2 := qdA Z h hh (qg m jd n) [beK 8 x, b] Y85 Y85 (by simp [Go.Proofs.YtdloaifdpajcjaaGreatDoor.beK_len]; omega)
 obtain ⟨tg, ht⟩ := exq (JN (qg m jd n) [beK 8 x, b].flatten)
 have lt : tg.length = 8 := by rw [<- ht, yf]
 have e : jL (qg m jd n) x b = [b, tg].flatten := by rw [jL, <- ht]; simp
 rw [ht] at c2
 rw [e]
 have c3 := Ug Z h hh [b, tg] Y85 (by simp [lt]; omega)
 obtain ⟨V, hV⟩ := exq ([b, tg].flatten)
 rw [hV] at c3 ⊢
 obtain ⟨nb, hnb⟩ := exq (beK 8 x)
 rw [hnb] at c1 c2
 have hm : (je m n N B)[6]? = some (.p (vC (qg m jd n))) := rfl
 have hml : (je m n N B).length = 9 := rfl
 obtain ⟨K, hK⟩ := exq (qg m jd n)
 rw [hK] at c2 hm
 obtain ⟨M, hM⟩ := exq (je m n N B)
 rw [hM] at hm hml ⊢
 replace hm := ZX hm
 clear hM hK hnb hV e ht
 refine qB Z h hh ⟨Tryz.func87, Tryz.ntmps87⟩ rfl rfl rfl rfl rfl fun C hC => ?_
 unfold Tryz.f87
 cbv
 repeat' first
  | exact s0
  | apply And.intro
  | exact sq
  | (refine fun (_ : PUnit) => ?_; simp [hh, *, hm, bP]; done)
  | trivial
  | exact sx
  | (refine sy fun e => ?_; cbv)
  | (refine ⟨_, _, _, hC _ _ _ _ c1, ?_⟩; cbv; clear c1)
  | (refine ⟨_, _, _, hC _ _ _ _ c2, ?_⟩; cbv; clear c2)
  | (refine ⟨_, _, _, hC _ _ _ _ c3, ?_⟩; cbv; clear c3)
theorem Jq (Z : Ad) (h : Hh) (hh : ∀ α g, h α g = g ()) (m : List UInt8) (n j : Int) (p : Par) (hs : sdE p m n = 0) (hj : 0 <= j /\ j < p.sent) :
  qi Z 39 [.pv (bH h m), .pv (iH h n), .pv (uH h p), .pv (iH h j)] (.tup [.pv (nH h (qA (qg m ql n) (blk p.size + p.sent).toNat ((blk p.size).toNat + j.toNat))),
   .own 5 1 (h _ fun _ => (jL (qg m jd n) ((qA (qg m ql n) (blk p.size + p.sent).toNat ((blk p.size).toNat + j.toNat) : Nat) : Int) (jy (qg m qG n) j)).map u8P), .pv (.v .nilIface)]) [.any, .any, .any, .any] := by
 have hc : chk p = 0 := by unfold sdE at hs; split at hs <;> omega
 have hkb : qj m n = 0 := by unfold sdE at hs; rw [if_neg Y54] at hs; exact hs
 obtain ⟨l1, l2, l3, l4⟩ := Qf Z h hh hc
 obtain ⟨N, hN⟩ := exq ((blk p.size + p.sent).toNat)
 obtain ⟨x, hx⟩ := exq ((blk p.size).toNat + j.toNat)
 rw [hN, hx]
 have c1 := UG Z h hh m n p N hc hkb Y54
 have c2 := UV Z h hh (qg m qG n) j Y83 ⟨hj.1, by omega⟩
 have c3 := qa9 Z h hh (qg m ql n) N x Y54 Y54
 obtain ⟨pl, hp⟩ := exq (qA (qg m ql n) N x)
 rw [hp] at c3 ⊢
 have c4 := VZ Z h hh m n N (blk p.size) (pl : Int) (jy (qg m qG n) j) (by rw [Go.Proofs.YtdloaifdpajcjaaGreatDoor.strL_len]; decide)
 have w1 : IntKind.i64.wrap (blk p.size + j) = (x : Int) := by rw [wrap_i64 Y54 Y54]; omega
 have z1 : ¬ j < 0 := by omega
 have z2 : ¬ p.sent <= j := by omega
 have hml : (je m n N (blk p.size)).length = 9 := rfl
 have m0 : (je m n N (blk p.size))[2]? = some (bP (qg m qG n)) := rfl
 have m1 : (je m n N (blk p.size))[5]? = some (.p (ud (qg m ql n) N (jl N))) := rfl
 have m2 : (je m n N (blk p.size))[7]? = some (iP (blk p.size)) := rfl
 obtain ⟨M, hM⟩ := exq (je m n N (blk p.size))
 rw [hM] at m0 m1 m2 hml c1 c4
 obtain ⟨B, hB⟩ := exq (blk p.size)
 rw [hB] at m2 w1
 obtain ⟨V, hV⟩ := exq (jL (qg m jd n) (pl : Int) (jy (qg m qG n) j))
 rw [hV] at c4 ⊢
 obtain ⟨sv, hsv⟩ := exq (jy (qg m qG n) j)
 rw [hsv] at c2 c4
 replace m0 := ZX m0
 replace m1 := ZX m1
 replace m2 := ZX m2
 clear hM hB hV hsv hp hc hkb hs hN hx l1 l2 l3 l4 hj
 refine qB Z h hh ⟨Tryz.func39, Tryz.ntmps39⟩ rfl rfl rfl rfl rfl fun C hC => ?_
 unfold Tryz.f39
 cbv
 repeat' first
  | exact s0
  | apply And.intro
  | exact sq
  | (refine fun (_ : PUnit) => ?_; simp [hh, *, m0, m1, m2, iP, bP, w1]; done)
  | trivial
  | (refine sz fun e => ?_; simp [hh, z1, z2] at e <;> (try simp only [qD] at *) <;> omega)
  | (refine sy fun e => ?_; cbv)
  | (refine ⟨_, _, _, hC _ _ _ _ c1, ?_⟩; cbv; clear c1)
  | (refine ⟨_, _, _, hC _ _ _ _ c2, ?_⟩; cbv; clear c2)
  | (refine ⟨_, _, _, hC _ _ _ _ c3, ?_⟩; cbv; clear c3)
  | (refine ⟨_, _, _, hC _ _ _ _ c4, ?_⟩; cbv; clear c4)
theorem XW (Z : Ad) (h : Hh) (hh : ∀ α g, h α g = g ()) (m : List UInt8) (n j : Int) (p : Par) (hs : sdE p m n = 0) (hj : ¬ (0 <= j /\ j < p.sent)) :
  qi Z 39 [.pv (bH h m), .pv (iH h n), .pv (uH h p), .pv (iH h j)] (.tup [.pv (iH h 0), .pv (bH h []), .pv (qP Z 18)]) [.any, .any, .any, .any] := by
 have hc : chk p = 0 := by unfold sdE at hs; split at hs <;> omega
 have hkb : qj m n = 0 := by unfold sdE at hs; rw [if_neg Y54] at hs; exact hs
 obtain ⟨l1, l2, l3, l4⟩ := Qf Z h hh hc
 have c1 := UG Z h hh m n p (blk p.size + p.sent).toNat hc hkb Y54
 obtain ⟨M, hM⟩ := exq (je m n (blk p.size + p.sent).toNat (blk p.size))
 rw [hM] at c1
 clear hM hs hc hkb l1 l2 l3 l4
 by_cases z1 : j < 0
 ·clear hj
  refine qB Z h hh ⟨Tryz.func39, Tryz.ntmps39⟩ rfl rfl rfl rfl rfl fun C hC => ?_
  unfold Tryz.f39
  cbv
  repeat' first
   | exact s0
   | apply And.intro
   | exact sq
   | trivial
   | (refine sz fun e => ?_; simp [hh, z1] at e <;> (try simp only [qD] at *) <;> omega)
   | (refine sy fun e => ?_; cbv)
   | (refine ⟨_, _, _, hC _ _ _ _ c1, ?_⟩; cbv; clear c1)
 ·have z2 : p.sent <= j := by omega
  clear hj
  refine qB Z h hh ⟨Tryz.func39, Tryz.ntmps39⟩ rfl rfl rfl rfl rfl fun C hC => ?_
  unfold Tryz.f39
  cbv
  repeat' first
   | exact s0
   | apply And.intro
   | exact sq
   | trivial
   | (refine sz fun e => ?_; simp [hh, z1, z2] at e <;> (try simp only [qD] at *) <;> omega)
   | (refine sy fun e => ?_; cbv)
   | (refine ⟨_, _, _, hC _ _ _ _ c1, ?_⟩; cbv; clear c1)
end Go.Bl
namespace Go.Bl
open Go.RowKit Go.Proofs
attribute [local irreducible] qz
open Go.Proofs.YtdloaifdpajcjaaGreatDoor (Par chk blk qU jU zK qj qg qS ql qG jd jK sdE qA jL jy)
theorem Z0 {p : Par} (h : chk p = 0) : qU p 0 /\ qU p 1 /\ qU p 2 := by
 unfold chk at h
 split at h
 ·cases h
 ·rename_i h0
  split at h
  ·cases h
  ·rename_i h1
   split at h
   ·cases h
   ·rename_i h2
    exact ⟨Classical.not_not.1 h0, Classical.not_not.1 h1, Classical.not_not.1 fun q => h2 (.inl q)⟩
def Qy (m : List UInt8) (x : jY) (e : jc) : List Int := KW (qg m jK x.num) e.idx.toNat (blk x.par.size + x.par.sent).toNat x.par.spots.toNat
def Xy (m : List UInt8) (x : jY) (e : jc) : Nat := qA (qg m ql x.num) (blk x.par.size + x.par.sent).toNat ((blk x.par.size).toNat + e.idx.toNat)
theorem qae (m nm : List UInt8) (n : Int) : (qg m nm n).length <= 100000000 := by
 have : (qg m nm n).length = 32 := xe _ _
 omega
theorem Zp (Z : Ad) (h : Hh) (hh : ∀ α g, h α g = g ()) (m : List UInt8) (x : jY) (e : jc) (lr : x.root.length = 32) (lf : x.file.length = 32) (hc : chk x.par = 0) (hk : qj m x.num = 0) (hw : e.way = 1) (hi : 0 <= e.idx /\ e.idx <= 1073741824) : qi Z 8 [.pv (bH h m), .pv (jk h x), .pv (qX h e)] (.tup [.pv (lH h iP (Qy m x e)), .pv (.v .nilIface)]) [.any, .any, .any] := by
 obtain ⟨z0, z1, z2⟩ := Z0 hc
 have zb := Go.Proofs.YtdloaifdpajcjaaGreatDoor.blk_le (p := x.par) z0
 have z1' : 0 <= x.par.sent /\ x.par.sent <= 8 := z1
 have z2' : 1 <= x.par.spots /\ x.par.spots <= min 12 (blk x.par.size + x.par.sent) := z2
 have c1 := zT Z h hh x.par hc
 have c2 := yO Z h hh m x.num hk
 have il := jR lr lf
 obtain ⟨n, hn⟩ := Int.eq_ofNat_of_zero_le (a := blk x.par.size + x.par.sent) Y54
 obtain ⟨s, hs⟩ := Int.eq_ofNat_of_zero_le (a := x.par.spots) Y54
 obtain ⟨r, hr⟩ := Int.eq_ofNat_of_zero_le (a := e.idx) hi.1
 have c3 := qck Z h hh (qg m jK x.num) r n s (qae _ _ _) Y54 Y54 Y54
 rw [show KW (qg m jK x.num) r n s = Qy m x e by rw [Qy, hn, hs, hr]; rfl] at c3
 obtain ⟨l, hl⟩ := exq (Qy m x e)
 rw [hl] at c3 ⊢
 rw [hn] at c1
 clear hi hc hk z0 z1 z2 z1' z2' zb hl hn
 refine qB Z h hh ⟨Tryz.func8, Tryz.ntmps8⟩ rfl rfl rfl rfl rfl fun C hC => ?_
 unfold Tryz.f8
 cbv
 repeat' first
  | exact s0
  | apply And.intro
  | exact sq
  | (refine fun (_ : PUnit) => ?_; simp [hh, *, qK]; done)
  | trivial
  | (refine sz fun e => ?_; simp [hh, hw] at e <;> (try simp only [qD] at *) <;> omega)
  | (refine sy fun e => ?_; cbv)
  | (refine ⟨_, _, _, hC _ _ _ _ c1, ?_⟩; cbv; clear c1)
  | (refine ⟨_, _, _, hC _ _ _ _ c2, ?_⟩; cbv; clear c2)
  | (refine ⟨_, _, _, hC _ _ _ _ c3, ?_⟩; cbv; clear c3)
theorem L9 (Z : Ad) (h : Hh) (hh : ∀ α g, h α g = g ()) (m : List UInt8) (x : jY) (e : jc) (lr : x.root.length = 32) (lf : x.file.length = 32) (hc : chk x.par = 0) (hk : qj m x.num = 0) (hw : e.way = 1) (hi : ¬ (0 <= e.idx /\ e.idx <= 1073741824)) : qi Z 8 [.pv (bH h m), .pv (jk h x), .pv (qX h e)] (.tup [.pv (lH h iP []), .pv (qP Z 1)]) [.any, .any, .any] := by
 have c1 := zT Z h hh x.par hc
 have c2 := yO Z h hh m x.num hk
 have il := jR lr lf
 have c3 := qaq Z h hh (qg m jK x.num) e.idx (blk x.par.size + x.par.sent) x.par.spots (by
  rcases Int.lt_or_le e.idx 0 with q | q
  ·simp [q]
  ·have : 1073741824 < e.idx := by omega
   simp [this])
 obtain ⟨n, hn⟩ := exq (blk x.par.size + x.par.sent)
 rw [hn] at c1 c3
 clear hi hc hk hn
 refine qB Z h hh ⟨Tryz.func8, Tryz.ntmps8⟩ rfl rfl rfl rfl rfl fun C hC => ?_
 unfold Tryz.f8
 cbv
 repeat' first
  | exact s0
  | apply And.intro
  | exact sq
  | (refine fun (_ : PUnit) => ?_; simp [hh, *, qK]; done)
  | trivial
  | (refine sz fun e => ?_; simp [hh, hw] at e <;> (try simp only [qD] at *) <;> omega)
  | (refine sy fun e => ?_; cbv)
  | (refine ⟨_, _, _, hC _ _ _ _ c1, ?_⟩; cbv; clear c1)
  | (refine ⟨_, _, _, hC _ _ _ _ c2, ?_⟩; cbv; clear c2)
  | (refine ⟨_, _, _, hC _ _ _ _ c3, ?_⟩; cbv; clear c3)
theorem Ww (Z : Ad) (h : Hh) (hh : ∀ α g, h α g = g ()) (m : List UInt8) (x : jY) (e : jc) (lr : x.root.length = 32) (lf : x.file.length = 32) (hc : chk x.par = 0) (hk : qj m x.num = 0) (hw : e.way = 2) (hi : 0 <= e.idx /\ e.idx < x.par.sent) : qi Z 8 [.pv (bH h m), .pv (jk h x), .pv (qX h e)] (.tup [.pv (lH h iP [(Xy m x e : Int)]), .pv (.v .nilIface)]) [.any, .any, .any] := by
 have c1 := zT Z h hh x.par hc
 have c2 := yO Z h hh m x.num hk
 have il := jR lr lf
 have c3 := Jq Z h hh m x.num e.idx x.par (by unfold sdE; rw [if_neg Y54]; exact hk) hi
 obtain ⟨tg, htg⟩ := exq (jL (qg m jd x.num) ((qA (qg m ql x.num) (blk x.par.size + x.par.sent).toNat ((blk x.par.size).toNat + e.idx.toNat) : Nat) : Int) (jy (qg m qG x.num) e.idx))
 rw [htg] at c3
 clear htg
 obtain ⟨pl, hpl⟩ := exq (Xy m x e)
 rw [show qA (qg m ql x.num) (blk x.par.size + x.par.sent).toNat ((blk x.par.size).toNat + e.idx.toNat) = pl from hpl] at c3
 rw [hpl]
 obtain ⟨n, hn⟩ := exq (blk x.par.size + x.par.sent)
 rw [hn] at c1
 clear hi hc hk hpl hn
 refine qB Z h hh ⟨Tryz.func8, Tryz.ntmps8⟩ rfl rfl rfl rfl rfl fun C hC => ?_
 unfold Tryz.f8
 cbv
 repeat' first
  | exact s0
  | apply And.intro
  | exact sq
  | (refine fun (_ : PUnit) => ?_; simp [hh, *, qK]; done)
  | trivial
  | (refine sz fun e => ?_; simp [hh, hw] at e <;> (try simp only [qD] at *) <;> omega)
  | (refine sy fun e => ?_; cbv)
  | (refine ⟨_, _, _, hC _ _ _ _ c1, ?_⟩; cbv; clear c1)
  | (refine ⟨_, _, _, hC _ _ _ _ c2, ?_⟩; cbv; clear c2)
  | (refine ⟨_, _, _, hC _ _ _ _ c3, ?_⟩; cbv; clear c3)
theorem LN (Z : Ad) (h : Hh) (hh : ∀ α g, h α g = g ()) (m : List UInt8) (x : jY) (e : jc) (lr : x.root.length = 32) (lf : x.file.length = 32) (hc : chk x.par = 0) (hk : qj m x.num = 0) (hw : e.way = 2) (hi : ¬ (0 <= e.idx /\ e.idx < x.par.sent)) : qi Z 8 [.pv (bH h m), .pv (jk h x), .pv (qX h e)] (.tup [.pv (lH h iP []), .pv (qP Z 18)]) [.any, .any, .any] := by
 have c1 := zT Z h hh x.par hc
 have c2 := yO Z h hh m x.num hk
 have il := jR lr lf
 have c3 := XW Z h hh m x.num e.idx x.par (by unfold sdE; rw [if_neg Y54]; exact hk) hi
 obtain ⟨n, hn⟩ := exq (blk x.par.size + x.par.sent)
 rw [hn] at c1
 clear hi hc hk hn
 refine qB Z h hh ⟨Tryz.func8, Tryz.ntmps8⟩ rfl rfl rfl rfl rfl fun C hC => ?_
 unfold Tryz.f8
 cbv
 repeat' first
  | exact s0
  | apply And.intro
  | exact sq
  | (refine fun (_ : PUnit) => ?_; simp [hh, *, qK]; done)
  | trivial
  | (refine sz fun e => ?_; simp [hh, hw] at e <;> (try simp only [qD] at *) <;> omega)
  | (refine sy fun e => ?_; cbv)
  | (refine ⟨_, _, _, hC _ _ _ _ c1, ?_⟩; cbv; clear c1)
  | (refine ⟨_, _, _, hC _ _ _ _ c2, ?_⟩; cbv; clear c2)
  | (refine ⟨_, _, _, hC _ _ _ _ c3, ?_⟩; cbv; clear c3)
theorem YH (Z : Ad) (h : Hh) (hh : ∀ α g, h α g = g ()) (m : List UInt8) (x : jY) (e : jc) (lr : x.root.length = 32) (lf : x.file.length = 32) (hc : chk x.par = 0) (hk : qj m x.num = 0) (h1 : e.way ≠ 1) (h2 : e.way ≠ 2) : qi Z 8 [.pv (bH h m), .pv (jk h x), .pv (qX h e)] (.tup [.pv (lH h iP []), .pv (qP Z 7)]) [.any, .any, .any] := by
 have c1 := zT Z h hh x.par hc
 have c2 := yO Z h hh m x.num hk
 have il := jR lr lf
 obtain ⟨n, hn⟩ := exq (blk x.par.size + x.par.sent)
 rw [hn] at c1
 clear hc hk hn
 refine qB Z h hh ⟨Tryz.func8, Tryz.ntmps8⟩ rfl rfl rfl rfl rfl fun C hC => ?_
 unfold Tryz.f8
 cbv
 repeat' first
  | exact s0
  | apply And.intro
  | exact sq
  | (refine fun (_ : PUnit) => ?_; simp [hh, *, qK]; done)
  | trivial
  | (refine sz fun e => ?_; simp [hh, h1, h2] at e <;> (try simp only [qD] at *) <;> omega)
  | (refine sy fun e => ?_; cbv)
  | (refine ⟨_, _, _, hC _ _ _ _ c1, ?_⟩; cbv; clear c1)
  | (refine ⟨_, _, _, hC _ _ _ _ c2, ?_⟩; cbv; clear c2)
end Go.Bl
