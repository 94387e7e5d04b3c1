import Derived.Test.YtnafknkchbfpaaaGreatDoorPL
set_option linter.unusedVariables false
set_option linter.unusedSimpArgs false
set_option maxRecDepth 1000000
set_option maxHeartbeats 8000000
namespace Go.Bl
open Go.RowKit Go.Proofs Go.Proofs.YtnafknkchbfpaaaGreatDoor
attribute [local irreducible] qw
abbrev madeH (h : Hh) (m xs : List UInt8) (n : Int) (p : Par) : PV := .a [bH h m, iH h n, bH h xs, iH h p.size, iH h p.sent, iH h p.spots, iH h p.per, iH h p.pat, iH h p.ret]
end Go.Bl
namespace Go.Bl
open Go.RowKit Go.Proofs
open Go.Proofs.YtnafknkchbfpaaaGreatDoor (Par chk blk jj jG)
def U5 (j : Nat) : ByteArray := if j = 0 then ⟨#[115, 105, 122, 101]⟩ else if j = 1 then ⟨#[115, 101, 110, 116, 105, 110, 101, 108, 115]⟩ else if j = 2 then ⟨#[115, 112, 111, 116, 115]⟩ else if j = 3 then ⟨#[112, 101, 114, 105, 111, 100]⟩ else if j = 4 then ⟨#[112, 97, 116, 105, 101, 110, 99, 101]⟩ else ⟨#[114, 101, 116, 114, 105, 101, 115]⟩
def yp (p : Par) (j : Nat) : Int := if j = 0 then p.size else if j = 1 then p.sent else if j = 2 then p.spots else if j = 3 then p.per else if j = 4 then p.pat else p.ret
def uX (j : Nat) : Int := if j = 0 ∨ j = 1 ∨ j = 5 then 0 else 1
def Qb (p : Par) (q : Int) (j : Nat) : Int := if j = 0 then 2000 else if j = 1 then 8 else if j = 2 then (if q < 12 then q else 12) else if j = 3 then 10000 else if j = 4 then p.per else 5
def Zz (Z : Ad) (p : Par) (q : Int) (j : Nat) : List PV := [.v (.string (U5 j)), iP (yp p j), iP (uX j), iP (Qb p q j), qY Z (jG j)]
def ZY (Z : Ad) (p : Par) (q : Int) : List PV := Zz Z p q 0 ++ Zz Z p q 1 ++ Zz Z p q 2 ++ Zz Z p q 3 ++ Zz Z p q 4 ++ Zz Z p q 5
theorem Uh (Z : Ad) (h : Hh) (hh : ∀ α g, h α g = g ()) (p : Par) (q : Int) : qb Z 119 [.pv (zX h p), .pv (iH h q)] (.pv (.a (h _ fun _ => ZY Z p q))) [.any, .any] := by
 refine qh Z h hh ⟨Tryz.func119, Tryz.ntmps119⟩ rfl rfl rfl rfl rfl fun C hC => ?_
 unfold Tryz.f119
 cbv
 repeat' first
  | exact s0
  | apply And.intro
  | exact sq
  | (refine fun (_ : PUnit) => ?_; simp [hh, splice, jJ, ZY, Zz, U5, yp, uX, Qb, jG, qY]; done)
  | trivial
end Go.Bl
namespace Go.Bl
open Go.RowKit Go.Proofs
open Go.Proofs.YtnafknkchbfpaaaGreatDoor (Par chk blk jj jG QP WN jQ)
def Xo (Z : Ad) (p : Par) (j : Nat) : List PV := [.v (.string (U5 j)), iP (yp p j), qY Z (jG j)]
def bOk (p : Par) (q : Int) (j : Nat) : Prop := uX j <= yp p j /\ yp p j <= Qb p q j
theorem Xf (Z : Ad) (p : Par) (q : Int) {k : Nat} (hk : k < 6) : List.take 5 (List.drop (k * 5) (ZY Z p q)) = Zz Z p q k := by
 have : k = 0 ∨ k = 1 ∨ k = 2 ∨ k = 3 ∨ k = 4 ∨ k = 5 := by omega
 rcases this with rfl | rfl | rfl | rfl | rfl | rfl <;> rfl
theorem qav (Z : Ad) (p : Par) (q : Int) : (ZY Z p q).length = 30 := rfl
theorem JE (Z : Ad) (h : Hh) (hh : ∀ α g, h α g = g ()) (size : Int) : ∃ (t : Int) (k : Nat), 0 <= t /\ t <= 510 /\ (0 <= size /\ size <= 2000 -> t = blk size /\ k = 0) /\ qb Z 118 [.pv (iH h size)] (.tup [.pv (iH h t), .pv (.v (h _ fun _ => jQ Z.e k))]) [.any] := by
 simp only [iH, hh]
 by_cases hs : size < 0 ∨ 2000 < size
 ·refine ⟨0, 8, by decide, by decide, fun q => by omega, ?_⟩
  refine xI (xs := [iP size]) (.tuple #[.int .i64 0, jQ Z.e 8]) Tryz.func118 rfl rfl (fun A w => .tup (.cons (.pv (.v rfl)) (.cons (.pv (.v rfl)) .nil))) fun A w us hA he hr => ?_
  cases hr with
  | cons h1 h2 =>
   cases h2
   rw [QJ h1]
   exact Go.Proofs.YtnafknkchbfpaaaGreatDoor.total_bad Go.Proofs.YtnafknkchbfpaaaGreatDoor.all20 Z.e _ w (yd he) Y76 size hs
 ·have h9 : 0 <= size /\ size <= 2000 := by omega
  have hb := Go.Proofs.YtnafknkchbfpaaaGreatDoor.blk_le (p := ⟨size, 0, 0, 0, 0, 0⟩) h9
  refine ⟨blk size, 0, hb.1, hb.2, fun _ => ⟨rfl, rfl⟩, ?_⟩
  refine xI (xs := [iP size]) (.tuple #[.int .i64 (blk size), jQ Z.e 0]) Tryz.func118 rfl rfl (fun A w => .tup (.cons (.pv (.v rfl)) (.cons (.pv (.v rfl)) .nil))) fun A w us hA he hr => ?_
  cases hr with
  | cons h1 h2 =>
   cases h2
   rw [QJ h1]
   exact Go.Proofs.YtnafknkchbfpaaaGreatDoor.total_ok w size h9.1 h9.2
theorem Zm (Z : Ad) (p : Par) (q : Int) (k : Nat) (hk : k < 6) : 5 <= (ZY Z p q).length - k * 5 := by rw [qav]; omega
theorem qcV (Z : Ad) (h : Hh) (hh : ∀ α g, h α g = g ()) (p : Par) (t : Int) (k0 : Nat) (ht : qb Z 118 [.pv (iH h p.size)] (.tup [.pv (iH h t), .pv (.v (h _ fun _ => jQ Z.e k0))]) [.any]) (hok : ∀ j, j < 6 -> bOk p (IntKind.i64.wrap (t + p.sent)) j) :
  qb Z 72 [.pv (zX h p)] (.pv (.v .nilIface)) [.any] := by
 obtain ⟨q, hq⟩ := exq (IntKind.i64.wrap (t + p.sent))
 rw [hq] at hok
 refine qh Z h hh ⟨Tryz.func72, Tryz.ntmps72⟩ rfl rfl rfl rfl rfl fun C hC => ?_
 unfold Tryz.f72
 cbv
 refine ⟨fun _ => by decide, ?_⟩
 refine ⟨_, _, _, hC _ _ _ _ ht, ?_⟩
 cbv
 clear ht
 repeat' first
  | exact s0
  | apply And.intro
  | exact sq
  | trivial
  | (refine fun (e : (_ : Bool) = _) => ?_; first | (exfalso; simp [hh, hq] at e; done) | (replace e := Ev.mk e; cbv))
 refine ⟨_, _, _, hC _ _ _ _ (Uh Z h hh p q), ?_⟩
 cbv
 repeat' first
  | exact s0
  | apply And.intro
  | exact sq
  | trivial
  | (refine fun (e : (_ : Bool) = _) => ?_; first | (exfalso; simp [hh, hq] at e; done) | (replace e := Ev.mk e; cbv))
 refine ⟨Nat, fun k => ⟨[(18, some (.pv (.a (h _ fun _ => ZY Z p q)))), (19, some (.pv (nH h k)))], []⟩, fun k => k <= 6, fun k => 6 - k, 0, [], Nat.zero_le _, trivial, ⟨[], rfl, rfl, trivial, rfl, ?_, trivial⟩, ?_⟩
 ·cbv; simp [hh]
 ·intro k hk
  cbv
  refine ⟨fun _ => rfl, fun e => ?_, fun e => ?_⟩ <;> simp only [hh, nI, decide_eq_true_eq, decide_eq_false_iff_not] at e
  ·have e' : k < 6 := qK (b := 6) e
   obtain ⟨f1, f2⟩ := hok k e'
   have hr := Xf Z p q e'
   have hl := Zm Z p q k e'
   have g1 : ¬ yp p k < uX k := Int.not_lt.2 f1
   have g2 : ¬ Qb p q k < yp p k := Int.not_lt.2 f2
   clear f1 f2 hok
   have hr2 : Zz Z p q k = [.v (.string (U5 k)), iP (yp p k), iP (uX k), iP (Qb p q k), qY Z (jG k)] := rfl
   cbv
   repeat' first
    | exact s0
    | apply And.intro
    | exact sq
    | trivial
    | (refine fun (e : (_ : Bool) = _) => ?_; first | (exfalso; simp [hh, hr, hr2, g1, g2, qY] at e; done) | (replace e := Ev.mk e; cbv))
   refine ⟨k + 1, e', by show 6 - (k + 1) < 6 - k; omega, [], rfl, rfl, trivial, rfl, ?_, trivial⟩
   cbv; simp (disch := omega) [hh, wrap_i64]
  ·have e' := ge_nat (b := 6) e
   cbv
   exact ⟨.inr trivial, fun _ => rfl, trivial⟩
theorem qa3 (Z : Ad) (h : Hh) (hh : ∀ α g, h α g = g ()) (p : Par) (t : Int) (k0 : Nat) (ht : qb Z 118 [.pv (iH h p.size)] (.tup [.pv (iH h t), .pv (.v (h _ fun _ => jQ Z.e k0))]) [.any]) (j0 : Nat) (hj0 : j0 < 6) (hok : ∀ j, j < j0 -> bOk p (IntKind.i64.wrap (t + p.sent)) j) (hbad : ¬ bOk p (IntKind.i64.wrap (t + p.sent)) j0) :
  qb Z 72 [.pv (zX h p)] (.pv (.i 204 (.p (h _ fun _ => Xo Z p j0)))) [.any] := by
 obtain ⟨q, hq⟩ := exq (IntKind.i64.wrap (t + p.sent))
 rw [hq] at hok hbad
 refine qh Z h hh ⟨Tryz.func72, Tryz.ntmps72⟩ rfl rfl rfl rfl rfl fun C hC => ?_
 unfold Tryz.f72
 cbv
 refine ⟨fun _ => by decide, ?_⟩
 refine ⟨_, _, _, hC _ _ _ _ ht, ?_⟩
 cbv
 clear ht
 repeat' first
  | exact s0
  | apply And.intro
  | exact sq
  | trivial
  | (refine fun (e : (_ : Bool) = _) => ?_; first | (exfalso; simp [hh, hq] at e; done) | (replace e := Ev.mk e; cbv))
 refine ⟨_, _, _, hC _ _ _ _ (Uh Z h hh p q), ?_⟩
 cbv
 repeat' first
  | exact s0
  | apply And.intro
  | exact sq
  | trivial
  | (refine fun (e : (_ : Bool) = _) => ?_; first | (exfalso; simp [hh, hq] at e; done) | (replace e := Ev.mk e; cbv))
 refine ⟨Nat, fun k => ⟨[(18, some (.pv (.a (h _ fun _ => ZY Z p q)))), (19, some (.pv (nH h k)))], []⟩, fun k => k <= j0, fun k => j0 - k, 0, [], Nat.zero_le _, trivial, ⟨[], rfl, rfl, trivial, rfl, ?_, trivial⟩, ?_⟩
 ·cbv; simp [hh]
 ·intro k hk
  cbv
  refine ⟨fun _ => rfl, fun e => ?_, fun e => ?_⟩ <;> simp only [hh, nI, decide_eq_true_eq, decide_eq_false_iff_not] at e
  ·have e' : k < 6 := qK (b := 6) e
   rcases Nat.lt_or_ge k j0 with hk2 | hk2
   ·obtain ⟨f1, f2⟩ := hok k hk2
    have hr := Xf Z p q e'
    have hl := Zm Z p q k e'
    have g1 : ¬ yp p k < uX k := Int.not_lt.2 f1
    have g2 : ¬ Qb p q k < yp p k := Int.not_lt.2 f2
    clear f1 f2 hok hbad
    have hr2 : Zz Z p q k = [.v (.string (U5 k)), iP (yp p k), iP (uX k), iP (Qb p q k), qY Z (jG k)] := rfl
    cbv
    repeat' first
     | exact s0
     | apply And.intro
     | exact sq
     | trivial
     | (refine fun (e : (_ : Bool) = _) => ?_; first | (exfalso; simp [hh, hr, hr2, g1, g2, qY] at e; done) | (replace e := Ev.mk e; cbv))
    refine ⟨k + 1, hk2, by show j0 - (k + 1) < j0 - k; omega, [], rfl, rfl, trivial, rfl, ?_, trivial⟩
    cbv; simp (disch := omega) [hh, wrap_i64]
   ·obtain rfl : k = j0 := Nat.le_antisymm hk hk2
    have hr := Xf Z p q e'
    have hl := Zm Z p q k e'
    have hr2 : Zz Z p q k = [.v (.string (U5 k)), iP (yp p k), iP (uX k), iP (Qb p q k), qY Z (jG k)] := rfl
    by_cases f1 : yp p k < uX k
    ·have g1 : yp p k < uX k := f1
     clear f1 hok hbad
     cbv
     repeat' first
      | exact s0
      | apply And.intro
      | exact sq
      | (refine fun (_ : PUnit) => ?_; simp [hh, hr, hr2, Xo, qY, jJ]; done)
      | trivial
      | (refine fun (e : (_ : Bool) = _) => ?_; first | (exfalso; simp [hh, hr, hr2, g1, qY] at e; done) | (replace e := Ev.mk e; cbv))
    ·have g1 : ¬ yp p k < uX k := f1
     have g2 : Qb p q k < yp p k := by
      rcases Int.lt_or_le (Qb p q k) (yp p k) with r | r
      ·exact r
      ·exact absurd ⟨Int.not_lt.1 f1, r⟩ hbad
     clear f1 hok hbad
     cbv
     repeat' first
      | exact s0
      | apply And.intro
      | exact sq
      | (refine fun (_ : PUnit) => ?_; simp [hh, hr, hr2, Xo, qY, jJ]; done)
      | trivial
      | (refine fun (e : (_ : Bool) = _) => ?_; first | (exfalso; simp [hh, hr, hr2, g1, g2, qY] at e; done) | (replace e := Ev.mk e; cbv))
  ·have e' := ge_nat (b := 6) e
   omega
end Go.Bl
namespace Go.Bl
open Go.RowKit Go.Proofs
open Go.Proofs.YtnafknkchbfpaaaGreatDoor (Par chk blk jj jG qc)
theorem qdB (Z : Ad) (h : Hh) (hh : ∀ α g, h α g = g ()) (m : List UInt8) (n : Int) (hk : qc m n ≠ 0) : qb Z 90 [.pv (bH h m), .pv (iH h n)] (.tup [.pv (.a [.l [], .l [], .l [], .l [], .l []]), .pv (qY Z (qc m n))]) [.any, .any] := by
 simp only [bH, lH, iH, hh]
 refine xI (xs := [bP m, iP n]) (.tuple #[.agg n5q, .iface 317 (.pointer (some (Z.e (qc m n))))]) Tryz.func90 rfl rfl (fun A w => .tup (.cons (.pv (.a (us := [_, _, _, _, _]) (.cons (.nil _ _) (.cons (.nil _ _) (.cons (.nil _ _) (.cons (.nil _ _) (.cons (.nil _ _) .nil))))) (by simp [PV.one]))) (.cons (.pv (.v rfl)) .nil))) fun A w us hA he hr => ?_
 cases hr with
 | cons h1 hr =>
 cases hr with
 | cons h2 hr =>
  cases hr
  rw [QJ h2]
  refine (Go.Proofs.YtnafknkchbfpaaaGreatDoor.all_any Z.e _ w _ m n (yd he) (qbR he) (yy h1)).mono ?_
  rintro e w' ⟨u0, u1, u2, u3, u4, rfl, -, g, hf⟩
  obtain ⟨rfl, rfl, rfl, rfl, rfl⟩ := g hk
  rw [Go.Proofs.YtnafknkchbfpaaaGreatDoor.errv_pos Z.e _ hk]
  exact ⟨rfl, hf⟩
end Go.Bl
namespace Go.Bl
open Go.RowKit Go.Proofs Go.Proofs.YtnafknkchbfpaaaGreatDoor
theorem Vy {Q : Nat -> Prop} : ∀ (n : Nat), ¬ (∀ j, j < n -> Q j) -> ∃ j0, j0 < n /\ (∀ j, j < j0 -> Q j) /\ ¬ Q j0
 | 0, h => absurd (fun j hj => by omega) h
 | n + 1, h => by
  by_cases h1 : ∀ j, j < n -> Q j
  ·refine ⟨n, Nat.lt_succ_self n, h1, fun hq => h fun j hj => ?_⟩
   rcases Nat.lt_or_ge j n with q | q
   ·exact h1 j q
   ·obtain rfl : j = n := by omega
    exact hq
  ·obtain ⟨j0, q1, q2, q3⟩ := Vy n h1
   exact ⟨j0, by omega, q2, q3⟩
theorem qfk {p : Par} {t : Int} (t3 : 0 <= p.size /\ p.size <= 2000 -> t = blk p.size) (t1 : 0 <= t) (t2 : t <= 510) (h : ∀ j, j < 6 -> bOk p (IntKind.i64.wrap (t + p.sent)) j) : chk p = 0 := by
 have h0 : 0 <= p.size /\ p.size <= 2000 := h 0 Y76
 have h1 : 0 <= p.sent /\ p.sent <= 8 := h 1 Y76
 have e := t3 h0
 have h2 := h 2 Y76
 rw [wrap_i64 Y44 Y44, e] at h2
 refine WN p fun i hi => ?_
 have : i = 0 ∨ i = 1 ∨ i = 2 ∨ i = 3 ∨ i = 4 ∨ i = 5 := by omega
 rcases this with rfl | rfl | rfl | rfl | rfl | rfl
 ·exact h0
 ·exact h1
 ·have h2' : 1 <= p.spots /\ p.spots <= (if blk p.size + p.sent < 12 then blk p.size + p.sent else 12) := h2
  refine ⟨h2'.1, ?_⟩
  have := h2'.2
  split at this <;> omega
 ·exact h 3 Y76
 ·exact h 4 Y76
 ·exact h 5 Y76
end Go.Bl
