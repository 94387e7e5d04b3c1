import Derived.Test.YtnafknkchbfpaaaGreatDoorPL
set_option linter.unusedVariables false
set_option linter.unusedSimpArgs false
set_option maxRecDepth 1000000
set_option maxHeartbeats 8000000
namespace Go.Bl
open Go.RowKit Go.Proofs Go.Proofs.YtnafknkchbfpaaaGreatDoor
attribute [local irreducible] qH
abbrev madeH (h : Hh) (m xs : List UInt8) (n : Int) (p : Par) : PV := .a [bH h m, iH h n, bH h xs, iH h p.size, iH h p.sent, iH h p.spots, iH h p.per, iH h p.pat, iH h p.ret]
end Go.Bl
namespace Go.Bl
open Go.RowKit Go.Proofs
open Go.Proofs.YtnafknkchbfpaaaGreatDoor (Par chk blk jh jV)
def Uw (j : Nat) : ByteArray := if j = 0 then ⟨#[115, 105, 122, 101]⟩ else if j = 1 then ⟨#[115, 101, 110, 116, 105, 110, 101, 108, 115]⟩ else if j = 2 then ⟨#[115, 112, 111, 116, 115]⟩ else if j = 3 then ⟨#[112, 101, 114, 105, 111, 100]⟩ else if j = 4 then ⟨#[112, 97, 116, 105, 101, 110, 99, 101]⟩ else ⟨#[114, 101, 116, 114, 105, 101, 115]⟩
def xM (p : Par) (j : Nat) : Int := if j = 0 then p.size else if j = 1 then p.sent else if j = 2 then p.spots else if j = 3 then p.per else if j = 4 then p.pat else p.ret
def uU (j : Nat) : Int := if j = 0 ∨ j = 1 ∨ j = 5 then 0 else 1
def y9 (p : Par) (q : Int) (j : Nat) : Int := if j = 0 then 2000 else if j = 1 then 8 else if j = 2 then (if q < 12 then q else 12) else if j = 3 then 10000 else if j = 4 then p.per else 5
def ZE (Z : Ad) (p : Par) (q : Int) (j : Nat) : List PV := [.v (.string (Uw j)), iP (xM p j), iP (uU j), iP (y9 p q j), jw Z (jV j)]
def Zq (Z : Ad) (p : Par) (q : Int) : List PV := ZE Z p q 0 ++ ZE Z p q 1 ++ ZE Z p q 2 ++ ZE Z p q 3 ++ ZE Z p q 4 ++ ZE Z p q 5
theorem ZP (Z : Ad) (h : Hh) (hh : ∀ α g, h α g = g ()) (p : Par) (q : Int) : qo Z 119 [.pv (vl h p), .pv (iH h q)] (.pv (.a (h _ fun _ => Zq Z p q))) [.any, .any] := by
 refine qD Z h hh ⟨Tryz.func119, Tryz.ntmps119⟩ rfl rfl rfl rfl rfl fun C hC => ?_
 unfold Tryz.f119
 cbv
 repeat' first
  | exact s0
  | apply And.intro
  | exact sq
  | (refine fun (_ : PUnit) => ?_; simp [hh, splice, jU, Zq, ZE, Uw, xM, uU, y9, jV, jw]; done)
  | trivial
end Go.Bl
namespace Go.Bl
open Go.RowKit Go.Proofs
open Go.Proofs.YtnafknkchbfpaaaGreatDoor (Par chk blk jh jV jD Vh j7)
def VP (Z : Ad) (p : Par) (j : Nat) : List PV := [.v (.string (Uw j)), iP (xM p j), jw Z (jV j)]
def bOk (p : Par) (q : Int) (j : Nat) : Prop := uU j <= xM p j /\ xM p j <= y9 p q j
theorem Vk (Z : Ad) (p : Par) (q : Int) {k : Nat} (hk : k < 6) : List.take 5 (List.drop (k * 5) (Zq Z p q)) = ZE Z p q k := by
 have : k = 0 ∨ k = 1 ∨ k = 2 ∨ k = 3 ∨ k = 4 ∨ k = 5 := by omega
 rcases this with rfl | rfl | rfl | rfl | rfl | rfl <;> rfl
theorem qah (Z : Ad) (p : Par) (q : Int) : (Zq Z p q).length = 30 := rfl
theorem LQ (Z : Ad) (h : Hh) (hh : ∀ α g, h α g = g ()) (size : Int) : ∃ (t : Int) (k : Nat), 0 <= t /\ t <= 510 /\ (0 <= size /\ size <= 2000 -> t = blk size /\ k = 0) /\ qo Z 118 [.pv (iH h size)] (.tup [.pv (iH h t), .pv (.v (h _ fun _ => j7 Z.e k))]) [.any] := by
 simp only [iH, hh]
 by_cases hs : size < 0 ∨ 2000 < size
 ·refine ⟨0, 8, by decide, by decide, fun q => by omega, ?_⟩
  refine vm (xs := [iP size]) (.tuple #[.int .i64 0, j7 Z.e 8]) Tryz.func118 rfl rfl (fun A w => .tup (.cons (.pv (.v rfl)) (.cons (.pv (.v rfl)) .nil))) fun A w us hA he hr => ?_
  cases hr with
  | cons h1 h2 =>
   cases h2
   rw [vB h1]
   exact Go.Proofs.YtnafknkchbfpaaaGreatDoor.total_bad Go.Proofs.YtnafknkchbfpaaaGreatDoor.all20 Z.e _ w (ux he) qa size hs
 ·have h9 : 0 <= size /\ size <= 2000 := by omega
  have hb := Go.Proofs.YtnafknkchbfpaaaGreatDoor.blk_le (p := ⟨size, 0, 0, 0, 0, 0⟩) h9
  refine ⟨blk size, 0, hb.1, hb.2, fun _ => ⟨rfl, rfl⟩, ?_⟩
  refine vm (xs := [iP size]) (.tuple #[.int .i64 (blk size), j7 Z.e 0]) Tryz.func118 rfl rfl (fun A w => .tup (.cons (.pv (.v rfl)) (.cons (.pv (.v rfl)) .nil))) fun A w us hA he hr => ?_
  cases hr with
  | cons h1 h2 =>
   cases h2
   rw [vB h1]
   exact Go.Proofs.YtnafknkchbfpaaaGreatDoor.total_ok w size h9.1 h9.2
theorem J5 (Z : Ad) (p : Par) (q : Int) (k : Nat) (hk : k < 6) : 5 <= (Zq Z p q).length - k * 5 := by rw [qah]; omega
theorem qaP (Z : Ad) (h : Hh) (hh : ∀ α g, h α g = g ()) (p : Par) (t : Int) (k0 : Nat) (ht : qo Z 118 [.pv (iH h p.size)] (.tup [.pv (iH h t), .pv (.v (h _ fun _ => j7 Z.e k0))]) [.any]) (hok : ∀ j, j < 6 -> bOk p (IntKind.i64.wrap (t + p.sent)) j) :
  qo Z 72 [.pv (vl h p)] (.pv (.v .nilIface)) [.any] := by
 obtain ⟨q, hq⟩ := exq (IntKind.i64.wrap (t + p.sent))
 rw [hq] at hok
 refine qD Z h hh ⟨Tryz.func72, Tryz.ntmps72⟩ rfl rfl rfl rfl rfl fun C hC => ?_
 unfold Tryz.f72
 cbv
 refine ⟨fun _ => by decide, ?_⟩
 refine ⟨_, _, _, hC _ _ _ _ ht, ?_⟩
 cbv
 clear ht
 repeat' first
  | exact s0
  | apply And.intro
  | exact sq
  | trivial
  | (refine fun (e : (_ : Bool) = _) => ?_; first | (exfalso; simp [hh, hq] at e; done) | (replace e := Ev.mk e; cbv))
 refine ⟨_, _, _, hC _ _ _ _ (ZP Z h hh p q), ?_⟩
 cbv
 repeat' first
  | exact s0
  | apply And.intro
  | exact sq
  | trivial
  | (refine fun (e : (_ : Bool) = _) => ?_; first | (exfalso; simp [hh, hq] at e; done) | (replace e := Ev.mk e; cbv))
 refine ⟨Nat, fun k => ⟨[(18, some (.pv (.a (h _ fun _ => Zq Z p q)))), (19, some (.pv (nH h k)))], []⟩, fun k => k <= 6, fun k => 6 - k, 0, [], Nat.zero_le _, trivial, ⟨[], rfl, rfl, trivial, rfl, ?_, trivial⟩, ?_⟩
 ·cbv; simp [hh]
 ·intro k hk
  cbv
  refine ⟨fun _ => rfl, fun e => ?_, fun e => ?_⟩ <;> simp only [hh, nI, decide_eq_true_eq, decide_eq_false_iff_not] at e
  ·have e' : k < 6 := jG (b := 6) e
   obtain ⟨f1, f2⟩ := hok k e'
   have hr := Vk Z p q e'
   have hl := J5 Z p q k e'
   have g1 : ¬ xM p k < uU k := Int.not_lt.2 f1
   have g2 : ¬ y9 p q k < xM p k := Int.not_lt.2 f2
   clear f1 f2 hok
   have hr2 : ZE Z p q k = [.v (.string (Uw k)), iP (xM p k), iP (uU k), iP (y9 p q k), jw Z (jV k)] := rfl
   cbv
   repeat' first
    | exact s0
    | apply And.intro
    | exact sq
    | trivial
    | (refine fun (e : (_ : Bool) = _) => ?_; first | (exfalso; simp [hh, hr, hr2, g1, g2, jw] at e; done) | (replace e := Ev.mk e; cbv))
   refine ⟨k + 1, e', by show 6 - (k + 1) < 6 - k; omega, [], rfl, rfl, trivial, rfl, ?_, trivial⟩
   cbv; simp (disch := omega) [hh, qj]
  ·have e' := jE (b := 6) e
   cbv
   exact ⟨.inr trivial, fun _ => rfl, trivial⟩
theorem qap (Z : Ad) (h : Hh) (hh : ∀ α g, h α g = g ()) (p : Par) (t : Int) (k0 : Nat) (ht : qo Z 118 [.pv (iH h p.size)] (.tup [.pv (iH h t), .pv (.v (h _ fun _ => j7 Z.e k0))]) [.any]) (j0 : Nat) (hj0 : j0 < 6) (hok : ∀ j, j < j0 -> bOk p (IntKind.i64.wrap (t + p.sent)) j) (hbad : ¬ bOk p (IntKind.i64.wrap (t + p.sent)) j0) :
  qo Z 72 [.pv (vl h p)] (.pv (.i 204 (.p (h _ fun _ => VP Z p j0)))) [.any] := by
 obtain ⟨q, hq⟩ := exq (IntKind.i64.wrap (t + p.sent))
 rw [hq] at hok hbad
 refine qD Z h hh ⟨Tryz.func72, Tryz.ntmps72⟩ rfl rfl rfl rfl rfl fun C hC => ?_
 unfold Tryz.f72
 cbv
 refine ⟨fun _ => by decide, ?_⟩
 refine ⟨_, _, _, hC _ _ _ _ ht, ?_⟩
 cbv
 clear ht
 repeat' first
  | exact s0
  | apply And.intro
  | exact sq
  | trivial
  | (refine fun (e : (_ : Bool) = _) => ?_; first | (exfalso; simp [hh, hq] at e; done) | (replace e := Ev.mk e; cbv))
 refine ⟨_, _, _, hC _ _ _ _ (ZP Z h hh p q), ?_⟩
 cbv
 repeat' first
  | exact s0
  | apply And.intro
  | exact sq
  | trivial
  | (refine fun (e : (_ : Bool) = _) => ?_; first | (exfalso; simp [hh, hq] at e; done) | (replace e := Ev.mk e; cbv))
 refine ⟨Nat, fun k => ⟨[(18, some (.pv (.a (h _ fun _ => Zq Z p q)))), (19, some (.pv (nH h k)))], []⟩, fun k => k <= j0, fun k => j0 - k, 0, [], Nat.zero_le _, trivial, ⟨[], rfl, rfl, trivial, rfl, ?_, trivial⟩, ?_⟩
 ·cbv; simp [hh]
 ·intro k hk
  cbv
  refine ⟨fun _ => rfl, fun e => ?_, fun e => ?_⟩ <;> simp only [hh, nI, decide_eq_true_eq, decide_eq_false_iff_not] at e
  ·have e' : k < 6 := jG (b := 6) e
   rcases Nat.lt_or_ge k j0 with hk2 | hk2
   ·obtain ⟨f1, f2⟩ := hok k hk2
    have hr := Vk Z p q e'
    have hl := J5 Z p q k e'
    have g1 : ¬ xM p k < uU k := Int.not_lt.2 f1
    have g2 : ¬ y9 p q k < xM p k := Int.not_lt.2 f2
    clear f1 f2 hok hbad
    have hr2 : ZE Z p q k = [.v (.string (Uw k)), iP (xM p k), iP (uU k), iP (y9 p q k), jw Z (jV k)] := rfl
    cbv
    repeat' first
     | exact s0
     | apply And.intro
     | exact sq
     | trivial
     | (refine fun (e : (_ : Bool) = _) => ?_; first | (exfalso; simp [hh, hr, hr2, g1, g2, jw] at e; done) | (replace e := Ev.mk e; cbv))
    refine ⟨k + 1, hk2, by show j0 - (k + 1) < j0 - k; omega, [], rfl, rfl, trivial, rfl, ?_, trivial⟩
    cbv; simp (disch := omega) [hh, qj]
   ·obtain rfl : k = j0 := Nat.le_antisymm hk hk2
    have hr := Vk Z p q e'
    have hl := J5 Z p q k e'
    have hr2 : ZE Z p q k = [.v (.string (Uw k)), iP (xM p k), iP (uU k), iP (y9 p q k), jw Z (jV k)] := rfl
    by_cases f1 : xM p k < uU k
    ·have g1 : xM p k < uU k := f1
     clear f1 hok hbad
     cbv
     repeat' first
      | exact s0
      | apply And.intro
      | exact sq
      | (refine fun (_ : PUnit) => ?_; simp [hh, hr, hr2, VP, jw, jU]; done)
      | trivial
      | (refine fun (e : (_ : Bool) = _) => ?_; first | (exfalso; simp [hh, hr, hr2, g1, jw] at e; done) | (replace e := Ev.mk e; cbv))
    ·have g1 : ¬ xM p k < uU k := f1
     have g2 : y9 p q k < xM p k := by
      rcases Int.lt_or_le (y9 p q k) (xM p k) with r | r
      ·exact r
      ·exact absurd ⟨Int.not_lt.1 f1, r⟩ hbad
     clear f1 hok hbad
     cbv
     repeat' first
      | exact s0
      | apply And.intro
      | exact sq
      | (refine fun (_ : PUnit) => ?_; simp [hh, hr, hr2, VP, jw, jU]; done)
      | trivial
      | (refine fun (e : (_ : Bool) = _) => ?_; first | (exfalso; simp [hh, hr, hr2, g1, g2, jw] at e; done) | (replace e := Ev.mk e; cbv))
  ·have e' := jE (b := 6) e
   omega
end Go.Bl
namespace Go.Bl
open Go.RowKit Go.Proofs
open Go.Proofs.YtnafknkchbfpaaaGreatDoor (Par chk blk jh jV qe)
theorem qdJ (Z : Ad) (h : Hh) (hh : ∀ α g, h α g = g ()) (m : List UInt8) (n : Int) (hk : qe m n ≠ 0) : qo Z 90 [.pv (bH h m), .pv (iH h n)] (.tup [.pv (.a [.l [], .l [], .l [], .l [], .l []]), .pv (jw Z (qe m n))]) [.any, .any] := by
 simp only [bH, lH, iH, hh]
 refine vm (xs := [bP m, iP n]) (.tuple #[.agg n5q, .iface 317 (.pointer (some (Z.e (qe m n))))]) Tryz.func90 rfl rfl (fun A w => .tup (.cons (.pv (.a (us := [_, _, _, _, _]) (.cons (.nil _ _) (.cons (.nil _ _) (.cons (.nil _ _) (.cons (.nil _ _) (.cons (.nil _ _) .nil))))) (by simp [PV.one]))) (.cons (.pv (.v rfl)) .nil))) fun A w us hA he hr => ?_
 cases hr with
 | cons h1 hr =>
 cases hr with
 | cons h2 hr =>
  cases hr
  rw [vB h2]
  refine (Go.Proofs.YtnafknkchbfpaaaGreatDoor.all_any Z.e _ w _ m n (ux he) (VM he) (uf h1)).mono ?_
  rintro e w' ⟨u0, u1, u2, u3, u4, rfl, -, g, hf⟩
  obtain ⟨rfl, rfl, rfl, rfl, rfl⟩ := g hk
  rw [Go.Proofs.YtnafknkchbfpaaaGreatDoor.errv_pos Z.e _ hk]
  exact ⟨rfl, hf⟩
end Go.Bl
namespace Go.Bl
open Go.RowKit Go.Proofs Go.Proofs.YtnafknkchbfpaaaGreatDoor
theorem UT {Q : Nat -> Prop} : ∀ (n : Nat), ¬ (∀ j, j < n -> Q j) -> ∃ j0, j0 < n /\ (∀ j, j < j0 -> Q j) /\ ¬ Q j0
 | 0, h => absurd (fun j hj => by omega) h
 | n + 1, h => by
  by_cases h1 : ∀ j, j < n -> Q j
  ·refine ⟨n, Nat.lt_succ_self n, h1, fun hq => h fun j hj => ?_⟩
   rcases Nat.lt_or_ge j n with q | q
   ·exact h1 j q
   ·obtain rfl : j = n := by omega
    exact hq
  ·obtain ⟨j0, q1, q2, q3⟩ := UT n h1
   exact ⟨j0, by omega, q2, q3⟩
theorem qea {p : Par} {t : Int} (t3 : 0 <= p.size /\ p.size <= 2000 -> t = blk p.size) (t1 : 0 <= t) (t2 : t <= 510) (h : ∀ j, j < 6 -> bOk p (IntKind.i64.wrap (t + p.sent)) j) : chk p = 0 := by
 have h0 : 0 <= p.size /\ p.size <= 2000 := h 0 qa
 have h1 : 0 <= p.sent /\ p.sent <= 8 := h 1 qa
 have e := t3 h0
 have h2 := h 2 qa
 rw [qj Y66 Y66, e] at h2
 refine Vh p fun i hi => ?_
 have : i = 0 ∨ i = 1 ∨ i = 2 ∨ i = 3 ∨ i = 4 ∨ i = 5 := by omega
 rcases this with rfl | rfl | rfl | rfl | rfl | rfl
 ·exact h0
 ·exact h1
 ·have h2' : 1 <= p.spots /\ p.spots <= (if blk p.size + p.sent < 12 then blk p.size + p.sent else 12) := h2
  refine ⟨h2'.1, ?_⟩
  have := h2'.2
  split at this <;> omega
 ·exact h 3 qa
 ·exact h 4 qa
 ·exact h 5 qa
end Go.Bl
