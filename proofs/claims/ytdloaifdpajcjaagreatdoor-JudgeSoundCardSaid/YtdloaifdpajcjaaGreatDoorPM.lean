import Derived.Test.YtdloaifdpajcjaaGreatDoorPL
set_option maxRecDepth 1000000
set_option maxHeartbeats 8000000
set_option linter.unusedVariables false
set_option linter.unusedSimpArgs false
set_option maxRecDepth 1000000
set_option maxHeartbeats 8000000
namespace Go.Bl
open Go.RowKit Go.Proofs
open Go.Proofs.YtdloaifdpajcjaaGreatDoor (Par chk blk qU jU)
def VS (j : Nat) : ByteArray := if j = 0 then ⟨#[115, 105, 122, 101]⟩ else if j = 1 then ⟨#[115, 101, 110, 116, 105, 110, 101, 108, 115]⟩ else if j = 2 then ⟨#[115, 112, 111, 116, 115]⟩ else if j = 3 then ⟨#[112, 101, 114, 105, 111, 100]⟩ else if j = 4 then ⟨#[112, 97, 116, 105, 101, 110, 99, 101]⟩ else ⟨#[114, 101, 116, 114, 105, 101, 115]⟩
def yd (p : Par) (j : Nat) : Int := if j = 0 then p.size else if j = 1 then p.sent else if j = 2 then p.spots else if j = 3 then p.per else if j = 4 then p.pat else p.ret
def vk (j : Nat) : Int := if j = 0 ∨ j = 1 ∨ j = 5 then 0 else 1
def QC (p : Par) (q : Int) (j : Nat) : Int := if j = 0 then 2000 else if j = 1 then 8 else if j = 2 then (if q < 12 then q else 12) else if j = 3 then 10000 else if j = 4 then p.per else 5
def U4 (Z : Ad) (p : Par) (q : Int) (j : Nat) : List PV := [.v (.string (VS j)), iP (yd p j), iP (vk j), iP (QC p q j), qP Z (jU j)]
def Uj (Z : Ad) (p : Par) (q : Int) : List PV := U4 Z p q 0 ++ U4 Z p q 1 ++ U4 Z p q 2 ++ U4 Z p q 3 ++ U4 Z p q 4 ++ U4 Z p q 5
theorem UN (Z : Ad) (h : Hh) (hh : ∀ α g, h α g = g ()) (p : Par) (q : Int) : qi Z 80 [.pv (uH h p), .pv (iH h q)] (.pv (.a (h _ fun _ => Uj Z p q))) [.any, .any] := by
 refine qB Z h hh ⟨Tryz.func80, Tryz.ntmps80⟩ rfl rfl rfl rfl rfl fun C hC => ?_
 unfold Tryz.f80
 cbv
 repeat' first
  | exact s0
  | apply And.intro
  | exact sq
  | (refine fun (_ : PUnit) => ?_; simp [hh, splice, jn, Uj, U4, VS, yd, vk, QC, jU, qP]; done)
  | trivial
end Go.Bl
namespace Go.Bl
open Go.RowKit Go.Proofs
open Go.Proofs.YtdloaifdpajcjaaGreatDoor (Par chk blk qU jU jD Yk zK)
def XN (Z : Ad) (p : Par) (j : Nat) : List PV := [.v (.string (VS j)), iP (yd p j), qP Z (jU j)]
def bOk (p : Par) (q : Int) (j : Nat) : Prop := vk j <= yd p j /\ yd p j <= QC p q j
theorem Yn (Z : Ad) (p : Par) (q : Int) {k : Nat} (hk : k < 6) : List.take 5 (List.drop (k * 5) (Uj Z p q)) = U4 Z p q k := by
 have : k = 0 ∨ k = 1 ∨ k = 2 ∨ k = 3 ∨ k = 4 ∨ k = 5 := by omega
 rcases this with rfl | rfl | rfl | rfl | rfl | rfl <;> rfl
theorem qci (Z : Ad) (p : Par) (q : Int) : (Uj Z p q).length = 30 := rfl
theorem JU (Z : Ad) (h : Hh) (hh : ∀ α g, h α g = g ()) (size : Int) : ∃ (t : Int) (k : Nat), 0 <= t /\ t <= 510 /\ (0 <= size /\ size <= 2000 -> t = blk size /\ k = 0) /\ qi Z 79 [.pv (iH h size)] (.tup [.pv (iH h t), .pv (.v (h _ fun _ => zK Z.e k))]) [.any] := by
 simp only [iH, hh]
 by_cases hs : size < 0 ∨ 2000 < size
 ·refine ⟨0, 8, by decide, by decide, fun q => by omega, ?_⟩
  refine Ji (xs := [iP size]) (.tuple #[.int .i64 0, zK Z.e 8]) Tryz.func79 rfl rfl (fun A w => .tup (.cons (.pv (.v rfl)) (.cons (.pv (.v rfl)) .nil))) fun A w us hA he hr => ?_
  cases hr with
  | cons h1 h2 =>
   cases h2
   rw [VE h1]
   exact Go.Proofs.YtdloaifdpajcjaaGreatDoor.total_bad Go.Proofs.YtdloaifdpajcjaaGreatDoor.all20 Z.e _ w (Wz he) Y86 size hs
 ·have h9 : 0 <= size /\ size <= 2000 := by omega
  have hb := Go.Proofs.YtdloaifdpajcjaaGreatDoor.blk_le (p := ⟨size, 0, 0, 0, 0, 0⟩) h9
  refine ⟨blk size, 0, hb.1, hb.2, fun _ => ⟨rfl, rfl⟩, ?_⟩
  refine Ji (xs := [iP size]) (.tuple #[.int .i64 (blk size), zK Z.e 0]) Tryz.func79 rfl rfl (fun A w => .tup (.cons (.pv (.v rfl)) (.cons (.pv (.v rfl)) .nil))) fun A w us hA he hr => ?_
  cases hr with
  | cons h1 h2 =>
   cases h2
   rw [VE h1]
   exact Go.Proofs.YtdloaifdpajcjaaGreatDoor.total_ok w size h9.1 h9.2
theorem Vr (Z : Ad) (p : Par) (q : Int) (k : Nat) (hk : k < 6) : 5 <= (Uj Z p q).length - k * 5 := by rw [qci]; omega
theorem qeB (Z : Ad) (h : Hh) (hh : ∀ α g, h α g = g ()) (p : Par) (t : Int) (k0 : Nat) (ht : qi Z 79 [.pv (iH h p.size)] (.tup [.pv (iH h t), .pv (.v (h _ fun _ => zK Z.e k0))]) [.any]) (hok : ∀ j, j < 6 -> bOk p (IntKind.i64.wrap (t + p.sent)) j) :
  qi Z 31 [.pv (uH h p)] (.pv (.v .nilIface)) [.any] := by
 obtain ⟨q, hq⟩ := exq (IntKind.i64.wrap (t + p.sent))
 rw [hq] at hok
 refine qB Z h hh ⟨Tryz.func31, Tryz.ntmps31⟩ rfl rfl rfl rfl rfl fun C hC => ?_
 unfold Tryz.f31
 cbv
 refine ⟨fun _ => by decide, ?_⟩
 refine ⟨_, _, _, hC _ _ _ _ ht, ?_⟩
 cbv
 clear ht
 repeat' first
  | exact s0
  | apply And.intro
  | exact sq
  | trivial
  | (refine fun (e : (_ : Bool) = _) => ?_; first | (exfalso; simp [hh, hq] at e; done) | (replace e := Ev.mk e; cbv))
 refine ⟨_, _, _, hC _ _ _ _ (UN Z h hh p q), ?_⟩
 cbv
 repeat' first
  | exact s0
  | apply And.intro
  | exact sq
  | trivial
  | (refine fun (e : (_ : Bool) = _) => ?_; first | (exfalso; simp [hh, hq] at e; done) | (replace e := Ev.mk e; cbv))
 refine ⟨Nat, fun k => ⟨[(18, some (.pv (.a (h _ fun _ => Uj Z p q)))), (19, some (.pv (nH h k)))], []⟩, fun k => k <= 6, fun k => 6 - k, 0, [], Nat.zero_le _, trivial, ⟨[], rfl, rfl, trivial, rfl, ?_, trivial⟩, ?_⟩
 ·cbv; simp [hh]
 ·intro k hk
  cbv
  refine ⟨fun _ => rfl, fun e => ?_, fun e => ?_⟩ <;> simp only [hh, nI, decide_eq_true_eq, decide_eq_false_iff_not] at e
  ·have e' : k < 6 := jI (b := 6) e
   obtain ⟨f1, f2⟩ := hok k e'
   have hr := Yn Z p q e'
   have hl := Vr Z p q k e'
   have g1 : ¬ yd p k < vk k := Int.not_lt.2 f1
   have g2 : ¬ QC p q k < yd p k := Int.not_lt.2 f2
   clear f1 f2 hok
   have hr2 : U4 Z p q k = [.v (.string (VS k)), iP (yd p k), iP (vk k), iP (QC p q k), qP Z (jU k)] := rfl
   cbv
   repeat' first
    | exact s0
    | apply And.intro
    | exact sq
    | trivial
    | (refine fun (e : (_ : Bool) = _) => ?_; first | (exfalso; simp [hh, hr, hr2, g1, g2, qP] at e; done) | (replace e := Ev.mk e; cbv))
   refine ⟨k + 1, e', by show 6 - (k + 1) < 6 - k; omega, [], rfl, rfl, trivial, rfl, ?_, trivial⟩
   cbv; simp (disch := omega) [hh, wrap_i64]
  ·have e' := jN (b := 6) e
   cbv
   exact ⟨.inr trivial, fun _ => rfl, trivial⟩
theorem qbo (Z : Ad) (h : Hh) (hh : ∀ α g, h α g = g ()) (p : Par) (t : Int) (k0 : Nat) (ht : qi Z 79 [.pv (iH h p.size)] (.tup [.pv (iH h t), .pv (.v (h _ fun _ => zK Z.e k0))]) [.any]) (j0 : Nat) (hj0 : j0 < 6) (hok : ∀ j, j < j0 -> bOk p (IntKind.i64.wrap (t + p.sent)) j) (hbad : ¬ bOk p (IntKind.i64.wrap (t + p.sent)) j0) :
  qi Z 31 [.pv (uH h p)] (.pv (.i 171 (.p (h _ fun _ => XN Z p j0)))) [.any] := by
 obtain ⟨q, hq⟩ := exq (IntKind.i64.wrap (t + p.sent))
 rw [hq] at hok hbad
 refine qB Z h hh ⟨Tryz.func31, Tryz.ntmps31⟩ rfl rfl rfl rfl rfl fun C hC => ?_
 unfold Tryz.f31
 cbv
 refine ⟨fun _ => by decide, ?_⟩
 refine ⟨_, _, _, hC _ _ _ _ ht, ?_⟩
 cbv
 clear ht
 repeat' first
  | exact s0
  | apply And.intro
  | exact sq
  | trivial
  | (refine fun (e : (_ : Bool) = _) => ?_; first | (exfalso; simp [hh, hq] at e; done) | (replace e := Ev.mk e; cbv))
 refine ⟨_, _, _, hC _ _ _ _ (UN Z h hh p q), ?_⟩
 cbv
 repeat' first
  | exact s0
  | apply And.intro
  | exact sq
  | trivial
  | (refine fun (e : (_ : Bool) = _) => ?_; first | (exfalso; simp [hh, hq] at e; done) | (replace e := Ev.mk e; cbv))
 refine ⟨Nat, fun k => ⟨[(18, some (.pv (.a (h _ fun _ => Uj Z p q)))), (19, some (.pv (nH h k)))], []⟩, fun k => k <= j0, fun k => j0 - k, 0, [], Nat.zero_le _, trivial, ⟨[], rfl, rfl, trivial, rfl, ?_, trivial⟩, ?_⟩
 ·cbv; simp [hh]
 ·intro k hk
  cbv
  refine ⟨fun _ => rfl, fun e => ?_, fun e => ?_⟩ <;> simp only [hh, nI, decide_eq_true_eq, decide_eq_false_iff_not] at e
  ·have e' : k < 6 := jI (b := 6) e
   rcases Nat.lt_or_ge k j0 with hk2 | hk2
   ·obtain ⟨f1, f2⟩ := hok k hk2
    have hr := Yn Z p q e'
    have hl := Vr Z p q k e'
    have g1 : ¬ yd p k < vk k := Int.not_lt.2 f1
    have g2 : ¬ QC p q k < yd p k := Int.not_lt.2 f2
    clear f1 f2 hok hbad
    have hr2 : U4 Z p q k = [.v (.string (VS k)), iP (yd p k), iP (vk k), iP (QC p q k), qP Z (jU k)] := rfl
    cbv
    repeat' first
     | exact s0
     | apply And.intro
     | exact sq
     | trivial
     | (refine fun (e : (_ : Bool) = _) => ?_; first | (exfalso; simp [hh, hr, hr2, g1, g2, qP] at e; done) | (replace e := Ev.mk e; cbv))
    refine ⟨k + 1, hk2, by show j0 - (k + 1) < j0 - k; omega, [], rfl, rfl, trivial, rfl, ?_, trivial⟩
    cbv; simp (disch := omega) [hh, wrap_i64]
   ·obtain rfl : k = j0 := Nat.le_antisymm hk hk2
    have hr := Yn Z p q e'
    have hl := Vr Z p q k e'
    have hr2 : U4 Z p q k = [.v (.string (VS k)), iP (yd p k), iP (vk k), iP (QC p q k), qP Z (jU k)] := rfl
    by_cases f1 : yd p k < vk k
    ·have g1 : yd p k < vk k := f1
     clear f1 hok hbad
     cbv
     repeat' first
      | exact s0
      | apply And.intro
      | exact sq
      | (refine fun (_ : PUnit) => ?_; simp [hh, hr, hr2, XN, qP, jn]; done)
      | trivial
      | (refine fun (e : (_ : Bool) = _) => ?_; first | (exfalso; simp [hh, hr, hr2, g1, qP] at e; done) | (replace e := Ev.mk e; cbv))
    ·have g1 : ¬ yd p k < vk k := f1
     have g2 : QC p q k < yd p k := by
      rcases Int.lt_or_le (QC p q k) (yd p k) with r | r
      ·exact r
      ·exact absurd ⟨Int.not_lt.1 f1, r⟩ hbad
     clear f1 hok hbad
     cbv
     repeat' first
      | exact s0
      | apply And.intro
      | exact sq
      | (refine fun (_ : PUnit) => ?_; simp [hh, hr, hr2, XN, qP, jn]; done)
      | trivial
      | (refine fun (e : (_ : Bool) = _) => ?_; first | (exfalso; simp [hh, hr, hr2, g1, g2, qP] at e; done) | (replace e := Ev.mk e; cbv))
  ·have e' := jN (b := 6) e
   omega
end Go.Bl
namespace Go.Bl
open Go.RowKit Go.Proofs Go.Proofs.YtdloaifdpajcjaaGreatDoor
theorem Xf {Q : Nat -> Prop} : ∀ (n : Nat), ¬ (∀ j, j < n -> Q j) -> ∃ j0, j0 < n /\ (∀ j, j < j0 -> Q j) /\ ¬ Q j0
 | 0, h => absurd (fun j hj => by omega) h
 | n + 1, h => by
  by_cases h1 : ∀ j, j < n -> Q j
  ·refine ⟨n, Nat.lt_succ_self n, h1, fun hq => h fun j hj => ?_⟩
   rcases Nat.lt_or_ge j n with q | q
   ·exact h1 j q
   ·obtain rfl : j = n := by omega
    exact hq
  ·obtain ⟨j0, q1, q2, q3⟩ := Xf n h1
   exact ⟨j0, by omega, q2, q3⟩
theorem qgN {p : Par} {t : Int} (t3 : 0 <= p.size /\ p.size <= 2000 -> t = blk p.size) (t1 : 0 <= t) (t2 : t <= 510) (h : ∀ j, j < 6 -> bOk p (IntKind.i64.wrap (t + p.sent)) j) : chk p = 0 := by
 have h0 : 0 <= p.size /\ p.size <= 2000 := h 0 Y86
 have h1 : 0 <= p.sent /\ p.sent <= 8 := h 1 Y86
 have e := t3 h0
 have h2 := h 2 Y86
 rw [wrap_i64 Y54 Y54, e] at h2
 refine Yk p fun i hi => ?_
 have : i = 0 ∨ i = 1 ∨ i = 2 ∨ i = 3 ∨ i = 4 ∨ i = 5 := by omega
 rcases this with rfl | rfl | rfl | rfl | rfl | rfl
 ·exact h0
 ·exact h1
 ·have h2' : 1 <= p.spots /\ p.spots <= (if blk p.size + p.sent < 12 then blk p.size + p.sent else 12) := h2
  refine ⟨h2'.1, ?_⟩
  have := h2'.2
  split at this <;> omega
 ·exact h 3 Y86
 ·exact h 4 Y86
 ·exact h 5 Y86
end Go.Bl
