import Derived.Test.YtnafknkchbfpaaaGreatDoorPM
import Derived.Test.YtnafknkchbfpaaaGreatDoorPN
set_option linter.unusedVariables false
set_option linter.unusedSimpArgs false
set_option maxRecDepth 1000000
set_option maxHeartbeats 8000000
namespace Go.Bl
open Go.RowKit Go.Proofs
attribute [local irreducible] qw
theorem qe2 {a b : Nat} (h : ((a : Int) != (b : Int)) = false) : a = b := by
 have : (a : Int) = b := by simpa using h
 omega
theorem qan {n i : Nat} {leaf : List UInt8} {ps : List Dg} (hps : ps.length = qT n i) : (jR n i (jr leaf) ps).length = 32 := by
 have hT : (jp n i).reverse.length = ps.length := by rw [List.length_reverse]; exact hps.symm
 have := (UH (leaf := leaf) hT).2
 unfold jR
 rw [<- this]
 exact jO _
def Qt (Z : Ad) (k : Nat) : PV := if k = 0 then .v .nilIface else qY Z k
def QK (root : Dg) (n : Nat) (i : Int) (leaf : List UInt8) (ps : List Dg) : Nat :=
 if n <= 512 /\ 0 <= i /\ i < n then if qT n i.toNat = ps.length then if jR n i.toNat (jr leaf) ps = root then 0 else 15 else 8 else 1
theorem K7 (Z : Ad) (h : Hh) (hh : ∀ α g, h α g = g ()) (n i : Int) (hb : ¬(n <= 512 /\ 0 <= i /\ i < n)) : qb Z 136 [.pv (iH h n), .pv (iH h i)] (.pv (iH h (-1))) [.any, .any] := by
 have c1 := U6 Z h hh n i
 rw [decide_eq_false hb] at c1
 refine qh Z h hh ⟨Tryz.func136, Tryz.ntmps136⟩ rfl rfl rfl rfl rfl fun C hC => ?_
 unfold Tryz.f136
 cbv
 repeat' first
  | exact s0
  | apply And.intro
  | exact sq
  | trivial
  | exact sx
  | (refine sy fun e => ?_; cbv)
  | (refine ⟨_, _, _, hC _ _ _ _ c1, ?_⟩; cbv; clear c1)
theorem Kl (Z : Ad) (h : Hh) (hh : ∀ α g, h α g = g ()) (n : Nat) (i : Int) (leaf : List UInt8) (ps : List Dg) (hb : ¬((n : Int) <= 512 /\ 0 <= i /\ i < n)) : qb Z 88 [.pv (nH h n), .pv (iH h i), .pv (bH h leaf), .pv (lH h aP ps)] (.tup [.pv (aH h u8P (List.replicate 32 0)), .pv (qY Z 1)]) [.any, .any, .any, .any] := by
 have c1 := K7 Z h hh n i hb
 refine qh Z h hh ⟨Tryz.func88, Tryz.ntmps88⟩ rfl rfl rfl rfl rfl fun C hC => ?_
 unfold Tryz.f88
 cbv
 repeat' first
  | exact s0
  | apply And.intro
  | exact sq
  | trivial
  | exact sx
  | (refine sy fun e => ?_; cbv)
 refine ⟨_, _, _, hC _ _ _ _ c1, ?_⟩
 cbv
 clear c1
 repeat' first
  | exact s0
  | apply And.intro
  | exact sq
  | (refine fun (_ : PUnit) => ?_; simp [hh, *, jJ, List.replicate]; done)
  | trivial
  | exact sx
  | (refine sy fun e => ?_; cbv)
theorem qay (Z : Ad) (h : Hh) (hh : ∀ α g, h α g = g ()) (n i : Nat) (hn : n <= 512) (hi : i < n) (leaf : List UInt8) (ps : List Dg) (hb : qT n i ≠ ps.length) : qb Z 88 [.pv (nH h n), .pv (nH h i), .pv (bH h leaf), .pv (lH h aP ps)] (.tup [.pv (aH h u8P (List.replicate 32 0)), .pv (qY Z 8)]) [.any, .any, .any, .any] := by
 have c1 := JN Z h hh n i hn hi
 refine qh Z h hh ⟨Tryz.func88, Tryz.ntmps88⟩ rfl rfl rfl rfl rfl fun C hC => ?_
 unfold Tryz.f88
 cbv
 repeat' first
  | exact s0
  | apply And.intro
  | exact sq
  | trivial
  | exact sx
  | (refine sy fun e => ?_; cbv)
 refine ⟨_, _, _, hC _ _ _ _ c1, ?_⟩
 cbv
 clear c1
 repeat' first
  | exact s0
  | apply And.intro
  | exact sq
  | (refine fun (_ : PUnit) => ?_; simp [hh, *, jJ, List.replicate]; done)
  | trivial
  | (refine fun (e : (_ : Bool) = _) => ?_; first | (exfalso; simp [hh] at e; done) | (exfalso; simp [hh] at e; omega) | (exfalso; simp only [hh, nI, List.length_map] at e; exact hb (qe2 e)) | (replace e := Ev.mk e; cbv))
theorem Xe (Z : Ad) (h : Hh) (hh : ∀ α g, h α g = g ()) (root : Dg) (n : Nat) (i : Int) (leaf : List UInt8) (ps : List Dg) (hb : ¬((n : Int) <= 512 /\ 0 <= i /\ i < n)) : qb Z 34 [.pv (aH h u8P root), .pv (nH h n), .pv (iH h i), .pv (bH h leaf), .pv (lH h aP ps)] (.pv (qY Z 1)) [.any, .any, .any, .any, .any] := by
 have c1 := Kl Z h hh n i leaf ps hb
 refine qh Z h hh ⟨Tryz.func34, Tryz.ntmps34⟩ rfl rfl rfl rfl rfl fun C hC => ?_
 unfold Tryz.f34
 cbv
 repeat' first
  | exact s0
  | apply And.intro
  | exact sq
  | trivial
  | exact sx
  | (refine sy fun e => ?_; cbv)
  | (refine ⟨_, _, _, hC _ _ _ _ c1, ?_⟩; cbv; clear c1)
theorem XU (Z : Ad) (h : Hh) (hh : ∀ α g, h α g = g ()) (root : Dg) (n i : Nat) (hn : n <= 512) (hi : i < n) (leaf : List UInt8) (ps : List Dg) (hb : qT n i ≠ ps.length) : qb Z 34 [.pv (aH h u8P root), .pv (nH h n), .pv (nH h i), .pv (bH h leaf), .pv (lH h aP ps)] (.pv (qY Z 8)) [.any, .any, .any, .any, .any] := by
 have c1 := qay Z h hh n i hn hi leaf ps hb
 refine qh Z h hh ⟨Tryz.func34, Tryz.ntmps34⟩ rfl rfl rfl rfl rfl fun C hC => ?_
 unfold Tryz.f34
 cbv
 repeat' first
  | exact s0
  | apply And.intro
  | exact sq
  | trivial
  | exact sx
  | (refine sy fun e => ?_; cbv)
  | (refine ⟨_, _, _, hC _ _ _ _ c1, ?_⟩; cbv; clear c1)
theorem Xq (Z : Ad) (h : Hh) (hh : ∀ α g, h α g = g ()) (root : Dg) (n i : Nat) (hn : n <= 512) (hi : i < n) (leaf : List UInt8) (hl : leaf.length <= 10000000) (ps : List Dg) (hp : ∀ p ∈ ps, p.length = 32) (hps : ps.length = qT n i) (hr : root.length = 32) (hb : jR n i (jr leaf) ps ≠ root) : qb Z 34 [.pv (aH h u8P root), .pv (nH h n), .pv (nH h i), .pv (bH h leaf), .pv (lH h aP ps)] (.pv (qY Z 15)) [.any, .any, .any, .any, .any] := by
 have c1 := Wb Z h hh n i hn hi leaf hl ps hp hps
 have hf : (jR n i (jr leaf) ps).length = 32 := qan hps
 obtain ⟨d, hd⟩ := exq (jR n i (jr leaf) ps)
 rw [hd] at c1 hb hf
 have hb' : (d == root) = false := by simpa using hb
 clear hd hps hp hl
 refine qh Z h hh ⟨Tryz.func34, Tryz.ntmps34⟩ rfl rfl rfl rfl rfl fun C hC => ?_
 unfold Tryz.f34
 cbv
 repeat' first
  | exact s0
  | apply And.intro
  | exact sq
  | trivial
  | exact sx
  | (refine sy fun e => ?_; cbv)
 refine ⟨_, _, _, hC _ _ _ _ c1, ?_⟩
 cbv
 clear c1
 repeat' first
  | exact s0
  | apply And.intro
  | exact sq
  | trivial
  | (refine sz fun e => ?_; simp [hh, hr, hf, hb] at e <;> (try simp only [natc] at *) <;> omega)
  | (refine sy fun e => ?_; cbv)
theorem W7 (Z : Ad) (h : Hh) (hh : ∀ α g, h α g = g ()) (root : Dg) (n : Nat) (i : Int) (leaf : List UInt8) (hl : leaf.length <= 10000000) (ps : List Dg) (hp : ∀ p ∈ ps, p.length = 32) (hr : root.length = 32) : qb Z 34 [.pv (aH h u8P root), .pv (nH h n), .pv (iH h i), .pv (bH h leaf), .pv (lH h aP ps)] (.pv (Qt Z (QK root n i leaf ps))) [.any, .any, .any, .any, .any] := by
 unfold QK
 split
 ·rename_i e
  obtain ⟨j, rfl⟩ := Int.eq_ofNat_of_zero_le e.2.1
  simp only [Int.toNat_natCast]
  split
  ·rename_i e2
   split
   ·rename_i e3
    exact KG Z h hh root n j Y44 Y44 leaf hl ps hp e2.symm hr e3
   ·rename_i e3
    exact Xq Z h hh root n j Y44 Y44 leaf hl ps hp e2.symm hr e3
  ·rename_i e2
   exact XU Z h hh root n j Y44 Y44 leaf ps e2
 ·rename_i e
  exact Xe Z h hh root n i leaf ps Y44
end Go.Bl
namespace Go.Proofs.YtnafknkchbfpaaaGreatDoor
open Go.RowKit Go.Bl Go.Extern.Stop Go.Stop Go.Extern
theorem UF (pb o : Nat) (b : Addr) (w : World) (h1 : w.cell? ⟨pb, o + 2, none⟩ = some (.iface 317 (.pointer (some b)))) :
  Calls Tryz.prog 60 #[.iface 204 (.pointer (some ⟨pb, o, none⟩)), .iface 317 (.pointer (some b))] w fun e w' => e = .returned (.bool true) /\ w = w' := by
 have tT := Tryz.typeOfE
 have cT := Tryz.comparableE
 have mR := Tryz.methodE
 have nW := Tryz.noIsW
 have uW := Tryz.hasUnW
 have mU := Tryz.methodUnW
 have hty := Tryz.neqTy b (.pointer (some ⟨pb, o, none⟩)) w
 have heq := Ub b w
 exact Y6
theorem Z5 (pb o : Nat) (b a : Addr) (ca cb : Array Value) (ta tb : TypeId) (w : World) (h1 : w.cell? ⟨pb, o + 2, none⟩ = some (.iface 317 (.pointer (some a)))) (hne : a ≠ b) (ha : w.heap[a.block]? = some (.cells ca ta (0, 0))) (hb : w.heap[b.block]? = some (.cells cb tb (0, 0))) :
  Calls Tryz.prog 60 #[.iface 204 (.pointer (some ⟨pb, o, none⟩)), .iface 317 (.pointer (some b))] w fun e w' => e = .returned (.bool false) /\ w = w' := by
 have tT := Tryz.typeOfE
 have cT := Tryz.comparableE
 have mR := Tryz.methodE
 have nE := Tryz.noIsE
 have uE := Tryz.noUnE
 have vE := Tryz.noUnsE
 have nW := Tryz.noIsW
 have uW := Tryz.hasUnW
 have mU := Tryz.methodUnW
 have hty := Tryz.neqTy b (.pointer (some ⟨pb, o, none⟩)) w
 have heq := Jn a b ca cb ta tb w hne ha hb
 clear hne ha hb
 exact Y6
theorem num_wrapO (E : Nat -> Addr) (B k : Nat) (w : World) (hE : vu all20 E B w) (hk : k ∈ all20) (pb o : Nat) (c0 : Array Value) (e0 : TypeId) (fz0 : Nat × Nat) (hpb : w.heap[pb]? = some (.cells c0 e0 fz0)) (hpc : c0[o + 2]? = some (.iface 317 (.pointer (some (E k))))) :
  Calls Tryz.prog 15 #[.iface 204 (.pointer (some ⟨pb, o, none⟩))] w fun e w' => e = .returned (.int .i64 k) /\ Fr [] w w' := by
 have c1 := hE.cell 1 Y76
 have c2 := hE.cell 2 Y76
 have c3 := hE.cell 3 Y76
 have c4 := hE.cell 4 Y76
 have c5 := hE.cell 5 Y76
 have c6 := hE.cell 6 Y76
 have c7 := hE.cell 7 Y76
 have c8 := hE.cell 8 Y76
 have c9 := hE.cell 9 Y76
 have c10 := hE.cell 10 Y76
 have c11 := hE.cell 11 Y76
 have c12 := hE.cell 12 Y76
 have c13 := hE.cell 13 Y76
 have c14 := hE.cell 14 Y76
 have c15 := hE.cell 15 Y76
 have c16 := hE.cell 16 Y76
 have c17 := hE.cell 17 Y76
 have c18 := hE.cell 18 Y76
 have c19 := hE.cell 19 Y76
 have c20 := hE.cell 20 Y76
 simp only [gOf, List.getD_eq_getElem?_getD, List.getElem?_cons_zero, List.getElem?_cons_succ, Option.getD_some] at c1 c2 c3 c4 c5 c6 c7 c8 c9 c10 c11 c12 c13 c14 c15 c16 c17 c18 c19 c20
 have HE := Hdq hE
 have HPB := Hdq hpb
 have hk1 : 1 <= k /\ k <= 20 := by
  exact Y42
 clear hE hk hpb
 go_enter Tryz.func15, Tryz.ntmps15
 go_wp2
 clear c1 c2 c3 c4 c5 c6 c7 c8 c9 c10 c11 c12 c13 c14 c15 c16 c17 c18 c19 c20
 have hcell : ∀ n, n < 20 -> (w.alloc (.cells (jA E).toArray 33)).cell? ⟨w.heap.size, n, none⟩ = some (.iface 317 (.pointer (some (E (n + 1))))) := fun n hn => by
  rw [World.cell?_alloc_new]
  simpa using yn E n hn
 have HE1 := Hdq (HE.out.keep0 (Fr.alloc w (.cells (jA E).toArray 33)))
 have HF := Hdq (Fr.alloc (S := []) w (.cells (jA E).toArray 33))
 obtain ⟨w1, hw1⟩ : ∃ w1, w1 = w.alloc (.cells (jA E).toArray 33) := ⟨_, rfl⟩
 rw [<- hw1] at hcell HE1 HF
 change Code.wp _ _ _ _ (w.alloc (.cells (jA E).toArray 33))
 rw [<- hw1]
 clear hw1 HE
 have hc2 : w1.cell? ⟨pb, o + 2, none⟩ = some (.iface 317 (.pointer (some (E k)))) := by
  rw [ja (HF.out.keep HPB.out Y77)]; exact hpc
 have HC2 := Hdq hc2
 clear hc2 HPB
 go_loop [31] (fun i => ∃ n : Nat, n < k /\ i = .int .i64 n) (fun i => 20 - (intOf i).toNat)
 case atStart => exact ⟨0, by omega, rfl⟩
 case round =>
  obtain ⟨n, hn, rfl⟩ := hrel
  have hc := hcell n Y44
  have hn20 : n < 20 := by omega
  by_cases he : n + 1 = k
  ·subst he
   go_wp2_with (go_at_call 60; refine (UF _ _ _ _ HC2.out).mono ?_; rintro e w' ⟨rfl, rfl⟩)
   go_ret
   exact ⟨rfl, HF.out⟩
  ·have hb1 := HE1.out.blk k (jc k hk1.1 hk1.2)
   have hb2 := HE1.out.blk (n + 1) (jc (n + 1) Y44 Y44)
   have hne := HE1.out.inj k (jc k hk1.1 hk1.2) (n + 1) (jc (n + 1) Y44 Y44) (Ne.symm he)
   obtain ⟨ca, ta, hb1⟩ := hb1
   obtain ⟨cb, tb, hb2⟩ := hb2
   have HI := Hdq (Z5 pb o (E (n + 1)) (E k) ca cb ta tb w1 HC2.out hne hb1 hb2)
   clear hb1 hb2 hne
   go_wp2_with (go_at_call 60; refine HI.out.mono ?_; rintro e w' ⟨rfl, rfl⟩)
   go_round
   case rel => exact ⟨n + 1, by omega, by go_num⟩
   case measure => simp [intOf]; omega
end Go.Proofs.YtnafknkchbfpaaaGreatDoor
namespace Go.Proofs.YtnafknkchbfpaaaGreatDoor
open Go.RowKit Go.Bl
end Go.Proofs.YtnafknkchbfpaaaGreatDoor
namespace Go.Bl
open Go.RowKit Go.Proofs
attribute [local irreducible] qw
open Go.Proofs.YtnafknkchbfpaaaGreatDoor (Par chk blk jj jG QP WN jQ qc)
theorem qfl {p : Par} {t : Int} {j0 : Nat} (t3 : 0 <= p.size /\ p.size <= 2000 -> t = blk p.size) (t1 : 0 <= t) (t2 : t <= 510) (hj : j0 < 6) (h2 : ∀ j, j < j0 -> bOk p (IntKind.i64.wrap (t + p.sent)) j) (h3 : ¬ bOk p (IntKind.i64.wrap (t + p.sent)) j0) : chk p = jG j0 := by
 by_cases z0 : j0 = 0
 ·subst z0
  exact QP p 0 Y76 (fun i hi => by omega) h3
 have h0 : 0 <= p.size /\ p.size <= 2000 := h2 0 Y44
 by_cases z1 : j0 = 1
 ·subst z1
  refine QP p 1 Y76 (fun i hi => ?_) h3
  obtain rfl : i = 0 := by omega
  exact h0
 have h1 : 0 <= p.sent /\ p.sent <= 8 := h2 1 Y44
 have e := t3 h0
 rw [wrap_i64 Y44 Y44, e] at h2 h3
 have ok2 : bOk p (blk p.size + p.sent) 2 ↔ jj p 2 := by
  constructor
  ·intro q
   have q' : 1 <= p.spots /\ p.spots <= (if blk p.size + p.sent < 12 then blk p.size + p.sent else 12) := q
   refine ⟨q'.1, ?_⟩
   have := q'.2
   split at this <;> omega
  ·intro q
   have q' : 1 <= p.spots /\ p.spots <= min 12 (blk p.size + p.sent) := q
   refine ⟨q'.1, ?_⟩
   show p.spots <= (if blk p.size + p.sent < 12 then blk p.size + p.sent else 12)
   split <;> omega
 have all : ∀ i, i < 6 -> (bOk p (blk p.size + p.sent) i ↔ jj p i) := fun i hi => by
  have : i = 0 ∨ i = 1 ∨ i = 2 ∨ i = 3 ∨ i = 4 ∨ i = 5 := by omega
  rcases this with rfl | rfl | rfl | rfl | rfl | rfl
  ·exact Iff.rfl
  ·exact Iff.rfl
  ·exact ok2
  ·exact Iff.rfl
  ·exact Iff.rfl
  ·exact Iff.rfl
 exact QP p j0 hj (fun i hi => (all i Y44).1 (h2 i hi)) fun q => h3 ((all j0 hj).2 q)
abbrev wrP (h : Hh) (Z : Ad) (p : Par) (j : Nat) : PV := .i 204 (.p (h _ fun _ => Xo Z p j))
theorem Zo (Z : Ad) (h : Hh) (hh : ∀ α g, h α g = g ()) (p : Par) : (chk p = 0 /\ qb Z 72 [.pv (zX h p)] (.pv (.v .nilIface)) [.any]) ∨ ∃ j, j < 6 /\ chk p = jG j /\ chk p ≠ 0 /\ qb Z 72 [.pv (zX h p)] (.pv (wrP h Z p j)) [.any] := by
 obtain ⟨t, k0, t1, t2, t3, ht⟩ := JE Z h hh p.size
 by_cases hok : ∀ j, j < 6 -> bOk p (IntKind.i64.wrap (t + p.sent)) j
 ·exact .inl ⟨qfk (fun q => (t3 q).1) t1 t2 hok, qcV Z h hh p t k0 ht hok⟩
 ·obtain ⟨j0, h1, h2, h3⟩ := Vy 6 hok
  have e := qfl (fun q => (t3 q).1) t1 t2 h1 h2 h3
  refine .inr ⟨j0, h1, e, ?_, qa3 Z h hh p t k0 ht j0 h1 h2 h3⟩
  rw [e]
  unfold jG
  split
  ·decide
  ·split <;> decide
theorem L9 (Z : Ad) (h : Hh) (hh : ∀ α g, h α g = g ()) (p : Par) (j : Nat) (c1 : qb Z 72 [.pv (zX h p)] (.pv (wrP h Z p j)) [.any]) : qb Z 82 [.pv (zX h p)] (.tup [.pv (iH h 0), .pv (wrP h Z p j)]) [.any] := by
 refine qh Z h hh ⟨Tryz.func82, Tryz.ntmps82⟩ rfl rfl rfl rfl rfl fun C hC => ?_
 unfold Tryz.f82
 cbv
 repeat' first
  | exact s0
  | apply And.intro
  | exact sq
  | trivial
  | exact sx
  | (refine sy fun e => ?_; cbv)
  | (refine ⟨_, _, _, hC _ _ _ _ c1, ?_⟩; cbv; clear c1)
theorem ZQ (Z : Ad) (h : Hh) (hh : ∀ α g, h α g = g ()) (p : Par) (j : Nat) (c0 : qb Z 72 [.pv (zX h p)] (.pv (wrP h Z p j)) [.any]) : qb Z 32 [.pv (zX h p)] (.tup [.pv (iH h 0), .pv (wrP h Z p j)]) [.any] := by
 have c1 := L9 Z h hh p j c0
 clear c0
 refine qh Z h hh ⟨Tryz.func32, Tryz.ntmps32⟩ rfl rfl rfl rfl rfl fun C hC => ?_
 unfold Tryz.f32
 cbv
 repeat' first
  | exact s0
  | apply And.intro
  | exact sq
  | trivial
  | exact sx
  | (refine sy fun e => ?_; cbv)
  | (refine ⟨_, _, _, hC _ _ _ _ c1, ?_⟩; cbv; clear c1)
theorem L3 (Z : Ad) (h : Hh) (hh : ∀ α g, h α g = g ()) (k : Nat) (hk : k <= 20) : qb Z 15 [.pv (Qt Z k)] (.pv (nH h k)) [.any] := by
 simp only [nH, nI, hh]
 refine xI (xs := [Qt Z k]) (.int .i64 k) Tryz.func15 rfl rfl (fun A w => .pv (.v rfl)) fun A w us hA he hr => ?_
 cases hr with
 | cons h1 h2 =>
  cases h2
  have e : Qt Z k = .v (jQ Z.e k) := by
   unfold Qt
   split
   ·subst_vars; rfl
   ·rename_i q
    rw [Go.Proofs.YtnafknkchbfpaaaGreatDoor.errv_pos Z.e _ q]
    rfl
  rw [e] at h1
  rw [QJ h1]
  exact Go.Proofs.YtnafknkchbfpaaaGreatDoor.num_any Z.e _ k w (yd he) hk
theorem Xu (Z : Ad) (h : Hh) (hh : ∀ α g, h α g = g ()) (p : Par) (j : Nat) : qb Z 15 [.pv (wrP h Z p j)] (.pv (nH h (jG j))) [.any] := by
 simp only [nH, nI, hh]
 refine xI (xs := [wrP h Z p j]) (.int .i64 (jG j)) Tryz.func15 rfl rfl (fun A w => .pv (.v rfl)) fun A w us hA he hr => ?_
 simp only [wrP, hh] at hr
 have hk : jG j ∈ Go.Proofs.YtnafknkchbfpaaaGreatDoor.all20 := by
  unfold jG
  split
  ·decide
  ·split <;> decide
 cases hr with
 | cons h1 h2 =>
  cases h2
  cases h1 with
  | i h1 =>
  cases h1 with
  | p h3 h4 h5 =>
  cases h3 with
  | cons g1 h3 =>
  cases h3 with
  | cons g2 h3 =>
  cases h3 with
  | cons g3 h3 =>
   cases h3
   have e3 := QJ g3
   subst e3
   rcases h5 with h5 | ⟨b, off, c, e, fz, ea, -, hb, hc⟩
   ·cases h5
   ·cases ea
    exact Go.Proofs.YtnafknkchbfpaaaGreatDoor.num_wrapO Z.e _ _ w (yd he) hk b off _ _ _ hb (hc 2 Y77)
end Go.Bl
namespace Go.Bl
open Go.RowKit Go.Proofs
attribute [local irreducible] qw
open Go.Proofs.YtnafknkchbfpaaaGreatDoor (Par chk blk jj jG jQ qc QV)
theorem Zb (Z : Ad) (h : Hh) (hh : ∀ α g, h α g = g ()) {p : Par} (hc : chk p = 0) : 0 <= blk p.size /\ blk p.size <= 510 /\ 0 <= p.sent /\ p.sent <= 8 := by
 obtain ⟨t, k, t1, t2, t3, -⟩ := JE Z h hh p.size
 have ho := QV hc
 obtain ⟨rfl, -⟩ := t3 ho.1
 exact ⟨t1, t2, ho.2⟩
theorem qa7 (Z : Ad) (h : Hh) (hh : ∀ α g, h α g = g ()) (p : Par) (hc : chk p = 0) : qb Z 82 [.pv (zX h p)] (.tup [.pv (iH h (blk p.size)), .pv (.v .nilIface)]) [.any] := by
 obtain ⟨t, k, -, -, t3, c2⟩ := JE Z h hh p.size
 obtain ⟨rfl, rfl⟩ := t3 (QV hc).1
 rw [hh, show jQ Z.e 0 = Value.nilIface from rfl] at c2
 rcases Zo Z h hh p with ⟨-, c1⟩ | ⟨j, -, -, hz, -⟩
 ·clear t3 hc
  refine qh Z h hh ⟨Tryz.func82, Tryz.ntmps82⟩ rfl rfl rfl rfl rfl fun C hC => ?_
  unfold Tryz.f82
  cbv
  repeat' first
   | exact s0
   | apply And.intro
   | exact sq
   | trivial
   | exact sx
   | (refine sy fun e => ?_; cbv)
   | (refine ⟨_, _, _, hC _ _ _ _ c1, ?_⟩; cbv; clear c1)
   | (refine ⟨_, _, _, hC _ _ _ _ c2, ?_⟩; cbv; clear c2)
 ·exact absurd hc hz
theorem j6 (Z : Ad) (h : Hh) (hh : ∀ α g, h α g = g ()) (p : Par) (hc : chk p = 0) : qb Z 32 [.pv (zX h p)] (.tup [.pv (iH h (blk p.size + p.sent)), .pv (.v .nilIface)]) [.any] := by
 have c1 := qa7 Z h hh p hc
 obtain ⟨l1, l2, l3, l4⟩ := Zb Z h hh hc
 have w1 : IntKind.i64.wrap (blk p.size + p.sent) = blk p.size + p.sent := wrap_i64 Y44 Y44
 obtain ⟨B, hB⟩ := exq (blk p.size)
 rw [hB] at c1 w1 ⊢
 clear hB l1 l2 l3 l4 hc
 refine qh Z h hh ⟨Tryz.func32, Tryz.ntmps32⟩ rfl rfl rfl rfl rfl fun C hC => ?_
 unfold Tryz.f32
 cbv
 repeat' first
  | exact s0
  | apply And.intro
  | exact sq
  | trivial
  | exact sx
  | (refine sy fun e => ?_; cbv)
  | (refine ⟨_, _, _, hC _ _ _ _ c1, ?_⟩; cbv; clear c1)
end Go.Bl
namespace Go.Bl
open Go.RowKit Go.Proofs
attribute [local irreducible] qw
open Go.Proofs.YtnafknkchbfpaaaGreatDoor (Par chk blk jj jG jQ qc qi jU qx qV jI jw sdE)
structure qD where
 num : Int
 name : ByteArray
 par : Par
 root : List UInt8
 file : List UInt8
 tick : Int
 kept : Bool
 used : Int
 rounds : Int
def qd (x : qD) : List PV := iP x.num :: .v (.string x.name) :: iP x.par.size :: iP x.par.sent :: iP x.par.spots :: iP x.par.per :: iP x.par.pat :: iP x.par.ret :: (x.root.map u8P ++ (x.file.map u8P ++ [iP x.tick, .v (.bool x.kept), iP x.used, iP x.rounds]))
abbrev qj (h : Hh) (x : qD) : PV := .a (h _ fun _ => qd x)
structure qz where
 id : Int
 obj : Int
 way : Int
 idx : Int
 tick : Int
 verd : Int
 at' : Int
abbrev qk (h : Hh) (e : qz) : PV := .a [iH h e.id, iH h e.obj, iH h e.way, iH h e.idx, iH h e.tick, iH h e.verd, iH h e.at']
theorem qv {x : qD} (h1 : x.root.length = 32) (h2 : x.file.length = 32) : (qd x).length = 76 := by simp [qd, h1, h2]
theorem yO (Z : Ad) (h : Hh) (hh : ∀ α g, h α g = g ()) (m : List UInt8) (n : Int) (hk : qc m n = 0) : qb Z 90 [.pv (bH h m), .pv (iH h n)] (.tup [.pv (.a [bH h (qi m jU n), bH h (qi m qx n), bH h (qi m qV n), bH h (qi m jI n), bH h (qi m jw n)]), .pv (.v .nilIface)]) [.any, .any] := by
 simp only [bH, lH, iH, hh]
 refine Jm (xs := [bP m, iP n]) Tryz.func90 rfl rfl fun A w us hA he hr => ?_
 cases hr with
 | cons h1 hr =>
 cases hr with
 | cons h2 hr =>
  cases hr
  rw [QJ h2]
  refine (Go.Proofs.YtnafknkchbfpaaaGreatDoor.all_any Z.e _ w _ m n (yd he) (qbR he) (yy h1)).mono ?_
  rintro e w' ⟨u0, u1, u2, u3, u4, rfl, g, -, hf⟩
  obtain ⟨o0, o1, o2, o3, o4⟩ := g hk
  rw [hk]
  have hA' : ∀ b, (A b ∨ b ∈ ([] : List Nat)) -> b < w.heap.size := fun b hb => hA b Y72
  refine ⟨_, [], rfl, .tup (.cons (.pv (.a (us := [u0, u1, u2, u3, u4]) ?_ ?_)) (.cons (.pv (.v rfl)) .nil)), by simp, by simp, hf⟩
  ·exact .cons (xd (o0.bs hA')) (.cons (xd (o1.bs hA')) (.cons (xd (o2.bs hA')) (.cons (xd (o3.bs hA')) (.cons (xd (o4.bs hA')) .nil))))
  ·simp [PV.one]
theorem W6 (Z : Ad) (h : Hh) (hh : ∀ α g, h α g = g ()) (m : List UInt8) (x : qD) (e : qz) (lr : x.root.length = 32) (lf : x.file.length = 32) (j : Nat) (c0 : qb Z 72 [.pv (zX h x.par)] (.pv (wrP h Z x.par j)) [.any]) : qb Z 37 [.pv (bH h m), .pv (qj h x), .pv (qk h e)] (.tup [.pv (lH h iP []), .pv (wrP h Z x.par j)]) [.any, .any, .any] := by
 have c1 := ZQ Z h hh x.par j c0
 clear c0
 have il := qv lr lf
 refine qh Z h hh ⟨Tryz.func37, Tryz.ntmps37⟩ rfl rfl rfl rfl rfl fun C hC => ?_
 unfold Tryz.f37
 cbv
 repeat' first
  | exact s0
  | apply And.intro
  | exact sq
  | (refine fun (_ : PUnit) => ?_; simp [hh, *, qd]; done)
  | trivial
  | exact sx
  | (refine sy fun e => ?_; cbv)
  | (refine ⟨_, _, _, hC _ _ _ _ c1, ?_⟩; cbv; clear c1)
theorem WP (Z : Ad) (h : Hh) (hh : ∀ α g, h α g = g ()) (m : List UInt8) (x : qD) (e : qz) (lr : x.root.length = 32) (lf : x.file.length = 32) (hc : chk x.par = 0) (hk : qc m x.num ≠ 0) : qb Z 37 [.pv (bH h m), .pv (qj h x), .pv (qk h e)] (.tup [.pv (lH h iP []), .pv (qY Z (qc m x.num))]) [.any, .any, .any] := by
 have c1 := j6 Z h hh x.par hc
 have c2 := qdB Z h hh m x.num hk
 obtain ⟨k, hke⟩ := exq (qc m x.num)
 rw [hke] at c2 ⊢
 clear hc hk hke
 have il := qv lr lf
 refine qh Z h hh ⟨Tryz.func37, Tryz.ntmps37⟩ rfl rfl rfl rfl rfl fun C hC => ?_
 unfold Tryz.f37
 cbv
 repeat' first
  | exact s0
  | apply And.intro
  | exact sq
  | (refine fun (_ : PUnit) => ?_; simp [hh, *, qd]; done)
  | trivial
  | exact sx
  | (refine sy fun e => ?_; cbv)
  | (refine ⟨_, _, _, hC _ _ _ _ c1, ?_⟩; cbv; clear c1)
  | (refine ⟨_, _, _, hC _ _ _ _ c2, ?_⟩; cbv; clear c2)
end Go.Bl
namespace Go.Bl
open Go.RowKit Go.Proofs
attribute [local irreducible] qw
open Go.Proofs.YtnafknkchbfpaaaGreatDoor (beK b8 QR beK_len fnS vO uo xZ vp uV qH vQ)
theorem JK : ∀ (k w n : Nat), w <= 10 -> n <= 1048576 -> ur k w n <= 10
 | 0, w, n, h, _ => h
 | k + 1, w, n, h, hn => by
  rw [ur]
  split
  ·rename_i hlt
   refine JK k (w + 1) n ?_ hn
   rcases Nat.lt_or_ge w 10 with h2 | h2
   ·omega
   ·have : (4 : Nat) ^ 10 <= 4 ^ w := Nat.pow_le_pow_right Y76 h2
    have e : (4 : Nat) ^ 10 = 1048576 := by decide
    omega
  ·exact h
theorem Wm {n : Nat} (h : n <= 1048576) : 1 <= jd n /\ jd n <= 10 := ⟨(xZ n).1, JK 10 1 n Y76 h⟩
theorem WX (l : List UInt8) : jT l = qfg l := by cases l <;> rfl
def ut (k : List UInt8) (n w : Nat) : List PV := [.p (vZ k), iP n, iP w]
theorem qct {a b : Nat} (ha : a < 2 ^ 62) (hb : b < 2 ^ 62) : zx .xor .i64 (a : Int) (b : Int) = ((a ^^^ b : Nat) : Int) := by
 have h1 : a ^^^ b < 2 ^ 62 := Nat.xor_lt_two_pow ha hb
 change IntKind.i64.wrap (((BitVec.ofInt 64 (a : Int) ^^^ BitVec.ofInt 64 (b : Int)).toNat : Nat) : Int) = _
 simp only [BitVec.ofInt_natCast, BitVec.toNat_xor, BitVec.toNat_ofNat]
 exact Y9
theorem qcN {a b : Nat} (ha : a < 2 ^ 62) (hb : b < 2 ^ 62) : zx .and .i64 (a : Int) (b : Int) = ((a &&& b : Nat) : Int) := by
 have h1 : a &&& b < 2 ^ 62 := Nat.and_lt_two_pow _ hb
 change IntKind.i64.wrap (((BitVec.ofInt 64 (a : Int) &&& BitVec.ofInt 64 (b : Int)).toNat : Nat) : Int) = _
 simp only [BitVec.ofInt_natCast, BitVec.toNat_and, BitVec.toNat_ofNat]
 exact Y9
theorem qeb {a b : Nat} (ha : a < 2 ^ 62) (hb : b < 2 ^ 62) : zx .or .i64 (a : Int) (b : Int) = ((a ||| b : Nat) : Int) := by
 have h1 : a ||| b < 2 ^ 62 := Nat.or_lt_two_pow ha hb
 change IntKind.i64.wrap (((BitVec.ofInt 64 (a : Int) ||| BitVec.ofInt 64 (b : Int)).toNat : Nat) : Int) = _
 simp only [BitVec.ofInt_natCast, BitVec.toNat_or, BitVec.toNat_ofNat]
 exact Y9
theorem XD (w : Nat) (hw : w <= 60) (k : IntKind) (hk : k.bits = 64) : min w k.bits = w := by rw [hk]; omega
theorem XH (w : Nat) : (2 : Int) ^ w = ((2 ^ w : Nat) : Int) := by simp
theorem Kt (Z : Ad) (h : Hh) (hh : ∀ α g, h α g = g ()) (k : List UInt8) (n w t r : Nat) (hw : w <= 10) : qb Z 150 [.pv (.p (h _ fun _ => ut k n w)), .pv (nH h t), .pv (nH h r)] (.pv (nH h (fnS k w t r))) [.any, .any, .any] := by
 have hfn : fnS k w t r = jT (xh k (b8 (t : Int) :: beK 8 (r : Int))) % 2 ^ w := by rw [WX]; rfl
 rw [hfn]
 clear hfn
 have hS0 : 2 ^ w <= 1024 := Nat.le_trans (Nat.pow_le_pow_right Y76 hw) Y76
 have hS1 : 0 < 2 ^ w := Nat.two_pow_pos w
 have m1 := XD w Y44 .u64 rfl
 obtain ⟨nb, hnb⟩ := exq (beK 8 (r : Int))
 have ln : nb.length = 8 := by rw [<- hnb]; rfl
 obtain ⟨d, hd⟩ := exq (vN k ([[b8 (t : Int)], nb].flatten))
 have l3 : d.length = 32 := by rw [<- hd]; exact zo _ _
 have c1 := xY Z h hh (r : Int)
 rw [hnb] at c1
 have c2 := VR Z h hh k [[b8 (t : Int)], nb] Y77 Y77 Y46
 rw [hd] at c2
 rw [hnb, show xh k (b8 (t : Int) :: nb) = d.take 8 by rw [xh, <- hd]; simp]
 have wt : u8P (b8 (t : Int)) = .v (.int .u8 (IntKind.u8.wrap t)) := by rw [u8P, u8v, QR]
 obtain ⟨tb, htb⟩ := exq (b8 (t : Int))
 rw [htb] at wt c2
 have wt2 : (tb.toNat : Int) = IntKind.u8.wrap t := by simpa [u8P, u8v] using wt
 clear hnb hd htb
 refine qh Z h hh ⟨Tryz.func150, Tryz.ntmps150⟩ rfl rfl rfl rfl rfl fun C hC => ?_
 unfold Tryz.f150
 cbv
 repeat' first
  | exact s0
  | apply And.intro
  | exact sq
  | (refine fun (_ : PUnit) => ?_; simp [hh, *, ut, vZ, iP, bP, u8P, u8v, wt2]; done)
  | trivial
  | (refine sz fun e => ?_; simp [hh, wt] at e <;> (try simp only [natc] at *) <;> omega)
  | (refine sy fun e => ?_; cbv)
  | (refine ⟨_, _, _, hC _ _ _ _ c1, ?_⟩; cbv; clear c1)
  | (refine ⟨_, _, _, hC _ _ _ _ c2, ?_⟩; cbv; clear c2)
 refine ⟨Nat, fun i => ⟨[(0, some (.pv (.p (h _ fun _ => ut k n w)))), (8, some (.pv (kH h .u64 (nI (jT (d.take i)))))), (22, some (.sl 990 0 8)), (23, some (.pv (iH h 8))), (24, some (.pv (nH h i)))], [(990, some (.var 58 (h _ fun _ => d.map u8P) false))]⟩, fun i => i <= 8, fun i => 8 - i, 0, [], by omega, trivial, ⟨[(990, 7)], rfl, rfl, ⟨?_, trivial⟩, ?_, ?_, ?_, ?_, ?_, trivial⟩, ?_⟩
 ·cbv; simp [hh, l3, splice]
 ·exact sp
 ·cbv; simp [hh, jT]
 ·exact sp
 ·exact sp
 ·exact sp
 intro i hi
 dsimp only
 cbv
 refine ⟨fun _ => rfl, fun e => ?_, fun e => ?_⟩ <;> simp only [hh, nI, decide_eq_true_eq, decide_eq_false_iff_not, natc] at e
 ·have e' : i < 8 := by
   have : (i : Int) < 8 := e
   omega
  have e2 : i < d.length := by omega
  have hlt : jT (d.take i) < 72057594037927936 := by
   have := vD i d Y44
   have h2 : 256 ^ i <= 256 ^ 7 := Nat.pow_le_pow_right Y76 Y44
   omega
  have hor := Hdq (LH (c := d[i]) hlt)
  have l3p := Hdq l3
  clear hlt l3 wt wt2
  cbv
  repeat' first
   | exact s0
   | apply And.intro
   | exact sq
   | trivial
   | exact sx
   | (refine sy fun e => ?_; cbv)
  refine ⟨i + 1, by omega, by show 8 - (i + 1) < 8 - i; omega, ⟨[], rfl, rfl, ⟨?_, trivial⟩, ?_, ?_, ?_, ?_, ?_, trivial⟩⟩
  ·exact sp
  ·exact sp
  ·cbv
   simp only [hh, nI, numB_take e2]
   refine congrArg (fun x : Int => some (AV.pv (PV.v (Value.int .u64 x)))) (Eq.trans ?_ hor.out)
   rw [show (2 : Int) ^ min (Int.toNat 8) IntKind.u64.bits = 256 from rfl]
   simp [e2, u8P, u8v]
  ·exact sp
  ·exact sp
  ·exact sp
 ·have e' : i = 8 := Nat.le_antisymm hi (by
   have : ¬ (i : Int) < 8 := e
   omega)
  subst e'
  have hN : jT (d.take 8) < 18446744073709551616 := vD 8 d Y44
  obtain ⟨N, hN'⟩ : ∃ N, jT (d.take 8) = N := ⟨_, rfl⟩
  rw [hN'] at hN ⊢
  obtain ⟨S, hS⟩ := exq (2 ^ w)
  have q1 : IntKind.u64.wrap (2 ^ min w IntKind.u64.bits) = (S : Int) := by rw [m1, XH, hS, qS Y44 Y44]
  rw [hS] at hS0 hS1 ⊢
  have w3 : N % S < S := Nat.mod_lt _ hS1
  have w2 : (N : Int).tmod (S : Int) = ((N % S : Nat) : Int) := by rw [<- Int.ofNat_tmod]
  obtain ⟨M, hM⟩ := exq (N % S)
  rw [hM] at w3 w2 ⊢
  have w4 : IntKind.i64.wrap (M : Int) = (M : Int) := wrap_i64 Y44 Y44
  have nS : S ≠ 0 := by omega
  clear hN' hN hM hS m1
  cbv
  repeat' first
   | exact s0
   | apply And.intro
   | exact sq
   | (refine fun (_ : PUnit) => ?_; simp [hh, *, ut, iP, q1, w2, w4, nS]; done)
   | trivial
   | (refine sz fun e => ?_; simp [hh, nS, q1] at e <;> (try simp only [natc] at *) <;> omega)
   | (refine sy fun e => ?_; cbv)
theorem YZ (Z : Ad) (h : Hh) (hh : ∀ α g, h α g = g ()) (k : List UInt8) (n w x : Nat) (hw : w <= 10) (hx : x < 4 ^ w) : qb Z 149 [.pv (.p (h _ fun _ => ut k n w)), .pv (nH h x)] (.tup [.pv (nH h (x / 2 ^ w)), .pv (nH h (x % 2 ^ w))]) [.any, .any] := by
 have hS0 : 2 ^ w <= 1024 := Nat.le_trans (Nat.pow_le_pow_right Y76 hw) Y76
 have hS1 : 0 < 2 ^ w := Nat.two_pow_pos w
 have hx4 : x < 1048577 := Nat.lt_of_lt_of_le hx (Nat.le_trans (Nat.pow_le_pow_right Y76 hw) Y76)
 have q1 : (x : Int).fdiv (2 ^ min w IntKind.i64.bits) = ((x / 2 ^ w : Nat) : Int) := by
  rw [XD w Y44 .i64 rfl, Int.fdiv_eq_ediv_of_nonneg _ (Int.le_of_lt (Int.pow_pos Y76)), XH]
  omega
 have q2 : IntKind.i64.wrap (2 ^ min w IntKind.i64.bits) = ((2 ^ w : Nat) : Int) := by
  rw [XD w Y44 .i64 rfl, XH, wrap_i64 Y44 Y44]
 have q3 : IntKind.i64.wrap (((2 ^ w : Nat) : Int) - 1) = ((2 ^ w - 1 : Nat) : Int) := by rw [wrap_i64 Y44 Y44]; omega
 have q4 : zx .and .i64 (x : Int) ((2 ^ w - 1 : Nat) : Int) = ((x % 2 ^ w : Nat) : Int) := by rw [qcN Y44 Y44, Nat.and_two_pow_sub_one_eq_mod]
 obtain ⟨A, hA⟩ := exq (x / 2 ^ w)
 obtain ⟨B, hB⟩ := exq (x % 2 ^ w)
 obtain ⟨S1, hS1'⟩ : ∃ A, 2 ^ w - 1 = A := ⟨_, rfl⟩
 rw [hS1'] at q3 q4
 rw [hA] at q1 ⊢
 rw [hB] at q4 ⊢
 obtain ⟨S, hS⟩ := exq (2 ^ w)
 rw [hS] at q2 q3
 clear hA hB hS1' hS hS0 hS1 hx
 refine qh Z h hh ⟨Tryz.func149, Tryz.ntmps149⟩ rfl rfl rfl rfl rfl fun C hC => ?_
 unfold Tryz.f149
 cbv
 repeat' first
  | exact s0
  | apply And.intro
  | exact sq
  | (refine fun (_ : PUnit) => ?_; simp [hh, *, ut, iP, q1, q2, q3, q4]; done)
  | trivial
  | (refine sz fun e => ?_; simp [hh, q1] at e <;> (try simp only [natc] at *) <;> omega)
  | (refine sy fun e => ?_; cbv)
theorem qaM (Z : Ad) (h : Hh) (hh : ∀ α g, h α g = g ()) (k : List UInt8) (n w x : Nat) (hw : w <= 10) (hx : x < 4 ^ w) : qb Z 111 [.pv (.p (h _ fun _ => ut k n w)), .pv (nH h x)] (.pv (nH h (zm w (fnS k w) x))) [.any, .any] := by
 have hS0 : 2 ^ w <= 1024 := Nat.le_trans (Nat.pow_le_pow_right Y76 hw) Y76
 have hS1 : 0 < 2 ^ w := Nat.two_pow_pos w
 have m1 := XD w Y44 .i64 rfl
 have hf := vO k w
 obtain ⟨x1, x2⟩ := yT hx
 have est : zm w (fnS k w) x = (zj (fnS k w) 4 (x / 2 ^ w, x % 2 ^ w)).1 * 2 ^ w + (zj (fnS k w) 4 (x / 2 ^ w, x % 2 ^ w)).2 := rfl
 have hlt : ∀ t, (zj (fnS k w) t (x / 2 ^ w, x % 2 ^ w)).1 < 2 ^ w /\ (zj (fnS k w) t (x / 2 ^ w, x % 2 ^ w)).2 < 2 ^ w := fun t => QU hf t _ x1 x2
 rw [est]
 have c1 := YZ Z h hh k n w x hw hx
 have cr := fun t r => Kt Z h hh k n w t r hw
 have hrec : ∀ t p, zj (fnS k w) (t + 1) p = ((zj (fnS k w) t p).2, (zj (fnS k w) t p).1 ^^^ fnS k w t (zj (fnS k w) t p).2) := fun t p => rfl
 have hr0 : ∀ p, zj (fnS k w) 0 p = p := fun p => rfl
 clear hx hf est
 obtain ⟨R, hR⟩ := exq (zj (fnS k w))
 rw [hR] at hrec hr0 hlt ⊢
 obtain ⟨fn, hfn'⟩ : ∃ fn, fnS k w = fn := ⟨_, rfl⟩
 rw [hfn'] at hrec cr
 obtain ⟨a, ha⟩ := exq (x / 2 ^ w)
 obtain ⟨b, hb⟩ := exq (x % 2 ^ w)
 rw [ha] at x1 hlt c1 ⊢
 rw [hb] at x2 hlt c1 ⊢
 obtain ⟨S, hS⟩ := exq (2 ^ w)
 rw [hS] at hlt x1 x2 hS0 hS1 ⊢
 clear hR hfn' ha hb
 replace cr := Hdq cr
 replace hrec := Hdq hrec
 replace hlt := Hdq hlt
 replace hS := Hdq hS
 refine qh Z h hh ⟨Tryz.func111, Tryz.ntmps111⟩ rfl rfl rfl rfl rfl fun C hC => ?_
 unfold Tryz.f111
 cbv
 repeat' first
  | exact s0
  | apply And.intro
  | exact sq
  | trivial
  | exact sx
  | (refine sy fun e => ?_; cbv)
  | (refine ⟨_, _, _, hC _ _ _ _ c1, ?_⟩; cbv; clear c1)
 refine ⟨Nat, fun t => ⟨[(0, some (.pv (.p (h _ fun _ => ut k n w)))), (5, some (.pv (nH h (R t (a, b)).1))), (6, some (.pv (nH h (R t (a, b)).2))), (14, some (.pv (nH h t)))], []⟩, fun t => t <= 4, fun t => 4 - t, 0, [], by omega, trivial, ⟨[], rfl, rfl, trivial, ?_, ?_, ?_, ?_, trivial⟩, ?_⟩
 ·exact sp
 ·cbv; simp only [hh, nI, hr0]
 ·cbv; simp only [hh, nI, hr0]
 ·exact sp
 intro t ht
 dsimp only
 cbv
 refine ⟨fun _ => rfl, fun e => ?_, fun e => ?_⟩ <;> simp only [hh, nI, decide_eq_true_eq, decide_eq_false_iff_not, natc] at e
 ·have e' : t < 4 := by
   have : (t : Int) < 4 := e
   omega
  obtain ⟨l1, l2⟩ := hlt.out t
  have r1 : (R (t + 1) (a, b)).1 = (R t (a, b)).2 := by rw [hrec.out]
  have r2 : (R (t + 1) (a, b)).2 = (R t (a, b)).1 ^^^ fn t (R t (a, b)).2 := by rw [hrec.out]
  have l3 := (hlt.out (t + 1)).2
  have c2 := cr.out t (R t (a, b)).2
  obtain ⟨u, hu⟩ := exq ((R t (a, b)).1)
  obtain ⟨v, hv⟩ := exq ((R t (a, b)).2)
  rw [hu] at l1 r2 ⊢
  rw [hv] at l2 r1 r2 c2 ⊢
  obtain ⟨g, hg⟩ := exq (fn t v)
  rw [hg] at r2 c2
  have lg : g < 2 ^ 62 := by
   have q : u ^^^ (u ^^^ g) = g := by rw [<- Nat.xor_assoc, Nat.xor_self, Nat.zero_xor]
   rw [<- q]
   exact Nat.xor_lt_two_pow Y44 (by rw [<- r2]; omega)
  have w5 := qct (a := u) (b := g) Y44 lg
  rw [<- r2] at w5
  clear hu hv hg hr0
  cbv
  repeat' first
   | exact s0
   | apply And.intro
   | exact sq
   | trivial
   | exact sx
   | (refine sy fun e => ?_; cbv)
   | (refine ⟨_, _, _, hC _ _ _ _ c2, ?_⟩; cbv; clear c2)
  refine ⟨t + 1, by omega, by show 4 - (t + 1) < 4 - t; omega, ⟨[], rfl, rfl, trivial, ?_, ?_, ?_, ?_, trivial⟩⟩
  ·exact sp
  ·cbv; simp only [hh, nI, r1]
  ·cbv; simp only [hh, nI, w5]
  ·exact sp
 ·have e' : t = 4 := Nat.le_antisymm ht (by
   have : ¬ (t : Int) < 4 := e
   omega)
  subst e'
  obtain ⟨l1, l2⟩ := hlt.out 4
  obtain ⟨L, hL⟩ := exq (R 4 (a, b))
  rw [hL] at l1 l2 ⊢
  have w1 : L.1 * S <= 1024 * 1024 := Nat.mul_le_mul Y44 hS0
  have w0 : IntKind.i64.wrap ((L.1 : Int) * 2 ^ min w IntKind.i64.bits) = ((L.1 * S : Nat) : Int) := by
   rw [m1, XH, hS.out, <- Int.natCast_mul, wrap_i64 Y44 Y44]
  have w2 : zx .or .i64 ((L.1 * S : Nat) : Int) (L.2 : Int) = ((L.1 * S + L.2 : Nat) : Int) := by
   rw [qeb Y44 Y44, <- hS.out, Jc (by rw [hS.out]; exact l2)]
  obtain ⟨V, hV⟩ := exq (L.1 * S + L.2)
  obtain ⟨V1, hV1⟩ := exq (L.1 * S)
  rw [hV, hV1] at w2
  rw [hV1] at w0
  rw [hV]
  clear hV hV1 hL w1 hr0 m1
  cbv
  repeat' first
   | exact s0
   | apply And.intro
   | exact sq
   | (refine fun (_ : PUnit) => ?_; simp [hh, *, ut, iP, w0, w2]; done)
   | trivial
   | exact sx
   | (refine sy fun e => ?_; cbv)
end Go.Bl
namespace Go.Bl
open Go.RowKit Go.Proofs
attribute [local irreducible] qw
open Go.Proofs.YtnafknkchbfpaaaGreatDoor (beK b8 fnS vO uo xZ vp uV qH vQ)
theorem qac (Z : Ad) (h : Hh) (hh : ∀ α g, h α g = g ()) (k : List UInt8) (n x : Nat) (hn : n <= 1048576) (hx : x < n) : qb Z 110 [.pv (.p (h _ fun _ => ut k n (jd n))), .pv (nH h x), .pv (.f (.func 111) [.p (h _ fun _ => ut k n (jd n))] [])] (.tup [.pv (nH h (qH k n x)), .pv (.v .nilIface)]) [.any, .any, .any] := by
 obtain ⟨K, k1, k2, k3, k4⟩ := ZM (vO k (jd n)) (uo n Y44) hx
 have hx4 : x < 4 ^ jd n := Nat.lt_of_lt_of_le hx (uo n Y44)
 have it := VV (w := jd n) (f := zm (jd n) (fnS k (jd n))) (fun x h => Zt (vO k (jd n)) h) hx4
 have hx1 : 1 <= n := by omega
 have hw := (Wm (n := n) Y44).2
 change je _ K x = qH k n x at k2
 change qH k n x < n at k3
 obtain ⟨p, hp⟩ := exq (qH k n x)
 rw [hp] at k2 k3 ⊢
 obtain ⟨w, hw'⟩ : ∃ w, jd n = w := ⟨_, rfl⟩
 rw [hw'] at k2 k4 it hx4 hw ⊢
 have s : ∀ j, qb Z 111 [.pv (.p (h _ fun _ => ut k n w)), .pv (nH h (je (zm w (fnS k w)) j x))] (.pv (nH h (je (zm w (fnS k w)) (j + 1) x))) [.any, .any] := fun j => qaM Z h hh k n w _ hw (it j)
 obtain ⟨g, hg⟩ : ∃ g : Nat -> Nat, (fun j => je (zm w (fnS k w)) j x) = g := ⟨_, rfl⟩
 have hg' : ∀ j, je (zm w (fnS k w)) j x = g j := fun j => congrFun hg j
 have g0 : g 0 = x := (hg' 0).symm
 simp only [hg'] at s k2 k4
 clear hp hw' it hx4 hw hg hg' hn hx1
 replace s := Hdq s
 replace k4 := Hdq k4
 refine qh Z h hh ⟨Tryz.func110, Tryz.ntmps110⟩ rfl rfl rfl rfl rfl fun C hC => ?_
 unfold Tryz.f110
 cbv
 repeat' first
  | exact s0
  | apply And.intro
  | exact sq
  | (refine fun (_ : PUnit) => ?_; simp [hh, *, ut, iP, hx]; done)
  | trivial
  | (refine sz fun e => ?_; simp [hh, hx, ut, iP] at e <;> (try simp only [natc] at *) <;> omega)
  | (refine sy fun e => ?_; cbv)
 refine ⟨Nat, fun j => ⟨[(0, some (.pv (.p (h _ fun _ => ut k n w)))), (1, some (.pv (nH h (g j)))), (2, some (.pv (.f (.func 111) [.p (h _ fun _ => ut k n w)] [])))], []⟩, fun j => j < K, fun j => K - j, 0, [], k1, trivial, ⟨[], rfl, rfl, trivial, ?_, ?_, ?_, trivial⟩, ?_⟩
 ·exact sp
 ·cbv; simp only [hh, g0]
 ·exact sp
 intro j hj
 dsimp only
 have s1 := s.out j
 have y0 : 0 < K - j := by omega
 by_cases hj1 : j + 1 < K
 ·have e' : ¬ g (j + 1) < n := k4.out (j + 1) Y44 hj1
  have e2 : ¬ ((g (j + 1) : Int) < (n : Int)) := by omega
  clear e'
  cbv
  repeat' first
   | exact s0
   | apply And.intro
   | exact sq
   | (refine fun (_ : PUnit) => ?_; simp [hh, *, ut, iP]; done)
   | trivial
   | (refine sz fun e => ?_; simp [hh, e2, ut, iP] at e <;> (try simp only [natc] at *) <;> omega)
   | (refine sy fun e => ?_; cbv)
   | (refine ⟨_, _, _, hC _ _ _ _ s1, ?_⟩; cbv; clear s1)
  refine ⟨j + 1, hj1, by show K - (j + 1) < K - j; omega, ⟨[], rfl, rfl, trivial, ?_, ?_, ?_, trivial⟩⟩
  ·exact sp
  ·exact sp
  ·exact sp
 ·have e' : j + 1 = K := by omega
  rw [e', k2] at s1
  clear e' hj1 hj g0 k2
  cbv
  repeat' first
   | exact s0
   | apply And.intro
   | exact sq
   | (refine fun (_ : PUnit) => ?_; simp [hh, *, ut, iP, k3]; done)
   | trivial
   | (refine sz fun e => ?_; simp [hh, k3, ut, iP] at e <;> (try simp only [natc] at *) <;> omega)
   | (refine sy fun e => ?_; cbv)
   | (refine ⟨_, _, _, hC _ _ _ _ s1, ?_⟩; cbv; clear s1)
theorem qdG (Z : Ad) (h : Hh) (hh : ∀ α g, h α g = g ()) (k : List UInt8) (n x : Nat) (hn : n <= 1048576) (hx : x < n) : qb Z 65 [.pv (.p (h _ fun _ => ut k n (jd n))), .pv (nH h x)] (.tup [.pv (nH h (qH k n x)), .pv (.v .nilIface)]) [.any, .any] := by
 have c1 := qac Z h hh k n x hn hx
 obtain ⟨w, hw'⟩ : ∃ w, jd n = w := ⟨_, rfl⟩
 obtain ⟨p, hp⟩ := exq (qH k n x)
 rw [hp] at c1 ⊢
 rw [hw'] at c1 ⊢
 refine qh Z h hh ⟨Tryz.func65, Tryz.ntmps65⟩ rfl rfl rfl rfl rfl fun C hC => ?_
 unfold Tryz.f65
 cbv
 repeat' first
  | exact s0
  | apply And.intro
  | exact sq
  | trivial
  | exact sx
  | (refine sy fun e => ?_; cbv)
  | (refine ⟨_, _, _, hC _ _ _ _ c1, ?_⟩; cbv; clear c1)
theorem qcd (Z : Ad) (h : Hh) (hh : ∀ α g, h α g = g ()) (k : List UInt8) (n : Nat) (hk : k.length <= 100000000) (h1 : 1 <= n) (h2 : n <= 1048576) : qb Z 109 [.pv (bH h k), .pv (nH h n)] (.tup [.pv (.p (h _ fun _ => ut k n (jd n))), .pv (.v .nilIface)]) [.any, .any] := by
 have c1 := yw Z h hh k hk
 have z1 : ¬ (n : Int) < 1 := by omega
 have z2 : ¬ (1048576 : Int) < (n : Int) := by omega
 refine qh Z h hh ⟨Tryz.func109, Tryz.ntmps109⟩ rfl rfl rfl rfl rfl fun C hC => ?_
 unfold Tryz.f109
 cbv
 repeat' first
  | exact s0
  | apply And.intro
  | exact sq
  | trivial
  | (refine sz fun e => ?_; simp [hh, z1, z2] at e <;> (try simp only [natc] at *) <;> omega)
  | (refine sy fun e => ?_; cbv)
 refine ⟨Nat, fun j => ⟨[(0, some (.pv (bH h k))), (1, some (.pv (nH h n))), (6, some (.pv (nH h (j + 1))))], []⟩, fun j => j <= 10 /\ ur (10 - j) (j + 1) n = jd n, fun j => 10 - j, 0, [], ⟨by omega, rfl⟩, trivial, ⟨[], rfl, rfl, trivial, ?_, ?_, ?_, trivial⟩, ?_⟩
 ·exact sp
 ·exact sp
 ·exact sp
 intro j hj
 dsimp only
 obtain ⟨j1, j2⟩ := hj
 have q4 : (4 : Nat) ^ (j + 1) <= 4 ^ 11 := Nat.pow_le_pow_right Y76 Y44
 have q5 : (2 : Nat) ^ (2 * (j + 1)) = 4 ^ (j + 1) := by rw [Nat.pow_mul]
 obtain ⟨w, hw⟩ := exq (j + 1)
 have w1 : IntKind.i64.wrap (2 * (w : Int)) = ((2 * w : Nat) : Int) := by rw [wrap_i64 Y44 Y44]; omega
 obtain ⟨w2, hw2⟩ := exq (2 * w)
 rw [hw] at q4 q5 j2 ⊢
 rw [hw2] at w1 q5
 obtain ⟨F4, hF⟩ := exq (4 ^ w)
 have w3 : IntKind.i64.wrap (2 ^ min w2 IntKind.i64.bits) = (F4 : Int) := by rw [XD w2 Y44 .i64 rfl, XH, q5, hF, wrap_i64 Y44 Y44]; 
 have w5 : 0 <= w2 := Nat.zero_le _
 by_cases hlt : 4 ^ w < n
 ·have j3 : j < 10 := by
   rcases Nat.lt_or_ge j 10 with q | q
   ·exact q
   ·have : w = 11 := by omega
    subst this
    exact absurd hlt Y44
  rw [show 10 - j = (10 - (j + 1)) + 1 by omega, vp hlt] at j2
  have i1 : IntKind.i64.wrap ((w : Int) + 1) = ((w + 1 : Nat) : Int) := by rw [wrap_i64 Y44 Y44]; omega
  have j2' : ur (10 - (j + 1)) (j + 1 + 1) n = jd n := by rw [<- hw] at j2; exact j2
  have i2 : j + 1 + 1 = w + 1 := by omega
  replace j2' := Hdq j2'
  have hlt' : (F4 : Int) < (n : Int) := by rw [<- hF]; exact Int.ofNat_lt.2 hlt
  replace hw := Hdq hw
  replace i2 := Hdq i2
  clear j2 hlt hF q4 q5 hw2
  cbv
  repeat' first
   | exact s0
   | apply And.intro
   | exact sq
   | (refine fun (_ : PUnit) => ?_; simp [hh, *, w1, w3]; done)
   | trivial
   | (refine sz fun e => ?_; simp [hh, w1, w3, hlt'] at e <;> (try simp only [natc] at *) <;> omega)
   | (refine sy fun e => ?_; cbv)
  refine ⟨j + 1, ⟨j3, j2'.out⟩, by show 10 - (j + 1) < 10 - j; omega, ⟨[], rfl, rfl, trivial, ?_, ?_, ?_, trivial⟩⟩
  ·exact sp
  ·exact sp
  ·cbv; simp only [hh, nI, i2.out, i1]
 ·rw [uV hlt] at j2
  have hlt' : ¬ (F4 : Int) < (n : Int) := by rw [<- hF]; exact fun q => hlt (Int.ofNat_lt.1 q)
  rw [<- j2]
  clear j2 hlt hF q4 q5 hw2 hw
  cbv
  repeat' first
   | exact s0
   | apply And.intro
   | exact sq
   | (refine fun (_ : PUnit) => ?_; simp [hh, *, w1, w3, ut, iP]; done)
   | trivial
   | (refine sz fun e => ?_; simp [hh, w1, w3, hlt'] at e <;> (try simp only [natc] at *) <;> omega)
   | (refine sy fun e => ?_; cbv)
   | (refine ⟨_, _, _, hC _ _ _ _ c1, ?_⟩; cbv; clear c1)
end Go.Bl
namespace Go.Bl
open Go.RowKit Go.Proofs
attribute [local irreducible] qw
open Go.Proofs.YtnafknkchbfpaaaGreatDoor (Par chk blk jj jG jQ qc QV qi jU qx qV jI jw sdE qH vo jD beK Jg qbM keyBad_zero)
@[simp] theorem cells_p (x : List PV) : (PV.p x).cells = [.p x] := rfl
theorem qdX {α : Type} {l : List α} {i : Nat} {x : α} (h : l[i]? = some x) : ∀ q : i < l.length, l[i]'q = x := fun q => by rwa [List.getElem?_eq_getElem q, Option.some_inj] at h
theorem qdK (Z : Ad) (h : Hh) (hh : ∀ α g, h α g = g ()) (k : List UInt8) (i : Int) (hk : k.length <= 100000000) (hi : 0 <= i /\ i <= 1099511627776) : qb Z 113 [.pv (bH h k), .pv (iH h i)] (.tup [.pv (.a [.p (h _ fun _ => vZ k)]), .pv (.v .nilIface)]) [.any, .any] := by
 have c1 := Wj Z h hh i
 rw [decide_eq_true hi] at c1
 have c2 := yw Z h hh k hk
 refine qh Z h hh ⟨Tryz.func113, Tryz.ntmps113⟩ rfl rfl rfl rfl rfl fun C hC => ?_
 unfold Tryz.f113
 cbv
 repeat' first
  | exact s0
  | apply And.intro
  | exact sq
  | trivial
  | exact sx
  | (refine sy fun e => ?_; cbv)
  | (refine ⟨_, _, _, hC _ _ _ _ c1, ?_⟩; cbv; clear c1)
  | (refine ⟨_, _, _, hC _ _ _ _ c2, ?_⟩; cbv; clear c2)
theorem W0 (Z : Ad) (h : Hh) (hh : ∀ α g, h α g = g ()) (k : List UInt8) (i : Int) (hk : k.length <= 100000000) (hi : 0 <= i /\ i <= 1099511627776) : qb Z 67 [.pv (bH h k), .pv (iH h i)] (.tup [.own 5 1 (h _ fun _ => (jD k i).map u8P), .pv (.v .nilIface)]) [.any, .any] := by
 have c1 := qdK Z h hh k i hk hi
 have c2 := ZO Z h hh k i
 refine qh Z h hh ⟨Tryz.func67, Tryz.ntmps67⟩ rfl rfl rfl rfl rfl fun C hC => ?_
 unfold Tryz.f67
 cbv
 repeat' first
  | exact s0
  | apply And.intro
  | exact sq
  | trivial
  | exact sx
  | (refine sy fun e => ?_; cbv)
  | (refine ⟨_, _, _, hC _ _ _ _ c1, ?_⟩; cbv; clear c1)
  | (refine ⟨_, _, _, hC _ _ _ _ c2, ?_⟩; cbv; clear c2)
def uA (m : List UInt8) (n : Int) (N : Nat) (B : Int) : List PV := [bP (qi m jU n), bP (qi m qx n), bP (qi m qV n), bP (qi m jI n), bP (qi m jw n), .p (ut (qi m qx n) N (jd N)), .p (vZ (qi m jI n)), iP B, iP N]
theorem XA (Z : Ad) (h : Hh) (hh : ∀ α g, h α g = g ()) (m : List UInt8) (n : Int) (p : Par) (N : Nat) (hc : chk p = 0) (hkb : qc m n = 0) (hN : (N : Int) = blk p.size + p.sent) : qb Z 64 [.pv (bH h m), .pv (iH h n), .pv (zX h p)] (.tup [.pv (.p (h _ fun _ => uA m n N (blk p.size))), .pv (.v .nilIface)]) [.any, .any, .any] := by
 have c1 := j6 Z h hh p hc
 rw [<- hN] at c1
 have c2 := yO Z h hh m n hkb
 obtain ⟨l1, l2, l3, l4⟩ := Zb Z h hh hc
 have l5 := qbM (QV hc).1
 have c3 := qcd Z h hh (qi m qx n) N (by rw [Jg]; decide) Y44 Y44
 have c4 := yw Z h hh (qi m jI n) (by rw [Jg]; decide)
 have w1 : IntKind.i64.wrap ((N : Int) - p.sent) = blk p.size := by rw [wrap_i64 Y44 Y44]; omega
 unfold uA
 obtain ⟨a1, e1⟩ := exq (qi m jU n)
 obtain ⟨a2, e2⟩ := exq (qi m qx n)
 obtain ⟨a3, e3⟩ := exq (qi m qV n)
 obtain ⟨a4, e4⟩ := exq (qi m jI n)
 obtain ⟨a5, e5⟩ := exq (qi m jw n)
 obtain ⟨a6, e6⟩ := exq (jd N)
 obtain ⟨B, e7⟩ := exq (blk p.size)
 rw [e1, e2, e3, e4, e5] at c2
 rw [e2, e6] at c3
 rw [e4] at c4
 rw [e7] at w1
 rw [e1, e2, e3, e4, e5, e6, e7]
 clear e1 e2 e3 e4 e5 e6 e7 l1 l2 l3 l4 l5 hN hc hkb
 refine qh Z h hh ⟨Tryz.func64, Tryz.ntmps64⟩ rfl rfl rfl rfl rfl fun C hC => ?_
 unfold Tryz.f64
 cbv
 repeat' first
  | exact s0
  | apply And.intro
  | exact sq
  | (refine fun (_ : PUnit) => ?_; simp [hh, *, splice, bP, iP, ut, w1]; done)
  | trivial
  | (refine sz fun e => ?_; simp [hh, w1] at e <;> (try simp only [natc] at *) <;> omega)
  | (refine sy fun e => ?_; cbv)
  | (refine ⟨_, _, _, hC _ _ _ _ c1, ?_⟩; cbv; clear c1)
  | (refine ⟨_, _, _, hC _ _ _ _ c2, ?_⟩; cbv; clear c2)
  | (refine ⟨_, _, _, hC _ _ _ _ c3, ?_⟩; cbv; clear c3)
  | (refine ⟨_, _, _, hC _ _ _ _ c4, ?_⟩; cbv; clear c4)
theorem qas (Z : Ad) (h : Hh) (hh : ∀ α g, h α g = g ()) (m : List UInt8) (n : Int) (N : Nat) (B : Int) (x : Int) (b : List UInt8) (hb : b.length <= 100000) : qb Z 68 [.pv (.p (h _ fun _ => uA m n N B)), .pv (iH h x), .pv (bH h b)] (.own 5 1 (h _ fun _ => (vo (qi m jI n) x b).map u8P)) [.any, .any, .any] := by
 have c1 := xY Z h hh x
 have c2 := qcQ Z h hh (qi m jI n) [beK 8 x, b] Y77 Y77 (by simp [Go.Proofs.YtnafknkchbfpaaaGreatDoor.beK_len]; omega)
 obtain ⟨tg, ht⟩ := exq (xh (qi m jI n) [beK 8 x, b].flatten)
 have lt : tg.length = 8 := by rw [<- ht, vV]
 have e : vo (qi m jI n) x b = [b, tg].flatten := by rw [vo, <- ht]; simp
 rw [ht] at c2
 rw [e]
 have c3 := Z3 Z h hh [b, tg] Y77 (by simp [lt]; omega)
 obtain ⟨V, hV⟩ := exq ([b, tg].flatten)
 rw [hV] at c3 ⊢
 obtain ⟨nb, hnb⟩ := exq (beK 8 x)
 rw [hnb] at c1 c2
 have hm : (uA m n N B)[6]? = some (.p (vZ (qi m jI n))) := rfl
 have hml : (uA m n N B).length = 9 := rfl
 obtain ⟨K, hK⟩ := exq (qi m jI n)
 rw [hK] at c2 hm
 obtain ⟨M, hM⟩ := exq (uA m n N B)
 rw [hM] at hm hml ⊢
 replace hm := qdX hm
 clear hM hK hnb hV e ht
 refine qh Z h hh ⟨Tryz.func68, Tryz.ntmps68⟩ rfl rfl rfl rfl rfl fun C hC => ?_
 unfold Tryz.f68
 cbv
 repeat' first
  | exact s0
  | apply And.intro
  | exact sq
  | (refine fun (_ : PUnit) => ?_; simp [hh, *, hm, bP]; done)
  | trivial
  | exact sx
  | (refine sy fun e => ?_; cbv)
  | (refine ⟨_, _, _, hC _ _ _ _ c1, ?_⟩; cbv; clear c1)
  | (refine ⟨_, _, _, hC _ _ _ _ c2, ?_⟩; cbv; clear c2)
  | (refine ⟨_, _, _, hC _ _ _ _ c3, ?_⟩; cbv; clear c3)
theorem QQ (Z : Ad) (h : Hh) (hh : ∀ α g, h α g = g ()) (m : List UInt8) (n j : Int) (p : Par) (hs : sdE p m n = 0) (hj : 0 <= j /\ j < p.sent) :
  qb Z 21 [.pv (bH h m), .pv (iH h n), .pv (zX h p), .pv (iH h j)] (.tup [.pv (nH h (qH (qi m qx n) (blk p.size + p.sent).toNat ((blk p.size).toNat + j.toNat))),
   .own 5 1 (h _ fun _ => (vo (qi m jI n) ((qH (qi m qx n) (blk p.size + p.sent).toNat ((blk p.size).toNat + j.toNat) : Nat) : Int) (jD (qi m qV n) j)).map u8P), .pv (.v .nilIface)]) [.any, .any, .any, .any] := by
 have hc : chk p = 0 := by unfold sdE at hs; split at hs <;> omega
 have hkb : qc m n = 0 := by unfold sdE at hs; rw [if_neg Y44] at hs; exact hs
 obtain ⟨l1, l2, l3, l4⟩ := Zb Z h hh hc
 obtain ⟨N, hN⟩ := exq ((blk p.size + p.sent).toNat)
 obtain ⟨x, hx⟩ := exq ((blk p.size).toNat + j.toNat)
 rw [hN, hx]
 have c1 := XA Z h hh m n p N hc hkb Y44
 have c2 := W0 Z h hh (qi m qV n) j (by rw [Jg]; decide) ⟨hj.1, by omega⟩
 have c3 := qdG Z h hh (qi m qx n) N x Y44 Y44
 obtain ⟨pl, hp⟩ := exq (qH (qi m qx n) N x)
 rw [hp] at c3 ⊢
 have c4 := qas Z h hh m n N (blk p.size) (pl : Int) (jD (qi m qV n) j) (by rw [Go.Proofs.YtnafknkchbfpaaaGreatDoor.strL_len]; decide)
 have w1 : IntKind.i64.wrap (blk p.size + j) = (x : Int) := by rw [wrap_i64 Y44 Y44]; omega
 have z1 : ¬ j < 0 := by omega
 have z2 : ¬ p.sent <= j := by omega
 have hml : (uA m n N (blk p.size)).length = 9 := rfl
 have m0 : (uA m n N (blk p.size))[2]? = some (bP (qi m qV n)) := rfl
 have m1 : (uA m n N (blk p.size))[5]? = some (.p (ut (qi m qx n) N (jd N))) := rfl
 have m2 : (uA m n N (blk p.size))[7]? = some (iP (blk p.size)) := rfl
 obtain ⟨M, hM⟩ := exq (uA m n N (blk p.size))
 rw [hM] at m0 m1 m2 hml c1 c4
 obtain ⟨B, hB⟩ := exq (blk p.size)
 rw [hB] at m2 w1
 obtain ⟨V, hV⟩ := exq (vo (qi m jI n) (pl : Int) (jD (qi m qV n) j))
 rw [hV] at c4 ⊢
 obtain ⟨sv, hsv⟩ := exq (jD (qi m qV n) j)
 rw [hsv] at c2 c4
 replace m0 := qdX m0
 replace m1 := qdX m1
 replace m2 := qdX m2
 clear hM hB hV hsv hp hc hkb hs hN hx l1 l2 l3 l4 hj
 refine qh Z h hh ⟨Tryz.func21, Tryz.ntmps21⟩ rfl rfl rfl rfl rfl fun C hC => ?_
 unfold Tryz.f21
 cbv
 repeat' first
  | exact s0
  | apply And.intro
  | exact sq
  | (refine fun (_ : PUnit) => ?_; simp [hh, *, m0, m1, m2, iP, bP, w1]; done)
  | trivial
  | (refine sz fun e => ?_; simp [hh, z1, z2] at e <;> (try simp only [natc] at *) <;> omega)
  | (refine sy fun e => ?_; cbv)
  | (refine ⟨_, _, _, hC _ _ _ _ c1, ?_⟩; cbv; clear c1)
  | (refine ⟨_, _, _, hC _ _ _ _ c2, ?_⟩; cbv; clear c2)
  | (refine ⟨_, _, _, hC _ _ _ _ c3, ?_⟩; cbv; clear c3)
  | (refine ⟨_, _, _, hC _ _ _ _ c4, ?_⟩; cbv; clear c4)
theorem VC (Z : Ad) (h : Hh) (hh : ∀ α g, h α g = g ()) (m : List UInt8) (n j : Int) (p : Par) (hs : sdE p m n = 0) (hj : ¬ (0 <= j /\ j < p.sent)) :
  qb Z 21 [.pv (bH h m), .pv (iH h n), .pv (zX h p), .pv (iH h j)] (.tup [.pv (iH h 0), .pv (bH h []), .pv (qY Z 18)]) [.any, .any, .any, .any] := by
 have hc : chk p = 0 := by unfold sdE at hs; split at hs <;> omega
 have hkb : qc m n = 0 := by unfold sdE at hs; rw [if_neg Y44] at hs; exact hs
 obtain ⟨l1, l2, l3, l4⟩ := Zb Z h hh hc
 have c1 := XA Z h hh m n p (blk p.size + p.sent).toNat hc hkb Y44
 obtain ⟨M, hM⟩ := exq (uA m n (blk p.size + p.sent).toNat (blk p.size))
 rw [hM] at c1
 clear hM hs hc hkb l1 l2 l3 l4
 by_cases z1 : j < 0
 ·clear hj
  refine qh Z h hh ⟨Tryz.func21, Tryz.ntmps21⟩ rfl rfl rfl rfl rfl fun C hC => ?_
  unfold Tryz.f21
  cbv
  repeat' first
   | exact s0
   | apply And.intro
   | exact sq
   | trivial
   | (refine sz fun e => ?_; simp [hh, z1] at e <;> (try simp only [natc] at *) <;> omega)
   | (refine sy fun e => ?_; cbv)
   | (refine ⟨_, _, _, hC _ _ _ _ c1, ?_⟩; cbv; clear c1)
 ·have z2 : p.sent <= j := by omega
  clear hj
  refine qh Z h hh ⟨Tryz.func21, Tryz.ntmps21⟩ rfl rfl rfl rfl rfl fun C hC => ?_
  unfold Tryz.f21
  cbv
  repeat' first
   | exact s0
   | apply And.intro
   | exact sq
   | trivial
   | (refine sz fun e => ?_; simp [hh, z1, z2] at e <;> (try simp only [natc] at *) <;> omega)
   | (refine sy fun e => ?_; cbv)
   | (refine ⟨_, _, _, hC _ _ _ _ c1, ?_⟩; cbv; clear c1)
end Go.Bl
namespace Go.Bl
open Go.RowKit Go.Proofs
attribute [local irreducible] qw
open Go.Proofs.YtnafknkchbfpaaaGreatDoor (Par chk blk jj jG jQ qc qi jU qx qV jI jw sdE qH vo jD)
theorem ue {p : Par} (h : chk p = 0) : jj p 0 /\ jj p 1 /\ jj p 2 := by
 unfold chk at h
 split at h
 ·cases h
 ·rename_i h0
  split at h
  ·cases h
  ·rename_i h1
   split at h
   ·cases h
   ·rename_i h2
    exact ⟨Classical.not_not.1 h0, Classical.not_not.1 h1, Classical.not_not.1 fun q => h2 (.inl q)⟩
def vw (m : List UInt8) (x : qD) (e : qz) : List Int := VY (qi m jw x.num) e.idx.toNat (blk x.par.size + x.par.sent).toNat x.par.spots.toNat
def Up (m : List UInt8) (x : qD) (e : qz) : Nat := qH (qi m qx x.num) (blk x.par.size + x.par.sent).toNat ((blk x.par.size).toNat + e.idx.toNat)
theorem KY (m nm : List UInt8) (n : Int) : (qi m nm n).length <= 100000000 := by
 have : (qi m nm n).length = 32 := zo _ _
 omega
theorem JX (Z : Ad) (h : Hh) (hh : ∀ α g, h α g = g ()) (m : List UInt8) (x : qD) (e : qz) (lr : x.root.length = 32) (lf : x.file.length = 32) (hc : chk x.par = 0) (hk : qc m x.num = 0) (hw : e.way = 1) (hi : 0 <= e.idx /\ e.idx <= 1073741824) : qb Z 37 [.pv (bH h m), .pv (qj h x), .pv (qk h e)] (.tup [.pv (lH h iP (vw m x e)), .pv (.v .nilIface)]) [.any, .any, .any] := by
 obtain ⟨z0, z1, z2⟩ := ue hc
 have zb := Go.Proofs.YtnafknkchbfpaaaGreatDoor.blk_le (p := x.par) z0
 have z1' : 0 <= x.par.sent /\ x.par.sent <= 8 := z1
 have z2' : 1 <= x.par.spots /\ x.par.spots <= min 12 (blk x.par.size + x.par.sent) := z2
 have c1 := j6 Z h hh x.par hc
 have c2 := yO Z h hh m x.num hk
 have il := qv lr lf
 obtain ⟨n, hn⟩ := Int.eq_ofNat_of_zero_le (a := blk x.par.size + x.par.sent) Y44
 obtain ⟨s, hs⟩ := Int.eq_ofNat_of_zero_le (a := x.par.spots) Y44
 obtain ⟨r, hr⟩ := Int.eq_ofNat_of_zero_le (a := e.idx) hi.1
 have c3 := qaO Z h hh (qi m jw x.num) r n s (KY _ _ _) Y44 Y44 Y44
 rw [show VY (qi m jw x.num) r n s = vw m x e by rw [vw, hn, hs, hr]; rfl] at c3
 obtain ⟨l, hl⟩ := exq (vw m x e)
 rw [hl] at c3 ⊢
 rw [hn] at c1
 clear hi hc hk z0 z1 z2 z1' z2' zb hl hn
 refine qh Z h hh ⟨Tryz.func37, Tryz.ntmps37⟩ rfl rfl rfl rfl rfl fun C hC => ?_
 unfold Tryz.f37
 cbv
 repeat' first
  | exact s0
  | apply And.intro
  | exact sq
  | (refine fun (_ : PUnit) => ?_; simp [hh, *, qd]; done)
  | trivial
  | (refine sz fun e => ?_; simp [hh, hw] at e <;> (try simp only [natc] at *) <;> omega)
  | (refine sy fun e => ?_; cbv)
  | (refine ⟨_, _, _, hC _ _ _ _ c1, ?_⟩; cbv; clear c1)
  | (refine ⟨_, _, _, hC _ _ _ _ c2, ?_⟩; cbv; clear c2)
  | (refine ⟨_, _, _, hC _ _ _ _ c3, ?_⟩; cbv; clear c3)
theorem Kw (Z : Ad) (h : Hh) (hh : ∀ α g, h α g = g ()) (m : List UInt8) (x : qD) (e : qz) (lr : x.root.length = 32) (lf : x.file.length = 32) (hc : chk x.par = 0) (hk : qc m x.num = 0) (hw : e.way = 1) (hi : ¬ (0 <= e.idx /\ e.idx <= 1073741824)) : qb Z 37 [.pv (bH h m), .pv (qj h x), .pv (qk h e)] (.tup [.pv (lH h iP []), .pv (qY Z 1)]) [.any, .any, .any] := by
 have c1 := j6 Z h hh x.par hc
 have c2 := yO Z h hh m x.num hk
 have il := qv lr lf
 have c3 := Ld Z h hh (qi m jw x.num) e.idx (blk x.par.size + x.par.sent) x.par.spots (by
  rcases Int.lt_or_le e.idx 0 with q | q
  ·simp [q]
  ·have : 1073741824 < e.idx := by omega
   simp [this])
 obtain ⟨n, hn⟩ := exq (blk x.par.size + x.par.sent)
 rw [hn] at c1 c3
 clear hi hc hk hn
 refine qh Z h hh ⟨Tryz.func37, Tryz.ntmps37⟩ rfl rfl rfl rfl rfl fun C hC => ?_
 unfold Tryz.f37
 cbv
 repeat' first
  | exact s0
  | apply And.intro
  | exact sq
  | (refine fun (_ : PUnit) => ?_; simp [hh, *, qd]; done)
  | trivial
  | (refine sz fun e => ?_; simp [hh, hw] at e <;> (try simp only [natc] at *) <;> omega)
  | (refine sy fun e => ?_; cbv)
  | (refine ⟨_, _, _, hC _ _ _ _ c1, ?_⟩; cbv; clear c1)
  | (refine ⟨_, _, _, hC _ _ _ _ c2, ?_⟩; cbv; clear c2)
  | (refine ⟨_, _, _, hC _ _ _ _ c3, ?_⟩; cbv; clear c3)
theorem XN (Z : Ad) (h : Hh) (hh : ∀ α g, h α g = g ()) (m : List UInt8) (x : qD) (e : qz) (lr : x.root.length = 32) (lf : x.file.length = 32) (hc : chk x.par = 0) (hk : qc m x.num = 0) (hw : e.way = 2) (hi : 0 <= e.idx /\ e.idx < x.par.sent) : qb Z 37 [.pv (bH h m), .pv (qj h x), .pv (qk h e)] (.tup [.pv (lH h iP [(Up m x e : Int)]), .pv (.v .nilIface)]) [.any, .any, .any] := by
 have c1 := j6 Z h hh x.par hc
 have c2 := yO Z h hh m x.num hk
 have il := qv lr lf
 have c3 := QQ Z h hh m x.num e.idx x.par (by unfold sdE; rw [if_neg Y44]; exact hk) hi
 obtain ⟨tg, htg⟩ := exq (vo (qi m jI x.num) ((qH (qi m qx x.num) (blk x.par.size + x.par.sent).toNat ((blk x.par.size).toNat + e.idx.toNat) : Nat) : Int) (jD (qi m qV x.num) e.idx))
 rw [htg] at c3
 clear htg
 obtain ⟨pl, hpl⟩ := exq (Up m x e)
 rw [show qH (qi m qx x.num) (blk x.par.size + x.par.sent).toNat ((blk x.par.size).toNat + e.idx.toNat) = pl from hpl] at c3
 rw [hpl]
 obtain ⟨n, hn⟩ := exq (blk x.par.size + x.par.sent)
 rw [hn] at c1
 clear hi hc hk hpl hn
 refine qh Z h hh ⟨Tryz.func37, Tryz.ntmps37⟩ rfl rfl rfl rfl rfl fun C hC => ?_
 unfold Tryz.f37
 cbv
 repeat' first
  | exact s0
  | apply And.intro
  | exact sq
  | (refine fun (_ : PUnit) => ?_; simp [hh, *, qd]; done)
  | trivial
  | (refine sz fun e => ?_; simp [hh, hw] at e <;> (try simp only [natc] at *) <;> omega)
  | (refine sy fun e => ?_; cbv)
  | (refine ⟨_, _, _, hC _ _ _ _ c1, ?_⟩; cbv; clear c1)
  | (refine ⟨_, _, _, hC _ _ _ _ c2, ?_⟩; cbv; clear c2)
  | (refine ⟨_, _, _, hC _ _ _ _ c3, ?_⟩; cbv; clear c3)
theorem KI (Z : Ad) (h : Hh) (hh : ∀ α g, h α g = g ()) (m : List UInt8) (x : qD) (e : qz) (lr : x.root.length = 32) (lf : x.file.length = 32) (hc : chk x.par = 0) (hk : qc m x.num = 0) (hw : e.way = 2) (hi : ¬ (0 <= e.idx /\ e.idx < x.par.sent)) : qb Z 37 [.pv (bH h m), .pv (qj h x), .pv (qk h e)] (.tup [.pv (lH h iP []), .pv (qY Z 18)]) [.any, .any, .any] := by
 have c1 := j6 Z h hh x.par hc
 have c2 := yO Z h hh m x.num hk
 have il := qv lr lf
 have c3 := VC Z h hh m x.num e.idx x.par (by unfold sdE; rw [if_neg Y44]; exact hk) hi
 obtain ⟨n, hn⟩ := exq (blk x.par.size + x.par.sent)
 rw [hn] at c1
 clear hi hc hk hn
 refine qh Z h hh ⟨Tryz.func37, Tryz.ntmps37⟩ rfl rfl rfl rfl rfl fun C hC => ?_
 unfold Tryz.f37
 cbv
 repeat' first
  | exact s0
  | apply And.intro
  | exact sq
  | (refine fun (_ : PUnit) => ?_; simp [hh, *, qd]; done)
  | trivial
  | (refine sz fun e => ?_; simp [hh, hw] at e <;> (try simp only [natc] at *) <;> omega)
  | (refine sy fun e => ?_; cbv)
  | (refine ⟨_, _, _, hC _ _ _ _ c1, ?_⟩; cbv; clear c1)
  | (refine ⟨_, _, _, hC _ _ _ _ c2, ?_⟩; cbv; clear c2)
  | (refine ⟨_, _, _, hC _ _ _ _ c3, ?_⟩; cbv; clear c3)
theorem Wv (Z : Ad) (h : Hh) (hh : ∀ α g, h α g = g ()) (m : List UInt8) (x : qD) (e : qz) (lr : x.root.length = 32) (lf : x.file.length = 32) (hc : chk x.par = 0) (hk : qc m x.num = 0) (h1 : e.way ≠ 1) (h2 : e.way ≠ 2) : qb Z 37 [.pv (bH h m), .pv (qj h x), .pv (qk h e)] (.tup [.pv (lH h iP []), .pv (qY Z 7)]) [.any, .any, .any] := by
 have c1 := j6 Z h hh x.par hc
 have c2 := yO Z h hh m x.num hk
 have il := qv lr lf
 obtain ⟨n, hn⟩ := exq (blk x.par.size + x.par.sent)
 rw [hn] at c1
 clear hc hk hn
 refine qh Z h hh ⟨Tryz.func37, Tryz.ntmps37⟩ rfl rfl rfl rfl rfl fun C hC => ?_
 unfold Tryz.f37
 cbv
 repeat' first
  | exact s0
  | apply And.intro
  | exact sq
  | (refine fun (_ : PUnit) => ?_; simp [hh, *, qd]; done)
  | trivial
  | (refine sz fun e => ?_; simp [hh, h1, h2] at e <;> (try simp only [natc] at *) <;> omega)
  | (refine sy fun e => ?_; cbv)
  | (refine ⟨_, _, _, hC _ _ _ _ c1, ?_⟩; cbv; clear c1)
  | (refine ⟨_, _, _, hC _ _ _ _ c2, ?_⟩; cbv; clear c2)
end Go.Bl
