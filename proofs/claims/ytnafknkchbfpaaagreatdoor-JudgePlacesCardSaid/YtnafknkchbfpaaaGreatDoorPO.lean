import Derived.Test.YtnafknkchbfpaaaGreatDoorPM
import Derived.Test.YtnafknkchbfpaaaGreatDoorPN
set_option linter.unusedVariables false
set_option linter.unusedSimpArgs false
set_option maxRecDepth 1000000
set_option maxHeartbeats 8000000
namespace Go.Bl
open Go.RowKit Go.Proofs
attribute [local irreducible] qH
def qbr (Z : Ad) (k : Nat) : PV := if k = 0 then .v .nilIface else jw Z k
end Go.Bl
namespace Go.Proofs.YtnafknkchbfpaaaGreatDoor
open Go.RowKit Go.Bl Go.Extern.Stop Go.Stop Go.Extern
theorem Um (pb o : Nat) (b : Addr) (w : World) (h1 : w.cell? ⟨pb, o + 2, none⟩ = some (.iface 317 (.pointer (some b)))) :
  Calls Tryz.prog 60 #[.iface 204 (.pointer (some ⟨pb, o, none⟩)), .iface 317 (.pointer (some b))] w fun e w' => e = .returned (.bool true) /\ w = w' := by
 have tT := Tryz.typeOfE
 have cT := Tryz.comparableE
 have mR := Tryz.methodE
 have nW := Tryz.noIsW
 have uW := Tryz.hasUnW
 have mU := Tryz.methodUnW
 have hty := Tryz.neqTy b (.pointer (some ⟨pb, o, none⟩)) w
 have heq := Xv b w
 exact Y57
theorem Zs (pb o : Nat) (b a : Addr) (ca cb : Array Value) (ta tb : TypeId) (w : World) (h1 : w.cell? ⟨pb, o + 2, none⟩ = some (.iface 317 (.pointer (some a)))) (hne : a ≠ b) (ha : w.heap[a.block]? = some (.cells ca ta (0, 0))) (hb : w.heap[b.block]? = some (.cells cb tb (0, 0))) :
  Calls Tryz.prog 60 #[.iface 204 (.pointer (some ⟨pb, o, none⟩)), .iface 317 (.pointer (some b))] w fun e w' => e = .returned (.bool false) /\ w = w' := by
 have tT := Tryz.typeOfE
 have cT := Tryz.comparableE
 have mR := Tryz.methodE
 have nE := Tryz.noIsE
 have uE := Tryz.noUnE
 have vE := Tryz.noUnsE
 have nW := Tryz.noIsW
 have uW := Tryz.hasUnW
 have mU := Tryz.methodUnW
 have hty := Tryz.neqTy b (.pointer (some ⟨pb, o, none⟩)) w
 have heq := Ux a b ca cb ta tb w hne ha hb
 clear hne ha hb
 exact Y57
theorem num_wrapO (E : Nat -> Addr) (B k : Nat) (w : World) (hE : zJ all20 E B w) (hk : k ∈ all20) (pb o : Nat) (c0 : Array Value) (e0 : TypeId) (fz0 : Nat × Nat) (hpb : w.heap[pb]? = some (.cells c0 e0 fz0)) (hpc : c0[o + 2]? = some (.iface 317 (.pointer (some (E k))))) :
  Calls Tryz.prog 15 #[.iface 204 (.pointer (some ⟨pb, o, none⟩))] w fun e w' => e = .returned (.int .i64 k) /\ Fr [] w w' := by
 have c1 := hE.cell 1 qa
 have c2 := hE.cell 2 qa
 have c3 := hE.cell 3 qa
 have c4 := hE.cell 4 qa
 have c5 := hE.cell 5 qa
 have c6 := hE.cell 6 qa
 have c7 := hE.cell 7 qa
 have c8 := hE.cell 8 qa
 have c9 := hE.cell 9 qa
 have c10 := hE.cell 10 qa
 have c11 := hE.cell 11 qa
 have c12 := hE.cell 12 qa
 have c13 := hE.cell 13 qa
 have c14 := hE.cell 14 qa
 have c15 := hE.cell 15 qa
 have c16 := hE.cell 16 qa
 have c17 := hE.cell 17 qa
 have c18 := hE.cell 18 qa
 have c19 := hE.cell 19 qa
 have c20 := hE.cell 20 qa
 simp only [gOf, List.getD_eq_getElem?_getD, List.getElem?_cons_zero, List.getElem?_cons_succ, Option.getD_some] at c1 c2 c3 c4 c5 c6 c7 c8 c9 c10 c11 c12 c13 c14 c15 c16 c17 c18 c19 c20
 have HE := Hdq hE
 have HPB := Hdq hpb
 have hk1 : 1 <= k /\ k <= 20 := by
  have : ∀ k ∈ all20, 1 <= k /\ k <= 20 := by decide
  exact this k hk
 clear hE hk hpb
 go_enter Tryz.func15, Tryz.ntmps15
 go_wp2
 clear c1 c2 c3 c4 c5 c6 c7 c8 c9 c10 c11 c12 c13 c14 c15 c16 c17 c18 c19 c20
 have hcell : ∀ n, n < 20 -> (w.alloc (.cells (zw E).toArray 33)).cell? ⟨w.heap.size, n, none⟩ = some (.iface 317 (.pointer (some (E (n + 1))))) := fun n hn => by
  rw [World.cell?_alloc_new]
  simpa using JB E n hn
 have HE1 := Hdq (HE.out.keep0 (Fr.alloc w (.cells (zw E).toArray 33)))
 have HF := Hdq (Fr.alloc (S := []) w (.cells (zw E).toArray 33))
 obtain ⟨w1, hw1⟩ : ∃ w1, w1 = w.alloc (.cells (zw E).toArray 33) := ⟨_, rfl⟩
 rw [<- hw1] at hcell HE1 HF
 change Code.wp _ _ _ _ (w.alloc (.cells (zw E).toArray 33))
 rw [<- hw1]
 clear hw1 HE
 have hc2 : w1.cell? ⟨pb, o + 2, none⟩ = some (.iface 317 (.pointer (some (E k)))) := by
  rw [qS (HF.out.keep HPB.out qc)]; exact hpc
 have HC2 := Hdq hc2
 clear hc2 HPB
 go_loop [31] (fun i => ∃ n : Nat, n < k /\ i = .int .i64 n) (fun i => 20 - (intOf i).toNat)
 case atStart => exact ⟨0, by omega, rfl⟩
 case round =>
  obtain ⟨n, hn, rfl⟩ := hrel
  have hc := hcell n Y66
  have hn20 : n < 20 := by omega
  by_cases he : n + 1 = k
  ·subst he
   go_wp2_with (go_at_call 60; refine (Um _ _ _ _ HC2.out).mono ?_; rintro e w' ⟨rfl, rfl⟩)
   go_ret
   exact ⟨rfl, HF.out⟩
  ·have hb1 := HE1.out.blk k (zq k hk1.1 hk1.2)
   have hb2 := HE1.out.blk (n + 1) (zq (n + 1) Y66 Y66)
   have hne := HE1.out.inj k (zq k hk1.1 hk1.2) (n + 1) (zq (n + 1) Y66 Y66) (Ne.symm he)
   obtain ⟨ca, ta, hb1⟩ := hb1
   obtain ⟨cb, tb, hb2⟩ := hb2
   have HI := Hdq (Zs pb o (E (n + 1)) (E k) ca cb ta tb w1 HC2.out hne hb1 hb2)
   clear hb1 hb2 hne
   go_wp2_with (go_at_call 60; refine HI.out.mono ?_; rintro e w' ⟨rfl, rfl⟩)
   go_round
   case rel => exact ⟨n + 1, by omega, by go_num⟩
   case measure => simp [intOf]; omega
end Go.Proofs.YtnafknkchbfpaaaGreatDoor
namespace Go.Proofs.YtnafknkchbfpaaaGreatDoor
open Go.RowKit Go.Bl
end Go.Proofs.YtnafknkchbfpaaaGreatDoor
namespace Go.Bl
open Go.RowKit Go.Proofs
attribute [local irreducible] qH
open Go.Proofs.YtnafknkchbfpaaaGreatDoor (Par chk blk jh jV jD Vh j7 qe)
theorem qel {p : Par} {t : Int} {j0 : Nat} (t3 : 0 <= p.size /\ p.size <= 2000 -> t = blk p.size) (t1 : 0 <= t) (t2 : t <= 510) (hj : j0 < 6) (h2 : ∀ j, j < j0 -> bOk p (IntKind.i64.wrap (t + p.sent)) j) (h3 : ¬ bOk p (IntKind.i64.wrap (t + p.sent)) j0) : chk p = jV j0 := by
 by_cases z0 : j0 = 0
 ·subst z0
  exact jD p 0 qa (fun i hi => by omega) h3
 have h0 : 0 <= p.size /\ p.size <= 2000 := h2 0 Y66
 by_cases z1 : j0 = 1
 ·subst z1
  refine jD p 1 qa (fun i hi => ?_) h3
  obtain rfl : i = 0 := by omega
  exact h0
 have h1 : 0 <= p.sent /\ p.sent <= 8 := h2 1 Y66
 have e := t3 h0
 rw [qj Y66 Y66, e] at h2 h3
 have ok2 : bOk p (blk p.size + p.sent) 2 ↔ jh p 2 := by
  constructor
  ·intro q
   have q' : 1 <= p.spots /\ p.spots <= (if blk p.size + p.sent < 12 then blk p.size + p.sent else 12) := q
   refine ⟨q'.1, ?_⟩
   have := q'.2
   split at this <;> omega
  ·intro q
   have q' : 1 <= p.spots /\ p.spots <= min 12 (blk p.size + p.sent) := q
   refine ⟨q'.1, ?_⟩
   show p.spots <= (if blk p.size + p.sent < 12 then blk p.size + p.sent else 12)
   split <;> omega
 have all : ∀ i, i < 6 -> (bOk p (blk p.size + p.sent) i ↔ jh p i) := fun i hi => by
  have : i = 0 ∨ i = 1 ∨ i = 2 ∨ i = 3 ∨ i = 4 ∨ i = 5 := by omega
  rcases this with rfl | rfl | rfl | rfl | rfl | rfl
  ·exact Iff.rfl
  ·exact Iff.rfl
  ·exact ok2
  ·exact Iff.rfl
  ·exact Iff.rfl
  ·exact Iff.rfl
 exact jD p j0 hj (fun i hi => (all i Y66).1 (h2 i hi)) fun q => h3 ((all j0 hj).2 q)
abbrev wrP (h : Hh) (Z : Ad) (p : Par) (j : Nat) : PV := .i 204 (.p (h _ fun _ => VP Z p j))
theorem qaw (Z : Ad) (h : Hh) (hh : ∀ α g, h α g = g ()) (p : Par) : (chk p = 0 /\ qo Z 72 [.pv (vl h p)] (.pv (.v .nilIface)) [.any]) ∨ ∃ j, j < 6 /\ chk p = jV j /\ chk p ≠ 0 /\ qo Z 72 [.pv (vl h p)] (.pv (wrP h Z p j)) [.any] := by
 obtain ⟨t, k0, t1, t2, t3, ht⟩ := LQ Z h hh p.size
 by_cases hok : ∀ j, j < 6 -> bOk p (IntKind.i64.wrap (t + p.sent)) j
 ·exact .inl ⟨qea (fun q => (t3 q).1) t1 t2 hok, qaP Z h hh p t k0 ht hok⟩
 ·obtain ⟨j0, h1, h2, h3⟩ := UT 6 hok
  have e := qel (fun q => (t3 q).1) t1 t2 h1 h2 h3
  refine .inr ⟨j0, h1, e, ?_, qap Z h hh p t k0 ht j0 h1 h2 h3⟩
  rw [e]
  unfold jV
  split
  ·decide
  ·split <;> decide
theorem qaa (Z : Ad) (h : Hh) (hh : ∀ α g, h α g = g ()) (p : Par) (j : Nat) (c1 : qo Z 72 [.pv (vl h p)] (.pv (wrP h Z p j)) [.any]) : qo Z 82 [.pv (vl h p)] (.tup [.pv (iH h 0), .pv (wrP h Z p j)]) [.any] := by
 refine qD Z h hh ⟨Tryz.func82, Tryz.ntmps82⟩ rfl rfl rfl rfl rfl fun C hC => ?_
 unfold Tryz.f82
 cbv
 repeat' first
  | exact s0
  | apply And.intro
  | exact sq
  | trivial
  | exact sx
  | (refine sy fun e => ?_; cbv)
  | (refine ⟨_, _, _, hC _ _ _ _ c1, ?_⟩; cbv; clear c1)
theorem YB (Z : Ad) (h : Hh) (hh : ∀ α g, h α g = g ()) (p : Par) (j : Nat) (c0 : qo Z 72 [.pv (vl h p)] (.pv (wrP h Z p j)) [.any]) : qo Z 32 [.pv (vl h p)] (.tup [.pv (iH h 0), .pv (wrP h Z p j)]) [.any] := by
 have c1 := qaa Z h hh p j c0
 clear c0
 refine qD Z h hh ⟨Tryz.func32, Tryz.ntmps32⟩ rfl rfl rfl rfl rfl fun C hC => ?_
 unfold Tryz.f32
 cbv
 repeat' first
  | exact s0
  | apply And.intro
  | exact sq
  | trivial
  | exact sx
  | (refine sy fun e => ?_; cbv)
  | (refine ⟨_, _, _, hC _ _ _ _ c1, ?_⟩; cbv; clear c1)
theorem Ky (Z : Ad) (h : Hh) (hh : ∀ α g, h α g = g ()) (k : Nat) (hk : k <= 20) : qo Z 15 [.pv (qbr Z k)] (.pv (nH h k)) [.any] := by
 simp only [nH, nI, hh]
 refine vm (xs := [qbr Z k]) (.int .i64 k) Tryz.func15 rfl rfl (fun A w => .pv (.v rfl)) fun A w us hA he hr => ?_
 cases hr with
 | cons h1 h2 =>
  cases h2
  have e : qbr Z k = .v (j7 Z.e k) := by
   unfold qbr
   split
   ·subst_vars; rfl
   ·rename_i q
    rw [Go.Proofs.YtnafknkchbfpaaaGreatDoor.errv_pos Z.e _ q]
    rfl
  rw [e] at h1
  rw [vB h1]
  exact Go.Proofs.YtnafknkchbfpaaaGreatDoor.num_any Z.e _ k w (ux he) hk
theorem qbu (Z : Ad) (h : Hh) (hh : ∀ α g, h α g = g ()) (p : Par) (j : Nat) : qo Z 15 [.pv (wrP h Z p j)] (.pv (nH h (jV j))) [.any] := by
 simp only [nH, nI, hh]
 refine vm (xs := [wrP h Z p j]) (.int .i64 (jV j)) Tryz.func15 rfl rfl (fun A w => .pv (.v rfl)) fun A w us hA he hr => ?_
 simp only [wrP, hh] at hr
 have hk : jV j ∈ Go.Proofs.YtnafknkchbfpaaaGreatDoor.all20 := by
  unfold jV
  split
  ·decide
  ·split <;> decide
 cases hr with
 | cons h1 h2 =>
  cases h2
  cases h1 with
  | i h1 =>
  cases h1 with
  | p h3 h4 h5 =>
  cases h3 with
  | cons g1 h3 =>
  cases h3 with
  | cons g2 h3 =>
  cases h3 with
  | cons g3 h3 =>
   cases h3
   have e3 := vB g3
   subst e3
   rcases h5 with h5 | ⟨b, off, c, e, fz, ea, -, hb, hc⟩
   ·cases h5
   ·cases ea
    exact Go.Proofs.YtnafknkchbfpaaaGreatDoor.num_wrapO Z.e _ _ w (ux he) hk b off _ _ _ hb (hc 2 qc)
end Go.Bl
namespace Go.Bl
open Go.RowKit Go.Proofs
attribute [local irreducible] qH
open Go.Proofs.YtnafknkchbfpaaaGreatDoor (Par chk blk jh jV j7 qe qp uu qI jI zZ zj sdE)
structure js where
 num : Int
 name : ByteArray
 par : Par
 root : List UInt8
 file : List UInt8
 tick : Int
 kept : Bool
 used : Int
 rounds : Int
def qy (x : js) : List PV := iP x.num :: .v (.string x.name) :: iP x.par.size :: iP x.par.sent :: iP x.par.spots :: iP x.par.per :: iP x.par.pat :: iP x.par.ret :: (x.root.map u8P ++ (x.file.map u8P ++ [iP x.tick, .v (.bool x.kept), iP x.used, iP x.rounds]))
abbrev jp (h : Hh) (x : js) : PV := .a (h _ fun _ => qy x)
structure jf where
 id : Int
 obj : Int
 way : Int
 idx : Int
 tick : Int
 verd : Int
 at' : Int
abbrev qZ (h : Hh) (e : jf) : PV := .a [iH h e.id, iH h e.obj, iH h e.way, iH h e.idx, iH h e.tick, iH h e.verd, iH h e.at']
theorem qE {x : js} (h1 : x.root.length = 32) (h2 : x.file.length = 32) : (qy x).length = 76 := by simp [qy, h1, h2]
theorem Q5 (Z : Ad) (h : Hh) (hh : ∀ α g, h α g = g ()) (m : List UInt8) (n : Int) (hk : qe m n = 0) : qo Z 90 [.pv (bH h m), .pv (iH h n)] (.tup [.pv (.a [bH h (qp m uu n), bH h (qp m qI n), bH h (qp m jI n), bH h (qp m zZ n), bH h (qp m zj n)]), .pv (.v .nilIface)]) [.any, .any] := by
 simp only [bH, lH, iH, hh]
 refine yL (xs := [bP m, iP n]) Tryz.func90 rfl rfl fun A w us hA he hr => ?_
 cases hr with
 | cons h1 hr =>
 cases hr with
 | cons h2 hr =>
  cases hr
  rw [vB h2]
  refine (Go.Proofs.YtnafknkchbfpaaaGreatDoor.all_any Z.e _ w _ m n (ux he) (VM he) (uf h1)).mono ?_
  rintro e w' ⟨u0, u1, u2, u3, u4, rfl, g, -, hf⟩
  obtain ⟨o0, o1, o2, o3, o4⟩ := g hk
  rw [hk]
  have hA' : ∀ b, (A b ∨ b ∈ ([] : List Nat)) -> b < w.heap.size := fun b hb => hA b Y98
  refine ⟨_, [], rfl, .tup (.cons (.pv (.a (us := [u0, u1, u2, u3, u4]) ?_ ?_)) (.cons (.pv (.v rfl)) .nil)), by simp, by simp, hf⟩
  ·exact .cons (vV (o0.bs hA')) (.cons (vV (o1.bs hA')) (.cons (vV (o2.bs hA')) (.cons (vV (o3.bs hA')) (.cons (vV (o4.bs hA')) .nil))))
  ·simp [PV.one]
theorem Wq (Z : Ad) (h : Hh) (hh : ∀ α g, h α g = g ()) (m : List UInt8) (x : js) (e : jf) (lr : x.root.length = 32) (lf : x.file.length = 32) (j : Nat) (c0 : qo Z 72 [.pv (vl h x.par)] (.pv (wrP h Z x.par j)) [.any]) : qo Z 37 [.pv (bH h m), .pv (jp h x), .pv (qZ h e)] (.tup [.pv (lH h iP []), .pv (wrP h Z x.par j)]) [.any, .any, .any] := by
 have c1 := YB Z h hh x.par j c0
 clear c0
 have il := qE lr lf
 refine qD Z h hh ⟨Tryz.func37, Tryz.ntmps37⟩ rfl rfl rfl rfl rfl fun C hC => ?_
 unfold Tryz.f37
 cbv
 repeat' first
  | exact s0
  | apply And.intro
  | exact sq
  | (refine fun (_ : PUnit) => ?_; simp [hh, *, qy]; done)
  | trivial
  | exact sx
  | (refine sy fun e => ?_; cbv)
  | (refine ⟨_, _, _, hC _ _ _ _ c1, ?_⟩; cbv; clear c1)
theorem W6 (Z : Ad) (h : Hh) (hh : ∀ α g, h α g = g ()) (m : List UInt8) (x : js) (e : jf) (lr : x.root.length = 32) (lf : x.file.length = 32) (hc : chk x.par = 0) (hk : qe m x.num ≠ 0) : qo Z 37 [.pv (bH h m), .pv (jp h x), .pv (qZ h e)] (.tup [.pv (lH h iP []), .pv (jw Z (qe m x.num))]) [.any, .any, .any] := by
 have c1 := z6 Z h hh x.par hc
 have c2 := qdJ Z h hh m x.num hk
 obtain ⟨k, hke⟩ := exq (qe m x.num)
 rw [hke] at c2 ⊢
 clear hc hk hke
 have il := qE lr lf
 refine qD Z h hh ⟨Tryz.func37, Tryz.ntmps37⟩ rfl rfl rfl rfl rfl fun C hC => ?_
 unfold Tryz.f37
 cbv
 repeat' first
  | exact s0
  | apply And.intro
  | exact sq
  | (refine fun (_ : PUnit) => ?_; simp [hh, *, qy]; done)
  | trivial
  | exact sx
  | (refine sy fun e => ?_; cbv)
  | (refine ⟨_, _, _, hC _ _ _ _ c1, ?_⟩; cbv; clear c1)
  | (refine ⟨_, _, _, hC _ _ _ _ c2, ?_⟩; cbv; clear c2)
end Go.Bl
namespace Go.Bl
open Go.RowKit Go.Proofs
attribute [local irreducible] qH
open Go.Proofs.YtnafknkchbfpaaaGreatDoor (Par chk blk jh jV j7 qe qp uu qI jI zZ zj sdE je vL j6)
theorem Qy {p : Par} (h : chk p = 0) : jh p 0 /\ jh p 1 /\ jh p 2 := by
 unfold chk at h
 split at h
 ·cases h
 ·rename_i h0
  split at h
  ·cases h
  ·rename_i h1
   split at h
   ·cases h
   ·rename_i h2
    exact ⟨Classical.not_not.1 h0, Classical.not_not.1 h1, Classical.not_not.1 fun q => h2 (.inl q)⟩
theorem Vp (Z : Ad) (h : Hh) (hh : ∀ α g, h α g = g ()) (m : List UInt8) (n j : Int) (p : Par) (hs : sdE p m n = 0) (hj : ¬ (0 <= j /\ j < p.sent)) :
  qo Z 21 [.pv (bH h m), .pv (iH h n), .pv (vl h p), .pv (iH h j)] (.tup [.pv (iH h 0), .pv (bH h []), .pv (jw Z 18)]) [.any, .any, .any, .any] := by
 simp only [bH, lH, iH, vl, hh]
 refine vm (xs := [bP m, iP n, .a [iP p.size, iP p.sent, iP p.spots, iP p.per, iP p.pat, iP p.ret], iP j]) (.tuple #[.int .i64 0, .slice none 0 0, j7 Z.e 18]) Tryz.func21 rfl rfl (fun A w => .tup (.cons (.pv (.v rfl)) (.cons (.pv (.nil _ _)) (.cons (.pv (.v rfl)) .nil)))) fun A w us hA he hr => ?_
 cases hr with
 | cons h1 hr =>
 cases hr with
 | cons h2 hr =>
 cases hr with
 | cons h3 hr =>
 cases hr with
 | cons h4 hr =>
  cases hr
  rw [vB h2, Vx h3, vB h4]
  refine (Go.Proofs.YtnafknkchbfpaaaGreatDoor.sdSentinel_any Z.e _ w _ m n j p (ux he) (VM he) (uf h1)).mono ?_
  rintro e w' ⟨-, g2, -, hf⟩
  exact ⟨g2 hs hj, hf⟩
def vt (m : List UInt8) (x : js) (e : jf) : List Int := VL (qp m zj x.num) e.idx.toNat (blk x.par.size + x.par.sent).toNat x.par.spots.toNat
def Xq (m : List UInt8) (x : js) (e : jf) : Nat := je (qp m qI x.num) (blk x.par.size + x.par.sent).toNat ((blk x.par.size).toNat + e.idx.toNat)
theorem YW (m nm : List UInt8) (n : Int) : (qp m nm n).length <= 100000000 := by
 have : (qp m nm n).length = 32 := ut _ _
 omega
theorem JL (Z : Ad) (h : Hh) (hh : ∀ α g, h α g = g ()) (m : List UInt8) (x : js) (e : jf) (lr : x.root.length = 32) (lf : x.file.length = 32) (hc : chk x.par = 0) (hk : qe m x.num = 0) (hw : e.way = 1) (hi : 0 <= e.idx /\ e.idx <= 1073741824) : qo Z 37 [.pv (bH h m), .pv (jp h x), .pv (qZ h e)] (.tup [.pv (lH h iP (vt m x e)), .pv (.v .nilIface)]) [.any, .any, .any] := by
 obtain ⟨z0, z1, z2⟩ := Qy hc
 have zb := Go.Proofs.YtnafknkchbfpaaaGreatDoor.blk_le (p := x.par) z0
 have z1' : 0 <= x.par.sent /\ x.par.sent <= 8 := z1
 have z2' : 1 <= x.par.spots /\ x.par.spots <= min 12 (blk x.par.size + x.par.sent) := z2
 have c1 := z6 Z h hh x.par hc
 have c2 := Q5 Z h hh m x.num hk
 have il := qE lr lf
 obtain ⟨n, hn⟩ := Int.eq_ofNat_of_zero_le (a := blk x.par.size + x.par.sent) Y66
 obtain ⟨s, hs⟩ := Int.eq_ofNat_of_zero_le (a := x.par.spots) Y66
 obtain ⟨r, hr⟩ := Int.eq_ofNat_of_zero_le (a := e.idx) hi.1
 have c3 := LX Z h hh (qp m zj x.num) r n s (YW _ _ _) Y66 Y66 Y66
 rw [show VL (qp m zj x.num) r n s = vt m x e by rw [vt, hn, hs, hr]; rfl] at c3
 obtain ⟨l, hl⟩ := exq (vt m x e)
 rw [hl] at c3 ⊢
 rw [hn] at c1
 clear hi hc hk z0 z1 z2 z1' z2' zb hl hn
 refine qD Z h hh ⟨Tryz.func37, Tryz.ntmps37⟩ rfl rfl rfl rfl rfl fun C hC => ?_
 unfold Tryz.f37
 cbv
 repeat' first
  | exact s0
  | apply And.intro
  | exact sq
  | (refine fun (_ : PUnit) => ?_; simp [hh, *, qy]; done)
  | trivial
  | (refine sz fun e => ?_; simp [hh, hw] at e <;> (try simp only [natc] at *) <;> omega)
  | (refine sy fun e => ?_; cbv)
  | (refine ⟨_, _, _, hC _ _ _ _ c1, ?_⟩; cbv; clear c1)
  | (refine ⟨_, _, _, hC _ _ _ _ c2, ?_⟩; cbv; clear c2)
  | (refine ⟨_, _, _, hC _ _ _ _ c3, ?_⟩; cbv; clear c3)
theorem YO (Z : Ad) (h : Hh) (hh : ∀ α g, h α g = g ()) (m : List UInt8) (x : js) (e : jf) (lr : x.root.length = 32) (lf : x.file.length = 32) (hc : chk x.par = 0) (hk : qe m x.num = 0) (hw : e.way = 1) (hi : ¬ (0 <= e.idx /\ e.idx <= 1073741824)) : qo Z 37 [.pv (bH h m), .pv (jp h x), .pv (qZ h e)] (.tup [.pv (lH h iP []), .pv (jw Z 1)]) [.any, .any, .any] := by
 have c1 := z6 Z h hh x.par hc
 have c2 := Q5 Z h hh m x.num hk
 have il := qE lr lf
 have c3 := W0 Z h hh (qp m zj x.num) e.idx (blk x.par.size + x.par.sent) x.par.spots (by
  rcases Int.lt_or_le e.idx 0 with q | q
  ·simp [q]
  ·have : 1073741824 < e.idx := by omega
   simp [this])
 obtain ⟨n, hn⟩ := exq (blk x.par.size + x.par.sent)
 rw [hn] at c1 c3
 clear hi hc hk hn
 refine qD Z h hh ⟨Tryz.func37, Tryz.ntmps37⟩ rfl rfl rfl rfl rfl fun C hC => ?_
 unfold Tryz.f37
 cbv
 repeat' first
  | exact s0
  | apply And.intro
  | exact sq
  | (refine fun (_ : PUnit) => ?_; simp [hh, *, qy]; done)
  | trivial
  | (refine sz fun e => ?_; simp [hh, hw] at e <;> (try simp only [natc] at *) <;> omega)
  | (refine sy fun e => ?_; cbv)
  | (refine ⟨_, _, _, hC _ _ _ _ c1, ?_⟩; cbv; clear c1)
  | (refine ⟨_, _, _, hC _ _ _ _ c2, ?_⟩; cbv; clear c2)
  | (refine ⟨_, _, _, hC _ _ _ _ c3, ?_⟩; cbv; clear c3)
theorem Xo (Z : Ad) (h : Hh) (hh : ∀ α g, h α g = g ()) (m : List UInt8) (x : js) (e : jf) (lr : x.root.length = 32) (lf : x.file.length = 32) (hc : chk x.par = 0) (hk : qe m x.num = 0) (hw : e.way = 2) (hi : 0 <= e.idx /\ e.idx < x.par.sent) : qo Z 37 [.pv (bH h m), .pv (jp h x), .pv (qZ h e)] (.tup [.pv (lH h iP [(Xq m x e : Int)]), .pv (.v .nilIface)]) [.any, .any, .any] := by
 have c1 := z6 Z h hh x.par hc
 have c2 := Q5 Z h hh m x.num hk
 have il := qE lr lf
 have c3 := VB Z h hh m x.num e.idx x.par (by unfold sdE; rw [if_neg Y66]; exact hk) hi
 obtain ⟨tg, htg⟩ := exq (vL (qp m zZ x.num) ((je (qp m qI x.num) (blk x.par.size + x.par.sent).toNat ((blk x.par.size).toNat + e.idx.toNat) : Nat) : Int) (j6 (qp m jI x.num) e.idx))
 rw [htg] at c3
 clear htg
 obtain ⟨pl, hpl⟩ := exq (Xq m x e)
 rw [show je (qp m qI x.num) (blk x.par.size + x.par.sent).toNat ((blk x.par.size).toNat + e.idx.toNat) = pl from hpl] at c3
 rw [hpl]
 obtain ⟨n, hn⟩ := exq (blk x.par.size + x.par.sent)
 rw [hn] at c1
 clear hi hc hk hpl hn
 refine qD Z h hh ⟨Tryz.func37, Tryz.ntmps37⟩ rfl rfl rfl rfl rfl fun C hC => ?_
 unfold Tryz.f37
 cbv
 repeat' first
  | exact s0
  | apply And.intro
  | exact sq
  | (refine fun (_ : PUnit) => ?_; simp [hh, *, qy]; done)
  | trivial
  | (refine sz fun e => ?_; simp [hh, hw] at e <;> (try simp only [natc] at *) <;> omega)
  | (refine sy fun e => ?_; cbv)
  | (refine ⟨_, _, _, hC _ _ _ _ c1, ?_⟩; cbv; clear c1)
  | (refine ⟨_, _, _, hC _ _ _ _ c2, ?_⟩; cbv; clear c2)
  | (refine ⟨_, _, _, hC _ _ _ _ c3, ?_⟩; cbv; clear c3)
theorem WD (Z : Ad) (h : Hh) (hh : ∀ α g, h α g = g ()) (m : List UInt8) (x : js) (e : jf) (lr : x.root.length = 32) (lf : x.file.length = 32) (hc : chk x.par = 0) (hk : qe m x.num = 0) (hw : e.way = 2) (hi : ¬ (0 <= e.idx /\ e.idx < x.par.sent)) : qo Z 37 [.pv (bH h m), .pv (jp h x), .pv (qZ h e)] (.tup [.pv (lH h iP []), .pv (jw Z 18)]) [.any, .any, .any] := by
 have c1 := z6 Z h hh x.par hc
 have c2 := Q5 Z h hh m x.num hk
 have il := qE lr lf
 have c3 := Vp Z h hh m x.num e.idx x.par (by unfold sdE; rw [if_neg Y66]; exact hk) hi
 obtain ⟨n, hn⟩ := exq (blk x.par.size + x.par.sent)
 rw [hn] at c1
 clear hi hc hk hn
 refine qD Z h hh ⟨Tryz.func37, Tryz.ntmps37⟩ rfl rfl rfl rfl rfl fun C hC => ?_
 unfold Tryz.f37
 cbv
 repeat' first
  | exact s0
  | apply And.intro
  | exact sq
  | (refine fun (_ : PUnit) => ?_; simp [hh, *, qy]; done)
  | trivial
  | (refine sz fun e => ?_; simp [hh, hw] at e <;> (try simp only [natc] at *) <;> omega)
  | (refine sy fun e => ?_; cbv)
  | (refine ⟨_, _, _, hC _ _ _ _ c1, ?_⟩; cbv; clear c1)
  | (refine ⟨_, _, _, hC _ _ _ _ c2, ?_⟩; cbv; clear c2)
  | (refine ⟨_, _, _, hC _ _ _ _ c3, ?_⟩; cbv; clear c3)
theorem V9 (Z : Ad) (h : Hh) (hh : ∀ α g, h α g = g ()) (m : List UInt8) (x : js) (e : jf) (lr : x.root.length = 32) (lf : x.file.length = 32) (hc : chk x.par = 0) (hk : qe m x.num = 0) (h1 : e.way ≠ 1) (h2 : e.way ≠ 2) : qo Z 37 [.pv (bH h m), .pv (jp h x), .pv (qZ h e)] (.tup [.pv (lH h iP []), .pv (jw Z 7)]) [.any, .any, .any] := by
 have c1 := z6 Z h hh x.par hc
 have c2 := Q5 Z h hh m x.num hk
 have il := qE lr lf
 obtain ⟨n, hn⟩ := exq (blk x.par.size + x.par.sent)
 rw [hn] at c1
 clear hc hk hn
 refine qD Z h hh ⟨Tryz.func37, Tryz.ntmps37⟩ rfl rfl rfl rfl rfl fun C hC => ?_
 unfold Tryz.f37
 cbv
 repeat' first
  | exact s0
  | apply And.intro
  | exact sq
  | (refine fun (_ : PUnit) => ?_; simp [hh, *, qy]; done)
  | trivial
  | (refine sz fun e => ?_; simp [hh, h1, h2] at e <;> (try simp only [natc] at *) <;> omega)
  | (refine sy fun e => ?_; cbv)
  | (refine ⟨_, _, _, hC _ _ _ _ c1, ?_⟩; cbv; clear c1)
  | (refine ⟨_, _, _, hC _ _ _ _ c2, ?_⟩; cbv; clear c2)
end Go.Bl
