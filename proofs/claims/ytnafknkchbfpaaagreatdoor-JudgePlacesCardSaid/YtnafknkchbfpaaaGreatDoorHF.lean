import Derived.Test.YtnafknkchbfpaaaGreatDoorHE
set_option linter.unusedVariables false
set_option linter.unusedSimpArgs false
set_option maxRecDepth 1000000
set_option maxHeartbeats 8000000
namespace Go.Proofs.YtnafknkchbfpaaaGreatDoor
open Go.RowKit Go.Bl
def xI (w : World) (ob kb n bw : Nat) : Prop := At w ob (.cells #[.pointer (some ⟨kb, 0, none⟩), .int .i64 (n : Int), .int .i64 (bw : Int)] 250)
theorem xI.keep {w w' : World} {ob kb n bw : Nat} (h : xI w ob kb n bw) (hf : Fr [] w w') : xI w' ob kb n bw := At.keep0 h hf
theorem Ym (a b : Nat) (ha : a < 1073741824) (hb : b < 1073741824) : bits .and .i64 (a : Int) (b : Int) = ((a &&& b : Nat) : Int) := by
 have hx : a &&& b < 2 ^ 30 := Nat.and_lt_two_pow _ Y66
 show IntKind.i64.wrap ((BitVec.ofInt 64 (a : Int) &&& BitVec.ofInt 64 (b : Int)).toNat : Int) = _
 rw [BitVec.toNat_and, vO a Y66, vO b Y66, IntKind.wrap_i64]
 omega
theorem jF (a b : Nat) (ha : a < 1073741824) (hb : b < 1073741824) : bits .or .i64 (a : Int) (b : Int) = ((a ||| b : Nat) : Int) := by
 have hx : a ||| b < 2 ^ 30 := Nat.or_lt_two_pow Y66 Y66
 show IntKind.i64.wrap ((BitVec.ofInt 64 (a : Int) ||| BitVec.ofInt 64 (b : Int)).toNat : Int) = _
 rw [BitVec.toNat_or, vO a Y66, vO b Y66, IntKind.wrap_i64]
 omega
theorem qbX (x bw m : Nat) (hx : x < 1073741824) (hm : m + 1 = 2 ^ bw) (hb : m < 1073741824) : bits .and .i64 (x : Int) (m : Int) = ((x % 2 ^ bw : Nat) : Int) := by
 rw [Ym x m hx hb, show m = 2 ^ bw - 1 by omega, Nat.and_two_pow_sub_one_eq_mod]
theorem WL (w : World) (ob kb n bw x : Nat) (hO : xI w ob kb n bw) (h1 : 1 <= bw) (h2 : bw <= 10) (hx : x < 4 ^ bw) :
  Calls Tryz.prog 149 #[.pointer (some ⟨ob, 0, none⟩), .int .i64 (x : Int)] w fun e w' => e = .returned (.tuple #[.int .i64 ((x / 2 ^ bw : Nat) : Int), .int .i64 ((x % 2 ^ bw : Nat) : Int)]) /\ Fr [] w w' := by
 have hx2 : x < 1073741824 := Nat.lt_of_lt_of_le hx (Nat.le_trans (Nat.pow_le_pow_right qa h2) qa)
 have hb : bw = 1 ∨ bw = 2 ∨ bw = 3 ∨ bw = 4 ∨ bw = 5 ∨ bw = 6 ∨ bw = 7 ∨ bw = 8 ∨ bw = 9 ∨ bw = 10 := by omega
 have c1 : w.cell? ⟨ob, 2, none⟩ = some (.int .i64 (bw : Int)) := (show At w ob _ from hO).cell 2
 clear hO
 have HM := Hdq (fun m (hm : m + 1 = 2 ^ bw) (hb : m < 1073741824) => qbX x bw m hx2 hm hb)
 have HD := Hdq (show ((x : Int) / ((2 ^ bw : Nat) : Int)) = ((x / 2 ^ bw : Nat) : Int) from rfl)
 obtain ⟨X1, hX1⟩ := exq (x / 2 ^ bw)
 obtain ⟨X2, hX2⟩ := exq (x % 2 ^ bw)
 rw [hX1] at HD ⊢
 rw [hX2] at HM ⊢
 clear hX1 hX2 hx h1 h2 hx2
 rcases hb with rfl | rfl | rfl | rfl | rfl | rfl | rfl | rfl | rfl | rfl
 ·have HA := Hdq (show bits .and .i64 (x : Int) 1 = (X2 : Int) from HM.out 1 qa qa)
  have HB := Hdq (show (x : Int) / 2 = (X1 : Int) from HD.out)
  exact Y5
 ·have HA := Hdq (show bits .and .i64 (x : Int) 3 = (X2 : Int) from HM.out 3 qa qa)
  have HB := Hdq (show (x : Int) / 4 = (X1 : Int) from HD.out)
  exact Y5
 ·have HA := Hdq (show bits .and .i64 (x : Int) 7 = (X2 : Int) from HM.out 7 qa qa)
  have HB := Hdq (show (x : Int) / 8 = (X1 : Int) from HD.out)
  exact Y5
 ·have HA := Hdq (show bits .and .i64 (x : Int) 15 = (X2 : Int) from HM.out 15 qa qa)
  have HB := Hdq (show (x : Int) / 16 = (X1 : Int) from HD.out)
  exact Y5
 ·have HA := Hdq (show bits .and .i64 (x : Int) 31 = (X2 : Int) from HM.out 31 qa qa)
  have HB := Hdq (show (x : Int) / 32 = (X1 : Int) from HD.out)
  exact Y5
 ·have HA := Hdq (show bits .and .i64 (x : Int) 63 = (X2 : Int) from HM.out 63 qa qa)
  have HB := Hdq (show (x : Int) / 64 = (X1 : Int) from HD.out)
  exact Y5
 ·have HA := Hdq (show bits .and .i64 (x : Int) 127 = (X2 : Int) from HM.out 127 qa qa)
  have HB := Hdq (show (x : Int) / 128 = (X1 : Int) from HD.out)
  exact Y5
 ·have HA := Hdq (show bits .and .i64 (x : Int) 255 = (X2 : Int) from HM.out 255 qa qa)
  have HB := Hdq (show (x : Int) / 256 = (X1 : Int) from HD.out)
  exact Y5
 ·have HA := Hdq (show bits .and .i64 (x : Int) 511 = (X2 : Int) from HM.out 511 qa qa)
  have HB := Hdq (show (x : Int) / 512 = (X1 : Int) from HD.out)
  exact Y5
 ·have HA := Hdq (show bits .and .i64 (x : Int) 1023 = (X2 : Int) from HM.out 1023 qa qa)
  have HB := Hdq (show (x : Int) / 1024 = (X1 : Int) from HD.out)
  exact Y5
noncomputable def qfr : Code := ((Tryz.f150.body.bind (qr 1)).getD .skip)
theorem qcL (a : Go.Act) (hs : a.tmps.size = 42) (hd : a.defers = []) : a = ⟨(slot a 0 :: slot a 1 :: slot a 2 :: slot a 3 :: slot a 4 :: slot a 5 :: slot a 6 :: slot a 7 :: slot a 8 :: slot a 9 :: slot a 10 :: slot a 11 :: slot a 12 :: slot a 13 :: slot a 14 :: slot a 15 :: slot a 16 :: slot a 17 :: slot a 18 :: slot a 19 :: slot a 20 :: slot a 21 :: slot a 22 :: slot a 23 :: slot a 24 :: slot a 25 :: slot a 26 :: slot a 27 :: slot a 28 :: slot a 29 :: slot a 30 :: slot a 31 :: slot a 32 :: slot a 33 :: slot a 34 :: slot a 35 :: slot a 36 :: slot a 37 :: slot a 38 :: slot a 39 :: slot a 40 :: slot a 41 :: []).toArray, []⟩ := uO a 42 hs hd
def V1 (Z ob kb rk r : Nat) (key : List UInt8) (k : Nat) (b : Go.Act) (p : World) : Prop :=
 match k with
 | 0 => slot b 11 = .pointer (some ⟨ob, 0, none⟩)
 | 1 => slot b 12 = .pointer (some ⟨ob, 0, none⟩)
 | 2 => slot b 13 = .pointer (some ⟨ob, 0, none⟩)
 | 3 => slot b 14 = .pointer (some ⟨kb, 0, none⟩)
 | 4 => slot b 15 = .int .i64 (rk : Int)
 | 5 => slot b 16 = .int .u8 ((b8 (rk : Int)).toNat : Int)
 | 6 => ∃ g, slot b 17 = .slice (some ⟨g, 0, none⟩) 1 1 /\ At p g (.cells #[.int .u8 ((b8 (rk : Int)).toNat : Int)] 5)
 | 7 => slot b 18 = .int .i64 (r : Int)
 | 8 => qf 5 Z p (slot b 19) (beK 8 (r : Int))
 | 9 => ∃ g, slot b 20 = .slice (some ⟨g, 0, none⟩) 2 2 /\ At p g (.cells #[slot b 17, slot b 19] 22)
 | 10 => slot b 21 = .agg ((jO key (b8 (rk : Int) :: beK 8 (r : Int))).map u8v).toArray
 | 11 => ∃ g c, slot b 7 = .pointer (some ⟨g, 0, none⟩) /\ Z <= g /\ At p g (.cells c 58) /\ c.size = 32
 | 12 => ∃ g, slot b 7 = .pointer (some ⟨g, 0, none⟩) /\ Z <= g /\ At p g (.cells ((jO key (b8 (rk : Int) :: beK 8 (r : Int))).map u8v).toArray 58)
 | _ => True
def qef (Z ob kb rk r : Nat) (key : List UInt8) (k : Nat) (b : Go.Act) (p : World) : Prop :=
 match k with
 | _ => True
theorem ya (Z ob kb rk r : Nat) (key : List UInt8) : ∀ (k : Nat) (b : Go.Act) (p p' : World), Fr [] p p' -> V1 Z ob kb rk r key k b p -> V1 Z ob kb rk r key k b p'
 | 0, b, p, p', hf, h => h
 | 1, b, p, p', hf, h => h
 | 2, b, p, p', hf, h => h
 | 3, b, p, p', hf, h => h
 | 4, b, p, p', hf, h => h
 | 5, b, p, p', hf, h => h
 | 6, b, p, p', hf, h => let ⟨g, h1, h3⟩ := h; ⟨g, h1, h3.keep0 hf⟩
 | 7, b, p, p', hf, h => h
 | 8, b, p, p', hf, h => h.keep hf (fun _ h => by cases h)
 | 9, b, p, p', hf, h => let ⟨g, h1, h3⟩ := h; ⟨g, h1, h3.keep0 hf⟩
 | 10, b, p, p', hf, h => h
 | 11, b, p, p', hf, h => let ⟨g, c, h1, h2, h3, h4⟩ := h; ⟨g, c, h1, h2, h3.keep0 hf, h4⟩
 | 12, b, p, p', hf, h => let ⟨g, h1, h2, h3⟩ := h; ⟨g, h1, h2, h3.keep0 hf⟩
 | k + 13, b, p, p', hf, h => trivial
theorem vR (Z ob kb rk r : Nat) (key : List UInt8) : ∀ (k : Nat) (b : Go.Act) (p p' : World), Fr [] p p' -> qef Z ob kb rk r key k b p -> qef Z ob kb rk r key k b p'
 | k, b, p, p', hf, h => trivial
theorem rn1 (Z ob kb rk r : Nat) (key : List UInt8) (w : World) (a : Go.Act) (hsz : a.tmps.size = 42) (h0 : slot a 0 = .pointer (some ⟨ob, 0, none⟩)) (h1 : slot a 1 = .int .i64 (rk : Int)) (h2 : slot a 2 = .int .i64 (r : Int)) (hZ : w.heap.size = Z) (nv bv : Value) (hO0 : At w ob (.cells #[.pointer (some ⟨kb, 0, none⟩), nv, bv] 250)) (hK : ja w kb key) (hS : SG w) (Q : Exit -> Go.Act -> World -> Prop)
  (hQ : ∀ (b : Go.Act) (p : World) (g : Nat), b.defers = a.defers -> b.tmps.size = 42 -> (∀ s, some s ∉ ([some 11, some 12, some 13, some 14, some 15, some 16, some 17, some 18, some 19, some 20, some 21, some 7, none] : List (Option Nat)) -> slot b s = slot a s) -> Fr [] w p -> slot b 7 = .pointer (some ⟨g, 0, none⟩) -> Z <= g -> At p g (.cells ((jO key (b8 (rk : Int) :: beK 8 (r : Int))).map u8v).toArray 58) -> Q .normal b p) : Code.wp Tryz.prog qfr Q a w := by
 conv => arg 2; whnf
 refine jc [] (V1 Z ob kb rk r key) (qef Z ob kb rk r key) [some 11, some 12, some 13, some 14, some 15, some 16, some 17, some 18, some 19, some 20, some 21, some 7, none] [[11], [12], [13], [14], [15], [16], [17], [18], [19], [17, 19, 20], [21], [7], [7]] [] [] [(6, 10), (8, 10), (9, 10), (11, 12)] qb qb qb qb qb qa ?_ ?_ ?_ ?_ ?_
 ·intro w1 hw1 k hk1 hk2
  have hk3 : 13 <= k := hk1
  have hk4 : k < 13 := hk2
  clear hk1 hk2
  omega
 ·intro k b b' p hs h
  match k with
  | 0 => show slot b' 11 = .pointer (some ⟨ob, 0, none⟩); rw [<- hs 11 qa]; exact h
  | 1 => show slot b' 12 = .pointer (some ⟨ob, 0, none⟩); rw [<- hs 12 qa]; exact h
  | 2 => show slot b' 13 = .pointer (some ⟨ob, 0, none⟩); rw [<- hs 13 qa]; exact h
  | 3 => show slot b' 14 = .pointer (some ⟨kb, 0, none⟩); rw [<- hs 14 qa]; exact h
  | 4 => show slot b' 15 = .int .i64 (rk : Int); rw [<- hs 15 qa]; exact h
  | 5 => show slot b' 16 = .int .u8 ((b8 (rk : Int)).toNat : Int); rw [<- hs 16 qa]; exact h
  | 6 => show ∃ g, slot b' 17 = .slice (some ⟨g, 0, none⟩) 1 1 /\ At p g (.cells #[.int .u8 ((b8 (rk : Int)).toNat : Int)] 5); rw [<- hs 17 qa]; exact h
  | 7 => show slot b' 18 = .int .i64 (r : Int); rw [<- hs 18 qa]; exact h
  | 8 => show qf 5 Z p (slot b' 19) (beK 8 (r : Int)); rw [<- hs 19 qa]; exact h
  | 9 => show ∃ g, slot b' 20 = .slice (some ⟨g, 0, none⟩) 2 2 /\ At p g (.cells #[slot b' 17, slot b' 19] 22); rw [<- hs 17 qa, <- hs 19 qa, <- hs 20 qa]; exact h
  | 10 => show slot b' 21 = .agg ((jO key (b8 (rk : Int) :: beK 8 (r : Int))).map u8v).toArray; rw [<- hs 21 qa]; exact h
  | 11 => show ∃ g c, slot b' 7 = .pointer (some ⟨g, 0, none⟩) /\ Z <= g /\ At p g (.cells c 58) /\ c.size = 32; rw [<- hs 7 qa]; exact h
  | 12 => show ∃ g, slot b' 7 = .pointer (some ⟨g, 0, none⟩) /\ Z <= g /\ At p g (.cells ((jO key (b8 (rk : Int) :: beK 8 (r : Int))).map u8v).toArray 58); rw [<- hs 7 qa]; exact h
  | k + 13 => trivial
 ·intro k b b' p hs h
  match k with
  | k => trivial
 ·intro i hi dn b p hs ho hf hF hG hdn hdc hr
  have hi9 : i < 13 := hi
  clear hi
  match i, hi9 with
  | 0, _ =>
   have e0 : b.eval (.tmp 0) = .pointer (some ⟨ob, 0, none⟩) := (ho 0 qa).trans h0
   exact Y1
  | 1, _ =>
   have e0 : b.eval (.tmp 11) = .pointer (some ⟨ob, 0, none⟩) := fdq hF hr 0
   exact Y1
  | 2, _ =>
   have e0 : b.eval (.tmp 12) = .pointer (some ⟨ob, 0, none⟩) := fdq hF hr 1
   exact Y1
  | 3, _ =>
   have e0 : b.eval (.tmp 13) = .pointer (some ⟨ob, 0, none⟩) := fdq hF hr 2
   have c1 : p.cell? ⟨ob, 0, none⟩ = some (.pointer (some ⟨kb, 0, none⟩)) := (hO0.keep0 hf).cell 0
   exact Y4
  | 4, _ =>
   have e0 : b.eval (.tmp 1) = .int .i64 (rk : Int) := (ho 1 qa).trans h1
   exact Y1
  | 5, _ =>
   have e0 : b.eval (.tmp 15) = .int .i64 (rk : Int) := fdq hF hr 4
   have c1 := JT (rk : Int)
   exact Y4
  | 6, _ =>
   have e0 : b.eval (.tmp 16) = .int .u8 ((b8 (rk : Int)).toNat : Int) := fdq hF hr 5
   refine opV_step _ Y72 ?_
   refine Qo Tryz.underlying22 Tryz.infoByte rfl (.tmp 16) rfl (.int .u8 ((b8 (rk : Int)).toNat : Int)) e0 rfl ?_
   have hf2 : Fr [] p (p.alloc (.cells #[.int .u8 ((b8 (rk : Int)).toNat : Int)] 5)) := Fr.alloc _ _
   obtain ⟨p', hp'⟩ : ∃ p', p.alloc (.cells #[.int .u8 ((b8 (rk : Int)).toNat : Int)] 5) = p' := ⟨_, rfl⟩
   have hA : At p' p.heap.size (.cells #[.int .u8 ((b8 (rk : Int)).toNat : Int)] 5) := by rw [<- hp']; exact At.new rfl
   rw [hp'] at hf2 ⊢
   clear hp'
   refine ⟨rfl, rfl, hf.trans hf2, fun k _ _ _ _ h => ya Z ob kb rk r key k _ _ _ hf2 h, ?_, fun e _ _ h => vR Z ob kb rk r key e _ _ _ hf2 h, fun e he hi hx => by exact absurd he (Nat.not_lt_zero e)⟩
   refine qP b 17 _ Y67 (fun b' => V1 Z ob kb rk r key 6 b' p') ?_
   intro b' hd hne
   show ∃ g, slot b' 17 = .slice (some ⟨g, 0, none⟩) 1 1 /\ At p' g (.cells #[.int .u8 ((b8 (rk : Int)).toNat : Int)] 5)
   exact ⟨_, hd, hA⟩
  | 7, _ =>
   have e0 : b.eval (.tmp 2) = .int .i64 (r : Int) := (ho 2 qa).trans h2
   exact Y1
  | 8, _ =>
   have e0 : b.eval (.tmp 18) = .int .i64 (r : Int) := fdq hF hr 7
   refine qJ _ Y72 (ql rfl) 57 _ _ rfl #[.int .i64 (r : Int)] Y70 Y74 ((zG p (r : Int)).mono ?_)
   rintro e p' ⟨u, rfl, hu, hf2⟩
   refine ⟨_, rfl, hf.trans hf2, fun k _ _ _ _ h => ya Z ob kb rk r key k _ _ _ hf2 h, ?_, fun e _ _ h => vR Z ob kb rk r key e _ _ _ hf2 h, fun e he hi hx => by exact absurd he (Nat.not_lt_zero e)⟩
   refine qP b 19 _ Y67 (fun b' => V1 Z ob kb rk r key 8 b' p') ?_
   intro b' hd hne
   show qf 5 Z p' (slot b' 19) (beK 8 (r : Int))
   rw [hd]
   exact hu.base Y88
  | 9, _ =>
   have f6 : ∃ g, slot b 17 = .slice (some ⟨g, 0, none⟩) 1 1 /\ At p g (.cells #[.int .u8 ((b8 (rk : Int)).toNat : Int)] 5) := hF 6 (show (6:Nat) < 13 by decide) (fun _ => (hr 6 qb).2) (fun c hc => by (have hq1 : c = 10 := by simpa using hc); subst hq1; exact Y97)
   have f8 : qf 5 Z p (slot b 19) (beK 8 (r : Int)) := hF 8 (show (8:Nat) < 13 by decide) (fun _ => (hr 8 qb).2) (fun c hc => by (have hq1 : c = 10 := by simpa using hc); subst hq1; exact Y97)
   have hc0 : (slot b 17).cells = #[slot b 17] := by obtain ⟨x, e, -⟩ := f6; rw [e]; rfl
   have hc1 : (slot b 19).cells = #[slot b 19] := by obtain ⟨x, y, z, e⟩ := jQ f8; rw [e]; rfl
   refine opV_step _ Y72 ?_
   refine xg Tryz.underlying56 Tryz.infoBytes rfl (.tmp 17) (.tmp 19) rfl (slot b 17) (slot b 19) rfl rfl hc0 hc1 ?_
   have hf2 : Fr [] p (p.alloc (.cells #[slot b 17, slot b 19] 22)) := Fr.alloc _ _
   obtain ⟨p', hp'⟩ : ∃ p', p.alloc (.cells #[slot b 17, slot b 19] 22) = p' := ⟨_, rfl⟩
   have hA : At p' p.heap.size (.cells #[slot b 17, slot b 19] 22) := by rw [<- hp']; exact At.new rfl
   rw [hp'] at hf2 ⊢
   clear hp'
   refine ⟨rfl, rfl, hf.trans hf2, fun k _ _ _ _ h => ya Z ob kb rk r key k _ _ _ hf2 h, ?_, fun e _ _ h => vR Z ob kb rk r key e _ _ _ hf2 h, fun e he hi hx => by exact absurd he (Nat.not_lt_zero e)⟩
   refine qP b 20 _ Y67 (fun b' => V1 Z ob kb rk r key 9 b' p') ?_
   intro b' hd hne
   show ∃ g, slot b' 20 = .slice (some ⟨g, 0, none⟩) 2 2 /\ At p' g (.cells #[slot b' 17, slot b' 19] 22)
   rw [hne 17 qa, hne 19 qa]
   exact ⟨_, hd, hA⟩
  | 10, _ =>
   have f6 : ∃ g, slot b 17 = .slice (some ⟨g, 0, none⟩) 1 1 /\ At p g (.cells #[.int .u8 ((b8 (rk : Int)).toNat : Int)] 5) := hF 6 (show (6:Nat) < 13 by decide) (fun _ => (hr 6 qb).2) (fun c hc => by (have hq1 : c = 10 := by simpa using hc); subst hq1; exact hdn)
   have f8 : qf 5 Z p (slot b 19) (beK 8 (r : Int)) := hF 8 (show (8:Nat) < 13 by decide) (fun _ => (hr 8 qb).2) (fun c hc => by (have hq1 : c = 10 := by simpa using hc); subst hq1; exact hdn)
   have f9 : ∃ g, slot b 20 = .slice (some ⟨g, 0, none⟩) 2 2 /\ At p g (.cells #[slot b 17, slot b 19] 22) := hF 9 (show (9:Nat) < 13 by decide) (fun _ => (hr 9 qb).2) (fun c hc => by (have hq1 : c = 10 := by simpa using hc); subst hq1; exact hdn)
   obtain ⟨g, b1, b2⟩ := f9
   have e0 : b.eval (.tmp 14) = .pointer (some ⟨kb, 0, none⟩) := fdq hF hr 3
   have e1 : b.eval (.tmp 20) = .slice (some ⟨g, 0, none⟩) 2 2 := b1
   have hRD : RdB (fun b => p.heap.size <= b) p (.slice (some ⟨g, 0, none⟩) 2 2) [(slot b 17, [b8 (rk : Int)]), (slot b 19, beK 8 (r : Int))] := by
    refine ⟨⟨_, 2, rfl, by simp, by decide, Row.of_block (c := #[slot b 17, slot b 19]) (fz := (0, 0)) b2 qds⟩, fun x hx => ?_⟩
    rcases List.mem_cons.1 hx with rfl | hx
    ·obtain ⟨g6, d1, d2⟩ := f6
     have := JA (A := fun b => p.heap.size <= b) (n := 1) (xs := [b8 (rk : Int)]) d2 rfl qa (by have := qi d2; omega)
     rw [<- d1] at this
     exact this
    ·obtain rfl : x = (slot b 19, beK 8 (r : Int)) := by simpa using hx
     exact yd (f8.bs (fun _ h => h.elim))
   refine qJ _ Y72 (ql rfl) 105 _ _ rfl #[.pointer (some ⟨kb, 0, none⟩), .slice (some ⟨g, 0, none⟩) 2 2] Y68 Y74 ((JW p kb _ key [(slot b 17, [b8 (rk : Int)]), (slot b 19, beK 8 (r : Int))] (hK.keep hf) hRD (hS.keep hf) qc qc (by simp [jd, zN])).mono ?_)
   rintro e p' ⟨rfl, hf2⟩
   refine ⟨_, rfl, hf.trans hf2, fun k _ _ _ _ h => ya Z ob kb rk r key k _ _ _ hf2 h, ?_, fun e _ _ h => vR Z ob kb rk r key e _ _ _ hf2 h, fun e he hi hx => by exact absurd he (Nat.not_lt_zero e)⟩
   refine qP b 21 _ Y67 (fun b' => V1 Z ob kb rk r key 10 b' p') ?_
   intro b' hd hne
   show slot b' 21 = .agg ((jO key (b8 (rk : Int) :: beK 8 (r : Int))).map u8v).toArray
   rw [hd]
   simp [jd]
  | 11, _ =>
   refine opV_step _ Y72 ?_
   refine yi rfl (.pointer (some ⟨p.heap.size, 0, none⟩)) (p.alloc (.cells jk 58)) qb ?_
   have hf2 : Fr [] p (p.alloc (.cells jk 58)) := Fr.alloc _ _
   obtain ⟨p', hp'⟩ : ∃ p', p.alloc (.cells jk 58) = p' := ⟨_, rfl⟩
   have hA : At p' p.heap.size (.cells jk 58) := by rw [<- hp']; exact At.new rfl
   rw [hp'] at hf2 ⊢
   clear hp'
   refine ⟨rfl, rfl, hf.trans hf2, fun k _ _ _ _ h => ya Z ob kb rk r key k _ _ _ hf2 h, ?_, fun e _ _ h => vR Z ob kb rk r key e _ _ _ hf2 h, fun e he hi hx => by exact absurd he (Nat.not_lt_zero e)⟩
   refine qP b 7 _ Y67 (fun b' => V1 Z ob kb rk r key 11 b' p') ?_
   intro b' hd hne
   show ∃ g c, slot b' 7 = .pointer (some ⟨g, 0, none⟩) /\ Z <= g /\ At p' g (.cells c 58) /\ c.size = 32
   exact ⟨_, _, hd, by rw [<- hZ]; exact hf.size, hA, rfl⟩
  | 12, _ =>
   have f10 : slot b 21 = .agg ((jO key (b8 (rk : Int) :: beK 8 (r : Int))).map u8v).toArray := fdq hF hr 10
   have f11 : ∃ g c, slot b 7 = .pointer (some ⟨g, 0, none⟩) /\ Z <= g /\ At p g (.cells c 58) /\ c.size = 32 := hF 11 (show (11:Nat) < 13 by decide) (fun _ => (hr 11 qb).2) (fun c hc => by (have hq1 : c = 12 := by simpa using hc); subst hq1; exact hdn)
   obtain ⟨g, c, b1, b2, b3, b4⟩ := f11
   have e0 : b.eval (.tmp 7) = .pointer (some ⟨g, 0, none⟩) := b1
   have e1 : b.eval (.tmp 21) = .agg ((jO key (b8 (rk : Int) :: beK 8 (r : Int))).map u8v).toArray := f10
   refine opV_step _ Y72 ?_
   refine qC (.tmp 7) (.tmp 21) rfl rfl ((jO key (b8 (rk : Int) :: beK 8 (r : Int))).map u8v).toArray e0 e1 Y90 b3 (by rw [b4]; rfl) (uN _) ?_
   intro p' f1 a1 _
   refine ⟨rfl, rfl, hf.then f1 (fun z hz => .inr Y78), fun k hki hnr hco hli h => ?_, ⟨g, b1, b2, a1⟩, fun _ _ _ h => h, fun e he hi hx => by exact absurd he (Nat.not_lt_zero e)⟩
   match k with
   | 0 => exact h
   | 1 => exact h
   | 2 => exact h
   | 3 => exact h
   | 4 => exact h
   | 5 => exact h
   | 6 => exact absurd (hr 10 qb).2 (by rw [hli 10 qa]; decide)
   | 7 => exact h
   | 8 => exact absurd (hr 10 qb).2 (by rw [hli 10 qa]; decide)
   | 9 => exact absurd (hr 10 qb).2 (by rw [hli 10 qa]; decide)
   | 10 => exact h
   | 11 => exact absurd qa hco
   | 12 => exact absurd rfl hki
   | k + 13 => exact trivial
 ·intro b p hd hs ho hf hall hex
  obtain ⟨g, h1, h2, h3⟩ := hall 12 qa (fun c hc => by simp at hc)
  exact hQ b p g hd (hs.trans hsz) ho hf h1 h2 h3
theorem Wk (o : List UInt8) : xy (o.take 8) < 18446744073709551616 := by
 have h := Vd (o.take 8).length (o.take 8) rfl
 have h2 : (256 : Nat) ^ (o.take 8).length <= 256 ^ 8 := Nat.pow_le_pow_right qa Y95
 omega
theorem K5 (w0 : World) (ob kb n bw rk r : Nat) (key : List UInt8) (hO : xI w0 ob kb n bw) (hK : ja w0 kb key) (hS : SG w0) (h1 : 1 <= bw) (h2 : bw <= 10) :
  Calls Tryz.prog 150 #[.pointer (some ⟨ob, 0, none⟩), .int .i64 (rk : Int), .int .i64 (r : Int)] w0 fun e w' => e = .returned (.int .i64 ((fnS key bw rk r : Nat) : Int)) /\ Fr [] w0 w' := by
 obtain ⟨Z, hZ⟩ := exq (w0.heap.size)
 obtain ⟨o, ho⟩ := exq (jO key (b8 (rk : Int) :: beK 8 (r : Int)))
 have hol : o.length = 32 := by rw [<- ho]; rfl
 obtain ⟨L, hL⟩ := exq (o.take 8)
 have HFN := Hdq (show xy L % 2 ^ bw = fnS key bw rk r by rw [<- hL, <- ho]; rfl)
 obtain ⟨V, hV⟩ := exq (fnS key bw rk r)
 rw [hV] at HFN ⊢
 have HL8 := Hdq (show L.length = 8 by rw [<- hL, List.length_take, hol]; rfl)
 have HNL := Hdq (show xy L < 18446744073709551616 by rw [<- hL]; exact Wk o)
 have HOO := Hdq ho
 have HOL := Hdq hol
 have HLL := Hdq hL
 have HB := Hdq (And.intro h1 h2)
 have HH := Hdq (And.intro hO (And.intro hK (And.intro hS hZ)))
 clear hO hK hS hol ho hL hV h1 h2 hZ
 go_enter Tryz.func150, Tryz.ntmps150
 go_wp2
 refine rn1 Z ob kb rk r key w0 _ rfl rfl rfl rfl HH.out.2.2.2 _ _ HH.out.1 HH.out.2.1 HH.out.2.2.1 _ ?_
 intro b p g hd hs ho hf h7 hg hA
 rw [HOO.out] at hA
 rw [qcL b hs hd, h7, show slot b 0 = .pointer (some ⟨ob, 0, none⟩) from ho 0 qa]
 have HF := Hdq hf
 have HC := Hdq (show ∀ j, j < 8 -> p.cell? ⟨g, j, none⟩ = some (.int .u8 ((L[j]?.getD 0).toNat : Int)) from fun j hj => by
  rw [hA.cell, List.getElem?_toArray, List.getElem?_map, <- HLL.out, List.getElem?_take, if_pos hj, List.getElem?_eq_getElem (by rw [HOL.out]; omega)]
  rfl)
 have HO := Hdq (show p.cell? ⟨ob, 2, none⟩ = some (.int .i64 (bw : Int)) from (HH.out.1.keep hf).cell 2)
 clear hf hA ho h7 hg
 go_wp2
 go_loop [8, 24] (fun x i => ∃ j : Nat, j <= 8 /\ i = .int .i64 (j : Int) /\ x = .int .u64 ((xy (L.take j) : Nat) : Int)) (fun _ i => 8 - (intOf i).toNat)
 case atStart => exact ⟨0, by omega, rfl, rfl⟩
 case round =>
  obtain ⟨j, hj, rfl, rfl⟩ := hrel
  by_cases hj8 : j < 8
  ·have c1 := HC.out j hj8
   have hst := qa9 L j (by rw [HL8.out]; exact hj8) hj8
   obtain ⟨c, hc⟩ := exq (L[j]?.getD 0)
   rw [hc] at c1 hst
   have hcw : IntKind.u64.wrap (c.toNat : Int) = (c.toNat : Int) := by have := c.toNat_lt; rw [IntKind.wrap_u64]; omega
   rw [hcw] at hst
   have hji : (j : Int) < 8 := by omega
   obtain ⟨y, hy⟩ := exq (xy (L.take j))
   obtain ⟨z, hz⟩ := exq (xy (L.take (j + 1)))
   rw [hy, hz] at hst
   have HZ := Hdq hz
   rw [hy]
   clear hc hy hz
   go_wp2
   go_round
   case rel => exact ⟨j + 1, by omega, by simp, by rw [HZ.out]⟩
   case measure => simp [intOf]; omega
  ·obtain rfl : j = 8 := by omega
   rw [List.take_of_length_le (by rw [HL8.out]; exact Nat.le_refl _)]
   have c1 := HO.out
   have hbw : bw = 1 ∨ bw = 2 ∨ bw = 3 ∨ bw = 4 ∨ bw = 5 ∨ bw = 6 ∨ bw = 7 ∨ bw = 8 ∨ bw = 9 ∨ bw = 10 := by have := HB.out; omega
   clear hj8 hj
   obtain ⟨N, hN⟩ := exq (xy L)
   rw [hN] at HFN HNL ⊢
   have hNl : N < 18446744073709551616 := HNL.out
   clear hN HC HO HNL
   rcases hbw with rfl | rfl | rfl | rfl | rfl | rfl | rfl | rfl | rfl | rfl
   ·have HV := Hdq (show (N : Int) % 2 = (V : Int) by have h := HFN.out; rw [show (2 : Nat) ^ 1 = 2 from by decide] at h; omega)
    exact Y17
   ·have HV := Hdq (show (N : Int) % 4 = (V : Int) by have h := HFN.out; rw [show (2 : Nat) ^ 2 = 4 from by decide] at h; omega)
    exact Y17
   ·have HV := Hdq (show (N : Int) % 8 = (V : Int) by have h := HFN.out; rw [show (2 : Nat) ^ 3 = 8 from by decide] at h; omega)
    exact Y17
   ·have HV := Hdq (show (N : Int) % 16 = (V : Int) by have h := HFN.out; rw [show (2 : Nat) ^ 4 = 16 from by decide] at h; omega)
    exact Y17
   ·have HV := Hdq (show (N : Int) % 32 = (V : Int) by have h := HFN.out; rw [show (2 : Nat) ^ 5 = 32 from by decide] at h; omega)
    exact Y17
   ·have HV := Hdq (show (N : Int) % 64 = (V : Int) by have h := HFN.out; rw [show (2 : Nat) ^ 6 = 64 from by decide] at h; omega)
    exact Y17
   ·have HV := Hdq (show (N : Int) % 128 = (V : Int) by have h := HFN.out; rw [show (2 : Nat) ^ 7 = 128 from by decide] at h; omega)
    exact Y17
   ·have HV := Hdq (show (N : Int) % 256 = (V : Int) by have h := HFN.out; rw [show (2 : Nat) ^ 8 = 256 from by decide] at h; omega)
    exact Y17
   ·have HV := Hdq (show (N : Int) % 512 = (V : Int) by have h := HFN.out; rw [show (2 : Nat) ^ 9 = 512 from by decide] at h; omega)
    exact Y17
   ·have HV := Hdq (show (N : Int) % 1024 = (V : Int) by have h := HFN.out; rw [show (2 : Nat) ^ 10 = 1024 from by decide] at h; omega)
    exact Y17
theorem qcy (w0 : World) (ob kb n bw x : Nat) (key : List UInt8) (hO : xI w0 ob kb n bw) (hK : ja w0 kb key) (hS : SG w0) (h1 : 1 <= bw) (h2 : bw <= 10) (hx : x < 4 ^ bw) :
  Calls Tryz.prog 111 #[.pointer (some ⟨ob, 0, none⟩), .int .i64 (x : Int)] w0 fun e w' => e = .returned (.int .i64 ((jW bw (fnS key bw) x : Nat) : Int)) /\ Fr [] w0 w' := by
 have hh := yC hx
 have hpw : 2 ^ bw <= 1024 := Nat.le_trans (Nat.pow_le_pow_right qa h2) qa
 obtain ⟨p0, hp0⟩ : ∃ q : Nat × Nat, (x / 2 ^ bw, x % 2 ^ bw) = q := ⟨_, rfl⟩
 have HQ1 := Hdq (show x / 2 ^ bw = p0.1 by rw [<- hp0])
 have HQ2 := Hdq (show x % 2 ^ bw = p0.2 by rw [<- hp0])
 have HB0 := Hdq (show p0.1 < 2 ^ bw /\ p0.2 < 2 ^ bw by rw [<- hp0]; exact hh)
 have HE := Hdq (show (zu (fnS key bw) 4 p0).1 * 2 ^ bw + (zu (fnS key bw) 4 p0).2 = jW bw (fnS key bw) x by rw [<- hp0]; rfl)
 obtain ⟨V, hV⟩ := exq (jW bw (fnS key bw) x)
 rw [hV] at HE ⊢
 have HC := Hdq (WL w0 ob kb n bw x hO h1 h2 hx)
 rw [HQ1.out, HQ2.out] at HC
 have HH := Hdq (And.intro hO (And.intro hK (And.intro hS (And.intro h1 (And.intro h2 hpw)))))
 clear hO hK hS h1 h2 hx hh hp0 hV HQ1 HQ2 hpw
 go_enter Tryz.func111, Tryz.ntmps111
 go_wp2_with (go_at_call 149; fail)
 refine HC.out.mono ?_
 rintro e w1 ⟨rfl, hf⟩
 have HF := Hdq hf
 clear hf HC
 go_wp2
 go_loopw [5, 6, 14] (fun a c i wr => ∃ j : Nat, j <= 4 /\ i = .int .i64 (j : Int) /\ a = .int .i64 (((zu (fnS key bw) j p0).1 : Nat) : Int) /\ c = .int .i64 (((zu (fnS key bw) j p0).2 : Nat) : Int) /\ Hid (Fr [] w0 wr)) (fun _ _ i _ => 4 - (intOf i).toNat)
 case atStart => exact ⟨0, by omega, rfl, rfl, rfl, HF⟩
 case round =>
  obtain ⟨j, hj, rfl, rfl, rfl, HFW⟩ := hrel
  by_cases hj4 : j < 4
  ·obtain ⟨a, ha⟩ := exq ((zu (fnS key bw) j p0).1)
   obtain ⟨c, hc⟩ := exq ((zu (fnS key bw) j p0).2)
   have HL := Hdq (yH (vF key bw) j p0 HB0.out.1 HB0.out.2)
   have HU := Hdq (show zu (fnS key bw) (j + 1) p0 = (c, a ^^^ fnS key bw j c) by rw [<- ha, <- hc]; rfl)
   rw [ha, hc] at HL
   rw [ha, hc]
   have hji : (j : Int) < 4 := by omega
   clear ha hc
   go_wp2_with (go_at_call 150; fail)
   refine (K5 wr ob kb n bw j c key (HH.out.1.keep HFW.out) (HH.out.2.1.keep HFW.out) (HH.out.2.2.1.keep HFW.out) HH.out.2.2.2.1 HH.out.2.2.2.2.1).mono ?_
   rintro e w2 ⟨rfl, hf⟩
   have HF2 := Hdq (HFW.out.trans hf)
   obtain ⟨d, hd⟩ := exq (fnS key bw j c)
   have hdl : d < 2 ^ bw := by rw [<- hd]; exact vF key bw j c
   rw [hd] at HU ⊢
   have hxx : bits .xor .i64 (a : Int) (d : Int) = ((a ^^^ d : Nat) : Int) := VT a d (by have := HL.out; have := HH.out; omega) (by have := HH.out; omega)
   clear hf hd hdl HFW HL
   go_wp2
   go_roundw
   case rel => exact ⟨j + 1, by omega, by simp, by rw [HU.out], by rw [HU.out], HF2⟩
   case measure => simp [intOf]; omega
  ·obtain rfl : j = 4 := by omega
   clear hj4 hj
   have hbw : bw = 1 ∨ bw = 2 ∨ bw = 3 ∨ bw = 4 ∨ bw = 5 ∨ bw = 6 ∨ bw = 7 ∨ bw = 8 ∨ bw = 9 ∨ bw = 10 := by have := HH.out; omega
   have c1 := HH.out.1
   have HLT := Hdq (yH (vF key bw) 4 p0 HB0.out.1 HB0.out.2)
   obtain ⟨A, hA⟩ := exq ((zu (fnS key bw) 4 p0).1)
   obtain ⟨C, hC⟩ := exq ((zu (fnS key bw) 4 p0).2)
   rw [hA, hC]
   rw [hA, hC] at HE HLT
   have c2 : wr.cell? ⟨ob, 2, none⟩ = some (.int .i64 (bw : Int)) := (c1.keep HFW.out).cell 2
   clear c1 hA hC
   rcases hbw with rfl | rfl | rfl | rfl | rfl | rfl | rfl | rfl | rfl | rfl
   ·have HV := Hdq (show bits .or .i64 ((A : Int) * 2) (C : Int) = (V : Int) by
     have h := HLT.out
     have e := HE.out
     have e2 : (2 : Nat) ^ 1 = 2 := by decide
     rw [e2] at h e
     rw [show (A : Int) * 2 = ((A * 2 : Nat) : Int) by omega, jF _ _ Y66 Y66, <- e, Nat.mul_comm A, <- Nat.two_pow_add_eq_or_of_lt (i := 1) (b := C) Y66 A])
    have hA : A < 2 := by have h := HLT.out.1; rw [show (2 : Nat) ^ 1 = 2 from by decide] at h; exact h
    have hw : IntKind.i64.wrap ((A : Int) * 2) = (A : Int) * 2 := by rw [IntKind.wrap_i64]; omega
    exact Y15
   ·have HV := Hdq (show bits .or .i64 ((A : Int) * 4) (C : Int) = (V : Int) by
     have h := HLT.out
     have e := HE.out
     have e2 : (2 : Nat) ^ 2 = 4 := by decide
     rw [e2] at h e
     rw [show (A : Int) * 4 = ((A * 4 : Nat) : Int) by omega, jF _ _ Y66 Y66, <- e, Nat.mul_comm A, <- Nat.two_pow_add_eq_or_of_lt (i := 2) (b := C) Y66 A])
    have hA : A < 4 := by have h := HLT.out.1; rw [show (2 : Nat) ^ 2 = 4 from by decide] at h; exact h
    have hw : IntKind.i64.wrap ((A : Int) * 4) = (A : Int) * 4 := by rw [IntKind.wrap_i64]; omega
    exact Y15
   ·have HV := Hdq (show bits .or .i64 ((A : Int) * 8) (C : Int) = (V : Int) by
     have h := HLT.out
     have e := HE.out
     have e2 : (2 : Nat) ^ 3 = 8 := by decide
     rw [e2] at h e
     rw [show (A : Int) * 8 = ((A * 8 : Nat) : Int) by omega, jF _ _ Y66 Y66, <- e, Nat.mul_comm A, <- Nat.two_pow_add_eq_or_of_lt (i := 3) (b := C) Y66 A])
    have hA : A < 8 := by have h := HLT.out.1; rw [show (2 : Nat) ^ 3 = 8 from by decide] at h; exact h
    have hw : IntKind.i64.wrap ((A : Int) * 8) = (A : Int) * 8 := by rw [IntKind.wrap_i64]; omega
    exact Y15
   ·have HV := Hdq (show bits .or .i64 ((A : Int) * 16) (C : Int) = (V : Int) by
     have h := HLT.out
     have e := HE.out
     have e2 : (2 : Nat) ^ 4 = 16 := by decide
     rw [e2] at h e
     rw [show (A : Int) * 16 = ((A * 16 : Nat) : Int) by omega, jF _ _ Y66 Y66, <- e, Nat.mul_comm A, <- Nat.two_pow_add_eq_or_of_lt (i := 4) (b := C) Y66 A])
    have hA : A < 16 := by have h := HLT.out.1; rw [show (2 : Nat) ^ 4 = 16 from by decide] at h; exact h
    have hw : IntKind.i64.wrap ((A : Int) * 16) = (A : Int) * 16 := by rw [IntKind.wrap_i64]; omega
    exact Y15
   ·have HV := Hdq (show bits .or .i64 ((A : Int) * 32) (C : Int) = (V : Int) by
     have h := HLT.out
     have e := HE.out
     have e2 : (2 : Nat) ^ 5 = 32 := by decide
     rw [e2] at h e
     rw [show (A : Int) * 32 = ((A * 32 : Nat) : Int) by omega, jF _ _ Y66 Y66, <- e, Nat.mul_comm A, <- Nat.two_pow_add_eq_or_of_lt (i := 5) (b := C) Y66 A])
    have hA : A < 32 := by have h := HLT.out.1; rw [show (2 : Nat) ^ 5 = 32 from by decide] at h; exact h
    have hw : IntKind.i64.wrap ((A : Int) * 32) = (A : Int) * 32 := by rw [IntKind.wrap_i64]; omega
    exact Y15
   ·have HV := Hdq (show bits .or .i64 ((A : Int) * 64) (C : Int) = (V : Int) by
     have h := HLT.out
     have e := HE.out
     have e2 : (2 : Nat) ^ 6 = 64 := by decide
     rw [e2] at h e
     rw [show (A : Int) * 64 = ((A * 64 : Nat) : Int) by omega, jF _ _ Y66 Y66, <- e, Nat.mul_comm A, <- Nat.two_pow_add_eq_or_of_lt (i := 6) (b := C) Y66 A])
    have hA : A < 64 := by have h := HLT.out.1; rw [show (2 : Nat) ^ 6 = 64 from by decide] at h; exact h
    have hw : IntKind.i64.wrap ((A : Int) * 64) = (A : Int) * 64 := by rw [IntKind.wrap_i64]; omega
    exact Y15
   ·have HV := Hdq (show bits .or .i64 ((A : Int) * 128) (C : Int) = (V : Int) by
     have h := HLT.out
     have e := HE.out
     have e2 : (2 : Nat) ^ 7 = 128 := by decide
     rw [e2] at h e
     rw [show (A : Int) * 128 = ((A * 128 : Nat) : Int) by omega, jF _ _ Y66 Y66, <- e, Nat.mul_comm A, <- Nat.two_pow_add_eq_or_of_lt (i := 7) (b := C) Y66 A])
    have hA : A < 128 := by have h := HLT.out.1; rw [show (2 : Nat) ^ 7 = 128 from by decide] at h; exact h
    have hw : IntKind.i64.wrap ((A : Int) * 128) = (A : Int) * 128 := by rw [IntKind.wrap_i64]; omega
    exact Y15
   ·have HV := Hdq (show bits .or .i64 ((A : Int) * 256) (C : Int) = (V : Int) by
     have h := HLT.out
     have e := HE.out
     have e2 : (2 : Nat) ^ 8 = 256 := by decide
     rw [e2] at h e
     rw [show (A : Int) * 256 = ((A * 256 : Nat) : Int) by omega, jF _ _ Y66 Y66, <- e, Nat.mul_comm A, <- Nat.two_pow_add_eq_or_of_lt (i := 8) (b := C) Y66 A])
    have hA : A < 256 := by have h := HLT.out.1; rw [show (2 : Nat) ^ 8 = 256 from by decide] at h; exact h
    have hw : IntKind.i64.wrap ((A : Int) * 256) = (A : Int) * 256 := by rw [IntKind.wrap_i64]; omega
    exact Y15
   ·have HV := Hdq (show bits .or .i64 ((A : Int) * 512) (C : Int) = (V : Int) by
     have h := HLT.out
     have e := HE.out
     have e2 : (2 : Nat) ^ 9 = 512 := by decide
     rw [e2] at h e
     rw [show (A : Int) * 512 = ((A * 512 : Nat) : Int) by omega, jF _ _ Y66 Y66, <- e, Nat.mul_comm A, <- Nat.two_pow_add_eq_or_of_lt (i := 9) (b := C) Y66 A])
    have hA : A < 512 := by have h := HLT.out.1; rw [show (2 : Nat) ^ 9 = 512 from by decide] at h; exact h
    have hw : IntKind.i64.wrap ((A : Int) * 512) = (A : Int) * 512 := by rw [IntKind.wrap_i64]; omega
    exact Y15
   ·have HV := Hdq (show bits .or .i64 ((A : Int) * 1024) (C : Int) = (V : Int) by
     have h := HLT.out
     have e := HE.out
     have e2 : (2 : Nat) ^ 10 = 1024 := by decide
     rw [e2] at h e
     rw [show (A : Int) * 1024 = ((A * 1024 : Nat) : Int) by omega, jF _ _ Y66 Y66, <- e, Nat.mul_comm A, <- Nat.two_pow_add_eq_or_of_lt (i := 10) (b := C) Y66 A])
    have hA : A < 1024 := by have h := HLT.out.1; rw [show (2 : Nat) ^ 10 = 1024 from by decide] at h; exact h
    have hw : IntKind.i64.wrap ((A : Int) * 1024) = (A : Int) * 1024 := by rw [IntKind.wrap_i64]; omega
    exact Y15
def qdC (f : Nat -> Nat) (n : Nat) : Nat -> Nat -> Nat
 | 0, _ => 0
 | k + 1, y => if f y < n then 1 else 1 + qdC f n k (f y)
theorem Vl {f : Nat -> Nat} {n : Nat} (K x : Nat) (h1 : qX f K x < n) (h2 : ∀ j, 1 <= j -> j < K -> ¬ qX f j x < n) : ∀ (m j : Nat), K - j <= m -> j < K -> qdC f n m (qX f j x) = K - j
 | 0, j, h, hj => by omega
 | m + 1, j, h, hj => by
  rw [qdC, show f (qX f j x) = qX f (j + 1) x from rfl]
  by_cases e : j + 1 = K
  ·rw [if_pos (by rw [e]; exact h1)]
   omega
  ·rw [if_neg (h2 (j + 1) Y66 Y66), Vl K x h1 h2 m (j + 1) Y66 Y66]
   omega
theorem WI (w0 : World) (ob kb n bw x : Nat) (key : List UInt8) (hO : xI w0 ob kb n bw) (hK : ja w0 kb key) (hS : SG w0) (h1 : 1 <= bw) (h2 : bw <= 10) (hn : n <= 4 ^ bw) (hx : x < n) :
  Calls Tryz.prog 110 #[.pointer (some ⟨ob, 0, none⟩), .int .i64 (x : Int), .func (.func 111) #[.pointer (some ⟨ob, 0, none⟩)] #[]] w0 fun e w' => e = .returned (.tuple #[.int .i64 ((toN bw n (fnS key bw) x : Nat) : Int), .nilIface]) /\ Fr [] w0 w' := by
 obtain ⟨K, k1, k2, k3, k4⟩ := ZR (vF key bw) hn hx
 have HIT := Hdq (fun j => VE (w := bw) (f := jW bw (fnS key bw)) (fun x h => Ug (vF key bw) h) (Nat.lt_of_lt_of_le hx hn) j)
 obtain ⟨V, hV⟩ := exq (toN bw n (fnS key bw) x)
 rw [hV] at k2 k3 ⊢
 have HK := Hdq (And.intro k1 (And.intro k2 (And.intro k3 k4)))
 have HH := Hdq (And.intro hO (And.intro hK (And.intro hS (And.intro h1 h2))))
 have c1 : w0.cell? ⟨ob, 1, none⟩ = some (.int .i64 (n : Int)) := (show At w0 ob _ from hO).cell 1
 have hxi : (x : Int) < (n : Int) := by omega
 have hxn : ¬ (n : Int) <= (x : Int) := by omega
 clear hO hK hS h1 h2 k1 k2 k3 k4 hV hn
 go_enter Tryz.func110, Tryz.ntmps110
 go_wp2
 clear c1 hxi hxn hx
 go_loopw [1] (fun y wr => ∃ j : Nat, j < K /\ y = .int .i64 ((qX (jW bw (fnS key bw)) j x : Nat) : Int) /\ Hid (Fr [] w0 wr)) (fun y wr => qdC (jW bw (fnS key bw)) n K (kN y))
 case atStart => exact ⟨0, HK.out.1, rfl, Hdq (Fr.refl _ _)⟩
 case round =>
  obtain ⟨j, hj, rfl, HF⟩ := hrel
  have HCJ := Hdq (Vl K x (by rw [HK.out.2.1]; exact HK.out.2.2.1) HK.out.2.2.2 K j Y66 hj)
  have HIJ := Hdq (HIT.out j)
  have HU := Hdq (show jW bw (fnS key bw) (qX (jW bw (fnS key bw)) j x) = qX (jW bw (fnS key bw)) (j + 1) x from rfl)
  obtain ⟨y, hy⟩ := exq (qX (jW bw (fnS key bw)) j x)
  rw [hy] at HCJ HIJ HU ⊢
  clear hy
  go_wp2_with (go_at_call 111; fail)
  refine (qcy wr ob kb n bw y key (HH.out.1.keep HF.out) (HH.out.2.1.keep HF.out) (HH.out.2.2.1.keep HF.out) HH.out.2.2.2.1 HH.out.2.2.2.2 HIJ.out).mono ?_
  rintro e w2 ⟨rfl, hf⟩
  have HF2 := Hdq (HF.out.trans hf)
  rw [HU.out]
  have c1 : w2.cell? ⟨ob, 1, none⟩ = some (.int .i64 (n : Int)) := (HH.out.1.keep HF2.out).cell 1
  clear hf HF
  by_cases hK : j + 1 = K
  ·subst hK
   rw [HK.out.2.1]
   have hlt := HK.out.2.2.1
   have hlti : (V : Int) < (n : Int) := by omega
   clear hlt
   go_wp2
   go_ret2
   exact ⟨rfl, HF2.out⟩
  ·have hnl := HK.out.2.2.2 (j + 1) Y66 Y66
   have HCK := Hdq (Vl K x (by rw [HK.out.2.1]; exact HK.out.2.2.1) HK.out.2.2.2 K (j + 1) Y66 Y66)
   obtain ⟨z, hz⟩ := exq (qX (jW bw (fnS key bw)) (j + 1) x)
   rw [hz] at hnl HCK ⊢
   have HZ := Hdq hz
   have hnli : ¬ (z : Int) < (n : Int) := by omega
   clear hnl hz
   go_wp2
   go_roundw
   case rel => exact ⟨j + 1, by omega, by rw [HZ.out], HF2⟩
   case measure =>
    have a1 := HCJ.out
    have a2 := HCK.out
    simp only [kN, Int.toNat_natCast]
    omega
theorem ZH : ∀ (k w n : Nat), w <= 10 -> n <= 1048576 -> ur k w n <= 10
 | 0, w, n, h, _ => h
 | k + 1, w, n, h, hn => by
  rw [ur]
  split
  ·rename_i hlt
   refine ZH k (w + 1) n ?_ hn
   rcases Nat.lt_or_ge w 10 with h2 | h2
   ·omega
   ·have : (4 : Nat) ^ 10 <= 4 ^ w := Nat.pow_le_pow_right qa h2
    have e : (4 : Nat) ^ 10 = 1048576 := by decide
    omega
  ·exact h
theorem Zk {n : Nat} (h : n <= 1048576) : 1 <= jL n /\ jL n <= 10 := ⟨(ZA n).1, ZH 10 1 n qa h⟩
theorem qdU (w0 : World) (ob kb n x : Nat) (key : List UInt8) (hO : xI w0 ob kb n (jL n)) (hK : ja w0 kb key) (hS : SG w0) (hn : n <= 1048576) (hx : x < n) :
  Calls Tryz.prog 65 #[.pointer (some ⟨ob, 0, none⟩), .int .i64 (x : Int)] w0 fun e w' => e = .returned (.tuple #[.int .i64 ((je key n x : Nat) : Int), .nilIface]) /\ Fr [] w0 w' := by
 have HC := Hdq (WI w0 ob kb n (jL n) x key hO hK hS (Zk hn).1 (Zk hn).2 (xZ n Y66) hx)
 rw [show toN (jL n) n (fnS key (jL n)) x = je key n x from rfl] at HC
 obtain ⟨V, hV⟩ := exq (je key n x)
 rw [hV] at HC ⊢
 clear hO hK hS hn hx hV
 go_enter Tryz.func65, Tryz.ntmps65
 go_wp2_with (go_at_call 110; fail)
 refine HC.out.mono ?_
 rintro e w2 ⟨rfl, hf⟩
 have HF := Hdq hf
 clear hf HC
 go_wp2
 go_ret2
 exact ⟨rfl, HF.out⟩
theorem qa0 (w0 : World) (v : Value) (key : List UInt8) (n : Nat) (hB : Bs (fun b => w0.heap.size <= b) w0 v key) (hl : key.length <= 100000000) (hS : SG w0) (h1 : 1 <= n) (h2 : n <= 1048576) :
  Calls Tryz.prog 109 #[v, .int .i64 (n : Int)] w0 fun e w' => ∃ ob kb, e = .returned (.tuple #[.pointer (some ⟨ob, 0, none⟩), .nilIface]) /\ xI w' ob kb n (jL n) /\ ja w' kb key /\ Fr [] w0 w' := by
 have HC := Hdq (fun (w : World) (hf : Fr [] w0 w) => yM w v key (hB.mono (A' := fun b => w.heap.size <= b) hf qc (fun b hb => .inl qbO)) hl (hS.keep hf))
 have h1i : ¬ (n : Int) < 1 := by omega
 have h2i : ¬ (1048576 : Int) < (n : Int) := by omega
 clear hB hl hS
 go_enter Tryz.func109, Tryz.ntmps109
 go_wp2
 clear h1i h2i
 go_loopw [6] (fun y wr => ∃ b : Nat, 1 <= b /\ b <= 10 /\ y = .int .i64 (b : Int) /\ Hid (ur (11 - b) b n = jL n) /\ Hid (Fr [] w0 wr)) (fun y _ => 11 - (intOf y).toNat)
 case atStart => exact ⟨1, by omega, by omega, rfl, Hdq rfl, Hdq (Fr.refl _ _)⟩
 case round =>
  obtain ⟨b, hb1, hb2, rfl, HBF, HF⟩ := hrel
  by_cases hlt : 4 ^ b < n
  ·have HB2 := Hdq (show ur (11 - (b + 1)) (b + 1) n = jL n by
    have h := HBF.out
    rw [show 11 - b = (11 - (b + 1)) + 1 by omega, Qn hlt] at h
    exact h)
   have hb9 : b <= 9 := by
    rcases Nat.lt_or_ge b 10 with h | h
    ·omega
    ·have e : b = 10 := by omega
     subst e
     have : (4 : Nat) ^ 10 = 1048576 := by decide
     omega
   have hc : b = 1 ∨ b = 2 ∨ b = 3 ∨ b = 4 ∨ b = 5 ∨ b = 6 ∨ b = 7 ∨ b = 8 ∨ b = 9 := by omega
   clear hb1 hb2 hb9 HBF h1 h2
   rcases hc with rfl | rfl | rfl | rfl | rfl | rfl | rfl | rfl | rfl
   ·have hi : (4 : Int) < (n : Int) := by
     have e : (4 : Nat) ^ 1 = 4 := by decide
     exact Y31
    clear hlt
    go_wp2
    go_roundw
    case rel => exact ⟨2, by omega, by omega, rfl, HB2, HF⟩
    case measure => simp [intOf]
   ·have hi : (16 : Int) < (n : Int) := by
     have e : (4 : Nat) ^ 2 = 16 := by decide
     exact Y31
    clear hlt
    go_wp2
    go_roundw
    case rel => exact ⟨3, by omega, by omega, rfl, HB2, HF⟩
    case measure => simp [intOf]
   ·have hi : (64 : Int) < (n : Int) := by
     have e : (4 : Nat) ^ 3 = 64 := by decide
     exact Y31
    clear hlt
    go_wp2
    go_roundw
    case rel => exact ⟨4, by omega, by omega, rfl, HB2, HF⟩
    case measure => simp [intOf]
   ·have hi : (256 : Int) < (n : Int) := by
     have e : (4 : Nat) ^ 4 = 256 := by decide
     exact Y31
    clear hlt
    go_wp2
    go_roundw
    case rel => exact ⟨5, by omega, by omega, rfl, HB2, HF⟩
    case measure => simp [intOf]
   ·have hi : (1024 : Int) < (n : Int) := by
     have e : (4 : Nat) ^ 5 = 1024 := by decide
     exact Y31
    clear hlt
    go_wp2
    go_roundw
    case rel => exact ⟨6, by omega, by omega, rfl, HB2, HF⟩
    case measure => simp [intOf]
   ·have hi : (4096 : Int) < (n : Int) := by
     have e : (4 : Nat) ^ 6 = 4096 := by decide
     exact Y31
    clear hlt
    go_wp2
    go_roundw
    case rel => exact ⟨7, by omega, by omega, rfl, HB2, HF⟩
    case measure => simp [intOf]
   ·have hi : (16384 : Int) < (n : Int) := by
     have e : (4 : Nat) ^ 7 = 16384 := by decide
     exact Y31
    clear hlt
    go_wp2
    go_roundw
    case rel => exact ⟨8, by omega, by omega, rfl, HB2, HF⟩
    case measure => simp [intOf]
   ·have hi : (65536 : Int) < (n : Int) := by
     have e : (4 : Nat) ^ 8 = 65536 := by decide
     exact Y31
    clear hlt
    go_wp2
    go_roundw
    case rel => exact ⟨9, by omega, by omega, rfl, HB2, HF⟩
    case measure => simp [intOf]
   ·have hi : (262144 : Int) < (n : Int) := by
     have e : (4 : Nat) ^ 9 = 262144 := by decide
     exact Y31
    clear hlt
    go_wp2
    go_roundw
    case rel => exact ⟨10, by omega, by omega, rfl, HB2, HF⟩
    case measure => simp [intOf]
  ·have HB2 := Hdq (show b = jL n by
    have h := HBF.out
    rw [Qr hlt] at h
    exact h)
   have hc : b = 1 ∨ b = 2 ∨ b = 3 ∨ b = 4 ∨ b = 5 ∨ b = 6 ∨ b = 7 ∨ b = 8 ∨ b = 9 ∨ b = 10 := by omega
   clear hb1 hb2 HBF h1 h2
   rcases hc with rfl | rfl | rfl | rfl | rfl | rfl | rfl | rfl | rfl | rfl
   ·have hi : ¬ (4 : Int) < (n : Int) := by
     have e : (4 : Nat) ^ 1 = 4 := by decide
     exact Y31
    clear hlt
    go_wp2_with (go_at_call 103; fail)
    refine (HC.out wr HF.out).mono ?_
    rintro e w2 ⟨kb, rfl, hk, hf⟩
    have HF2 := Hdq (HF.out.trans hf)
    have HK2 := Hdq hk
    obtain ⟨Z2, hZ2⟩ := exq (w2.heap.size)
    clear hk hf HC HF
    go_wp2_with (refine jZ (.tmp 25) rfl rfl #[.pointer (some ⟨kb, 0, none⟩), .int .i64 (n : Int), .int .i64 1] rfl ?_)
    exact Y7
   ·have hi : ¬ (16 : Int) < (n : Int) := by
     have e : (4 : Nat) ^ 2 = 16 := by decide
     exact Y31
    clear hlt
    go_wp2_with (go_at_call 103; fail)
    refine (HC.out wr HF.out).mono ?_
    rintro e w2 ⟨kb, rfl, hk, hf⟩
    have HF2 := Hdq (HF.out.trans hf)
    have HK2 := Hdq hk
    obtain ⟨Z2, hZ2⟩ := exq (w2.heap.size)
    clear hk hf HC HF
    go_wp2_with (refine jZ (.tmp 25) rfl rfl #[.pointer (some ⟨kb, 0, none⟩), .int .i64 (n : Int), .int .i64 2] rfl ?_)
    exact Y7
   ·have hi : ¬ (64 : Int) < (n : Int) := by
     have e : (4 : Nat) ^ 3 = 64 := by decide
     exact Y31
    clear hlt
    go_wp2_with (go_at_call 103; fail)
    refine (HC.out wr HF.out).mono ?_
    rintro e w2 ⟨kb, rfl, hk, hf⟩
    have HF2 := Hdq (HF.out.trans hf)
    have HK2 := Hdq hk
    obtain ⟨Z2, hZ2⟩ := exq (w2.heap.size)
    clear hk hf HC HF
    go_wp2_with (refine jZ (.tmp 25) rfl rfl #[.pointer (some ⟨kb, 0, none⟩), .int .i64 (n : Int), .int .i64 3] rfl ?_)
    exact Y7
   ·have hi : ¬ (256 : Int) < (n : Int) := by
     have e : (4 : Nat) ^ 4 = 256 := by decide
     exact Y31
    clear hlt
    go_wp2_with (go_at_call 103; fail)
    refine (HC.out wr HF.out).mono ?_
    rintro e w2 ⟨kb, rfl, hk, hf⟩
    have HF2 := Hdq (HF.out.trans hf)
    have HK2 := Hdq hk
    obtain ⟨Z2, hZ2⟩ := exq (w2.heap.size)
    clear hk hf HC HF
    go_wp2_with (refine jZ (.tmp 25) rfl rfl #[.pointer (some ⟨kb, 0, none⟩), .int .i64 (n : Int), .int .i64 4] rfl ?_)
    exact Y7
   ·have hi : ¬ (1024 : Int) < (n : Int) := by
     have e : (4 : Nat) ^ 5 = 1024 := by decide
     exact Y31
    clear hlt
    go_wp2_with (go_at_call 103; fail)
    refine (HC.out wr HF.out).mono ?_
    rintro e w2 ⟨kb, rfl, hk, hf⟩
    have HF2 := Hdq (HF.out.trans hf)
    have HK2 := Hdq hk
    obtain ⟨Z2, hZ2⟩ := exq (w2.heap.size)
    clear hk hf HC HF
    go_wp2_with (refine jZ (.tmp 25) rfl rfl #[.pointer (some ⟨kb, 0, none⟩), .int .i64 (n : Int), .int .i64 5] rfl ?_)
    exact Y7
   ·have hi : ¬ (4096 : Int) < (n : Int) := by
     have e : (4 : Nat) ^ 6 = 4096 := by decide
     exact Y31
    clear hlt
    go_wp2_with (go_at_call 103; fail)
    refine (HC.out wr HF.out).mono ?_
    rintro e w2 ⟨kb, rfl, hk, hf⟩
    have HF2 := Hdq (HF.out.trans hf)
    have HK2 := Hdq hk
    obtain ⟨Z2, hZ2⟩ := exq (w2.heap.size)
    clear hk hf HC HF
    go_wp2_with (refine jZ (.tmp 25) rfl rfl #[.pointer (some ⟨kb, 0, none⟩), .int .i64 (n : Int), .int .i64 6] rfl ?_)
    exact Y7
   ·have hi : ¬ (16384 : Int) < (n : Int) := by
     have e : (4 : Nat) ^ 7 = 16384 := by decide
     exact Y31
    clear hlt
    go_wp2_with (go_at_call 103; fail)
    refine (HC.out wr HF.out).mono ?_
    rintro e w2 ⟨kb, rfl, hk, hf⟩
    have HF2 := Hdq (HF.out.trans hf)
    have HK2 := Hdq hk
    obtain ⟨Z2, hZ2⟩ := exq (w2.heap.size)
    clear hk hf HC HF
    go_wp2_with (refine jZ (.tmp 25) rfl rfl #[.pointer (some ⟨kb, 0, none⟩), .int .i64 (n : Int), .int .i64 7] rfl ?_)
    exact Y7
   ·have hi : ¬ (65536 : Int) < (n : Int) := by
     have e : (4 : Nat) ^ 8 = 65536 := by decide
     exact Y31
    clear hlt
    go_wp2_with (go_at_call 103; fail)
    refine (HC.out wr HF.out).mono ?_
    rintro e w2 ⟨kb, rfl, hk, hf⟩
    have HF2 := Hdq (HF.out.trans hf)
    have HK2 := Hdq hk
    obtain ⟨Z2, hZ2⟩ := exq (w2.heap.size)
    clear hk hf HC HF
    go_wp2_with (refine jZ (.tmp 25) rfl rfl #[.pointer (some ⟨kb, 0, none⟩), .int .i64 (n : Int), .int .i64 8] rfl ?_)
    exact Y7
   ·have hi : ¬ (262144 : Int) < (n : Int) := by
     have e : (4 : Nat) ^ 9 = 262144 := by decide
     exact Y31
    clear hlt
    go_wp2_with (go_at_call 103; fail)
    refine (HC.out wr HF.out).mono ?_
    rintro e w2 ⟨kb, rfl, hk, hf⟩
    have HF2 := Hdq (HF.out.trans hf)
    have HK2 := Hdq hk
    obtain ⟨Z2, hZ2⟩ := exq (w2.heap.size)
    clear hk hf HC HF
    go_wp2_with (refine jZ (.tmp 25) rfl rfl #[.pointer (some ⟨kb, 0, none⟩), .int .i64 (n : Int), .int .i64 9] rfl ?_)
    exact Y7
   ·have hi : ¬ (1048576 : Int) < (n : Int) := by
     have e : (4 : Nat) ^ 10 = 1048576 := by decide
     exact Y31
    clear hlt
    go_wp2_with (go_at_call 103; fail)
    refine (HC.out wr HF.out).mono ?_
    rintro e w2 ⟨kb, rfl, hk, hf⟩
    have HF2 := Hdq (HF.out.trans hf)
    have HK2 := Hdq hk
    obtain ⟨Z2, hZ2⟩ := exq (w2.heap.size)
    clear hk hf HC HF
    go_wp2_with (refine jZ (.tmp 25) rfl rfl #[.pointer (some ⟨kb, 0, none⟩), .int .i64 (n : Int), .int .i64 10] rfl ?_)
    exact Y7
end Go.Proofs.YtnafknkchbfpaaaGreatDoor
