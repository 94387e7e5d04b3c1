import Derived.Test.YtnafknkchbfpaaaGreatDoorHC
import Derived.Test.YtnafknkchbfpaaaGreatDoorHD
set_option maxRecDepth 1000000
set_option maxHeartbeats 8000000
namespace Go.Proofs.YtnafknkchbfpaaaGreatDoor
open Go.RowKit Go.Bl
set_option linter.unusedVariables false
noncomputable def qgh : Code := ((Tryz.f114.body.bind (qq 1)).getD .skip)
theorem LR (a : Go.Act) (hs : a.tmps.size = 14) (hd : a.defers = []) : a = ⟨(slot a 0 :: slot a 1 :: slot a 2 :: slot a 3 :: slot a 4 :: slot a 5 :: slot a 6 :: slot a 7 :: slot a 8 :: slot a 9 :: slot a 10 :: slot a 11 :: slot a 12 :: slot a 13 :: []).toArray, []⟩ := zF a 14 hs hd
def Kp (Z kb mb : Nat) (key : List UInt8) (ix : Int) (k : Nat) (b : Go.Act) (p : World) : Prop :=
 match k with
 | 0 => slot b 6 = .pointer (some ⟨mb, 0, none⟩)
 | 1 => slot b 7 = .pointer (some ⟨kb, 0, none⟩)
 | 2 => slot b 8 = .int .i64 ix
 | 3 => qh 5 Z p (slot b 9) (beK 8 ix)
 | 4 => ∃ g, slot b 10 = .slice (some ⟨g, 0, none⟩) 1 1 /\ At p g (.cells #[slot b 9] 22)
 | 5 => slot b 11 = .agg ((zH key (beK 8 ix)).map u8v).toArray
 | 6 => ∃ g c, slot b 5 = .pointer (some ⟨g, 0, none⟩) /\ Z <= g /\ At p g (.cells c 58) /\ c.size = 32
 | 7 => ∃ g, slot b 5 = .pointer (some ⟨g, 0, none⟩) /\ Z <= g /\ At p g (.cells ((zH key (beK 8 ix)).map u8v).toArray 58)
 | _ => True
def qe4 (Z kb mb : Nat) (key : List UInt8) (ix : Int) (k : Nat) (b : Go.Act) (p : World) : Prop :=
 match k with
 | _ => True
theorem QS (Z kb mb : Nat) (key : List UInt8) (ix : Int) : ∀ (k : Nat) (b : Go.Act) (p p' : World), Fr [] p p' -> Kp Z kb mb key ix k b p -> Kp Z kb mb key ix k b p'
 | 0, b, p, p', hf, h => h
 | 1, b, p, p', hf, h => h
 | 2, b, p, p', hf, h => h
 | 3, b, p, p', hf, h => h.keep hf (fun _ h => by cases h)
 | 4, b, p, p', hf, h => let ⟨g, h1, h3⟩ := h; ⟨g, h1, h3.keep0 hf⟩
 | 5, b, p, p', hf, h => h
 | 6, b, p, p', hf, h => let ⟨g, c, h1, h2, h3, h4⟩ := h; ⟨g, c, h1, h2, h3.keep0 hf, h4⟩
 | 7, b, p, p', hf, h => let ⟨g, h1, h2, h3⟩ := h; ⟨g, h1, h2, h3.keep0 hf⟩
 | k + 8, b, p, p', hf, h => trivial
theorem yG (Z kb mb : Nat) (key : List UInt8) (ix : Int) : ∀ (k : Nat) (b : Go.Act) (p p' : World), Fr [] p p' -> qe4 Z kb mb key ix k b p -> qe4 Z kb mb key ix k b p'
 | k, b, p, p', hf, h => trivial
theorem bk1 (Z kb mb : Nat) (key : List UInt8) (ix : Int) (w : World) (a : Go.Act) (hsz : a.tmps.size = 14) (h1 : slot a 1 = .int .i64 ix) (h2 : slot a 2 = .pointer (some ⟨mb, 0, none⟩)) (hZ : w.heap.size = Z) (hM : At w mb (.cells #[.pointer (some ⟨kb, 0, none⟩)] 196)) (hK : qX w kb key) (hS : SG w) (Q : Exit -> Go.Act -> World -> Prop)
  (hQ : ∀ (b : Go.Act) (p : World) (g : Nat), b.defers = a.defers -> b.tmps.size = 14 -> (∀ s, some s ∉ ([some 6, some 7, some 8, some 9, some 10, some 11, some 5, none] : List (Option Nat)) -> slot b s = slot a s) -> Fr [] w p -> slot b 5 = .pointer (some ⟨g, 0, none⟩) -> Z <= g -> At p g (.cells ((zH key (beK 8 ix)).map u8v).toArray 58) -> Q .normal b p) : Code.wp Tryz.prog qgh Q a w := by
 conv => arg 2; whnf
 refine qN [] (Kp Z kb mb key ix) (qe4 Z kb mb key ix) [some 6, some 7, some 8, some 9, some 10, some 11, some 5, none] [[6], [7], [8], [9], [9, 10], [11], [5], [5]] [] [] [(3, 5), (4, 5), (6, 7)] qe qe qe qe qe qd ?_ ?_ ?_ ?_ ?_
 ·intro w1 hw1 k hk1 hk2
  have hk3 : 8 <= k := hk1
  have hk4 : k < 8 := hk2
  clear hk1 hk2
  omega
 ·intro k b b' p hs h
  match k with
  | 0 => show slot b' 6 = .pointer (some ⟨mb, 0, none⟩); rw [<- hs 6 qd]; exact h
  | 1 => show slot b' 7 = .pointer (some ⟨kb, 0, none⟩); rw [<- hs 7 qd]; exact h
  | 2 => show slot b' 8 = .int .i64 ix; rw [<- hs 8 qd]; exact h
  | 3 => show qh 5 Z p (slot b' 9) (beK 8 ix); rw [<- hs 9 qd]; exact h
  | 4 => show ∃ g, slot b' 10 = .slice (some ⟨g, 0, none⟩) 1 1 /\ At p g (.cells #[slot b' 9] 22); rw [<- hs 9 qd, <- hs 10 qd]; exact h
  | 5 => show slot b' 11 = .agg ((zH key (beK 8 ix)).map u8v).toArray; rw [<- hs 11 qd]; exact h
  | 6 => show ∃ g c, slot b' 5 = .pointer (some ⟨g, 0, none⟩) /\ Z <= g /\ At p g (.cells c 58) /\ c.size = 32; rw [<- hs 5 qd]; exact h
  | 7 => show ∃ g, slot b' 5 = .pointer (some ⟨g, 0, none⟩) /\ Z <= g /\ At p g (.cells ((zH key (beK 8 ix)).map u8v).toArray 58); rw [<- hs 5 qd]; exact h
  | k + 8 => trivial
 ·intro k b b' p hs h
  match k with
  | k => trivial
 ·intro i hi dn b p hs ho hf hF hG hdn hdc hr
  have hi9 : i < 8 := hi
  clear hi
  match i, hi9 with
  | 0, _ =>
   have e0 : b.eval (.tmp 2) = .pointer (some ⟨mb, 0, none⟩) := (ho 2 qd).trans h2
   exact Y0
  | 1, _ =>
   have e0 : b.eval (.tmp 6) = .pointer (some ⟨mb, 0, none⟩) := fdq hF hr 0
   have c1 : p.cell? ⟨mb, 0, none⟩ = some (.pointer (some ⟨kb, 0, none⟩)) := (hM.keep0 hf).cell 0
   exact Y3
  | 2, _ =>
   have e0 : b.eval (.tmp 1) = .int .i64 ix := (ho 1 qd).trans h1
   exact Y0
  | 3, _ =>
   have e0 : b.eval (.tmp 8) = .int .i64 ix := fdq hF hr 2
   refine qV _ Y69 (qu rfl) 57 _ _ rfl #[.int .i64 ix] Y66 Y75 ((zY p ix).mono ?_)
   rintro e p' ⟨u, rfl, hu, hf2⟩
   refine ⟨_, rfl, hf.trans hf2, fun k _ _ _ _ h => QS Z kb mb key ix k _ _ _ hf2 h, ?_, fun e _ _ h => yG Z kb mb key ix e _ _ _ hf2 h, fun e he hi hx => by exact absurd he (Nat.not_lt_zero e)⟩
   refine qA b 9 _ Y64 (fun b' => Kp Z kb mb key ix 3 b' p') ?_
   intro b' hd hne
   show qh 5 Z p' (slot b' 9) (beK 8 ix)
   exact Y44
  | 4, _ =>
   have f3 : qh 5 Z p (slot b 9) (beK 8 ix) := hF 3 (show (3:Nat) < 8 by decide) (fun _ => (hr 3 qe).2) (fun c hc => by (have hq1 : c = 5 := by simpa using hc); subst hq1; exact (by cases hq : dn 5 with | false => rfl | true => (have hq2 := hdc 5 4 hq qe; rw [hdn] at hq2; cases hq2)))
   have hc1 : (slot b 9).cells = #[slot b 9] := by obtain ⟨x, y, z, e⟩ := jM f3; rw [e]; rfl
   refine opV_step _ Y69 ?_
   refine xe Tryz.underlying56 Tryz.infoBytes rfl (.tmp 9) rfl (slot b 9) rfl hc1 ?_
   have hf2 : Fr [] p (p.alloc (.cells #[slot b 9] 22)) := Fr.alloc _ _
   obtain ⟨p', hp'⟩ : ∃ p', p.alloc (.cells #[slot b 9] 22) = p' := ⟨_, rfl⟩
   have hA : At p' p.heap.size (.cells #[slot b 9] 22) := by rw [<- hp']; exact At.new rfl
   rw [hp'] at hf2 ⊢
   clear hp'
   refine ⟨rfl, rfl, hf.trans hf2, fun k _ _ _ _ h => QS Z kb mb key ix k _ _ _ hf2 h, ?_, fun e _ _ h => yG Z kb mb key ix e _ _ _ hf2 h, fun e he hi hx => by exact absurd he (Nat.not_lt_zero e)⟩
   refine qA b 10 _ Y64 (fun b' => Kp Z kb mb key ix 4 b' p') ?_
   intro b' hd hne
   show ∃ g, slot b' 10 = .slice (some ⟨g, 0, none⟩) 1 1 /\ At p' g (.cells #[slot b' 9] 22)
   rw [hne 9 qd]
   exact ⟨_, hd, hA⟩
  | 5, _ =>
   have f3 : qh 5 Z p (slot b 9) (beK 8 ix) := hF 3 (show (3:Nat) < 8 by decide) (fun _ => (hr 3 qe).2) (fun c hc => by (have hq1 : c = 5 := by simpa using hc); subst hq1; exact hdn)
   have f4 : ∃ g, slot b 10 = .slice (some ⟨g, 0, none⟩) 1 1 /\ At p g (.cells #[slot b 9] 22) := hF 4 (show (4:Nat) < 8 by decide) (fun _ => (hr 4 qe).2) (fun c hc => by (have hq1 : c = 5 := by simpa using hc); subst hq1; exact hdn)
   obtain ⟨g, b1, b2⟩ := f4
   have e0 : b.eval (.tmp 7) = .pointer (some ⟨kb, 0, none⟩) := fdq hF hr 1
   have e1 : b.eval (.tmp 10) = .slice (some ⟨g, 0, none⟩) 1 1 := b1
   have hRD : RdB (fun b => p.heap.size <= b) p (.slice (some ⟨g, 0, none⟩) 1 1) [(slot b 9, beK 8 ix)] := by
    refine ⟨⟨_, 1, rfl, by simp, by decide, Row.of_block (c := #[slot b 9]) (fz := (0, 0)) b2 qds⟩, fun x hx => ?_⟩
    obtain rfl : x = (slot b 9, beK 8 ix) := by simpa using hx
    exact zk (f3.bs (fun _ h => h.elim))
   refine qV _ Y69 (qu rfl) 105 _ _ rfl #[.pointer (some ⟨kb, 0, none⟩), .slice (some ⟨g, 0, none⟩) 1 1] Y73 Y75 ((J4 p kb _ key [(slot b 9, beK 8 ix)] (hK.keep hf) hRD (hS.keep hf) qf qf (by simp [qP, yq])).mono ?_)
   rintro e p' ⟨rfl, hf2⟩
   refine ⟨_, rfl, hf.trans hf2, fun k _ _ _ _ h => QS Z kb mb key ix k _ _ _ hf2 h, ?_, fun e _ _ h => yG Z kb mb key ix e _ _ _ hf2 h, fun e he hi hx => by exact absurd he (Nat.not_lt_zero e)⟩
   refine qA b 11 _ Y64 (fun b' => Kp Z kb mb key ix 5 b' p') ?_
   intro b' hd hne
   show slot b' 11 = .agg ((zH key (beK 8 ix)).map u8v).toArray
   rw [hd]
   simp [qP]
  | 6, _ =>
   refine opV_step _ Y69 ?_
   refine yn rfl (.pointer (some ⟨p.heap.size, 0, none⟩)) (p.alloc (.cells qZ 58)) qe ?_
   have hf2 : Fr [] p (p.alloc (.cells qZ 58)) := Fr.alloc _ _
   obtain ⟨p', hp'⟩ : ∃ p', p.alloc (.cells qZ 58) = p' := ⟨_, rfl⟩
   have hA : At p' p.heap.size (.cells qZ 58) := by rw [<- hp']; exact At.new rfl
   rw [hp'] at hf2 ⊢
   clear hp'
   refine ⟨rfl, rfl, hf.trans hf2, fun k _ _ _ _ h => QS Z kb mb key ix k _ _ _ hf2 h, ?_, fun e _ _ h => yG Z kb mb key ix e _ _ _ hf2 h, fun e he hi hx => by exact absurd he (Nat.not_lt_zero e)⟩
   refine qA b 5 _ Y64 (fun b' => Kp Z kb mb key ix 6 b' p') ?_
   exact Y45
  | 7, _ =>
   have f5 : slot b 11 = .agg ((zH key (beK 8 ix)).map u8v).toArray := fdq hF hr 5
   have f6 : ∃ g c, slot b 5 = .pointer (some ⟨g, 0, none⟩) /\ Z <= g /\ At p g (.cells c 58) /\ c.size = 32 := hF 6 (show (6:Nat) < 8 by decide) (fun _ => (hr 6 qe).2) (fun c hc => by (have hq1 : c = 7 := by simpa using hc); subst hq1; exact hdn)
   obtain ⟨g, c, b1, b2, b3, b4⟩ := f6
   have e0 : b.eval (.tmp 5) = .pointer (some ⟨g, 0, none⟩) := b1
   have e1 : b.eval (.tmp 11) = .agg ((zH key (beK 8 ix)).map u8v).toArray := f5
   refine opV_step _ Y69 ?_
   refine qx (.tmp 5) (.tmp 11) rfl rfl ((zH key (beK 8 ix)).map u8v).toArray e0 e1 Y93 b3 (by rw [b4]; rfl) (zC _) ?_
   intro p' f1 a1 _
   refine ⟨rfl, rfl, hf.then f1 (fun z hz => .inr Y74), fun k hki hnr hco hli h => ?_, ⟨g, b1, b2, a1⟩, fun _ _ _ h => h, fun e he hi hx => by exact absurd he (Nat.not_lt_zero e)⟩
   match k with
   | 0 => exact h
   | 1 => exact h
   | 2 => exact h
   | 3 => exact absurd (hr 5 qe).2 qdr
   | 4 => exact absurd (hr 5 qe).2 qdr
   | 5 => exact h
   | 6 => exact absurd qd hco
   | 7 => exact absurd rfl hki
   | k + 8 => exact trivial
 ·intro b p hd hs ho hf hall hex
  obtain ⟨g, h1, h2, h3⟩ := hall 7 qd (fun c hc => by simp at hc)
  exact hQ b p g hd (hs.trans hsz) ho hf h1 h2 h3
theorem xZ (w : World) (n : Int) :
  Calls Tryz.prog 151 #[.int .i64 n] w fun e w' => e = .returned (.bool (decide (0 <= n /\ n <= 1099511627776))) /\ Fr [] w w' := by
 obtain ⟨r, hr⟩ := exq (decide (0 <= n /\ n <= 1099511627776))
 rw [hr]
 have h3' : n < 0 ∨ (0 <= n /\ n <= 1099511627776) ∨ (0 <= n /\ 1099511627776 < n) := by omega
 rcases h3' with h | h | h
 ·have HE := Hdq (show r = false from hr.symm.trans (decide_eq_false Y62))
  clear hr
  have h1 : ¬ (0 : Int) <= n := by omega
  go_enter Tryz.func151, Tryz.ntmps151
  exact Y15
 ·have HE := Hdq (show r = true from hr.symm.trans (decide_eq_true Y62))
  clear hr
  have h1 : (0 : Int) <= n := by omega
  have h2 : n <= 1099511627776 := by omega
  go_enter Tryz.func151, Tryz.ntmps151
  exact Y15
 ·have HE := Hdq (show r = false from hr.symm.trans (decide_eq_false Y62))
  clear hr
  have h1 : (0 : Int) <= n := by omega
  have h2 : ¬ n <= 1099511627776 := by omega
  go_enter Tryz.func151, Tryz.ntmps151
  exact Y15
theorem Wc (w0 : World) (kb : Nat) (key : List UInt8) (i : Int) (hK : qX w0 kb key) (hS : SG w0) :
  Calls Tryz.prog 114 #[.agg #[.pointer (some ⟨kb, 0, none⟩)], .int .i64 i] w0 fun e w' => ∃ u, e = .returned u /\ qh 5 w0.heap.size w' u (uK key i) /\ Fr [] w0 w' := by
 obtain ⟨Z, hZ⟩ := exq (w0.heap.size)
 have F1 : Fr [] w0 (w0.alloc (.cells #[.pointer (some ⟨kb, 0, none⟩)] 196)) := Fr.alloc _ _
 have HK := Hdq (And.intro (hK.keep F1) (And.intro (hS.keep F1) (show At (w0.alloc (.cells #[.pointer (some ⟨kb, 0, none⟩)] 196)) Z (.cells #[.pointer (some ⟨kb, 0, none⟩)] 196) from At.new hZ.symm)))
 have HF1 := Hdq F1
 have HS1 := Hdq (show (w0.alloc (.cells #[.pointer (some ⟨kb, 0, none⟩)] 196)).heap.size = Z + 1 by simp [hZ])
 clear hK hS F1
 obtain ⟨o, ho⟩ := exq (zH key (beK 8 i))
 have hol : o.length = 32 := by rw [<- ho]; rfl
 have HO := Hdq (show uK key i = o.take 8 by rw [<- ho]; rfl)
 have HOL := Hdq hol
 have HOO := Hdq ho
 clear hol ho
 go_enter Tryz.func114, Tryz.ntmps114
 go_wp2_with (refine js (.tmp 0) rfl rfl #[.pointer (some ⟨kb, 0, none⟩)] rfl ?_)
 refine bk1 (Z + 1) kb Z key i _ _ rfl rfl rfl HS1.out HK.out.2.2 HK.out.1 HK.out.2.1 _ ?_
 intro b p g hd hs ho hf h5 hg hA
 rw [HOO.out] at hA
 rw [LR b hs hd, h5]
 have HB := Hdq ((xD (A := fun _ => False) (n := 32) hA HOL.out qd qf).take 8 Y62)
 have HF2 := Hdq (HF1.out.trans hf)
 clear hf hA ho h5 hg HK
 go_wp2_with (go_at_call 59; fail)
 refine (qY (fun _ => False) _ _ (o.take 8) HB.out Y78).mono ?_
 rintro e w4 ⟨u, rfl, hu, hf4⟩
 have HU := Hdq (hu.base HF2.out.size)
 have HF3 := Hdq (HF2.out.trans hf4)
 clear hu hf4
 go_wp2
 go_ret
 exact ⟨_, rfl, by rw [HO.out]; exact HU.out, HF3.out⟩
def QB (s xs : List UInt8) : Nat -> List UInt8
 | 0 => s
 | k + 1 => (QB s xs k).set k (s.getD k 0 ^^^ xs.getD k 0)
theorem Wf (s xs : List UInt8) : ∀ k, (QB s xs k).length = s.length
 | 0 => rfl
 | k + 1 => by rw [QB, List.length_set, Wf s xs k]
theorem LC (s xs : List UInt8) : ∀ (k j : Nat), k <= j -> (QB s xs k).getD j 0 = s.getD j 0
 | 0, j, _ => rfl
 | k + 1, j, h => by
  rw [QB, List.getD_eq_getElem?_getD, List.getElem?_set_ne Y62, <- List.getD_eq_getElem?_getD]
  exact LC s xs k j Y62
theorem qcC (s xs : List UInt8) (hs : s.length = 8) (hx : xs.length = 8) : QB s xs 8 = (xs.zip s).map fun x => x.1 ^^^ x.2 := by
 match s, hs, xs, hx with
 | [a0, a1, a2, a3, a4, a5, a6, a7], _, [b0, b1, b2, b3, b4, b5, b6, b7], _ =>
  simp [QB, UInt8.xor_comm]
theorem YM {base : Nat} {w : World} {u : Value} {xs : List UInt8} (h : qh 5 base w u xs) (hx : 0 < xs.length) : BsT w u xs := by
 obtain ⟨h1, h2⟩ := h
 rcases h2 with ⟨-, h2⟩ | ⟨g, cap, cur, rfl, hg, hh, hn, hm, hs, ht⟩
 ·omega
 ·refine ⟨g, 0, cap, cur, rfl, hn, hm, hh, fun i hi => ?_⟩
  rw [List.length_map] at hi
  rw [Nat.mul_one] at ht
  rw [Nat.zero_add, <- ht, List.getElem?_take, if_pos hi, Array.getElem?_toList]
theorem L3 (w0 : World) (kb : Nat) (key : List UInt8) (i : Int) (bv : Value) (xs : List UInt8) (hK : qX w0 kb key) (hS : SG w0) (hB : Bs (fun b => w0.heap.size <= b) w0 bv xs) (hx : xs.length = 8) :
  Calls Tryz.prog 157 #[.agg #[.pointer (some ⟨kb, 0, none⟩)], .int .i64 i, bv] w0 fun e w' => ∃ u, e = .returned u /\ qh 5 w0.heap.size w' u (xF key i xs) /\ Fr [] w0 w' := by
 obtain ⟨ba, bc, rfl, hc1, hc2, hrow⟩ := id hB
 obtain ⟨Z, hZ⟩ := exq (w0.heap.size)
 have F1 : Fr [] w0 (w0.alloc (.cells #[.pointer (some ⟨kb, 0, none⟩)] 196)) := Fr.alloc _ _
 have HK := Hdq (And.intro (hK.keep F1) (hS.keep F1))
 have HM := Hdq (show At (w0.alloc (.cells #[.pointer (some ⟨kb, 0, none⟩)] 196)) Z (.cells #[.pointer (some ⟨kb, 0, none⟩)] 196) from At.new hZ.symm)
 have HF1 := Hdq F1
 rw [hx] at hc1 hB ⊢
 obtain ⟨bb, bo, rfl, hnb, hcb⟩ := hrow.some_of (by simp [hx])
 have HR := Hdq hcb
 have HX := Hdq hx
 obtain ⟨s, hs⟩ := exq (uK key i)
 have HS := Hdq hs
 have HSL := Hdq (show s.length = 8 by rw [<- hs]; rfl)
 have HE := Hdq (show QB s xs 8 = xF key i xs by rw [qcC s xs HSL.out hx, <- hs]; rfl)
 have HNB := Hdq (show bb < w0.heap.size by omega)
 clear hK hS F1 hcb hx hs hB hrow hnb
 go_enter Tryz.func157, Tryz.ntmps157
 go_wp2_with (first | (refine js (.tmp 0) rfl rfl #[.pointer (some ⟨kb, 0, none⟩)] rfl ?_) | (refine qI (.tmp 3) rfl rfl Z 0 [.pointer (some ⟨kb, 0, none⟩)] rfl (qC HM.out) Tryz.underlying196 rfl qe ?_) | (go_at_call 114; fail))
 refine (Wc _ kb key i HK.out.1 HK.out.2).mono ?_
 rintro e w2 ⟨u, rfl, hu, hf⟩
 rw [HS.out] at hu
 have HF2 := Hdq (HF1.out.trans hf)
 have hu2 : qh 5 Z w2 u (QB s xs 0) := hu.base Y94
 have HU := Hdq hu2
 obtain ⟨g, uc, hug⟩ : ∃ g uc, u = .slice (some ⟨g, 0, none⟩) 8 uc := by
  rcases hu.2 with ⟨-, h⟩ | ⟨g, cap, cur, h, -⟩
  ·rw [HSL.out] at h; cases h
  ·exact ⟨g, cap, by rw [h, HSL.out]⟩
 subst hug
 have hgz : Z <= g := (hu2.lt g rfl).1
 clear hu hf hu2 HK HM HF1
 have HZ := Hdq hZ
 clear hZ
 go_wp2
 go_loopw [15] (fun i wr => ∃ k : Nat, k <= 8 /\ i = .int .i64 (k : Int) /\ Hid (qh 5 Z wr (.slice (some ⟨g, 0, none⟩) 8 uc) (QB s xs k)) /\ Hid (Fr [] w0 wr)) (fun i _ => 8 - (intOf i).toNat)
 case atStart => exact ⟨0, by omega, rfl, HU, HF2⟩
 case round =>
  clear HU HF2
  obtain ⟨k, hk, rfl, HU, HF⟩ := hrel
  by_cases hk8 : k < 8
  ·obtain ⟨cur, k1, k2, k3, k4⟩ := qdJ HU.out
   rw [Wf, HSL.out] at k2 k3
   have c1 : wr.cell? ⟨bb, bo + k, none⟩ = some (.int .u8 ((xs.getD k 0).toNat : Int)) := qG HF.out qf (by rw [HR.out k (by rw [List.length_map, HX.out]; exact hk8), List.getElem?_map, List.getD_eq_getElem?_getD, List.getElem?_eq_getElem (by rw [HX.out]; exact hk8)]; rfl)
   have c2 : wr.cell? ⟨g, k, none⟩ = some (.int .u8 ((s.getD k 0).toNat : Int)) := by
    rw [qK k1, k3 k hk8, LC s xs k k (Nat.le_refl _)]
   obtain ⟨x, hx⟩ := exq (xs.getD k 0)
   obtain ⟨y, hy⟩ := exq (s.getD k 0)
   rw [hx] at c1
   rw [hy] at c2
   have HST := Hdq (show (QB s xs k).set k (y ^^^ x) = QB s xs (k + 1) by rw [QB, hx, hy])
   have HK1 := Hdq k1
   have HK2 := Hdq (show k < cur.size by omega)
   have HK4 := Hdq k4
   have hxx := u8_xor_u y x
   have hki : (k : Int) < 8 := by omega
   clear k1 k2 k3 k4 hx hy
   go_wp2_with (refine qk (.tmp 26) (.tmp 25) rfl rfl _ rfl rfl HK1.out HK2.out qe rfl ?_)
   intro w3 f a1 _
   have HU3 := Hdq (show qh 5 Z w3 (.slice (some ⟨g, 0, none⟩) 8 uc) (QB s xs (k + 1)) by
    rw [<- HST.out]
    refine HK4.out w3 k (y ^^^ x) ?_
    first | exact a1 | (rw [show u8v (y ^^^ x) = Value.int IntKind.u8 ((y.toNat ^^^ x.toNat : Nat) : Int) from by rw [<- UInt8.toNat_xor]; rfl]; simpa using a1))
   have HF3 := Hdq (HF.out.then f (fun z hz => .inr Y86))
   clear f a1 HU HF c1 c2 HST HK1 HK2 HK4 hxx
   go_wp2
   go_roundw
   case rel => exact ⟨k + 1, by omega, by simp, HU3, HF3⟩
   case measure => simp [intOf]; omega
  ·obtain rfl : k = 8 := by omega
   go_wp2
   go_ret
   exact ⟨_, rfl, by rw [<- HE.out, HZ.out]; exact HU.out, HF.out⟩
theorem qX.keepS {w w' : World} {kb g : Nat} {key : List UInt8} {c : Array Value} (h : qX w kb key) (hf : Fr [g] w w') (hg : At w g (.cells c 196)) : qX w' kb key := by
 obtain ⟨g1, g2, a, b, d⟩ := h
 exact ⟨g1, g2, a.keep hf (by simpa using QP a hg qd), b.keep hf (by simpa using QP b hg qd), d.keep hf (by simpa using QP d hg qd)⟩
noncomputable def qgp : Code := ((Tryz.f113.body.bind (qq 2)).getD .skip)
def qgl (E : Nat -> Addr) (g4 : Nat) (k : Nat) (b : Go.Act) (p : World) : Prop :=
 match k with
 | 0 => slot b 9 = .agg #[.pointer none]
 | 1 => slot b 10 = .iface 317 (.pointer (some (E 1)))
 | 2 => At p g4 (.cells #[.pointer none] 196)
 | 3 => slot b 5 = .iface 317 (.pointer (some (E 1)))
 | 4 => At p g4 (.cells #[.pointer none] 196)
 | _ => True
def qgm (E : Nat -> Addr) (g4 : Nat) (k : Nat) (b : Go.Act) (p : World) : Prop :=
 match k with
 | _ => True
theorem so2 (E : Nat -> Addr) (g4 : Nat) (w : World) (a : Go.Act) (hsz : a.tmps.size = 14) (h4 : slot a 4 = .pointer (some ⟨g4, 0, none⟩)) (w0 : World) (hw0 : Fr [] w0 w) (h4z : w0.heap.size <= g4) (B : Nat) (hE : j7 all20 E B w0) (hA4 : At w g4 (.cells #[.pointer none] 196)) (Q : Exit -> Go.Act -> World -> Prop)
  (hQ : ∀ (b : Go.Act) (p : World), b.defers = a.defers -> b.tmps.size = 14 -> (∀ s, some s ∉ ([some 9, some 10, none, some 5] : List (Option Nat)) -> slot b s = slot a s) -> Fr [g4] w p -> slot b 5 = .iface 317 (.pointer (some (E 1))) -> At p g4 (.cells #[.pointer none] 196) -> Q .normal b p) : Code.wp Tryz.prog qgp Q a w := by
 have F0 : ∀ {p : World}, Fr [g4] w p -> Fr [] w0 p := fun hf => hw0.then hf (fun z hz => .inr Y74)
 conv => arg 2; whnf
 refine qN [g4] (qgl E g4) (qgm E g4) [some 9, some 10, none, some 5] [[9], [10], [], [5], []] [] [] [] qe qe qe qe qe qd ?_ ?_ ?_ ?_ ?_
 ·intro w1 hw1 k hk1 hk2
  have hk3 : 4 <= k := hk1
  have hk4 : k < 5 := hk2
  clear hk1 hk2
  rcases (show k = 4 by omega) with rfl
  ·exact hA4.keep0 hw1
 ·intro k b b' p hs h
  match k with
  | 0 => show slot b' 9 = .agg #[.pointer none]; rw [<- hs 9 qd]; exact h
  | 1 => show slot b' 10 = .iface 317 (.pointer (some (E 1))); rw [<- hs 10 qd]; exact h
  | 2 => show At p g4 (.cells #[.pointer none] 196); exact h
  | 3 => show slot b' 5 = .iface 317 (.pointer (some (E 1))); rw [<- hs 5 qd]; exact h
  | 4 => show At p g4 (.cells #[.pointer none] 196); exact h
  | k + 5 => trivial
 ·intro k b b' p hs h
  match k with
  | k => trivial
 ·intro i hi dn b p hs ho hf hF hG hdn hdc hr
  have hi9 : i < 4 := hi
  clear hi
  match i, hi9 with
  | 0, _ =>
   refine opV_step _ Y69 ?_
   refine yn rfl (.agg #[.pointer none]) p qe ?_
   exact Y29
  | 1, _ =>
   have e9 : b.eval (.global 0) = .pointer (some ⟨0, 0, none⟩) := rfl
   have c1 := (hE.keep0 (F0 hf)).cell 1 qd
   simp only [gOf, List.getD_eq_getElem?_getD, List.getElem?_cons_zero, List.getElem?_cons_succ, Option.getD_some] at c1
   refine opV_step _ Y69 ?_
   refine qy _ rfl rfl _ ?_ (fstep_end hf (slot_put_self Y64))
   obtain ⟨ρ, hρ⟩ := exq (b.eval)
   rw [hρ] at e9 ⊢
   unfold execOp; simp [go_sem, e9, c1]
  | 2, _ =>
   have e0 : b.eval (.tmp 4) = .pointer (some ⟨g4, 0, none⟩) := (ho 4 qd).trans h4
   have e1 : b.eval (.tmp 9) = .agg #[.pointer none] := fdq hF hr 0
   have f4 : At p g4 (.cells #[.pointer none] 196) := hF 4 (show (4:Nat) < 5 by decide) (fun h => absurd h qd) (fun c hc => absurd hc qf)
   refine opV_step _ Y69 ?_
   refine qx (.tmp 4) (.tmp 9) rfl rfl #[.pointer none] e0 e1 qe f4 rfl qe ?_
   intro p' f1 a1 _
   refine ⟨rfl, rfl, hf.trans f1, fun k hki hnr hco hli h => ?_, a1, fun _ _ _ h => h, fun e he hi hx => absurd he (Nat.not_lt_zero e)⟩
   match k with
   | 0 => exact h
   | 1 => exact h
   | 2 => exact absurd rfl hki
   | 3 => exact h
   | 4 => exact a1
   | k + 5 => exact trivial
  | 3, _ =>
   have e0 : b.eval (.tmp 10) = .iface 317 (.pointer (some (E 1))) := fdq hF hr 1
   exact Y0
 ·exact Y54
def uh (i : Int) : Nat := if 0 <= i /\ i <= 1099511627776 then 0 else 1
theorem Jo {i : Int} (h : 0 <= i /\ i <= 1099511627776) : uh i = 0 := if_pos h
theorem qaT {i : Int} (h : ¬ (0 <= i /\ i <= 1099511627776)) : uh i = 1 := if_neg h
theorem qdN (E : Nat -> Addr) (B : Nat) (w0 : World) (v : Value) (key : List UInt8) (i : Int) (hE : j7 all20 E B w0) (hB : Bs (fun b => w0.heap.size <= b) w0 v key) (hl : key.length <= 100000000) (hS : SG w0) :
  Calls Tryz.prog 113 #[v, .int .i64 i] w0 fun e w' => ∃ M, e = .returned (.tuple #[.agg #[M], ue E (uh i)]) /\ (uh i = 0 -> ∃ kb, M = .pointer (some ⟨kb, 0, none⟩) /\ qX w' kb key) /\ (uh i ≠ 0 -> M = .pointer none) /\ Fr [] w0 w' := by
 obtain ⟨Z, hZ⟩ := exq (w0.heap.size)
 have F1 : Fr [] w0 (w0.alloc (.cells #[.pointer none] 196)) := Fr.alloc _ _
 have HA := Hdq (show At (w0.alloc (.cells #[.pointer none] 196)) Z (.cells #[.pointer none] 196) from At.new hZ.symm)
 have HF1 := Hdq F1
 have HC := Hdq (xZ (w0.alloc (.cells #[.pointer none] 196)) i)
 have HE := Hdq hE
 by_cases h : 0 <= i /\ i <= 1099511627776
 ·have HK := Hdq (Jo h)
  rw [decide_eq_true h] at HC
  have HB := Hdq (hB.mono (A' := fun b => (w0.alloc (.cells #[.pointer none] 196)).heap.size <= b) F1 qf (fun b hb => .inl Y98))
  have HS := Hdq (hS.keep F1)
  clear h hE hB hS F1
  go_enter Tryz.func113, Tryz.ntmps113
  go_wp2_with (go_at_call 151; fail)
  refine HC.out.mono ?_
  rintro e w2 ⟨rfl, hf⟩
  have HF2 := Hdq (HF1.out.trans hf)
  have HA2 := Hdq (HA.out.keep0 hf)
  have HB2 := Hdq (HB.out.mono (A' := fun b => w2.heap.size <= b) hf qf (fun b hb => .inl Y97))
  have HS2 := Hdq (HS.out.keep hf)
  clear hf HF1 HA HB HS HC
  go_wp2_with (go_at_call 103; fail)
  refine (uD _ v key HB2.out hl HS2.out).mono ?_
  rintro e w3 ⟨kb, rfl, hk, hf⟩
  have HF3 := Hdq (HF2.out.trans hf)
  have HA3 := Hdq (HA2.out.keep0 hf)
  have HK3 := Hdq hk
  clear hk hf HF2 HA2 HB2 HS2
  go_wp2_with (refine qx (.tmp 4) (.tmp 13) rfl rfl #[.pointer (some ⟨kb, 0, none⟩)] rfl rfl qe HA3.out rfl qe ?_)
  intro w4 f4 a4 _
  have HF4 := Hdq (HF3.out.then f4 (fun z hz => .inr Y74))
  have HA4 := Hdq a4
  have HK4 := Hdq (qX.keepS HK3.out f4 HA3.out)
  clear f4 a4
  go_wp2
  refine bodyPost_ret (zl rfl _ _ Z [.pointer (some ⟨kb, 0, none⟩)] rfl (qC HA4.out) Tryz.underlying196 rfl qe) rfl ?_
  exact ⟨_, by rw [HK.out]; rfl, fun _ => ⟨kb, rfl, HK4.out⟩, fun h => absurd HK.out h, HF4.out⟩
 ·have HK := Hdq (qaT h)
  rw [decide_eq_false h] at HC
  clear h hE hB hS F1
  go_enter Tryz.func113, Tryz.ntmps113
  go_wp2_with (go_at_call 151; fail)
  refine HC.out.mono ?_
  rintro e w2 ⟨rfl, hf⟩
  have HF2 := Hdq (HF1.out.trans hf)
  have HA2 := Hdq (HA.out.keep0 hf)
  clear hf HF1 HA HC
  go_wp2
  refine so2 E Z w2 _ rfl rfl w0 HF2.out Y62 B HE.out HA2.out _ ?_
  intro b p hd hs ho hf h5 hA
  rw [LR b hs hd, show slot b 4 = .pointer (some ⟨Z, 0, none⟩) from ho 4 qd, h5]
  have HF9 := Hdq (HF2.out.then hf (fun z hz => .inr Y74))
  have HA9 := Hdq hA
  clear hf hA ho
  go_wp2
  refine bodyPost_ret (zl rfl _ _ Z [.pointer none] rfl (qC HA9.out) Tryz.underlying196 rfl qe) rfl ?_
  exact ⟨_, by rw [HK.out]; rfl, (fun h => by rw [HK.out] at h; cases h), fun _ => rfl, HF9.out⟩
theorem Zt (E : Nat -> Addr) (B : Nat) (w0 : World) (v : Value) (key : List UInt8) (i : Int) (hE : j7 all20 E B w0) (hB : Bs (fun b => w0.heap.size <= b) w0 v key) (hl : key.length <= 100000000) (hS : SG w0) :
  Calls Tryz.prog 67 #[v, .int .i64 i] w0 fun e w' => ∃ u, e = .returned (.tuple #[u, ue E (uh i)]) /\ (uh i = 0 -> qh 5 w0.heap.size w' u (uK key i)) /\ (uh i ≠ 0 -> u = .slice none 0 0) /\ Fr [] w0 w' := by
 have HC := Hdq (qdN E B w0 v key i hE hB hl hS)
 have HS := Hdq hS
 obtain ⟨EV, hEV⟩ := exq (ue E (uh i))
 rw [hEV] at HC ⊢
 have HEV := Hdq hEV
 clear hE hB hl hS hEV
 go_enter Tryz.func67, Tryz.ntmps67
 go_wp2_with (go_at_call 113; fail)
 refine HC.out.mono ?_
 rintro e w2 ⟨M, rfl, hk, hn, hf⟩
 by_cases h : uh i = 0
 ·obtain ⟨kb, rfl, hka⟩ := hk h
  obtain rfl : EV = .nilIface := HEV.out.symm.trans (by rw [h]; rfl)
  have HB := Hdq h
  obtain ⟨Z2, hZ2⟩ := exq (w2.heap.size)
  have F3 : Fr [] w2 (w2.alloc (.cells #[.pointer (some ⟨kb, 0, none⟩)] 196)) := Fr.alloc _ _
  have HF3 := Hdq (hf.trans F3)
  have HK3 := Hdq (hka.keep F3)
  have HS3 := Hdq (HS.out.keep HF3.out)
  have HM3 := Hdq (show At (w2.alloc (.cells #[.pointer (some ⟨kb, 0, none⟩)] 196)) Z2 (.cells #[.pointer (some ⟨kb, 0, none⟩)] 196) from At.new hZ2.symm)
  have HZ2 := Hdq hZ2
  clear h hk hn hka hf F3 HC hZ2
  go_wp2_with (first | (refine jb (.tmp 6) (.tmp 12) rfl rfl #[.pointer (some ⟨kb, 0, none⟩)] (congrArg (fun n => Value.pointer (some ⟨n, 0, none⟩)) HZ2.out.symm) rfl qe rfl qe ?_) | (refine qI (.tmp 6) rfl rfl Z2 0 [.pointer (some ⟨kb, 0, none⟩)] rfl (qC HM3.out) Tryz.underlying196 rfl qe ?_) | (go_at_call 114; fail))
  refine (Wc _ kb key i HK3.out HS3.out).mono ?_
  rintro e w4 ⟨u, rfl, hu, hf⟩
  have HU := Hdq (hu.base HF3.out.size)
  have HF4 := Hdq (HF3.out.trans hf)
  clear hu hf
  go_wp2
  go_ret2
  exact ⟨_, rfl, fun _ => HU.out, fun h => absurd HB.out h, HF4.out⟩
 ·obtain rfl : M = .pointer none := hn h
  have hEP := HEV.out.symm.trans (errv_pos E _ h)
  obtain ⟨ER, hER⟩ : ∃ a, EV = .iface 317 (.pointer (some a)) := ⟨_, hEP⟩
  subst hER
  have HB := Hdq h
  have HF := Hdq hf
  clear h hk hn hf hEP HC
  go_wp2
  go_ret2
  exact ⟨_, rfl, fun h => absurd h HB.out, fun _ => rfl, HF.out.trans (by repeat (first | exact Fr.refl _ _ | refine Fr.al ?_))⟩
def VG (key : List UInt8) (bs : List (List UInt8)) : List (List UInt8) := bs.mapIdx fun i b => xF key ((i : Nat) : Int) b
theorem Z6 (key : List UInt8) (bs : List (List UInt8)) : (VG key bs).length = bs.length := by simp [VG]
theorem qdR (key : List UInt8) (bs : List (List UInt8)) (k : Nat) (x : List UInt8) (h : bs[k]? = some x) : (VG key bs).take (k + 1) = (VG key bs).take k ++ [xF key (k : Int) x] := by
 rw [List.take_add_one]
 simp [VG, List.getElem?_mapIdx, h]
theorem WO (w0 : World) (v lv : Value) (key : List UInt8) (ls : List (Value × List UInt8)) (hB : Bs (fun b => w0.heap.size <= b) w0 v key) (hl : key.length <= 100000000) (hS : SG w0) (hR : RdB (fun b => w0.heap.size <= b) w0 lv ls) (h8 : ∀ x ∈ ls, x.2.length = 8) (hn : ls.length <= 1000) :
  Calls Tryz.prog 121 #[v, .int .i64 0, lv] w0 fun e w' => ∃ (u : Value) (ls' : List (Value × List UInt8)), e = .returned (.tuple #[u, .nilIface]) /\ qJ 22 w0.heap.size w' u (ls'.map (·.1)) /\ (∀ x ∈ ls', BsT w' x.1 x.2) /\ ls'.map (·.2) = VG key (ls.map (·.2)) /\ Fr [] w0 w' := by
 obtain ⟨va, vc, rfl, hv1, hv2⟩ := zx hR
 unfold maxLen at hv2
 obtain ⟨n, hnn⟩ := exq (ls.length)
 rw [hnn] at hR hv1 hn ⊢
 have HC := Hdq (uD w0 v key hB hl hS)
 have HH := Hdq (And.intro hS (And.intro hR h8))
 have HN := Hdq hnn
 clear hB hl hS hR h8 hnn
 go_enter Tryz.func121, Tryz.ntmps121
 go_wp2_with (go_at_call 103; fail)
 refine HC.out.mono ?_
 rintro e w2 ⟨kb, rfl, hk, hf⟩
 obtain ⟨Z2, hZ2⟩ := exq (w2.heap.size)
 have F3 : Fr [] w2 (w2.alloc (.cells #[.pointer (some ⟨kb, 0, none⟩)] 196)) := Fr.alloc _ _
 have HF3 := Hdq (hf.trans F3)
 have HK3 := Hdq (hk.keep F3)
 have HM3 := Hdq (show At (w2.alloc (.cells #[.pointer (some ⟨kb, 0, none⟩)] 196)) Z2 (.cells #[.pointer (some ⟨kb, 0, none⟩)] 196) from At.new hZ2.symm)
 have HZ2 := Hdq hZ2
 clear hk hf F3 HC hZ2
 go_wp2_with (refine jb (.tmp 8) (.tmp 14) rfl rfl #[.pointer (some ⟨kb, 0, none⟩)] (congrArg (fun n => Value.pointer (some ⟨n, 0, none⟩)) HZ2.out.symm) rfl qe rfl qe ?_)
 obtain ⟨wl, hwl⟩ := exq ((w2.alloc (.cells #[.pointer (some ⟨kb, 0, none⟩)] 196)))
 rw [hwl] at HF3 HK3 HM3 ⊢
 clear hwl
 rw [HZ2.out]
 go_loopw [9, 17] (fun o i wr => ∃ (k : Nat) (ls' : List (Value × List UInt8)), k <= n /\ i = .int .i64 (k : Int) /\ Hid (qJ 22 wl.heap.size wr o (ls'.map (·.1))) /\ Hid (∀ x ∈ ls', BsT wr x.1 x.2) /\ Hid (ls'.map (·.2) = (VG key (ls.map (·.2))).take k) /\ Hid (Fr [] wl wr)) (fun _ i _ => n - (intOf i).toNat)
 case atStart => exact ⟨0, [], by omega, rfl, Hdq (qJ.nil _ _ _), Hdq (fun x hx => by cases hx), Hdq rfl, Hdq (Fr.refl _ _)⟩
 case round =>
  obtain ⟨k, ls', hk, rfl, HO, HT, HL, HF⟩ := hrel
  by_cases hkn : k < n
  ·obtain ⟨x, hx⟩ : ∃ x, ls[k]? = some x := ⟨_, List.getElem?_eq_getElem (by rw [HN.out]; exact hkn)⟩
   have FW : Fr [] w0 wr := HF3.out.trans HF.out
   obtain ⟨b, off, rfl, hc, hbx⟩ := vM (HH.out.2.1.keep FW qf) k x hx
   have hx8 := HH.out.2.2 x (List.mem_of_getElem? hx)
   obtain ⟨xa, xc, hx1, -, -, -⟩ := id hbx
   rw [hx8] at hx1
   have HBX := Hdq hbx
   have HX8 := Hdq hx8
   have HUP := Hdq (qdR key (ls.map (·.2)) k x.2 (by rw [List.getElem?_map, hx]; rfl))
   have HFW := Hdq FW
   have HX1 := Hdq hx1
   rw [hx1] at hc
   clear hx hbx FW hx8 hx1
   have hki : (k : Int) < (n : Int) := by omega
   have HCN := Hdq (show decide ((0 : Int) <= 0 /\ (0 : Int) <= 1099511627776) = true by decide)
   have HCK := Hdq (show decide ((0 : Int) <= (k : Int) /\ (k : Int) <= 1099511627776) = true from decide_eq_true Y62)
   go_wp2_with (go_at_call 151; fail)
   refine (xZ wr 0).mono ?_
   rintro e w3 ⟨rfl, hf⟩
   rw [HCN.out]
   have HF4 := Hdq hf
   clear hf hc
   go_wp2_with (go_at_call 151; fail)
   refine (xZ w3 (k : Int)).mono ?_
   rintro e w4 ⟨rfl, hf⟩
   rw [HCK.out]
   have HF5 := Hdq (HF4.out.trans hf)
   have HM5 := Hdq ((HM3.out.keep0 HF.out).keep0 HF5.out)
   have HS5 := Hdq (HH.out.1.keep (HFW.out.trans HF5.out))
   have HK5 := Hdq ((HK3.out.keep HF.out).keep HF5.out)
   have HB5 := Hdq (show Bs (fun b => w4.heap.size <= b) w4 (.slice xa 8 xc) x.2 from by rw [<- HX1.out]; exact HBX.out.mono (A' := fun b => w4.heap.size <= b) HF5.out qf (fun b hb => .inl (by have := HF5.out.size; have := HFW.out.size; omega)))
   clear hf HF4
   go_wp2_with (first | (refine qI (.tmp 8) rfl rfl Z2 0 [.pointer (some ⟨kb, 0, none⟩)] rfl (qC HM5.out) Tryz.underlying196 rfl qe ?_) | (go_at_call 157; fail))
   refine (L3 w4 kb key (k : Int) (.slice xa 8 xc) x.2 HK5.out HS5.out HB5.out HX8.out).mono ?_
   rintro e w5 ⟨u, rfl, hu, hf⟩
   have hul : (xF key (k : Int) x.2).length = 8 := U6 key _ _ HX8.out
   have huT := YM hu Y62
   obtain ⟨ub, uo, uc, rfl⟩ := huT.shape
   rw [hul]
   rw [hul] at huT
   have HUT := Hdq huT
   have HF6 := Hdq (HF5.out.trans hf)
   have HO6 := Hdq (HO.out.keep0 HF6.out)
   have hsz : wl.heap.size <= w5.heap.size := (HF.out.trans HF6.out).size
   have HLEN := Hdq (show ls'.length = k by
    have := congrArg List.length HL.out
    rw [List.length_map, List.length_take, Z6, List.length_map, HN.out] at this
    omega)
   have HSZ := Hdq hsz
   clear hu hf huT hul HF5 HM5 HS5 HK5 HB5 hsz
   go_wp2_with (at_builtin; refine QU Tryz.underlying56 Tryz.infoBytes rfl rfl (.tmp 39) (.tmp 46) rfl rfl rfl (At.new rfl) rfl (HO6.out.keep0 (Fr.alloc _ _)) (by rw [List.length_map, HLEN.out]; omega) (by rw [List.length_map, HLEN.out]; simp [maxLen]; omega) (by have := HSZ.out; simp; omega) ?_)
   intro v' w6 ho hg
   have HO7 := Hdq (show qJ 22 wl.heap.size w6 v' ((ls' ++ [(Value.slice (some ⟨ub, uo, none⟩) 8 uc, xF key (k : Int) x.2)]).map (·.1)) from by rw [List.map_append]; exact ho)
   have hal : Fr [] w5 (w5.alloc (.cells #[.slice (some ⟨ub, uo, none⟩) 8 uc] 22)) := Fr.alloc _ _
   have HF7 := Hdq (qJ.fr (HO6.out.keep0 hal) ((HF.out.trans HF6.out).trans hal) hg (Nat.le_refl _))
   have HT7 := Hdq (show ∀ x' ∈ ls' ++ [(Value.slice (some ⟨ub, uo, none⟩) 8 uc, xF key (k : Int) x.2)], BsT w6 x'.1 x'.2 from fun x' hx' => by
    rcases List.mem_append.1 hx' with hx' | hx'
    ·exact BsT.grown (((HT.out x' hx').keep0 HF6.out).keep0 hal) (HO6.out.keep0 hal) hg
    ·obtain rfl : x' = (Value.slice (some ⟨ub, uo, none⟩) 8 uc, xF key (k : Int) x.2) := by simpa using hx'
     exact BsT.grown (HUT.out.keep0 hal) (HO6.out.keep0 hal) hg)
   have HL7 := Hdq (show (ls' ++ [(Value.slice (some ⟨ub, uo, none⟩) 8 uc, xF key (k : Int) x.2)]).map (·.2) = (VG key (ls.map (·.2))).take (k + 1) by rw [List.map_append, HL.out, HUP.out]; rfl)
   clear ho hg hal HO HT HL HF HO6 HF6 HUT HUP
   go_wp2
   go_roundw
   case rel => exact ⟨k + 1, _, by omega, by simp, HO7, HT7, HL7, HF7⟩
   case measure => simp [intOf]; omega
  ·obtain rfl : k = n := by omega
   have HFW := Hdq (HF3.out.trans HF.out)
   have HSZ := Hdq HF3.out.size
   go_wp2
   go_ret2
   exact ⟨_, rfl, ls', HO.out.base HSZ.out, (fun a b h => HT.out (a, b) h), by rw [HL.out, List.take_of_length_le (by rw [Z6, List.length_map, HN.out]; exact Nat.le_refl _)], HFW.out⟩
end Go.Proofs.YtnafknkchbfpaaaGreatDoor
