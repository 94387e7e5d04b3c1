import Derived.Test.YtnafknkchbfpaaaGreatDoorHC
import Derived.Test.YtnafknkchbfpaaaGreatDoorPI
set_option linter.unusedVariables false
set_option linter.unusedSimpArgs false
set_option maxRecDepth 1000000
set_option maxHeartbeats 8000000
namespace Go.Proofs.YtnafknkchbfpaaaGreatDoor
open Go.RowKit Go.Bl
noncomputable def qfw : Code := ((Tryz.f114.body.bind (qr 1)).getD .skip)
theorem KF (a : Go.Act) (hs : a.tmps.size = 14) (hd : a.defers = []) : a = ⟨(slot a 0 :: slot a 1 :: slot a 2 :: slot a 3 :: slot a 4 :: slot a 5 :: slot a 6 :: slot a 7 :: slot a 8 :: slot a 9 :: slot a 10 :: slot a 11 :: slot a 12 :: slot a 13 :: []).toArray, []⟩ := uO a 14 hs hd
def WA (Z kb mb : Nat) (key : List UInt8) (ix : Int) (k : Nat) (b : Go.Act) (p : World) : Prop :=
 match k with
 | 0 => slot b 6 = .pointer (some ⟨mb, 0, none⟩)
 | 1 => slot b 7 = .pointer (some ⟨kb, 0, none⟩)
 | 2 => slot b 8 = .int .i64 ix
 | 3 => qf 5 Z p (slot b 9) (beK 8 ix)
 | 4 => ∃ g, slot b 10 = .slice (some ⟨g, 0, none⟩) 1 1 /\ At p g (.cells #[slot b 9] 22)
 | 5 => slot b 11 = .agg ((jO key (beK 8 ix)).map u8v).toArray
 | 6 => ∃ g c, slot b 5 = .pointer (some ⟨g, 0, none⟩) /\ Z <= g /\ At p g (.cells c 58) /\ c.size = 32
 | 7 => ∃ g, slot b 5 = .pointer (some ⟨g, 0, none⟩) /\ Z <= g /\ At p g (.cells ((jO key (beK 8 ix)).map u8v).toArray 58)
 | _ => True
def qd0 (Z kb mb : Nat) (key : List UInt8) (ix : Int) (k : Nat) (b : Go.Act) (p : World) : Prop :=
 match k with
 | _ => True
theorem QI (Z kb mb : Nat) (key : List UInt8) (ix : Int) : ∀ (k : Nat) (b : Go.Act) (p p' : World), Fr [] p p' -> WA Z kb mb key ix k b p -> WA Z kb mb key ix k b p'
 | 0, b, p, p', hf, h => h
 | 1, b, p, p', hf, h => h
 | 2, b, p, p', hf, h => h
 | 3, b, p, p', hf, h => h.keep hf (fun _ h => by cases h)
 | 4, b, p, p', hf, h => let ⟨g, h1, h3⟩ := h; ⟨g, h1, h3.keep0 hf⟩
 | 5, b, p, p', hf, h => h
 | 6, b, p, p', hf, h => let ⟨g, c, h1, h2, h3, h4⟩ := h; ⟨g, c, h1, h2, h3.keep0 hf, h4⟩
 | 7, b, p, p', hf, h => let ⟨g, h1, h2, h3⟩ := h; ⟨g, h1, h2, h3.keep0 hf⟩
 | k + 8, b, p, p', hf, h => trivial
theorem yn (Z kb mb : Nat) (key : List UInt8) (ix : Int) : ∀ (k : Nat) (b : Go.Act) (p p' : World), Fr [] p p' -> qd0 Z kb mb key ix k b p -> qd0 Z kb mb key ix k b p'
 | k, b, p, p', hf, h => trivial
theorem bk1 (Z kb mb : Nat) (key : List UInt8) (ix : Int) (w : World) (a : Go.Act) (hsz : a.tmps.size = 14) (h1 : slot a 1 = .int .i64 ix) (h2 : slot a 2 = .pointer (some ⟨mb, 0, none⟩)) (hZ : w.heap.size = Z) (hM : At w mb (.cells #[.pointer (some ⟨kb, 0, none⟩)] 196)) (hK : ja w kb key) (hS : SG w) (Q : Exit -> Go.Act -> World -> Prop)
  (hQ : ∀ (b : Go.Act) (p : World) (g : Nat), b.defers = a.defers -> b.tmps.size = 14 -> (∀ s, some s ∉ ([some 6, some 7, some 8, some 9, some 10, some 11, some 5, none] : List (Option Nat)) -> slot b s = slot a s) -> Fr [] w p -> slot b 5 = .pointer (some ⟨g, 0, none⟩) -> Z <= g -> At p g (.cells ((jO key (beK 8 ix)).map u8v).toArray 58) -> Q .normal b p) : Code.wp Tryz.prog qfw Q a w := by
 conv => arg 2; whnf
 refine jc [] (WA Z kb mb key ix) (qd0 Z kb mb key ix) [some 6, some 7, some 8, some 9, some 10, some 11, some 5, none] [[6], [7], [8], [9], [9, 10], [11], [5], [5]] [] [] [(3, 5), (4, 5), (6, 7)] qb qb qb qb qb qa ?_ ?_ ?_ ?_ ?_
 ·intro w1 hw1 k hk1 hk2
  have hk3 : 8 <= k := hk1
  have hk4 : k < 8 := hk2
  clear hk1 hk2
  omega
 ·intro k b b' p hs h
  match k with
  | 0 => show slot b' 6 = .pointer (some ⟨mb, 0, none⟩); rw [<- hs 6 qa]; exact h
  | 1 => show slot b' 7 = .pointer (some ⟨kb, 0, none⟩); rw [<- hs 7 qa]; exact h
  | 2 => show slot b' 8 = .int .i64 ix; rw [<- hs 8 qa]; exact h
  | 3 => show qf 5 Z p (slot b' 9) (beK 8 ix); rw [<- hs 9 qa]; exact h
  | 4 => show ∃ g, slot b' 10 = .slice (some ⟨g, 0, none⟩) 1 1 /\ At p g (.cells #[slot b' 9] 22); rw [<- hs 9 qa, <- hs 10 qa]; exact h
  | 5 => show slot b' 11 = .agg ((jO key (beK 8 ix)).map u8v).toArray; rw [<- hs 11 qa]; exact h
  | 6 => show ∃ g c, slot b' 5 = .pointer (some ⟨g, 0, none⟩) /\ Z <= g /\ At p g (.cells c 58) /\ c.size = 32; rw [<- hs 5 qa]; exact h
  | 7 => show ∃ g, slot b' 5 = .pointer (some ⟨g, 0, none⟩) /\ Z <= g /\ At p g (.cells ((jO key (beK 8 ix)).map u8v).toArray 58); rw [<- hs 5 qa]; exact h
  | k + 8 => trivial
 ·intro k b b' p hs h
  match k with
  | k => trivial
 ·intro i hi dn b p hs ho hf hF hG hdn hdc hr
  have hi9 : i < 8 := hi
  clear hi
  match i, hi9 with
  | 0, _ =>
   have e0 : b.eval (.tmp 2) = .pointer (some ⟨mb, 0, none⟩) := (ho 2 qa).trans h2
   exact Y1
  | 1, _ =>
   have e0 : b.eval (.tmp 6) = .pointer (some ⟨mb, 0, none⟩) := fdq hF hr 0
   have c1 : p.cell? ⟨mb, 0, none⟩ = some (.pointer (some ⟨kb, 0, none⟩)) := (hM.keep0 hf).cell 0
   exact Y4
  | 2, _ =>
   have e0 : b.eval (.tmp 1) = .int .i64 ix := (ho 1 qa).trans h1
   exact Y1
  | 3, _ =>
   have e0 : b.eval (.tmp 8) = .int .i64 ix := fdq hF hr 2
   refine qJ _ Y72 (ql rfl) 57 _ _ rfl #[.int .i64 ix] Y70 Y74 ((zG p ix).mono ?_)
   rintro e p' ⟨u, rfl, hu, hf2⟩
   refine ⟨_, rfl, hf.trans hf2, fun k _ _ _ _ h => QI Z kb mb key ix k _ _ _ hf2 h, ?_, fun e _ _ h => yn Z kb mb key ix e _ _ _ hf2 h, fun e he hi hx => by exact absurd he (Nat.not_lt_zero e)⟩
   refine qP b 9 _ Y67 (fun b' => WA Z kb mb key ix 3 b' p') ?_
   intro b' hd hne
   show qf 5 Z p' (slot b' 9) (beK 8 ix)
   rw [hd]
   exact hu.base Y88
  | 4, _ =>
   have f3 : qf 5 Z p (slot b 9) (beK 8 ix) := hF 3 (show (3:Nat) < 8 by decide) (fun _ => (hr 3 qb).2) (fun c hc => by (have hq1 : c = 5 := by simpa using hc); subst hq1; exact (by cases hq : dn 5 with | false => rfl | true => (have hq2 := hdc 5 4 hq qb; rw [hdn] at hq2; cases hq2)))
   have hc1 : (slot b 9).cells = #[slot b 9] := by obtain ⟨x, y, z, e⟩ := jQ f3; rw [e]; rfl
   refine opV_step _ Y72 ?_
   refine Qo Tryz.underlying56 Tryz.infoBytes rfl (.tmp 9) rfl (slot b 9) rfl hc1 ?_
   have hf2 : Fr [] p (p.alloc (.cells #[slot b 9] 22)) := Fr.alloc _ _
   obtain ⟨p', hp'⟩ : ∃ p', p.alloc (.cells #[slot b 9] 22) = p' := ⟨_, rfl⟩
   have hA : At p' p.heap.size (.cells #[slot b 9] 22) := by rw [<- hp']; exact At.new rfl
   rw [hp'] at hf2 ⊢
   clear hp'
   refine ⟨rfl, rfl, hf.trans hf2, fun k _ _ _ _ h => QI Z kb mb key ix k _ _ _ hf2 h, ?_, fun e _ _ h => yn Z kb mb key ix e _ _ _ hf2 h, fun e he hi hx => by exact absurd he (Nat.not_lt_zero e)⟩
   refine qP b 10 _ Y67 (fun b' => WA Z kb mb key ix 4 b' p') ?_
   intro b' hd hne
   show ∃ g, slot b' 10 = .slice (some ⟨g, 0, none⟩) 1 1 /\ At p' g (.cells #[slot b' 9] 22)
   rw [hne 9 qa]
   exact ⟨_, hd, hA⟩
  | 5, _ =>
   have f3 : qf 5 Z p (slot b 9) (beK 8 ix) := hF 3 (show (3:Nat) < 8 by decide) (fun _ => (hr 3 qb).2) (fun c hc => by (have hq1 : c = 5 := by simpa using hc); subst hq1; exact hdn)
   have f4 : ∃ g, slot b 10 = .slice (some ⟨g, 0, none⟩) 1 1 /\ At p g (.cells #[slot b 9] 22) := hF 4 (show (4:Nat) < 8 by decide) (fun _ => (hr 4 qb).2) (fun c hc => by (have hq1 : c = 5 := by simpa using hc); subst hq1; exact hdn)
   obtain ⟨g, b1, b2⟩ := f4
   have e0 : b.eval (.tmp 7) = .pointer (some ⟨kb, 0, none⟩) := fdq hF hr 1
   have e1 : b.eval (.tmp 10) = .slice (some ⟨g, 0, none⟩) 1 1 := b1
   have hRD : RdB (fun b => p.heap.size <= b) p (.slice (some ⟨g, 0, none⟩) 1 1) [(slot b 9, beK 8 ix)] := by
    refine ⟨⟨_, 1, rfl, by simp, by decide, Row.of_block (c := #[slot b 9]) (fz := (0, 0)) b2 qds⟩, fun x hx => ?_⟩
    obtain rfl : x = (slot b 9, beK 8 ix) := by simpa using hx
    exact yd (f3.bs (fun _ h => h.elim))
   refine qJ _ Y72 (ql rfl) 105 _ _ rfl #[.pointer (some ⟨kb, 0, none⟩), .slice (some ⟨g, 0, none⟩) 1 1] Y68 Y74 ((JW p kb _ key [(slot b 9, beK 8 ix)] (hK.keep hf) hRD (hS.keep hf) qc qc (by simp [jd, zN])).mono ?_)
   rintro e p' ⟨rfl, hf2⟩
   refine ⟨_, rfl, hf.trans hf2, fun k _ _ _ _ h => QI Z kb mb key ix k _ _ _ hf2 h, ?_, fun e _ _ h => yn Z kb mb key ix e _ _ _ hf2 h, fun e he hi hx => by exact absurd he (Nat.not_lt_zero e)⟩
   refine qP b 11 _ Y67 (fun b' => WA Z kb mb key ix 5 b' p') ?_
   intro b' hd hne
   show slot b' 11 = .agg ((jO key (beK 8 ix)).map u8v).toArray
   rw [hd]
   simp [jd]
  | 6, _ =>
   refine opV_step _ Y72 ?_
   refine yi rfl (.pointer (some ⟨p.heap.size, 0, none⟩)) (p.alloc (.cells jk 58)) qb ?_
   have hf2 : Fr [] p (p.alloc (.cells jk 58)) := Fr.alloc _ _
   obtain ⟨p', hp'⟩ : ∃ p', p.alloc (.cells jk 58) = p' := ⟨_, rfl⟩
   have hA : At p' p.heap.size (.cells jk 58) := by rw [<- hp']; exact At.new rfl
   rw [hp'] at hf2 ⊢
   clear hp'
   refine ⟨rfl, rfl, hf.trans hf2, fun k _ _ _ _ h => QI Z kb mb key ix k _ _ _ hf2 h, ?_, fun e _ _ h => yn Z kb mb key ix e _ _ _ hf2 h, fun e he hi hx => by exact absurd he (Nat.not_lt_zero e)⟩
   refine qP b 5 _ Y67 (fun b' => WA Z kb mb key ix 6 b' p') ?_
   exact Y48
  | 7, _ =>
   have f5 : slot b 11 = .agg ((jO key (beK 8 ix)).map u8v).toArray := fdq hF hr 5
   have f6 : ∃ g c, slot b 5 = .pointer (some ⟨g, 0, none⟩) /\ Z <= g /\ At p g (.cells c 58) /\ c.size = 32 := hF 6 (show (6:Nat) < 8 by decide) (fun _ => (hr 6 qb).2) (fun c hc => by (have hq1 : c = 7 := by simpa using hc); subst hq1; exact hdn)
   obtain ⟨g, c, b1, b2, b3, b4⟩ := f6
   have e0 : b.eval (.tmp 5) = .pointer (some ⟨g, 0, none⟩) := b1
   have e1 : b.eval (.tmp 11) = .agg ((jO key (beK 8 ix)).map u8v).toArray := f5
   refine opV_step _ Y72 ?_
   refine qC (.tmp 5) (.tmp 11) rfl rfl ((jO key (beK 8 ix)).map u8v).toArray e0 e1 Y90 b3 (by rw [b4]; rfl) (uN _) ?_
   intro p' f1 a1 _
   refine ⟨rfl, rfl, hf.then f1 (fun z hz => .inr Y78), fun k hki hnr hco hli h => ?_, ⟨g, b1, b2, a1⟩, fun _ _ _ h => h, fun e he hi hx => by exact absurd he (Nat.not_lt_zero e)⟩
   match k with
   | 0 => exact h
   | 1 => exact h
   | 2 => exact h
   | 3 => exact absurd (hr 5 qb).2 (by rw [hli 5 qa]; decide)
   | 4 => exact absurd (hr 5 qb).2 (by rw [hli 5 qa]; decide)
   | 5 => exact h
   | 6 => exact absurd qa hco
   | 7 => exact absurd rfl hki
   | k + 8 => exact trivial
 ·intro b p hd hs ho hf hall hex
  obtain ⟨g, h1, h2, h3⟩ := hall 7 qa (fun c hc => by simp at hc)
  exact hQ b p g hd (hs.trans hsz) ho hf h1 h2 h3
theorem Xj (w : World) (n : Int) :
  Calls Tryz.prog 151 #[.int .i64 n] w fun e w' => e = .returned (.bool (decide (0 <= n /\ n <= 1099511627776))) /\ Fr [] w w' := by
 obtain ⟨r, hr⟩ := exq (decide (0 <= n /\ n <= 1099511627776))
 rw [hr]
 have h3' : n < 0 ∨ (0 <= n /\ n <= 1099511627776) ∨ (0 <= n /\ 1099511627776 < n) := by omega
 rcases h3' with h | h | h
 ·have HE := Hdq (show r = false from hr.symm.trans (decide_eq_false Y66))
  clear hr
  have h1 : ¬ (0 : Int) <= n := by omega
  go_enter Tryz.func151, Tryz.ntmps151
  exact Y19
 ·have HE := Hdq (show r = true from hr.symm.trans (decide_eq_true Y66))
  clear hr
  have h1 : (0 : Int) <= n := by omega
  have h2 : n <= 1099511627776 := by omega
  go_enter Tryz.func151, Tryz.ntmps151
  exact Y19
 ·have HE := Hdq (show r = false from hr.symm.trans (decide_eq_false Y66))
  clear hr
  have h1 : (0 : Int) <= n := by omega
  have h2 : ¬ n <= 1099511627776 := by omega
  go_enter Tryz.func151, Tryz.ntmps151
  exact Y19
theorem qaS (w0 : World) (kb : Nat) (key : List UInt8) (i : Int) (hK : ja w0 kb key) (hS : SG w0) :
  Calls Tryz.prog 114 #[.agg #[.pointer (some ⟨kb, 0, none⟩)], .int .i64 i] w0 fun e w' => ∃ u, e = .returned u /\ qf 5 w0.heap.size w' u (j6 key i) /\ Fr [] w0 w' := by
 obtain ⟨Z, hZ⟩ := exq (w0.heap.size)
 have F1 : Fr [] w0 (w0.alloc (.cells #[.pointer (some ⟨kb, 0, none⟩)] 196)) := Fr.alloc _ _
 have HK := Hdq (And.intro (hK.keep F1) (And.intro (hS.keep F1) (show At (w0.alloc (.cells #[.pointer (some ⟨kb, 0, none⟩)] 196)) Z (.cells #[.pointer (some ⟨kb, 0, none⟩)] 196) from At.new hZ.symm)))
 have HF1 := Hdq F1
 have HS1 := Hdq (show (w0.alloc (.cells #[.pointer (some ⟨kb, 0, none⟩)] 196)).heap.size = Z + 1 by simp [hZ])
 clear hK hS F1
 obtain ⟨o, ho⟩ := exq (jO key (beK 8 i))
 have hol : o.length = 32 := by rw [<- ho]; rfl
 have HO := Hdq (show j6 key i = o.take 8 by rw [<- ho]; rfl)
 have HOL := Hdq hol
 have HOO := Hdq ho
 clear hol ho
 go_enter Tryz.func114, Tryz.ntmps114
 go_wp2_with (refine jZ (.tmp 0) rfl rfl #[.pointer (some ⟨kb, 0, none⟩)] rfl ?_)
 refine bk1 (Z + 1) kb Z key i _ _ rfl rfl rfl HS1.out HK.out.2.2 HK.out.1 HK.out.2.1 _ ?_
 intro b p g hd hs ho hf h5 hg hA
 rw [HOO.out] at hA
 rw [KF b hs hd, h5]
 have HB := Hdq ((JA (A := fun _ => False) (n := 32) hA HOL.out qa qc).take 8 Y66)
 have HF2 := Hdq (HF1.out.trans hf)
 clear hf hA ho h5 hg HK
 go_wp2_with (go_at_call 59; fail)
 refine (clone_any (fun _ => False) _ _ (o.take 8) HB.out Y95).mono ?_
 rintro e w4 ⟨u, rfl, hu, hf4⟩
 have HU := Hdq (hu.base HF2.out.size)
 have HF3 := Hdq (HF2.out.trans hf4)
 clear hu hf4
 go_wp2
 go_ret
 exact ⟨_, rfl, by rw [HO.out]; exact HU.out, HF3.out⟩
theorem ja.keepS {w w' : World} {kb g : Nat} {key : List UInt8} {c : Array Value} (h : ja w kb key) (hf : Fr [g] w w') (hg : At w g (.cells c 196)) : ja w' kb key := by
 obtain ⟨g1, g2, a, b, d⟩ := h
 exact ⟨g1, g2, a.keep hf (by simpa using Q1 a hg qa), b.keep hf (by simpa using Q1 b hg qa), d.keep hf (by simpa using Q1 d hg qa)⟩
noncomputable def qfj : Code := ((Tryz.f113.body.bind (qr 2)).getD .skip)
def qfi (E : Nat -> Addr) (g4 : Nat) (k : Nat) (b : Go.Act) (p : World) : Prop :=
 match k with
 | 0 => slot b 9 = .agg #[.pointer none]
 | 1 => slot b 10 = .iface 317 (.pointer (some (E 1)))
 | 2 => At p g4 (.cells #[.pointer none] 196)
 | 3 => slot b 5 = .iface 317 (.pointer (some (E 1)))
 | 4 => At p g4 (.cells #[.pointer none] 196)
 | _ => True
def qfo (E : Nat -> Addr) (g4 : Nat) (k : Nat) (b : Go.Act) (p : World) : Prop :=
 match k with
 | _ => True
theorem so2 (E : Nat -> Addr) (g4 : Nat) (w : World) (a : Go.Act) (hsz : a.tmps.size = 14) (h4 : slot a 4 = .pointer (some ⟨g4, 0, none⟩)) (w0 : World) (hw0 : Fr [] w0 w) (h4z : w0.heap.size <= g4) (B : Nat) (hE : zJ all20 E B w0) (hA4 : At w g4 (.cells #[.pointer none] 196)) (Q : Exit -> Go.Act -> World -> Prop)
  (hQ : ∀ (b : Go.Act) (p : World), b.defers = a.defers -> b.tmps.size = 14 -> (∀ s, some s ∉ ([some 9, some 10, none, some 5] : List (Option Nat)) -> slot b s = slot a s) -> Fr [g4] w p -> slot b 5 = .iface 317 (.pointer (some (E 1))) -> At p g4 (.cells #[.pointer none] 196) -> Q .normal b p) : Code.wp Tryz.prog qfj Q a w := by
 have F0 : ∀ {p : World}, Fr [g4] w p -> Fr [] w0 p := fun hf => hw0.then hf (fun z hz => .inr Y78)
 conv => arg 2; whnf
 refine jc [g4] (qfi E g4) (qfo E g4) [some 9, some 10, none, some 5] [[9], [10], [], [5], []] [] [] [] qb qb qb qb qb qa ?_ ?_ ?_ ?_ ?_
 ·intro w1 hw1 k hk1 hk2
  have hk3 : 4 <= k := hk1
  have hk4 : k < 5 := hk2
  clear hk1 hk2
  rcases (show k = 4 by omega) with rfl
  ·exact hA4.keep0 hw1
 ·intro k b b' p hs h
  match k with
  | 0 => show slot b' 9 = .agg #[.pointer none]; rw [<- hs 9 qa]; exact h
  | 1 => show slot b' 10 = .iface 317 (.pointer (some (E 1))); rw [<- hs 10 qa]; exact h
  | 2 => show At p g4 (.cells #[.pointer none] 196); exact h
  | 3 => show slot b' 5 = .iface 317 (.pointer (some (E 1))); rw [<- hs 5 qa]; exact h
  | 4 => show At p g4 (.cells #[.pointer none] 196); exact h
  | k + 5 => trivial
 ·intro k b b' p hs h
  match k with
  | k => trivial
 ·intro i hi dn b p hs ho hf hF hG hdn hdc hr
  have hi9 : i < 4 := hi
  clear hi
  match i, hi9 with
  | 0, _ =>
   refine opV_step _ Y72 ?_
   refine yi rfl (.agg #[.pointer none]) p qb ?_
   exact fstep_end hf (slot_put_self Y67)
  | 1, _ =>
   have e9 : b.eval (.global 0) = .pointer (some ⟨0, 0, none⟩) := rfl
   have c1 := (hE.keep0 (F0 hf)).cell 1 qa
   simp only [gOf, List.getD_eq_getElem?_getD, List.getElem?_cons_zero, List.getElem?_cons_succ, Option.getD_some] at c1
   refine opV_step _ Y72 ?_
   refine qz _ rfl rfl _ ?_ (fstep_end hf (slot_put_self Y67))
   obtain ⟨ρ, hρ⟩ := exq (b.eval)
   rw [hρ] at e9 ⊢
   unfold execOp; simp [go_sem, e9, c1]
  | 2, _ =>
   have e0 : b.eval (.tmp 4) = .pointer (some ⟨g4, 0, none⟩) := (ho 4 qa).trans h4
   have e1 : b.eval (.tmp 9) = .agg #[.pointer none] := fdq hF hr 0
   have f4 : At p g4 (.cells #[.pointer none] 196) := hF 4 (show (4:Nat) < 5 by decide) (fun h => absurd h qa) (fun c hc => absurd hc qc)
   refine opV_step _ Y72 ?_
   refine qC (.tmp 4) (.tmp 9) rfl rfl #[.pointer none] e0 e1 qb f4 rfl qb ?_
   intro p' f1 a1 _
   refine ⟨rfl, rfl, hf.trans f1, fun k hki hnr hco hli h => ?_, a1, fun _ _ _ h => h, fun e he hi hx => absurd he (Nat.not_lt_zero e)⟩
   match k with
   | 0 => exact h
   | 1 => exact h
   | 2 => exact absurd rfl hki
   | 3 => exact h
   | 4 => exact a1
   | k + 5 => exact trivial
  | 3, _ =>
   have e0 : b.eval (.tmp 10) = .iface 317 (.pointer (some (E 1))) := fdq hF hr 1
   exact Y1
 ·exact Y53
def ve (i : Int) : Nat := if 0 <= i /\ i <= 1099511627776 then 0 else 1
theorem Ut {i : Int} (h : 0 <= i /\ i <= 1099511627776) : ve i = 0 := if_pos h
theorem LS {i : Int} (h : ¬ (0 <= i /\ i <= 1099511627776)) : ve i = 1 := if_neg h
theorem qdu (E : Nat -> Addr) (B : Nat) (w0 : World) (v : Value) (key : List UInt8) (i : Int) (hE : zJ all20 E B w0) (hB : Bs (fun b => w0.heap.size <= b) w0 v key) (hl : key.length <= 100000000) (hS : SG w0) :
  Calls Tryz.prog 113 #[v, .int .i64 i] w0 fun e w' => ∃ M, e = .returned (.tuple #[.agg #[M], j7 E (ve i)]) /\ (ve i = 0 -> ∃ kb, M = .pointer (some ⟨kb, 0, none⟩) /\ ja w' kb key) /\ (ve i ≠ 0 -> M = .pointer none) /\ Fr [] w0 w' := by
 obtain ⟨Z, hZ⟩ := exq (w0.heap.size)
 have F1 : Fr [] w0 (w0.alloc (.cells #[.pointer none] 196)) := Fr.alloc _ _
 have HA := Hdq (show At (w0.alloc (.cells #[.pointer none] 196)) Z (.cells #[.pointer none] 196) from At.new hZ.symm)
 have HF1 := Hdq F1
 have HC := Hdq (Xj (w0.alloc (.cells #[.pointer none] 196)) i)
 have HE := Hdq hE
 by_cases h : 0 <= i /\ i <= 1099511627776
 ·have HK := Hdq (Ut h)
  rw [decide_eq_true h] at HC
  have HB := Hdq (hB.mono (A' := fun b => (w0.alloc (.cells #[.pointer none] 196)).heap.size <= b) F1 qc (fun b hb => .inl Y96))
  have HS := Hdq (hS.keep F1)
  clear h hE hB hS F1
  go_enter Tryz.func113, Tryz.ntmps113
  go_wp2_with (go_at_call 151; fail)
  refine HC.out.mono ?_
  rintro e w2 ⟨rfl, hf⟩
  have HF2 := Hdq (HF1.out.trans hf)
  have HA2 := Hdq (HA.out.keep0 hf)
  have HB2 := Hdq (HB.out.mono (A' := fun b => w2.heap.size <= b) hf qc (fun b hb => .inl qbO))
  have HS2 := Hdq (HS.out.keep hf)
  clear hf HF1 HA HB HS HC
  go_wp2_with (go_at_call 103; fail)
  refine (yM _ v key HB2.out hl HS2.out).mono ?_
  rintro e w3 ⟨kb, rfl, hk, hf⟩
  have HF3 := Hdq (HF2.out.trans hf)
  have HA3 := Hdq (HA2.out.keep0 hf)
  have HK3 := Hdq hk
  clear hk hf HF2 HA2 HB2 HS2
  go_wp2_with (refine qC (.tmp 4) (.tmp 13) rfl rfl #[.pointer (some ⟨kb, 0, none⟩)] rfl rfl qb HA3.out rfl qb ?_)
  intro w4 f4 a4 _
  have HF4 := Hdq (HF3.out.then f4 (fun z hz => .inr Y78))
  have HA4 := Hdq a4
  have HK4 := Hdq (ja.keepS HK3.out f4 HA3.out)
  clear f4 a4
  go_wp2
  refine bodyPost_ret (uj rfl _ _ Z [.pointer (some ⟨kb, 0, none⟩)] rfl (qL HA4.out) Tryz.underlying196 rfl qb) rfl ?_
  exact ⟨_, by rw [HK.out]; rfl, fun _ => ⟨kb, rfl, HK4.out⟩, fun h => absurd HK.out h, HF4.out⟩
 ·have HK := Hdq (LS h)
  rw [decide_eq_false h] at HC
  clear h hE hB hS F1
  go_enter Tryz.func113, Tryz.ntmps113
  go_wp2_with (go_at_call 151; fail)
  refine HC.out.mono ?_
  rintro e w2 ⟨rfl, hf⟩
  have HF2 := Hdq (HF1.out.trans hf)
  have HA2 := Hdq (HA.out.keep0 hf)
  clear hf HF1 HA HC
  go_wp2
  refine so2 E Z w2 _ rfl rfl w0 HF2.out Y66 B HE.out HA2.out _ ?_
  intro b p hd hs ho hf h5 hA
  rw [KF b hs hd, show slot b 4 = .pointer (some ⟨Z, 0, none⟩) from ho 4 qa, h5]
  have HF9 := Hdq (HF2.out.then hf (fun z hz => .inr Y78))
  have HA9 := Hdq hA
  clear hf hA ho
  go_wp2
  refine bodyPost_ret (uj rfl _ _ Z [.pointer none] rfl (qL HA9.out) Tryz.underlying196 rfl qb) rfl ?_
  exact ⟨_, by rw [HK.out]; rfl, (fun h => by rw [HK.out] at h; cases h), fun _ => rfl, HF9.out⟩
theorem WQ (E : Nat -> Addr) (B : Nat) (w0 : World) (v : Value) (key : List UInt8) (i : Int) (hE : zJ all20 E B w0) (hB : Bs (fun b => w0.heap.size <= b) w0 v key) (hl : key.length <= 100000000) (hS : SG w0) :
  Calls Tryz.prog 67 #[v, .int .i64 i] w0 fun e w' => ∃ u, e = .returned (.tuple #[u, j7 E (ve i)]) /\ (ve i = 0 -> qf 5 w0.heap.size w' u (j6 key i)) /\ (ve i ≠ 0 -> u = .slice none 0 0) /\ Fr [] w0 w' := by
 have HC := Hdq (qdu E B w0 v key i hE hB hl hS)
 have HS := Hdq hS
 obtain ⟨EV, hEV⟩ := exq (j7 E (ve i))
 rw [hEV] at HC ⊢
 have HEV := Hdq hEV
 clear hE hB hl hS hEV
 go_enter Tryz.func67, Tryz.ntmps67
 go_wp2_with (go_at_call 113; fail)
 refine HC.out.mono ?_
 rintro e w2 ⟨M, rfl, hk, hn, hf⟩
 by_cases h : ve i = 0
 ·obtain ⟨kb, rfl, hka⟩ := hk h
  obtain rfl : EV = .nilIface := HEV.out.symm.trans (by rw [h]; rfl)
  have HB := Hdq h
  obtain ⟨Z2, hZ2⟩ := exq (w2.heap.size)
  have F3 : Fr [] w2 (w2.alloc (.cells #[.pointer (some ⟨kb, 0, none⟩)] 196)) := Fr.alloc _ _
  have HF3 := Hdq (hf.trans F3)
  have HK3 := Hdq (hka.keep F3)
  have HS3 := Hdq (HS.out.keep HF3.out)
  have HM3 := Hdq (show At (w2.alloc (.cells #[.pointer (some ⟨kb, 0, none⟩)] 196)) Z2 (.cells #[.pointer (some ⟨kb, 0, none⟩)] 196) from At.new hZ2.symm)
  have HZ2 := Hdq hZ2
  clear h hk hn hka hf F3 HC hZ2
  go_wp2_with (first | (refine qT (.tmp 6) (.tmp 12) rfl rfl #[.pointer (some ⟨kb, 0, none⟩)] (congrArg (fun n => Value.pointer (some ⟨n, 0, none⟩)) HZ2.out.symm) rfl qb rfl qb ?_) | (refine qW (.tmp 6) rfl rfl Z2 0 [.pointer (some ⟨kb, 0, none⟩)] rfl (qL HM3.out) Tryz.underlying196 rfl qb ?_) | (go_at_call 114; fail))
  refine (qaS _ kb key i HK3.out HS3.out).mono ?_
  rintro e w4 ⟨u, rfl, hu, hf⟩
  have HU := Hdq (hu.base HF3.out.size)
  have HF4 := Hdq (HF3.out.trans hf)
  clear hu hf
  go_wp2
  go_ret2
  exact ⟨_, rfl, fun _ => HU.out, fun h => absurd HB.out h, HF4.out⟩
 ·obtain rfl : M = .pointer none := hn h
  have hEP := HEV.out.symm.trans (errv_pos E _ h)
  obtain ⟨ER, hER⟩ : ∃ a, EV = .iface 317 (.pointer (some a)) := ⟨_, hEP⟩
  subst hER
  have HB := Hdq h
  have HF := Hdq hf
  clear h hk hn hf hEP HC
  go_wp2
  go_ret2
  exact ⟨_, rfl, fun h => absurd h HB.out, fun _ => rfl, HF.out.trans (by repeat (first | exact Fr.refl _ _ | refine Fr.al ?_))⟩
end Go.Proofs.YtnafknkchbfpaaaGreatDoor
