import Derived.Test.YtnafknkchbfpaaaGreatDoorHG
set_option maxRecDepth 1000000
set_option maxHeartbeats 8000000
namespace Go.Proofs.YtnafknkchbfpaaaGreatDoor
open Go.RowKit Go.Bl
set_option linter.unusedVariables false
noncomputable def qgf : Code := ((Tryz.f68.body.bind (qq 1)).getD .skip)
theorem qdW (a : Go.Act) (hs : a.tmps.size = 19) (hd : a.defers = []) : a = ⟨(slot a 0 :: slot a 1 :: slot a 2 :: slot a 3 :: slot a 4 :: slot a 5 :: slot a 6 :: slot a 7 :: slot a 8 :: slot a 9 :: slot a 10 :: slot a 11 :: slot a 12 :: slot a 13 :: slot a 14 :: slot a 15 :: slot a 16 :: slot a 17 :: slot a 18 :: []).toArray, []⟩ := zF a 19 hs hd
def VH (Z mb kb : Nat) (xa : Option Addr) (xn xc : Nat) (pl : Int) (key xs : List UInt8) (k : Nat) (b : Go.Act) (p : World) : Prop :=
 match k with
 | 0 => slot b 7 = .slice xa xn xc
 | 1 => slot b 8 = .pointer (some ⟨mb, 0, none⟩)
 | 2 => slot b 9 = .pointer (some ⟨mb, 0, none⟩)
 | 3 => slot b 10 = .pointer (some ⟨mb, 6, none⟩)
 | 4 => slot b 11 = .pointer (some ⟨kb, 0, none⟩)
 | 5 => slot b 12 = .int .i64 pl
 | 6 => qh 5 Z p (slot b 13) (beK 8 pl)
 | 7 => slot b 14 = .slice xa xn xc
 | 8 => ∃ g, slot b 15 = .slice (some ⟨g, 0, none⟩) 2 2 /\ At p g (.cells #[slot b 13, .slice xa xn xc] 22)
 | 9 => qh 5 Z p (slot b 16) (vY key (beK 8 pl ++ xs))
 | 10 => ∃ g, slot b 17 = .slice (some ⟨g, 0, none⟩) 2 2 /\ At p g (.cells #[.slice xa xn xc, slot b 16] 22)
 | 11 => qh 5 Z p (slot b 18) (ze key pl xs)
 | 12 => qh 5 Z p (slot b 6) (ze key pl xs)
 | 13 => Bs (fun _ => False) p (.slice xa xn xc) xs
 | 14 => ∃ c, At p mb (.cells c 136) /\ c[6]? = some (.pointer (some ⟨kb, 0, none⟩))
 | _ => True
def qe3 (Z mb kb : Nat) (xa : Option Addr) (xn xc : Nat) (pl : Int) (key xs : List UInt8) (k : Nat) (b : Go.Act) (p : World) : Prop :=
 match k with
 | _ => True
theorem ye (Z mb kb : Nat) (xa : Option Addr) (xn xc : Nat) (pl : Int) (key xs : List UInt8) : ∀ (k : Nat) (b : Go.Act) (p p' : World), Fr [] p p' -> VH Z mb kb xa xn xc pl key xs k b p -> VH Z mb kb xa xn xc pl key xs k b p'
 | 0, b, p, p', hf, h => h
 | 1, b, p, p', hf, h => h
 | 2, b, p, p', hf, h => h
 | 3, b, p, p', hf, h => h
 | 4, b, p, p', hf, h => h
 | 5, b, p, p', hf, h => h
 | 6, b, p, p', hf, h => h.keep hf (fun _ h => by cases h)
 | 7, b, p, p', hf, h => h
 | 8, b, p, p', hf, h => let ⟨g, h1, h3⟩ := h; ⟨g, h1, h3.keep0 hf⟩
 | 9, b, p, p', hf, h => h.keep hf (fun _ h => by cases h)
 | 10, b, p, p', hf, h => let ⟨g, h1, h3⟩ := h; ⟨g, h1, h3.keep0 hf⟩
 | 11, b, p, p', hf, h => h.keep hf (fun _ h => by cases h)
 | 12, b, p, p', hf, h => h.keep hf (fun _ h => by cases h)
 | 13, b, p, p', hf, h => h.keep hf qf
 | 14, b, p, p', hf, h => let ⟨c, h1, h2⟩ := h; ⟨c, h1.keep0 hf, h2⟩
 | k + 15, b, p, p', hf, h => trivial
theorem vS (Z mb kb : Nat) (xa : Option Addr) (xn xc : Nat) (pl : Int) (key xs : List UInt8) : ∀ (k : Nat) (b : Go.Act) (p p' : World), Fr [] p p' -> qe3 Z mb kb xa xn xc pl key xs k b p -> qe3 Z mb kb xa xn xc pl key xs k b p'
 | k, b, p, p', hf, h => trivial
theorem sg1 (Z mb kb : Nat) (xa : Option Addr) (xn xc : Nat) (pl : Int) (key xs : List UInt8) (w : World) (a : Go.Act) (hsz : a.tmps.size = 19) (h0 : slot a 0 = .pointer (some ⟨mb, 0, none⟩)) (h1 : slot a 1 = .int .i64 pl) (h2 : slot a 2 = .slice xa xn xc) (hZ : w.heap.size = Z) (hB : Bs (fun _ => False) w (.slice xa xn xc) xs) (hM : ∃ c, At w mb (.cells c 136) /\ c[6]? = some (.pointer (some ⟨kb, 0, none⟩))) (hK : qX w kb key) (hS : SG w) (hl : xs.length <= 1000000) (Q : Exit -> Go.Act -> World -> Prop)
  (hQ : ∀ (b : Go.Act) (p : World), b.defers = a.defers -> b.tmps.size = 19 -> (∀ s, some s ∉ ([some 7, some 8, some 9, some 10, some 11, some 12, some 13, some 14, some 15, some 16, some 17, some 18, some 6] : List (Option Nat)) -> slot b s = slot a s) -> Fr [] w p -> qh 5 Z p (slot b 6) (ze key pl xs) -> Q .normal b p) : Code.wp Tryz.prog qgf Q a w := by
 conv => arg 2; whnf
 refine qN [] (VH Z mb kb xa xn xc pl key xs) (qe3 Z mb kb xa xn xc pl key xs) [some 7, some 8, some 9, some 10, some 11, some 12, some 13, some 14, some 15, some 16, some 17, some 18, some 6] [[7], [8], [9], [10], [11], [12], [13], [14], [13, 15], [16], [16, 17], [18], [6], [], []] [] [] [] qe qe qe qe qe qd ?_ ?_ ?_ ?_ ?_
 ·intro w1 hw1 k hk1 hk2
  have hk3 : 13 <= k := hk1
  have hk4 : k < 15 := hk2
  clear hk1 hk2
  rcases (show k = 13 ∨ k = 14 by omega) with rfl | rfl
  ·exact hB.keep hw1 qf
  ·exact hM.elim fun c h => ⟨c, h.1.keep0 hw1, h.2⟩
 ·intro k b b' p hs h
  match k with
  | 0 => show slot b' 7 = .slice xa xn xc; rw [<- hs 7 qd]; exact h
  | 1 => show slot b' 8 = .pointer (some ⟨mb, 0, none⟩); rw [<- hs 8 qd]; exact h
  | 2 => show slot b' 9 = .pointer (some ⟨mb, 0, none⟩); rw [<- hs 9 qd]; exact h
  | 3 => show slot b' 10 = .pointer (some ⟨mb, 6, none⟩); rw [<- hs 10 qd]; exact h
  | 4 => show slot b' 11 = .pointer (some ⟨kb, 0, none⟩); rw [<- hs 11 qd]; exact h
  | 5 => show slot b' 12 = .int .i64 pl; rw [<- hs 12 qd]; exact h
  | 6 => show qh 5 Z p (slot b' 13) (beK 8 pl); rw [<- hs 13 qd]; exact h
  | 7 => show slot b' 14 = .slice xa xn xc; rw [<- hs 14 qd]; exact h
  | 8 => show ∃ g, slot b' 15 = .slice (some ⟨g, 0, none⟩) 2 2 /\ At p g (.cells #[slot b' 13, .slice xa xn xc] 22); rw [<- hs 13 qd, <- hs 15 qd]; exact h
  | 9 => show qh 5 Z p (slot b' 16) (vY key (beK 8 pl ++ xs)); rw [<- hs 16 qd]; exact h
  | 10 => show ∃ g, slot b' 17 = .slice (some ⟨g, 0, none⟩) 2 2 /\ At p g (.cells #[.slice xa xn xc, slot b' 16] 22); rw [<- hs 16 qd, <- hs 17 qd]; exact h
  | 11 => show qh 5 Z p (slot b' 18) (ze key pl xs); rw [<- hs 18 qd]; exact h
  | 12 => show qh 5 Z p (slot b' 6) (ze key pl xs); rw [<- hs 6 qd]; exact h
  | 13 => show Bs (fun _ => False) p (.slice xa xn xc) xs; exact h
  | 14 => show ∃ c, At p mb (.cells c 136) /\ c[6]? = some (.pointer (some ⟨kb, 0, none⟩)); exact h
  | k + 15 => trivial
 ·intro k b b' p hs h
  match k with
  | k => trivial
 ·intro i hi dn b p hs ho hf hF hG hdn hdc hr
  have hi9 : i < 13 := hi
  clear hi
  match i, hi9 with
  | 0, _ =>
   have e0 : b.eval (.tmp 2) = .slice xa xn xc := (ho 2 qd).trans h2
   exact Y0
  | 1, _ =>
   have e0 : b.eval (.tmp 0) = .pointer (some ⟨mb, 0, none⟩) := (ho 0 qd).trans h0
   exact Y0
  | 2, _ =>
   have e0 : b.eval (.tmp 8) = .pointer (some ⟨mb, 0, none⟩) := fdq hF hr 1
   exact Y0
  | 3, _ =>
   have e0 : b.eval (.tmp 9) = .pointer (some ⟨mb, 0, none⟩) := fdq hF hr 2
   exact Y0
  | 4, _ =>
   have e0 : b.eval (.tmp 10) = .pointer (some ⟨mb, 6, none⟩) := fdq hF hr 3
   have f14 : ∃ c, At p mb (.cells c 136) /\ c[6]? = some (.pointer (some ⟨kb, 0, none⟩)) := hF 14 (show (14:Nat) < 15 by decide) (fun h => absurd h qd) (fun c hc => absurd hc qf)
   obtain ⟨cc, g1, g2⟩ := f14
   have c1 : p.cell? ⟨mb, 6, none⟩ = some (.pointer (some ⟨kb, 0, none⟩)) := (g1.cell 6).trans g2
   exact Y3
  | 5, _ =>
   have e0 : b.eval (.tmp 1) = .int .i64 pl := (ho 1 qd).trans h1
   exact Y0
  | 6, _ =>
   have e0 : b.eval (.tmp 12) = .int .i64 pl := fdq hF hr 5
   refine qV _ Y69 (qu rfl) 57 _ _ rfl #[.int .i64 pl] Y66 Y75 ((zY p pl).mono ?_)
   rintro e p' ⟨u, rfl, hu, hf2⟩
   refine ⟨_, rfl, hf.trans hf2, fun k _ _ _ _ h => ye Z mb kb xa xn xc pl key xs k _ _ _ hf2 h, ?_, fun e _ _ h => vS Z mb kb xa xn xc pl key xs e _ _ _ hf2 h, fun e he hi hx => by exact absurd he (Nat.not_lt_zero e)⟩
   refine qA b 13 _ Y64 (fun b' => VH Z mb kb xa xn xc pl key xs 6 b' p') ?_
   intro b' hd hne
   show qh 5 Z p' (slot b' 13) (beK 8 pl)
   exact Y44
  | 7, _ =>
   have e0 : b.eval (.tmp 2) = .slice xa xn xc := (ho 2 qd).trans h2
   exact Y0
  | 8, _ =>
   have f6 : qh 5 Z p (slot b 13) (beK 8 pl) := fdq hF hr 6
   have e1 : b.eval (.tmp 14) = .slice xa xn xc := fdq hF hr 7
   have hc0 : (slot b 13).cells = #[slot b 13] := by obtain ⟨x, y, z, e⟩ := jM f6; rw [e]; rfl
   refine opV_step _ Y69 ?_
   refine xj Tryz.underlying56 Tryz.infoBytes rfl (.tmp 13) (.tmp 14) rfl (slot b 13) (.slice xa xn xc) rfl e1 hc0 rfl ?_
   have hf2 : Fr [] p (p.alloc (.cells #[slot b 13, .slice xa xn xc] 22)) := Fr.alloc _ _
   obtain ⟨p', hp'⟩ : ∃ p', p.alloc (.cells #[slot b 13, .slice xa xn xc] 22) = p' := ⟨_, rfl⟩
   have hA : At p' p.heap.size (.cells #[slot b 13, .slice xa xn xc] 22) := by rw [<- hp']; exact At.new rfl
   rw [hp'] at hf2 ⊢
   clear hp'
   refine ⟨rfl, rfl, hf.trans hf2, fun k _ _ _ _ h => ye Z mb kb xa xn xc pl key xs k _ _ _ hf2 h, ?_, fun e _ _ h => vS Z mb kb xa xn xc pl key xs e _ _ _ hf2 h, fun e he hi hx => by exact absurd he (Nat.not_lt_zero e)⟩
   refine qA b 15 _ Y64 (fun b' => VH Z mb kb xa xn xc pl key xs 8 b' p') ?_
   intro b' hd hne
   show ∃ g, slot b' 15 = .slice (some ⟨g, 0, none⟩) 2 2 /\ At p' g (.cells #[slot b' 13, .slice xa xn xc] 22)
   rw [hne 13 qd]
   exact ⟨_, hd, hA⟩
  | 9, _ =>
   have f6 : qh 5 Z p (slot b 13) (beK 8 pl) := fdq hF hr 6
   have f8 : ∃ g, slot b 15 = .slice (some ⟨g, 0, none⟩) 2 2 /\ At p g (.cells #[slot b 13, .slice xa xn xc] 22) := fdq hF hr 8
   obtain ⟨g, b1, b2⟩ := f8
   have f13 : Bs (fun _ => False) p (.slice xa xn xc) xs := hF 13 (show (13:Nat) < 15 by decide) (fun h => absurd h qd) (fun c hc => absurd hc qf)
   have e0 : b.eval (.tmp 11) = .pointer (some ⟨kb, 0, none⟩) := fdq hF hr 4
   have e1 : b.eval (.tmp 15) = .slice (some ⟨g, 0, none⟩) 2 2 := b1
   have hRD : RdB (fun b => p.heap.size <= b) p (.slice (some ⟨g, 0, none⟩) 2 2) [(slot b 13, beK 8 pl), (.slice xa xn xc, xs)] := by
    refine ⟨⟨_, 2, rfl, by simp, by decide, Row.of_block (c := #[slot b 13, .slice xa xn xc]) (fz := (0, 0)) b2 qds⟩, fun x hx => ?_⟩
    rcases List.mem_cons.1 hx with rfl | hx
    ·exact zk (f6.bs (fun _ h => h.elim))
    ·obtain rfl : x = (.slice xa xn xc, xs) := by simpa using hx
     exact zk f13
   refine qV _ Y69 (qu rfl) 56 _ _ rfl #[.pointer (some ⟨kb, 0, none⟩), .slice (some ⟨g, 0, none⟩) 2 2] Y73 Y75 ((XT p kb _ key [(slot b 13, beK 8 pl), (.slice xa xn xc, xs)] (hK.keep hf) hRD (hS.keep hf) qf qf (by simp [qP, yq]; omega)).mono ?_)
   rintro e p' ⟨u, rfl, hu, hf2⟩
   refine ⟨_, rfl, hf.trans hf2, fun k _ _ _ _ h => ye Z mb kb xa xn xc pl key xs k _ _ _ hf2 h, ?_, fun e _ _ h => vS Z mb kb xa xn xc pl key xs e _ _ _ hf2 h, fun e he hi hx => by exact absurd he (Nat.not_lt_zero e)⟩
   refine qA b 16 _ Y64 (fun b' => VH Z mb kb xa xn xc pl key xs 9 b' p') ?_
   intro b' hd hne
   show qh 5 Z p' (slot b' 16) (vY key (beK 8 pl ++ xs))
   rw [hd]
   have h5 := hu.base (base' := Z) qbs
   simpa [qP] using h5
  | 10, _ =>
   have f9 : qh 5 Z p (slot b 16) (vY key (beK 8 pl ++ xs)) := fdq hF hr 9
   have e0 : b.eval (.tmp 7) = .slice xa xn xc := fdq hF hr 0
   have hc0 : (slot b 16).cells = #[slot b 16] := by obtain ⟨x, y, z, e⟩ := jM f9; rw [e]; rfl
   refine opV_step _ Y69 ?_
   refine xj Tryz.underlying56 Tryz.infoBytes rfl (.tmp 7) (.tmp 16) rfl (.slice xa xn xc) (slot b 16) e0 rfl rfl hc0 ?_
   have hf2 : Fr [] p (p.alloc (.cells #[.slice xa xn xc, slot b 16] 22)) := Fr.alloc _ _
   obtain ⟨p', hp'⟩ : ∃ p', p.alloc (.cells #[.slice xa xn xc, slot b 16] 22) = p' := ⟨_, rfl⟩
   have hA : At p' p.heap.size (.cells #[.slice xa xn xc, slot b 16] 22) := by rw [<- hp']; exact At.new rfl
   rw [hp'] at hf2 ⊢
   clear hp'
   refine ⟨rfl, rfl, hf.trans hf2, fun k _ _ _ _ h => ye Z mb kb xa xn xc pl key xs k _ _ _ hf2 h, ?_, fun e _ _ h => vS Z mb kb xa xn xc pl key xs e _ _ _ hf2 h, fun e he hi hx => by exact absurd he (Nat.not_lt_zero e)⟩
   refine qA b 17 _ Y64 (fun b' => VH Z mb kb xa xn xc pl key xs 10 b' p') ?_
   intro b' hd hne
   show ∃ g, slot b' 17 = .slice (some ⟨g, 0, none⟩) 2 2 /\ At p' g (.cells #[.slice xa xn xc, slot b' 16] 22)
   rw [hne 16 qd]
   exact ⟨_, hd, hA⟩
  | 11, _ =>
   have f9 : qh 5 Z p (slot b 16) (vY key (beK 8 pl ++ xs)) := fdq hF hr 9
   have f10 : ∃ g, slot b 17 = .slice (some ⟨g, 0, none⟩) 2 2 /\ At p g (.cells #[.slice xa xn xc, slot b 16] 22) := fdq hF hr 10
   obtain ⟨g, b1, b2⟩ := f10
   have f13 : Bs (fun _ => False) p (.slice xa xn xc) xs := hF 13 (show (13:Nat) < 15 by decide) (fun h => absurd h qd) (fun c hc => absurd hc qf)
   have e0 : b.eval (.tmp 17) = .slice (some ⟨g, 0, none⟩) 2 2 := b1
   have hRD : RdL (fun _ => False) p (.slice (some ⟨g, 0, none⟩) 2 2) [(.slice xa xn xc, xs), (slot b 16, vY key (beK 8 pl ++ xs))] := by
    refine ⟨⟨_, 2, rfl, by simp, by decide, Row.of_block (c := #[.slice xa xn xc, slot b 16]) (fz := (0, 0)) b2 qf⟩, fun x hx => ?_⟩
    rcases List.mem_cons.1 hx with rfl | hx
    ·exact f13
    ·obtain rfl : x = (slot b 16, vY key (beK 8 pl ++ xs)) := by simpa using hx
     exact f9.bs (fun _ h => h.elim)
   refine qV _ Y69 (qu rfl) 55 _ _ rfl #[.slice (some ⟨g, 0, none⟩) 2 2] Y66 Y75 ((Qw (fun _ => False) p _ [(.slice xa xn xc, xs), (slot b 16, vY key (beK 8 pl ++ xs))] hRD qf (by simp [cat, YV]; omega)).mono ?_)
   rintro e p' ⟨u, rfl, hu, hf2⟩
   refine ⟨_, rfl, hf.trans hf2, fun k _ _ _ _ h => ye Z mb kb xa xn xc pl key xs k _ _ _ hf2 h, ?_, fun e _ _ h => vS Z mb kb xa xn xc pl key xs e _ _ _ hf2 h, fun e he hi hx => by exact absurd he (Nat.not_lt_zero e)⟩
   refine qA b 18 _ Y64 (fun b' => VH Z mb kb xa xn xc pl key xs 11 b' p') ?_
   intro b' hd hne
   show qh 5 Z p' (slot b' 18) (ze key pl xs)
   rw [hd]
   have h5 := hu.base (base' := Z) qbs
   simpa [cat, ze] using h5
  | 12, _ =>
   have f11 : qh 5 Z p (slot b 18) (ze key pl xs) := fdq hF hr 11
   refine opV_step _ Y69 ?_
   refine qy _ rfl rfl (slot b 18) (by obtain ⟨ρ, hρ⟩ := exq (b.eval); have e0 : b.eval (.tmp 18) = slot b 18 := rfl; rw [hρ] at e0 ⊢; unfold execOp; simp [go_sem, e0]) ?_
   refine ⟨rfl, rfl, hf, fun _ _ _ _ _ h => h, ?_, fun _ _ _ h => h, fun e he hi hx => by exact absurd he (Nat.not_lt_zero e)⟩
   refine qA b 6 _ Y64 (fun b' => VH Z mb kb xa xn xc pl key xs 12 b' p) ?_
   intro b' hd hne
   show qh 5 Z p (slot b' 6) (ze key pl xs)
   rw [hd]
   exact f11
 ·intro b p hd hs ho hf hall hex
  have a1 := hall 12 qd (fun c hc => by simp at hc)
  exact hQ b p hd (hs.trans hsz) ho hf a1
theorem UZ (w0 : World) (mb N D : Nat) (m : List UInt8) (n : Int) (v : Value) (xs : List UInt8) (pl : Int) (hM : yQ w0 mb N D m n) (hB : Bs (fun _ => False) w0 v xs) (hS : SG w0) (hl : xs.length <= 1000000) :
  Calls Tryz.prog 68 #[.pointer (some ⟨mb, 0, none⟩), .int .i64 pl, v] w0 fun e w' => ∃ u, e = .returned u /\ qh 5 w0.heap.size w' u (ze (qn m jR n) pl xs) /\ Fr [] w0 w' := by
 obtain ⟨xa, xc, rfl, -, -, -⟩ := id hB
 obtain ⟨xn, hxn⟩ := exq (xs.length)
 rw [hxn] at hB ⊢
 obtain ⟨u0, u1, u2, u3, u4, ob, kb, okb, a1, -, -, a4, -, -⟩ := hM
 have HH := Hdq (And.intro hB (And.intro a1 (And.intro a4 (And.intro hS (show xs.length <= 1000000 from hl)))))
 clear hB a1 a4 hS hl hxn
 go_enter Tryz.func68, Tryz.ntmps68
 go_wp2
 refine sg1 w0.heap.size mb kb xa xn xc pl (qn m jR n) xs w0 _ rfl rfl rfl rfl rfl HH.out.1 ⟨_, HH.out.2.1, rfl⟩ HH.out.2.2.1 HH.out.2.2.2.1 HH.out.2.2.2.2 _ ?_
 intro b w2 hbd hbs hbo hf hO
 rw [qdW b hbs hbd]
 have HO := Hdq hO
 have HF := Hdq hf
 clear hbd hbs hbo hf hO HH
 exact Y9
noncomputable def qf9 : Code := ((Tryz.f122.body.bind (qq 2)).getD .skip)
theorem qdC (a : Go.Act) (hs : a.tmps.size = 39) (hd : a.defers = []) : a = ⟨(slot a 0 :: slot a 1 :: slot a 2 :: slot a 3 :: slot a 4 :: slot a 5 :: slot a 6 :: slot a 7 :: slot a 8 :: slot a 9 :: slot a 10 :: slot a 11 :: slot a 12 :: slot a 13 :: slot a 14 :: slot a 15 :: slot a 16 :: slot a 17 :: slot a 18 :: slot a 19 :: slot a 20 :: slot a 21 :: slot a 22 :: slot a 23 :: slot a 24 :: slot a 25 :: slot a 26 :: slot a 27 :: slot a 28 :: slot a 29 :: slot a 30 :: slot a 31 :: slot a 32 :: slot a 33 :: slot a 34 :: slot a 35 :: slot a 36 :: slot a 37 :: slot a 38 :: []).toArray, []⟩ := zF a 39 hs hd
def qgb (mb : Nat) (N D q : Nat) (k : Nat) (b : Go.Act) (p : World) : Prop :=
 match k with
 | 0 => slot b 8 = .pointer (some ⟨mb, 0, none⟩)
 | 1 => slot b 9 = .pointer (some ⟨mb, 0, none⟩)
 | 2 => slot b 10 = .pointer (some ⟨mb, 8, none⟩)
 | 3 => slot b 11 = .int .i64 (N : Int)
 | 4 => slot b 12 = .pointer (some ⟨mb, 0, none⟩)
 | 5 => slot b 13 = .pointer (some ⟨mb, 0, none⟩)
 | 6 => slot b 14 = .pointer (some ⟨mb, 7, none⟩)
 | 7 => slot b 15 = .int .i64 (D : Int)
 | 8 => slot b 16 = .int .i64 (q : Int)
 | 9 => slot b 17 = .int .i64 0
 | 10 => ∃ c, At p mb (.cells c 136) /\ c[7]? = some (.int .i64 (D : Int)) /\ c[8]? = some (.int .i64 (N : Int))
 | _ => True
def qgo (mb : Nat) (N D q : Nat) (k : Nat) (b : Go.Act) (p : World) : Prop :=
 match k with
 | _ => True
theorem sn2 (mb : Nat) (N D q : Nat) (w : World) (a : Go.Act) (hsz : a.tmps.size = 39) (h0 : slot a 0 = .pointer (some ⟨mb, 0, none⟩)) (hM : ∃ c, At w mb (.cells c 136) /\ c[7]? = some (.int .i64 (D : Int)) /\ c[8]? = some (.int .i64 (N : Int))) (hD1 : IntKind.i64.wrap ((N : Int) - (D : Int)) = (q : Int)) (hD2 : wrap64 ((N : Int) - (D : Int)) = (q : Int)) (Q : Exit -> Go.Act -> World -> Prop)
  (hQ : ∀ (b : Go.Act) (p : World), b.defers = a.defers -> b.tmps.size = 39 -> (∀ s, some s ∉ ([some 8, some 9, some 10, some 11, some 12, some 13, some 14, some 15, some 16, some 17] : List (Option Nat)) -> slot b s = slot a s) -> Fr [] w p -> slot b 16 = .int .i64 (q : Int) -> slot b 17 = .int .i64 0 -> Q .normal b p) : Code.wp Tryz.prog qf9 Q a w := by
 conv => arg 2; whnf
 refine qN [] (qgb mb N D q) (qgo mb N D q) [some 8, some 9, some 10, some 11, some 12, some 13, some 14, some 15, some 16, some 17] [[8], [9], [10], [11], [12], [13], [14], [15], [16], [17], []] [] [] [] qe qe qe qe qe qd ?_ ?_ ?_ ?_ ?_
 ·intro w1 hw1 k hk1 hk2
  have hk3 : 10 <= k := hk1
  have hk4 : k < 11 := hk2
  clear hk1 hk2
  rcases (show k = 10 by omega) with rfl
  ·exact hM.elim fun c h => ⟨c, h.1.keep0 hw1, h.2⟩
 ·intro k b b' p hs h
  match k with
  | 0 => show slot b' 8 = .pointer (some ⟨mb, 0, none⟩); rw [<- hs 8 qd]; exact h
  | 1 => show slot b' 9 = .pointer (some ⟨mb, 0, none⟩); rw [<- hs 9 qd]; exact h
  | 2 => show slot b' 10 = .pointer (some ⟨mb, 8, none⟩); rw [<- hs 10 qd]; exact h
  | 3 => show slot b' 11 = .int .i64 (N : Int); rw [<- hs 11 qd]; exact h
  | 4 => show slot b' 12 = .pointer (some ⟨mb, 0, none⟩); rw [<- hs 12 qd]; exact h
  | 5 => show slot b' 13 = .pointer (some ⟨mb, 0, none⟩); rw [<- hs 13 qd]; exact h
  | 6 => show slot b' 14 = .pointer (some ⟨mb, 7, none⟩); rw [<- hs 14 qd]; exact h
  | 7 => show slot b' 15 = .int .i64 (D : Int); rw [<- hs 15 qd]; exact h
  | 8 => show slot b' 16 = .int .i64 (q : Int); rw [<- hs 16 qd]; exact h
  | 9 => show slot b' 17 = .int .i64 0; rw [<- hs 17 qd]; exact h
  | 10 => show ∃ c, At p mb (.cells c 136) /\ c[7]? = some (.int .i64 (D : Int)) /\ c[8]? = some (.int .i64 (N : Int)); exact h
  | k + 11 => trivial
 ·intro k b b' p hs h
  match k with
  | k => trivial
 ·intro i hi dn b p hs ho hf hF hG hdn hdc hr
  have hi9 : i < 10 := hi
  clear hi
  match i, hi9 with
  | 0, _ =>
   have e0 : b.eval (.tmp 0) = .pointer (some ⟨mb, 0, none⟩) := (ho 0 qd).trans h0
   exact Y0
  | 1, _ =>
   have e0 : b.eval (.tmp 8) = .pointer (some ⟨mb, 0, none⟩) := fdq hF hr 0
   exact Y0
  | 2, _ =>
   have e0 : b.eval (.tmp 9) = .pointer (some ⟨mb, 0, none⟩) := fdq hF hr 1
   exact Y0
  | 3, _ =>
   have e0 : b.eval (.tmp 10) = .pointer (some ⟨mb, 8, none⟩) := fdq hF hr 2
   have f14 : ∃ c, At p mb (.cells c 136) /\ c[7]? = some (.int .i64 (D : Int)) /\ c[8]? = some (.int .i64 (N : Int)) := hF 10 (show (10:Nat) < 11 by decide) (fun h => absurd h qd) (fun c hc => absurd hc qf)
   obtain ⟨cc, g1, g2, g3⟩ := f14
   have c1 : p.cell? ⟨mb, 8, none⟩ = some (.int .i64 (N : Int)) := (g1.cell 8).trans g3
   exact Y3
  | 4, _ =>
   have e0 : b.eval (.tmp 0) = .pointer (some ⟨mb, 0, none⟩) := (ho 0 qd).trans h0
   exact Y0
  | 5, _ =>
   have e0 : b.eval (.tmp 12) = .pointer (some ⟨mb, 0, none⟩) := fdq hF hr 4
   exact Y0
  | 6, _ =>
   have e0 : b.eval (.tmp 13) = .pointer (some ⟨mb, 0, none⟩) := fdq hF hr 5
   exact Y0
  | 7, _ =>
   have e0 : b.eval (.tmp 14) = .pointer (some ⟨mb, 7, none⟩) := fdq hF hr 6
   have f14 : ∃ c, At p mb (.cells c 136) /\ c[7]? = some (.int .i64 (D : Int)) /\ c[8]? = some (.int .i64 (N : Int)) := hF 10 (show (10:Nat) < 11 by decide) (fun h => absurd h qd) (fun c hc => absurd hc qf)
   obtain ⟨cc, g1, g2, g3⟩ := f14
   have c1 : p.cell? ⟨mb, 7, none⟩ = some (.int .i64 (D : Int)) := (g1.cell 7).trans g2
   exact Y3
  | 8, _ =>
   have e0 : b.eval (.tmp 11) = .int .i64 (N : Int) := fdq hF hr 3
   have e1 : b.eval (.tmp 15) = .int .i64 (D : Int) := fdq hF hr 7
   exact Y33
  | 9, _ =>
   have ec : b.eval (.const (.int .i64 0)) = .int .i64 0 := rfl
   exact Y17
 ·intro b p hd hs ho hf hall hex
  have a1 := hall 8 qd (fun c hc => by simp at hc)
  have a2 := hall 9 qd (fun c hc => by simp at hc)
  exact hQ b p hd (hs.trans hsz) ho hf a1 a2
theorem yQ.sent {w : World} {mb N D : Nat} {m : List UInt8} {n : Int} (h : yQ w mb N D m n) : ∃ (c : Array Value) (u : Value), At w mb (.cells c 136) /\ c[2]? = some u /\ c[7]? = some (.int .i64 (D : Int)) /\ c[8]? = some (.int .i64 (N : Int)) /\ Bs (fun _ => False) w u (qn m jp n) := by
 obtain ⟨u0, u1, u2, u3, u4, ob, kb, okb, a1, -, -, -, -, a6⟩ := h
 exact ⟨_, u2, a1, rfl, rfl, rfl, a6⟩
theorem qcB (q k : Nat) (h : k < q) (f : Nat -> List UInt8) : ((List.range q).map f).take (k + 1) = ((List.range q).map f).take k ++ [f k] := by
 rw [List.take_add_one, List.getElem?_map, List.getElem?_range h]
 rfl
theorem WF (E : Nat -> Addr) (B : Nat) (w0 : World) (mb N D : Nat) (m : List UInt8) (n : Int) (hE : j7 all20 E B w0) (hM : yQ w0 mb N D m n) (hS : SG w0) (hN : D <= N /\ N <= 1000) :
  Calls Tryz.prog 122 #[.pointer (some ⟨mb, 0, none⟩)] w0 fun e w' => ∃ (u : Value) (ls' : List (Value × List UInt8)), e = .returned (.tuple #[u, .nilIface]) /\ qJ 22 w0.heap.size w' u (ls'.map (·.1)) /\ (∀ x ∈ ls', BsT w' x.1 x.2) /\ ls'.map (·.2) = ((List.range (N - D)).map fun j => uK (qn m jp n) ((j : Nat) : Int)) /\ Fr [] w0 w' := by
 obtain ⟨q, hq⟩ := exq (N - D)
 rw [hq]
 obtain ⟨c, u2, a1, a2, a3, a4, a5⟩ := hM.sent
 have HH := Hdq (And.intro hE (And.intro hS (And.intro a1 (And.intro a2 (And.intro a3 a4)))))
 have HB := Hdq a5
 have HQ := Hdq (show q <= 1000 /\ (N : Int) - (D : Int) = (q : Int) by omega)
 obtain ⟨ua, uc, rfl, -, -, -⟩ := id a5
 rw [show (qn m jp n).length = 32 from rfl] at HB HH
 clear hE hM hS hN hq a1 a2 a3 a4 a5
 go_enter Tryz.func122, Tryz.ntmps122
 go_wp2
 refine sn2 mb N D q w0 _ rfl rfl ⟨c, HH.out.2.2.1, HH.out.2.2.2.2.1, HH.out.2.2.2.2.2⟩ (by rw [HQ.out.2, IntKind.wrap_i64]; have := HQ.out.1; omega) (by rw [HQ.out.2]; have := HQ.out.1; unfold wrap64; omega) _ ?_
 intro b w2 hbd hbs hbo hf h16 h17
 have q0 : slot b 0 = .pointer (some ⟨mb, 0, none⟩) := hbo 0 qd
 have q4 : slot b 4 = .slice none 0 0 := hbo 4 qd
 rw [qdC b hbs hbd, h16, h17, q0, q4]
 have HF2 := Hdq hf
 clear hbd hbs hbo hf h16 h17 q0 q4
 go_wp2
 go_loopw [4, 17] (fun o i wr => ∃ (k : Nat) (ls' : List (Value × List UInt8)), k <= q /\ i = .int .i64 (k : Int) /\ Hid (qJ 22 w0.heap.size wr o (ls'.map (·.1))) /\ Hid (∀ x ∈ ls', BsT wr x.1 x.2) /\ Hid (ls'.map (·.2) = ((List.range q).map fun j => uK (qn m jp n) ((j : Nat) : Int)).take k) /\ Hid (Fr [] w0 wr)) (fun _ i _ => q - (intOf i).toNat)
 case atStart => exact ⟨0, [], by omega, rfl, Hdq (qJ.nil _ _ _), Hdq (fun x hx => by cases hx), Hdq rfl, HF2⟩
 case round =>
  clear HF2
  have hq9 : q <= 1000 := HQ.out.1
  obtain ⟨k, ls', hk, rfl, HO, HT, HL, HF⟩ := hrel
  by_cases hkn : k < q
  ·have hki : (k : Int) < (q : Int) := by omega
   have c2 : wr.cell? ⟨mb, 2, none⟩ = some (.slice ua 32 uc) := ((HH.out.2.2.1.keep0 HF.out).cell 2).trans HH.out.2.2.2.1
   have HUP := Hdq (qcB q k hkn fun j => uK (qn m jp n) ((j : Nat) : Int))
   go_wp2_with (go_at_call 67; fail)
   refine (Zt E B wr (.slice ua 32 uc) (qn m jp n) (k : Int) (HH.out.1.keep0 HF.out) (zk (HB.out.keep HF.out qf)) (by rw [show (qn m jp n).length = 32 from rfl]; decide) (HH.out.2.1.keep HF.out)).mono ?_
   rintro e w5 ⟨u, rfl, hu, -, hf⟩
   have hcb : uh (k : Int) = 0 := Jo (by have := HQ.out.1; omega)
   have hu := hu hcb
   rw [hcb, uz]
   have hul : (uK (qn m jp n) (k : Int)).length = 8 := rfl
   have huT := YM hu Y62
   obtain ⟨ub, uo, uc2, rfl⟩ := huT.shape
   rw [hul]
   rw [hul] at huT
   have HUT := Hdq huT
   have HF6 := Hdq hf
   have HO6 := Hdq (HO.out.keep0 hf)
   have HSZ := Hdq (HF.out.trans hf).size
   have HLEN := Hdq (show ls'.length = k by
    have := congrArg List.length HL.out
    rw [List.length_map, List.length_take, List.length_map, List.length_range] at this
    omega)
   clear hu hf huT hul hcb c2
   go_wp2_with (at_builtin; refine QU Tryz.underlying56 Tryz.infoBytes rfl rfl (.tmp 33) (.tmp 35) rfl rfl rfl (At.new rfl) rfl (HO6.out.keep0 (Fr.alloc _ _)) (by rw [List.length_map, HLEN.out]; have := HQ.out.1; omega) (by rw [List.length_map, HLEN.out]; have := HQ.out.1; simp [maxLen]; omega) (by have := HSZ.out; simp; omega) ?_)
   intro v' w6 ho hg
   have HO7 := Hdq (show qJ 22 w0.heap.size w6 v' ((ls' ++ [(Value.slice (some ⟨ub, uo, none⟩) 8 uc2, uK (qn m jp n) (k : Int))]).map (·.1)) from by rw [List.map_append]; exact ho)
   have hal : Fr [] w5 (w5.alloc (.cells #[.slice (some ⟨ub, uo, none⟩) 8 uc2] 22)) := Fr.alloc _ _
   have HF7 := Hdq (qJ.fr (HO6.out.keep0 hal) ((HF.out.trans HF6.out).trans hal) hg (Nat.le_refl _))
   have HT7 := Hdq (show ∀ x' ∈ ls' ++ [(Value.slice (some ⟨ub, uo, none⟩) 8 uc2, uK (qn m jp n) (k : Int))], BsT w6 x'.1 x'.2 from fun x' hx' => by
    rcases List.mem_append.1 hx' with hx' | hx'
    ·exact BsT.grown (((HT.out x' hx').keep0 HF6.out).keep0 hal) (HO6.out.keep0 hal) hg
    ·obtain rfl : x' = (Value.slice (some ⟨ub, uo, none⟩) 8 uc2, uK (qn m jp n) (k : Int)) := by simpa using hx'
     exact BsT.grown (HUT.out.keep0 hal) (HO6.out.keep0 hal) hg)
   have HL7 := Hdq (show (ls' ++ [(Value.slice (some ⟨ub, uo, none⟩) 8 uc2, uK (qn m jp n) (k : Int))]).map (·.2) = ((List.range q).map fun j => uK (qn m jp n) ((j : Nat) : Int)).take (k + 1) by rw [List.map_append, HL.out, HUP.out]; rfl)
   clear ho hg hal HO HT HL HF HO6 HF6 HUT HUP
   go_wp2
   go_roundw
   case rel => exact ⟨k + 1, _, by have := hkn; omega, by simp, HO7, HT7, HL7, HF7⟩
   case measure => simp [intOf]; omega
  ·obtain rfl : k = q := by omega
   go_wp2
   go_ret2
   exact ⟨_, ls', rfl, HO.out, HT.out, by rw [HL.out, List.take_of_length_le qf], HF.out⟩
theorem qcu {P : Program} {w : World} {ops : Array Oper} {rest : List Oper} {o : Oper} {a : Go.Act} {Q : Exit -> Go.Act -> World -> Prop} {t e : TypeId} {z : Value} {bytes : Nat}
  (ht : P.underlying t = some (.slice e)) (hinfo : (P.info? e).map (fun i => (i.zero, i.size, i.bytes)) = some (some z, 1, bytes)) (hz1 : z.cells = #[z]) (hg : o.guard = none) (l : Operand) (ho : o.op = .makeSlice t l l) (n : Nat) (hl : a.eval l = .int .i64 (n : Int)) (hb : bytes * n <= 281474976710656) (h63 : n <= 9223372036854775807)
  (h : wpList P ops Q rest (a.put o.dst (.slice (some ⟨w.heap.size, 0, none⟩) n n)) (w.alloc (.cells (madeCells #[z] n) e))) : wpList P ops Q (o :: rest) a w := by
 refine wpList_plain hg fun K hK => ?_
 have hrun := run_make_row' (P := P) t e z bytes ht hinfo hz1 .i64 .i64 n hb h63 w
 unfold Oper.wp execOp
 simp only [ho, hl, Sem.run_bind, hrun, Result.andThen_ok, Sem.run_pure]
 exact hK _ _ h
theorem We (z : Value) (n : Nat) : madeCells #[z] n = (List.replicate n z).toArray := by
 refine Array.ext (by simp [size_madeCells]) fun i h1 h2 => ?_
 simp [madeCells, Nat.mod_one]
theorem yQ.laid {w : World} {mb N D : Nat} {m : List UInt8} {n : Int} (h : yQ w mb N D m n) : ∃ (c : Array Value) (ob okb : Nat), At w mb (.cells c 136) /\ c[5]? = some (.pointer (some ⟨ob, 0, none⟩)) /\ xO w ob okb N (za N) /\ qX w okb (qn m qM n) := by
 obtain ⟨u0, u1, u2, u3, u4, ob, kb, okb, a1, a2, a3, -, -, -⟩ := h
 exact ⟨_, ob, okb, a1, rfl, a2, a3⟩
theorem Kh (w0 : World) (mb N D : Nat) (m : List UInt8) (n : Int) (lv : Value) (ls : List (Value × List UInt8)) (hM : yQ w0 mb N D m n) (hR : RdB (fun _ => False) w0 lv ls) (hn : ls.length = N) (hN : N <= 1000) (hb : ∀ x ∈ ls, x.2.length <= 1000) (hS : SG w0) :
  Calls Tryz.prog 74 #[.pointer (some ⟨mb, 0, none⟩), lv] w0 fun e w' => ∃ (v : Value) (us : List (Value × List UInt8)), e = .returned (.tuple #[v, .nilIface]) /\ RdB (fun b => b < w0.heap.size) w' v us /\ us.length = N /\ us.map (·.2) = vT (ji (qn m qM n) N) (fun p b => ze (qn m jR n) (p : Int) b) (ls.map (·.2)) N /\ Fr [] w0 w' := by
 obtain ⟨va, vc, rfl, hv1, hv2⟩ := zx hR
 unfold maxLen at hv2
 rw [hn] at hR hv1 ⊢
 obtain ⟨c, ob, okb, a1, a2, a3, a4⟩ := hM.laid
 have HH := Hdq (And.intro a1 (And.intro a2 (And.intro a3 (And.intro a4 (And.intro hM (And.intro hR (And.intro hb hS)))))))
 have HN := Hdq hn
 obtain ⟨rb, hrb⟩ := exq (w0.heap.size)
 have W1 : Fr [] w0 (w0.alloc (.cells (madeCells #[.slice none 0 0] N) 22)) := Fr.alloc _ _
 have HA := Hdq (show At (w0.alloc (.cells (madeCells #[.slice none 0 0] N) 22)) rb (.cells (((List.replicate N ((.slice none 0 0, []) : Value × List UInt8)).map (·.1)).toArray) 22) from by rw [List.map_replicate, <- We]; exact At.new hrb.symm)
 have HF := Hdq W1
 subst hrb
 clear hM hR hb hS a1 a2 a3 a4 W1 hn
 go_enter Tryz.func74, Tryz.ntmps74
 go_wp2_with (refine qcu Tryz.underlying56 Tryz.infoBytes rfl rfl (.tmp 12) rfl N rfl Y62 Y62 ?_)
 go_loopw [16] (fun i wr => ∃ (k : Nat) (us : List (Value × List UInt8)), k <= N /\ i = .int .i64 (k : Int) /\ Hid (us.length = N) /\ Hid (At wr w0.heap.size (.cells (us.map (·.1)).toArray 22)) /\ Hid (∀ x ∈ us, Bs (fun b => b <= w0.heap.size) wr x.1 x.2) /\ Hid (us.map (·.2) = vT (ji (qn m qM n) N) (fun p b => ze (qn m jR n) (p : Int) b) (ls.map (·.2)) k) /\ Hid (Fr [] w0 wr)) (fun i _ => N - (intOf i).toNat)
 case atStart =>
  refine ⟨0, List.replicate N (.slice none 0 0, []), by omega, rfl, Hdq List.length_replicate, HA, Hdq (fun x hx => ?_), Hdq ?_, HF⟩
  ·obtain ⟨-, rfl⟩ := List.mem_replicate.1 hx
   exact Bs.nil _ _ _ _ (Nat.zero_le _)
  ·rw [List.map_replicate, vT, List.length_map, HN.out]
 case round =>
  clear HA HF
  obtain ⟨k, us, hk, rfl, HUL, HA, HBU, HL, HF⟩ := hrel
  by_cases hkn : k < N
  ·obtain ⟨x, hx⟩ : ∃ x, ls[k]? = some x := ⟨_, List.getElem?_eq_getElem (by rw [HN.out]; exact hkn)⟩
   obtain ⟨b, off, rfl, hc, hbx⟩ := vM (HH.out.2.2.2.2.2.1.keep HF.out qf) k x hx
   have hx9 := HH.out.2.2.2.2.2.2.1 x (List.mem_of_getElem? hx)
   obtain ⟨xa, xc, hx1, -, -, -⟩ := id hbx
   obtain ⟨xn, hxn⟩ := exq (x.2.length)
   rw [hxn] at hx1
   rw [hx1] at hc hbx
   have HBX := Hdq hbx
   have HX9 := Hdq hx9
   have HXK := Hdq (show (ls.map (·.2)).getD k [] = x.2 by rw [List.getD_eq_getElem?_getD, List.getElem?_map, hx]; rfl)
   have c5 : wr.cell? ⟨mb, 5, none⟩ = some (.pointer (some ⟨ob, 0, none⟩)) := ((HH.out.1.keep0 HF.out).cell 5).trans HH.out.2.1
   clear hx hbx hx9 hx1 hxn
   have hki : (k : Int) < (N : Int) := by omega
   go_wp2_with (go_at_call 65; fail)
   refine (qbG wr ob okb N k (qn m qM n) (HH.out.2.2.1.keep HF.out) (HH.out.2.2.2.1.keep HF.out) (HH.out.2.2.2.2.2.2.2.keep HF.out) Y62 hkn).mono ?_
   rintro e w5 ⟨rfl, hf⟩
   have HPL := Hdq (Q3 (key := qn m qM n) (n := N) Y62 hkn)
   obtain ⟨pl, hpl⟩ := exq (ji (qn m qM n) N k)
   rw [hpl] at HPL ⊢
   have HPK := Hdq hpl
   have HF5 := Hdq hf
   have HBX5 := Hdq (HBX.out.keep hf qf)
   clear hpl hf c5 hc HBX
   go_wp2_with (go_at_call 68; fail)
   refine (UZ w5 mb N D m n (.slice xa xn xc) x.2 (pl : Int) (HH.out.2.2.2.2.1.keep (HF.out.trans HF5.out)) HBX5.out (HH.out.2.2.2.2.2.2.2.keep (HF.out.trans HF5.out)) (by have := HX9.out; omega)).mono ?_
   rintro e w6 ⟨u, rfl, hu, hf⟩
   have HF6 := Hdq (HF5.out.trans hf)
   have hrw : w0.heap.size < wr.heap.size := by
    have := ql (show wr.heap[w0.heap.size]? = _ from HA.out)
    exact this
   have hw5 : w0.heap.size < w5.heap.size := Nat.lt_of_lt_of_le hrw HF5.out.size
   have hbu := hu.bs (A := fun b => b <= w0.heap.size) (fun b hb => Nat.lt_of_le_of_lt hb hw5)
   obtain ⟨ua, un, uc, rfl⟩ := jK hu
   have HA6 := Hdq (HA.out.keep0 HF6.out)
   have HBN := Hdq hbu
   have hpi : (pl : Int) < (N : Int) := by have := HPL.out; omega
   have hpn : pl < N := HPL.out
   have c9 : w6.cell? ⟨w0.heap.size, pl, none⟩ = (us.map (·.1)).toArray[pl]? := HA6.out.cell pl
   have hu9 : ∃ y, (us.map (·.1)).toArray[pl]? = some y := ⟨_, by rw [List.getElem?_toArray]; exact List.getElem?_eq_getElem (by rw [List.length_map, HUL.out]; exact HPL.out)⟩
   clear hu hf hbu hrw HBX5 c9 hu9
   go_wp2_with (refine qk (.tmp 39) (.tmp 38) rfl rfl (.slice ua un uc) rfl rfl HA6.out (by rw [List.size_toArray, List.length_map, HUL.out]; exact HPL.out) qe rfl ?_)
   intro w7 f7 a7 s7
   have HF7 := Hdq ((HF.out.trans HF6.out).then f7 (fun z hz => .inr Y74))
   have HA7 := Hdq (show At w7 w0.heap.size (.cells ((us.set pl (.slice ua un uc, ze (qn m jR n) (pl : Int) x.2)).map (·.1)).toArray 22) from by rw [List.map_set]; exact a7)
   have HB7 := Hdq (show ∀ y ∈ us.set pl (Value.slice ua un uc, ze (qn m jR n) (pl : Int) x.2), Bs (fun b => b <= w0.heap.size) w7 y.1 y.2 from fun y hy => by
    rcases List.mem_or_eq_of_mem_set hy with hy | rfl
    ·exact ((HBU.out y hy).keep HF6.out qf).keep f7 qf
    ·exact HBN.out.keep f7 qf)
   have HL7 := Hdq (show (us.set pl (Value.slice ua un uc, ze (qn m jR n) (pl : Int) x.2)).map (·.2) = vT (ji (qn m qM n) N) (fun p b => ze (qn m jR n) (p : Int) b) (ls.map (·.2)) (k + 1) by
    rw [List.map_set, HL.out, vT, HPK.out, HXK.out])
   have HU7 := Hdq (show (us.set pl (Value.slice ua un uc, ze (qn m jR n) (pl : Int) x.2)).length = N by rw [List.length_set, HUL.out])
   clear f7 a7 s7 HF HA HBU HL HUL HF5 HF6 HA6 HBN HPK HXK hpi hpn
   go_wp2
   go_roundw
   case rel => exact ⟨k + 1, _, by omega, by simp, HU7, HA7, HB7, HL7, HF7⟩
   case measure => simp [intOf]; omega
  ·obtain rfl : k = N := by omega
   go_wp2
   go_ret2
   have hrr : RdB (fun b => b < w0.heap.size) wr (.slice (some ⟨w0.heap.size, 0, none⟩) k k) us := by
    refine ⟨⟨some ⟨w0.heap.size, 0, none⟩, k, by rw [List.length_map, HUL.out], by rw [List.length_map, HUL.out]; exact Nat.le_refl _, by simp [maxLen]; omega, ?_⟩, fun y hy => ?_⟩
    ·have h := Row.of_block (A := fun b => b < w0.heap.size) (w := wr) (b := w0.heap.size) (c := (us.map (fun x : Value × List UInt8 => x.1)).toArray) (e := 22) (fz := (0, 0)) HA.out (Nat.lt_irrefl _)
     simpa using h
    ·exact (HBU.out y hy).mono (S := []) (Fr.refl _ _) qf (fun b hb => .inl (Nat.le_of_lt hb))
   exact ⟨_, rfl, us, hrr, HUL.out, HL.out, HF.out⟩
end Go.Proofs.YtnafknkchbfpaaaGreatDoor
