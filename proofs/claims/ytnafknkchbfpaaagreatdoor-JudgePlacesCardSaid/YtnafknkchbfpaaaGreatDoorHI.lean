import Derived.Test.YtnafknkchbfpaaaGreatDoorHG
set_option linter.unusedVariables false
set_option linter.unusedSimpArgs false
set_option maxRecDepth 1000000
set_option maxHeartbeats 8000000
namespace Go.Proofs.YtnafknkchbfpaaaGreatDoor
open Go.RowKit Go.Bl
noncomputable def qfv : Code := ((Tryz.f68.body.bind (qr 1)).getD .skip)
theorem qcN (a : Go.Act) (hs : a.tmps.size = 19) (hd : a.defers = []) : a = ⟨(slot a 0 :: slot a 1 :: slot a 2 :: slot a 3 :: slot a 4 :: slot a 5 :: slot a 6 :: slot a 7 :: slot a 8 :: slot a 9 :: slot a 10 :: slot a 11 :: slot a 12 :: slot a 13 :: slot a 14 :: slot a 15 :: slot a 16 :: slot a 17 :: slot a 18 :: []).toArray, []⟩ := uO a 19 hs hd
def Vv (Z mb kb : Nat) (xa : Option Addr) (xn xc : Nat) (pl : Int) (key xs : List UInt8) (k : Nat) (b : Go.Act) (p : World) : Prop :=
 match k with
 | 0 => slot b 7 = .slice xa xn xc
 | 1 => slot b 8 = .pointer (some ⟨mb, 0, none⟩)
 | 2 => slot b 9 = .pointer (some ⟨mb, 0, none⟩)
 | 3 => slot b 10 = .pointer (some ⟨mb, 6, none⟩)
 | 4 => slot b 11 = .pointer (some ⟨kb, 0, none⟩)
 | 5 => slot b 12 = .int .i64 pl
 | 6 => qf 5 Z p (slot b 13) (beK 8 pl)
 | 7 => slot b 14 = .slice xa xn xc
 | 8 => ∃ g, slot b 15 = .slice (some ⟨g, 0, none⟩) 2 2 /\ At p g (.cells #[slot b 13, .slice xa xn xc] 22)
 | 9 => qf 5 Z p (slot b 16) (uV key (beK 8 pl ++ xs))
 | 10 => ∃ g, slot b 17 = .slice (some ⟨g, 0, none⟩) 2 2 /\ At p g (.cells #[.slice xa xn xc, slot b 16] 22)
 | 11 => qf 5 Z p (slot b 18) (vL key pl xs)
 | 12 => qf 5 Z p (slot b 6) (vL key pl xs)
 | 13 => Bs (fun _ => False) p (.slice xa xn xc) xs
 | 14 => ∃ c, At p mb (.cells c 136) /\ c[6]? = some (.pointer (some ⟨kb, 0, none⟩))
 | _ => True
def qeh (Z mb kb : Nat) (xa : Option Addr) (xn xc : Nat) (pl : Int) (key xs : List UInt8) (k : Nat) (b : Go.Act) (p : World) : Prop :=
 match k with
 | _ => True
theorem ye (Z mb kb : Nat) (xa : Option Addr) (xn xc : Nat) (pl : Int) (key xs : List UInt8) : ∀ (k : Nat) (b : Go.Act) (p p' : World), Fr [] p p' -> Vv Z mb kb xa xn xc pl key xs k b p -> Vv Z mb kb xa xn xc pl key xs k b p'
 | 0, b, p, p', hf, h => h
 | 1, b, p, p', hf, h => h
 | 2, b, p, p', hf, h => h
 | 3, b, p, p', hf, h => h
 | 4, b, p, p', hf, h => h
 | 5, b, p, p', hf, h => h
 | 6, b, p, p', hf, h => h.keep hf (fun _ h => by cases h)
 | 7, b, p, p', hf, h => h
 | 8, b, p, p', hf, h => let ⟨g, h1, h3⟩ := h; ⟨g, h1, h3.keep0 hf⟩
 | 9, b, p, p', hf, h => h.keep hf (fun _ h => by cases h)
 | 10, b, p, p', hf, h => let ⟨g, h1, h3⟩ := h; ⟨g, h1, h3.keep0 hf⟩
 | 11, b, p, p', hf, h => h.keep hf (fun _ h => by cases h)
 | 12, b, p, p', hf, h => h.keep hf (fun _ h => by cases h)
 | 13, b, p, p', hf, h => h.keep hf qc
 | 14, b, p, p', hf, h => let ⟨c, h1, h2⟩ := h; ⟨c, h1.keep0 hf, h2⟩
 | k + 15, b, p, p', hf, h => trivial
theorem vQ (Z mb kb : Nat) (xa : Option Addr) (xn xc : Nat) (pl : Int) (key xs : List UInt8) : ∀ (k : Nat) (b : Go.Act) (p p' : World), Fr [] p p' -> qeh Z mb kb xa xn xc pl key xs k b p -> qeh Z mb kb xa xn xc pl key xs k b p'
 | k, b, p, p', hf, h => trivial
theorem sg1 (Z mb kb : Nat) (xa : Option Addr) (xn xc : Nat) (pl : Int) (key xs : List UInt8) (w : World) (a : Go.Act) (hsz : a.tmps.size = 19) (h0 : slot a 0 = .pointer (some ⟨mb, 0, none⟩)) (h1 : slot a 1 = .int .i64 pl) (h2 : slot a 2 = .slice xa xn xc) (hZ : w.heap.size = Z) (hB : Bs (fun _ => False) w (.slice xa xn xc) xs) (hM : ∃ c, At w mb (.cells c 136) /\ c[6]? = some (.pointer (some ⟨kb, 0, none⟩))) (hK : ja w kb key) (hS : SG w) (hl : xs.length <= 1000000) (Q : Exit -> Go.Act -> World -> Prop)
  (hQ : ∀ (b : Go.Act) (p : World), b.defers = a.defers -> b.tmps.size = 19 -> (∀ s, some s ∉ ([some 7, some 8, some 9, some 10, some 11, some 12, some 13, some 14, some 15, some 16, some 17, some 18, some 6] : List (Option Nat)) -> slot b s = slot a s) -> Fr [] w p -> qf 5 Z p (slot b 6) (vL key pl xs) -> Q .normal b p) : Code.wp Tryz.prog qfv Q a w := by
 conv => arg 2; whnf
 refine jc [] (Vv Z mb kb xa xn xc pl key xs) (qeh Z mb kb xa xn xc pl key xs) [some 7, some 8, some 9, some 10, some 11, some 12, some 13, some 14, some 15, some 16, some 17, some 18, some 6] [[7], [8], [9], [10], [11], [12], [13], [14], [13, 15], [16], [16, 17], [18], [6], [], []] [] [] [] qb qb qb qb qb qa ?_ ?_ ?_ ?_ ?_
 ·intro w1 hw1 k hk1 hk2
  have hk3 : 13 <= k := hk1
  have hk4 : k < 15 := hk2
  clear hk1 hk2
  rcases (show k = 13 ∨ k = 14 by omega) with rfl | rfl
  ·exact hB.keep hw1 qc
  ·exact hM.elim fun c h => ⟨c, h.1.keep0 hw1, h.2⟩
 ·intro k b b' p hs h
  match k with
  | 0 => show slot b' 7 = .slice xa xn xc; rw [<- hs 7 qa]; exact h
  | 1 => show slot b' 8 = .pointer (some ⟨mb, 0, none⟩); rw [<- hs 8 qa]; exact h
  | 2 => show slot b' 9 = .pointer (some ⟨mb, 0, none⟩); rw [<- hs 9 qa]; exact h
  | 3 => show slot b' 10 = .pointer (some ⟨mb, 6, none⟩); rw [<- hs 10 qa]; exact h
  | 4 => show slot b' 11 = .pointer (some ⟨kb, 0, none⟩); rw [<- hs 11 qa]; exact h
  | 5 => show slot b' 12 = .int .i64 pl; rw [<- hs 12 qa]; exact h
  | 6 => show qf 5 Z p (slot b' 13) (beK 8 pl); rw [<- hs 13 qa]; exact h
  | 7 => show slot b' 14 = .slice xa xn xc; rw [<- hs 14 qa]; exact h
  | 8 => show ∃ g, slot b' 15 = .slice (some ⟨g, 0, none⟩) 2 2 /\ At p g (.cells #[slot b' 13, .slice xa xn xc] 22); rw [<- hs 13 qa, <- hs 15 qa]; exact h
  | 9 => show qf 5 Z p (slot b' 16) (uV key (beK 8 pl ++ xs)); rw [<- hs 16 qa]; exact h
  | 10 => show ∃ g, slot b' 17 = .slice (some ⟨g, 0, none⟩) 2 2 /\ At p g (.cells #[.slice xa xn xc, slot b' 16] 22); rw [<- hs 16 qa, <- hs 17 qa]; exact h
  | 11 => show qf 5 Z p (slot b' 18) (vL key pl xs); rw [<- hs 18 qa]; exact h
  | 12 => show qf 5 Z p (slot b' 6) (vL key pl xs); rw [<- hs 6 qa]; exact h
  | 13 => show Bs (fun _ => False) p (.slice xa xn xc) xs; exact h
  | 14 => show ∃ c, At p mb (.cells c 136) /\ c[6]? = some (.pointer (some ⟨kb, 0, none⟩)); exact h
  | k + 15 => trivial
 ·intro k b b' p hs h
  match k with
  | k => trivial
 ·intro i hi dn b p hs ho hf hF hG hdn hdc hr
  have hi9 : i < 13 := hi
  clear hi
  match i, hi9 with
  | 0, _ =>
   have e0 : b.eval (.tmp 2) = .slice xa xn xc := (ho 2 qa).trans h2
   exact Y1
  | 1, _ =>
   have e0 : b.eval (.tmp 0) = .pointer (some ⟨mb, 0, none⟩) := (ho 0 qa).trans h0
   exact Y1
  | 2, _ =>
   have e0 : b.eval (.tmp 8) = .pointer (some ⟨mb, 0, none⟩) := fdq hF hr 1
   exact Y1
  | 3, _ =>
   have e0 : b.eval (.tmp 9) = .pointer (some ⟨mb, 0, none⟩) := fdq hF hr 2
   exact Y1
  | 4, _ =>
   have e0 : b.eval (.tmp 10) = .pointer (some ⟨mb, 6, none⟩) := fdq hF hr 3
   have f14 : ∃ c, At p mb (.cells c 136) /\ c[6]? = some (.pointer (some ⟨kb, 0, none⟩)) := hF 14 (show (14:Nat) < 15 by decide) (fun h => absurd h qa) (fun c hc => absurd hc qc)
   obtain ⟨cc, g1, g2⟩ := f14
   have c1 : p.cell? ⟨mb, 6, none⟩ = some (.pointer (some ⟨kb, 0, none⟩)) := (g1.cell 6).trans g2
   exact Y4
  | 5, _ =>
   have e0 : b.eval (.tmp 1) = .int .i64 pl := (ho 1 qa).trans h1
   exact Y1
  | 6, _ =>
   have e0 : b.eval (.tmp 12) = .int .i64 pl := fdq hF hr 5
   refine qJ _ Y72 (ql rfl) 57 _ _ rfl #[.int .i64 pl] Y70 Y74 ((zG p pl).mono ?_)
   rintro e p' ⟨u, rfl, hu, hf2⟩
   refine ⟨_, rfl, hf.trans hf2, fun k _ _ _ _ h => ye Z mb kb xa xn xc pl key xs k _ _ _ hf2 h, ?_, fun e _ _ h => vQ Z mb kb xa xn xc pl key xs e _ _ _ hf2 h, fun e he hi hx => by exact absurd he (Nat.not_lt_zero e)⟩
   refine qP b 13 _ Y67 (fun b' => Vv Z mb kb xa xn xc pl key xs 6 b' p') ?_
   intro b' hd hne
   show qf 5 Z p' (slot b' 13) (beK 8 pl)
   rw [hd]
   exact hu.base Y88
  | 7, _ =>
   have e0 : b.eval (.tmp 2) = .slice xa xn xc := (ho 2 qa).trans h2
   exact Y1
  | 8, _ =>
   have f6 : qf 5 Z p (slot b 13) (beK 8 pl) := fdq hF hr 6
   have e1 : b.eval (.tmp 14) = .slice xa xn xc := fdq hF hr 7
   have hc0 : (slot b 13).cells = #[slot b 13] := by obtain ⟨x, y, z, e⟩ := jQ f6; rw [e]; rfl
   refine opV_step _ Y72 ?_
   refine xg Tryz.underlying56 Tryz.infoBytes rfl (.tmp 13) (.tmp 14) rfl (slot b 13) (.slice xa xn xc) rfl e1 hc0 rfl ?_
   have hf2 : Fr [] p (p.alloc (.cells #[slot b 13, .slice xa xn xc] 22)) := Fr.alloc _ _
   obtain ⟨p', hp'⟩ : ∃ p', p.alloc (.cells #[slot b 13, .slice xa xn xc] 22) = p' := ⟨_, rfl⟩
   have hA : At p' p.heap.size (.cells #[slot b 13, .slice xa xn xc] 22) := by rw [<- hp']; exact At.new rfl
   rw [hp'] at hf2 ⊢
   clear hp'
   refine ⟨rfl, rfl, hf.trans hf2, fun k _ _ _ _ h => ye Z mb kb xa xn xc pl key xs k _ _ _ hf2 h, ?_, fun e _ _ h => vQ Z mb kb xa xn xc pl key xs e _ _ _ hf2 h, fun e he hi hx => by exact absurd he (Nat.not_lt_zero e)⟩
   refine qP b 15 _ Y67 (fun b' => Vv Z mb kb xa xn xc pl key xs 8 b' p') ?_
   intro b' hd hne
   show ∃ g, slot b' 15 = .slice (some ⟨g, 0, none⟩) 2 2 /\ At p' g (.cells #[slot b' 13, .slice xa xn xc] 22)
   rw [hne 13 qa]
   exact ⟨_, hd, hA⟩
  | 9, _ =>
   have f6 : qf 5 Z p (slot b 13) (beK 8 pl) := fdq hF hr 6
   have f8 : ∃ g, slot b 15 = .slice (some ⟨g, 0, none⟩) 2 2 /\ At p g (.cells #[slot b 13, .slice xa xn xc] 22) := fdq hF hr 8
   obtain ⟨g, b1, b2⟩ := f8
   have f13 : Bs (fun _ => False) p (.slice xa xn xc) xs := hF 13 (show (13:Nat) < 15 by decide) (fun h => absurd h qa) (fun c hc => absurd hc qc)
   have e0 : b.eval (.tmp 11) = .pointer (some ⟨kb, 0, none⟩) := fdq hF hr 4
   have e1 : b.eval (.tmp 15) = .slice (some ⟨g, 0, none⟩) 2 2 := b1
   have hRD : RdB (fun b => p.heap.size <= b) p (.slice (some ⟨g, 0, none⟩) 2 2) [(slot b 13, beK 8 pl), (.slice xa xn xc, xs)] := by
    refine ⟨⟨_, 2, rfl, by simp, by decide, Row.of_block (c := #[slot b 13, .slice xa xn xc]) (fz := (0, 0)) b2 qds⟩, fun x hx => ?_⟩
    rcases List.mem_cons.1 hx with rfl | hx
    ·exact yd (f6.bs (fun _ h => h.elim))
    ·obtain rfl : x = (.slice xa xn xc, xs) := by simpa using hx
     exact yd f13
   refine qJ _ Y72 (ql rfl) 56 _ _ rfl #[.pointer (some ⟨kb, 0, none⟩), .slice (some ⟨g, 0, none⟩) 2 2] Y68 Y74 ((qaW p kb _ key [(slot b 13, beK 8 pl), (.slice xa xn xc, xs)] (hK.keep hf) hRD (hS.keep hf) qc qc (by simp [jd, zN]; omega)).mono ?_)
   rintro e p' ⟨u, rfl, hu, hf2⟩
   refine ⟨_, rfl, hf.trans hf2, fun k _ _ _ _ h => ye Z mb kb xa xn xc pl key xs k _ _ _ hf2 h, ?_, fun e _ _ h => vQ Z mb kb xa xn xc pl key xs e _ _ _ hf2 h, fun e he hi hx => by exact absurd he (Nat.not_lt_zero e)⟩
   refine qP b 16 _ Y67 (fun b' => Vv Z mb kb xa xn xc pl key xs 9 b' p') ?_
   intro b' hd hne
   show qf 5 Z p' (slot b' 16) (uV key (beK 8 pl ++ xs))
   rw [hd]
   have h5 := hu.base (base' := Z) Y88
   simpa [jd] using h5
  | 10, _ =>
   have f9 : qf 5 Z p (slot b 16) (uV key (beK 8 pl ++ xs)) := fdq hF hr 9
   have e0 : b.eval (.tmp 7) = .slice xa xn xc := fdq hF hr 0
   have hc0 : (slot b 16).cells = #[slot b 16] := by obtain ⟨x, y, z, e⟩ := jQ f9; rw [e]; rfl
   refine opV_step _ Y72 ?_
   refine xg Tryz.underlying56 Tryz.infoBytes rfl (.tmp 7) (.tmp 16) rfl (.slice xa xn xc) (slot b 16) e0 rfl rfl hc0 ?_
   have hf2 : Fr [] p (p.alloc (.cells #[.slice xa xn xc, slot b 16] 22)) := Fr.alloc _ _
   obtain ⟨p', hp'⟩ : ∃ p', p.alloc (.cells #[.slice xa xn xc, slot b 16] 22) = p' := ⟨_, rfl⟩
   have hA : At p' p.heap.size (.cells #[.slice xa xn xc, slot b 16] 22) := by rw [<- hp']; exact At.new rfl
   rw [hp'] at hf2 ⊢
   clear hp'
   refine ⟨rfl, rfl, hf.trans hf2, fun k _ _ _ _ h => ye Z mb kb xa xn xc pl key xs k _ _ _ hf2 h, ?_, fun e _ _ h => vQ Z mb kb xa xn xc pl key xs e _ _ _ hf2 h, fun e he hi hx => by exact absurd he (Nat.not_lt_zero e)⟩
   refine qP b 17 _ Y67 (fun b' => Vv Z mb kb xa xn xc pl key xs 10 b' p') ?_
   intro b' hd hne
   show ∃ g, slot b' 17 = .slice (some ⟨g, 0, none⟩) 2 2 /\ At p' g (.cells #[.slice xa xn xc, slot b' 16] 22)
   rw [hne 16 qa]
   exact ⟨_, hd, hA⟩
  | 11, _ =>
   have f9 : qf 5 Z p (slot b 16) (uV key (beK 8 pl ++ xs)) := fdq hF hr 9
   have f10 : ∃ g, slot b 17 = .slice (some ⟨g, 0, none⟩) 2 2 /\ At p g (.cells #[.slice xa xn xc, slot b 16] 22) := fdq hF hr 10
   obtain ⟨g, b1, b2⟩ := f10
   have f13 : Bs (fun _ => False) p (.slice xa xn xc) xs := hF 13 (show (13:Nat) < 15 by decide) (fun h => absurd h qa) (fun c hc => absurd hc qc)
   have e0 : b.eval (.tmp 17) = .slice (some ⟨g, 0, none⟩) 2 2 := b1
   have hRD : RdL (fun _ => False) p (.slice (some ⟨g, 0, none⟩) 2 2) [(.slice xa xn xc, xs), (slot b 16, uV key (beK 8 pl ++ xs))] := by
    refine ⟨⟨_, 2, rfl, by simp, by decide, Row.of_block (c := #[.slice xa xn xc, slot b 16]) (fz := (0, 0)) b2 qc⟩, fun x hx => ?_⟩
    rcases List.mem_cons.1 hx with rfl | hx
    ·exact f13
    ·obtain rfl : x = (slot b 16, uV key (beK 8 pl ++ xs)) := by simpa using hx
     exact f9.bs (fun _ h => h.elim)
   refine qJ _ Y72 (ql rfl) 55 _ _ rfl #[.slice (some ⟨g, 0, none⟩) 2 2] Y70 Y74 ((WF (fun _ => False) p _ [(.slice xa xn xc, xs), (slot b 16, uV key (beK 8 pl ++ xs))] hRD qc (by simp [cat, xF]; omega)).mono ?_)
   rintro e p' ⟨u, rfl, hu, hf2⟩
   refine ⟨_, rfl, hf.trans hf2, fun k _ _ _ _ h => ye Z mb kb xa xn xc pl key xs k _ _ _ hf2 h, ?_, fun e _ _ h => vQ Z mb kb xa xn xc pl key xs e _ _ _ hf2 h, fun e he hi hx => by exact absurd he (Nat.not_lt_zero e)⟩
   refine qP b 18 _ Y67 (fun b' => Vv Z mb kb xa xn xc pl key xs 11 b' p') ?_
   intro b' hd hne
   show qf 5 Z p' (slot b' 18) (vL key pl xs)
   rw [hd]
   have h5 := hu.base (base' := Z) Y88
   simpa [cat, vL] using h5
  | 12, _ =>
   have f11 : qf 5 Z p (slot b 18) (vL key pl xs) := fdq hF hr 11
   refine opV_step _ Y72 ?_
   refine qz _ rfl rfl (slot b 18) (by obtain ⟨ρ, hρ⟩ := exq (b.eval); have e0 : b.eval (.tmp 18) = slot b 18 := rfl; rw [hρ] at e0 ⊢; unfold execOp; simp [go_sem, e0]) ?_
   refine ⟨rfl, rfl, hf, fun _ _ _ _ _ h => h, ?_, fun _ _ _ h => h, fun e he hi hx => by exact absurd he (Nat.not_lt_zero e)⟩
   refine qP b 6 _ Y67 (fun b' => Vv Z mb kb xa xn xc pl key xs 12 b' p) ?_
   intro b' hd hne
   show qf 5 Z p (slot b' 6) (vL key pl xs)
   rw [hd]
   exact f11
 ·intro b p hd hs ho hf hall hex
  have a1 := hall 12 qa (fun c hc => by simp at hc)
  exact hQ b p hd (hs.trans hsz) ho hf a1
theorem LF (w0 : World) (mb N D : Nat) (m : List UInt8) (n : Int) (v : Value) (xs : List UInt8) (pl : Int) (hM : Ud w0 mb N D m n) (hB : Bs (fun _ => False) w0 v xs) (hS : SG w0) (hl : xs.length <= 1000000) :
  Calls Tryz.prog 68 #[.pointer (some ⟨mb, 0, none⟩), .int .i64 pl, v] w0 fun e w' => ∃ u, e = .returned u /\ qf 5 w0.heap.size w' u (vL (qp m zZ n) pl xs) /\ Fr [] w0 w' := by
 obtain ⟨xa, xc, rfl, -, -, -⟩ := id hB
 obtain ⟨xn, hxn⟩ := exq (xs.length)
 rw [hxn] at hB ⊢
 obtain ⟨u0, u1, u2, u3, u4, ob, kb, okb, a1, -, -, a4, -, -⟩ := hM
 have HH := Hdq (And.intro hB (And.intro a1 (And.intro a4 (And.intro hS (show xs.length <= 1000000 from hl)))))
 clear hB a1 a4 hS hl hxn
 go_enter Tryz.func68, Tryz.ntmps68
 go_wp2
 refine sg1 w0.heap.size mb kb xa xn xc pl (qp m zZ n) xs w0 _ rfl rfl rfl rfl rfl HH.out.1 ⟨_, HH.out.2.1, rfl⟩ HH.out.2.2.1 HH.out.2.2.2.1 HH.out.2.2.2.2 _ ?_
 intro b w2 hbd hbs hbo hf hO
 rw [qcN b hbs hbd]
 have HO := Hdq hO
 have HF := Hdq hf
 clear hbd hbs hbo hf hO HH
 exact Y64
theorem Ud.sent {w : World} {mb N D : Nat} {m : List UInt8} {n : Int} (h : Ud w mb N D m n) : ∃ (c : Array Value) (u : Value), At w mb (.cells c 136) /\ c[2]? = some u /\ c[7]? = some (.int .i64 (D : Int)) /\ c[8]? = some (.int .i64 (N : Int)) /\ Bs (fun _ => False) w u (qp m jI n) := by
 obtain ⟨u0, u1, u2, u3, u4, ob, kb, okb, a1, -, -, -, -, a6⟩ := h
 exact ⟨_, u2, a1, rfl, rfl, rfl, a6⟩
theorem Ud.laid {w : World} {mb N D : Nat} {m : List UInt8} {n : Int} (h : Ud w mb N D m n) : ∃ (c : Array Value) (ob okb : Nat), At w mb (.cells c 136) /\ c[5]? = some (.pointer (some ⟨ob, 0, none⟩)) /\ xI w ob okb N (jL N) /\ ja w okb (qp m qI n) := by
 obtain ⟨u0, u1, u2, u3, u4, ob, kb, okb, a1, a2, a3, -, -, -⟩ := h
 exact ⟨_, ob, okb, a1, rfl, a2, a3⟩
end Go.Proofs.YtnafknkchbfpaaaGreatDoor
