import Derived.Test.YtnafknkchbfpaaaGreatDoorHM
set_option maxRecDepth 1000000
set_option maxHeartbeats 8000000
namespace Go.Proofs.YtnafknkchbfpaaaGreatDoor
open Go.RowKit Go.Bl
set_option linter.unusedVariables false
theorem WC (E : Nat -> Addr) (B : Nat) (w0 : World) (mv : Value) (m : List UInt8) (n : Int) (hE : j7 all20 E B w0) (hS : SG w0) (hB : Bs (fun b => w0.heap.size <= b) w0 mv m) :
  Calls Tryz.prog 53 #[mv, .int .i64 n] w0 fun e w' => (qp m n = 0 -> ∃ kb, e = .returned (.tuple #[.pointer (some ⟨kb, 0, none⟩), .nilIface]) /\ qX w' kb (qn m jR n)) /\ (qp m n ≠ 0 -> e = .returned (.tuple #[.pointer none, ue E (qp m n)])) /\ Fr [] w0 w' := by
 obtain ⟨ma, mc, rfl, -, -, -⟩ := id hB
 obtain ⟨mn, hmn⟩ := exq (m.length)
 rw [hmn] at hB ⊢
 clear hmn
 have HC := Hdq (all_any E B w0 (.slice ma mn mc) m n hE hS hB)
 have HS := Hdq hS
 clear hE hS hB
 go_enter Tryz.func53, Tryz.ntmps53
 go_wp2_with (go_at_call 90; fail)
 refine HC.out.mono ?_
 rintro e w3 ⟨u0, u1, u2, u3, u4, rfl, hg, hb, hf⟩
 by_cases hk : qp m n = 0
 ·obtain ⟨g0, g1, g2, g3, g4⟩ := hg hk
  obtain ⟨x0, n0, y0, rfl⟩ := jK g0
  obtain ⟨x1, n1, y1, rfl⟩ := jK g1
  obtain ⟨x2, n2, y2, rfl⟩ := jK g2
  obtain ⟨x3, n3, y3, rfl⟩ := jK g3
  obtain ⟨x4, n4, y4, rfl⟩ := jK g4
  rw [hk, uz]
  have f35 : Fr [] w3 (w3.alloc (.cells #[.slice x0 n0 y0, .slice x1 n1 y1, .slice x2 n2 y2, .slice x3 n3 y3, .slice x4 n4 y4] 133)) := Fr.alloc _ _
  have HF := Hdq (hf.trans f35)
  have HS5 := Hdq (HS.out.keep HF.out)
  have HG := Hdq ((g3.bs (A := fun _ => False) (fun _ h => h.elim)).keep f35 qf)
  have HK := Hdq hk
  clear hg hb g0 g1 g2 g3 g4 f35 HC hf hk
  go_wp2_with (go_at_call 103; fail)
  refine (uD _ (.slice x3 n3 y3) (qn m jR n) (zk HG.out) (by have := xP m jR n; omega) HS5.out).mono ?_
  rintro e w6 ⟨kb, rfl, hkb, hf⟩
  have HF6 := Hdq (HF.out.trans hf)
  have HKB := Hdq hkb
  clear hf hkb
  go_wp2
  go_ret2
  exact ⟨fun _ => ⟨kb, rfl, HKB.out⟩, fun h => absurd HK.out h, HF6.out⟩
 ·obtain ⟨rfl, rfl, rfl, rfl, rfl⟩ := hb hk
  rw [errv_pos E _ hk]
  have HF5 := Hdq (hf.trans (Fr.alloc (S := []) w3 (.cells n5q 133)))
  have HK := Hdq hk
  have HEV := Hdq (errv_pos E _ hk)
  clear hg hb hk HC hf
  go_wp2
  go_ret2
  exact ⟨fun h => absurd h HK.out, fun _ => by rw [HEV.out]; rfl, HF5.out⟩
theorem Kk (w : World) (x : Int) : Calls Tryz.prog 54 #[.int .i64 x] w fun e w' => e = .returned (.bool (decide (0 <= x /\ x < 512))) /\ Fr [] w w' := by
 by_cases h0 : 0 <= x
 ·by_cases h1 : x < 512
  ·go_enter Tryz.func54, Tryz.ntmps54
   go_wp2
   go_ret
   exact ⟨by simp [h0, h1], Fr.refl _ _⟩
  ·go_enter Tryz.func54, Tryz.ntmps54
   go_wp2
   go_ret
   exact ⟨by simp [h1], Fr.refl _ _⟩
 ·have h1 : x < 512 := by omega
  go_enter Tryz.func54, Tryz.ntmps54
  go_wp2
  go_ret
  exact ⟨by simp [h0], Fr.refl _ _⟩
noncomputable def qga : Code := ((Tryz.f14.body.bind (qq 3)).getD .skip)
theorem qb5 (a : Go.Act) (hs : a.tmps.size = 15) (hd : a.defers = []) : a = ⟨(slot a 0 :: slot a 1 :: slot a 2 :: slot a 3 :: slot a 4 :: slot a 5 :: slot a 6 :: slot a 7 :: slot a 8 :: slot a 9 :: slot a 10 :: slot a 11 :: slot a 12 :: slot a 13 :: slot a 14 :: []).toArray, []⟩ := zF a 15 hs hd
def Wt (Z q o xc : Nat) (xs : List UInt8) (k : Nat) (b : Go.Act) (p : World) : Prop :=
 match k with
 | 0 => slot b 9 = .slice (some ⟨q, o, none⟩) 16 xc
 | 1 => slot b 10 = .slice (some ⟨q, o, none⟩) 8 xc
 | 2 => qh 5 Z p (slot b 11) (xs.take 8)
 | 3 => slot b 12 = .slice (some ⟨q, o, none⟩) 16 xc
 | 4 => slot b 13 = .slice (some ⟨q, o + 8, none⟩) 8 (xc - 8)
 | 5 => qh 5 Z p (slot b 14) (xs.drop 8)
 | 6 => qh 5 Z p (slot b 2) (xs.take 8)
 | 7 => qh 5 Z p (slot b 3) (xs.drop 8)
 | 8 => slot b 4 = .nilIface
 | 9 => Bs (fun _ => False) p (.slice (some ⟨q, o, none⟩) 8 xc) (xs.take 8)
 | 10 => Bs (fun _ => False) p (.slice (some ⟨q, o + 8, none⟩) 8 (xc - 8)) (xs.drop 8)
 | _ => True
def qez (Z q o xc : Nat) (xs : List UInt8) (k : Nat) (b : Go.Act) (p : World) : Prop :=
 match k with
 | _ => True
theorem Xx (Z q o xc : Nat) (xs : List UInt8) : ∀ (k : Nat) (b : Go.Act) (p p' : World), Fr [] p p' -> Wt Z q o xc xs k b p -> Wt Z q o xc xs k b p'
 | 0, b, p, p', hf, h => h
 | 1, b, p, p', hf, h => h
 | 2, b, p, p', hf, h => h.keep hf (fun _ h => by cases h)
 | 3, b, p, p', hf, h => h
 | 4, b, p, p', hf, h => h
 | 5, b, p, p', hf, h => h.keep hf (fun _ h => by cases h)
 | 6, b, p, p', hf, h => h.keep hf (fun _ h => by cases h)
 | 7, b, p, p', hf, h => h.keep hf (fun _ h => by cases h)
 | 8, b, p, p', hf, h => h
 | 9, b, p, p', hf, h => h.keep hf qf
 | 10, b, p, p', hf, h => h.keep hf qf
 | k + 11, b, p, p', hf, h => trivial
theorem UG (Z q o xc : Nat) (xs : List UInt8) : ∀ (k : Nat) (b : Go.Act) (p p' : World), Fr [] p p' -> qez Z q o xc xs k b p -> qez Z q o xc xs k b p'
 | k, b, p, p', hf, h => trivial
theorem pt3 (Z q o xc : Nat) (xs : List UInt8) (w : World) (a : Go.Act) (hsz : a.tmps.size = 15) (h0 : slot a 0 = .slice (some ⟨q, o, none⟩) 16 xc) (hZ : w.heap.size = Z) (hB1 : Bs (fun _ => False) w (.slice (some ⟨q, o, none⟩) 8 xc) (xs.take 8)) (hB2 : Bs (fun _ => False) w (.slice (some ⟨q, o + 8, none⟩) 8 (xc - 8)) (xs.drop 8)) (hl : xs.length = 16) (hc8 : 8 <= xc) (hc9 : 16 <= xc) (hc10 : ¬ xc = 8) (hc11 : ¬ (8 : Nat) = xc) (hc12 : ¬ (xc : Int) < 8) (Q : Exit -> Go.Act -> World -> Prop)
  (hQ : ∀ (b : Go.Act) (p : World), b.defers = a.defers -> b.tmps.size = 15 -> (∀ s, some s ∉ ([some 9, some 10, some 11, some 12, some 13, some 14, some 2, some 3, some 4] : List (Option Nat)) -> slot b s = slot a s) -> Fr [] w p -> qh 5 Z p (slot b 2) (xs.take 8) -> qh 5 Z p (slot b 3) (xs.drop 8) -> slot b 4 = .nilIface -> Q .normal b p) : Code.wp Tryz.prog qga Q a w := by
 conv => arg 2; whnf
 refine qN [] (Wt Z q o xc xs) (qez Z q o xc xs) [some 9, some 10, some 11, some 12, some 13, some 14, some 2, some 3, some 4] [[9], [10], [11], [12], [13], [14], [2], [3], [4], [], []] [] [] [] qe qe qe qe qe qd ?_ ?_ ?_ ?_ ?_
 ·intro w1 hw1 k hk1 hk2
  have hk3 : 9 <= k := hk1
  have hk4 : k < 11 := hk2
  clear hk1 hk2
  rcases (show k = 9 ∨ k = 10 by omega) with rfl | rfl
  ·exact hB1.keep hw1 qf
  ·exact hB2.keep hw1 qf
 ·intro k b b' p hs h
  match k with
  | 0 => show slot b' 9 = .slice (some ⟨q, o, none⟩) 16 xc; rw [<- hs 9 qd]; exact h
  | 1 => show slot b' 10 = .slice (some ⟨q, o, none⟩) 8 xc; rw [<- hs 10 qd]; exact h
  | 2 => show qh 5 Z p (slot b' 11) (xs.take 8); rw [<- hs 11 qd]; exact h
  | 3 => show slot b' 12 = .slice (some ⟨q, o, none⟩) 16 xc; rw [<- hs 12 qd]; exact h
  | 4 => show slot b' 13 = .slice (some ⟨q, o + 8, none⟩) 8 (xc - 8); rw [<- hs 13 qd]; exact h
  | 5 => show qh 5 Z p (slot b' 14) (xs.drop 8); rw [<- hs 14 qd]; exact h
  | 6 => show qh 5 Z p (slot b' 2) (xs.take 8); rw [<- hs 2 qd]; exact h
  | 7 => show qh 5 Z p (slot b' 3) (xs.drop 8); rw [<- hs 3 qd]; exact h
  | 8 => show slot b' 4 = .nilIface; rw [<- hs 4 qd]; exact h
  | 9 => show Bs (fun _ => False) p (.slice (some ⟨q, o, none⟩) 8 xc) (xs.take 8); exact h
  | 10 => show Bs (fun _ => False) p (.slice (some ⟨q, o + 8, none⟩) 8 (xc - 8)) (xs.drop 8); exact h
  | k + 11 => trivial
 ·intro k b b' p hs h
  match k with
  | k => trivial
 ·intro i hi dn b p hs ho hf hF hG hdn hdc hr
  have hi9 : i < 9 := hi
  clear hi
  match i, hi9 with
  | 0, _ =>
   have e0 : b.eval (.tmp 0) = .slice (some ⟨q, o, none⟩) 16 xc := (ho 0 qd).trans h0
   exact Y0
  | 1, _ =>
   have e0 : b.eval (.tmp 9) = .slice (some ⟨q, o, none⟩) 16 xc := fdq hF hr 0
   have ec : b.eval (.const (.int .i64 8)) = .int .i64 8 := rfl
   refine opV_step _ Y69 ?_
   refine qy _ rfl rfl _ ?_ (fstep_end hf (slot_put_self Y64))
   obtain ⟨ρ, hρ⟩ := exq (b.eval)
   rw [hρ] at e0 ec ⊢
   unfold execOp; simp [go_sem, e0, ec, ec, hc8, hc9, hc12]
  | 2, _ =>
   have e0 : b.eval (.tmp 10) = .slice (some ⟨q, o, none⟩) 8 xc := fdq hF hr 1
   have f9 : Bs (fun _ => False) p (.slice (some ⟨q, o, none⟩) 8 xc) (xs.take 8) := hF 9 (show (9:Nat) < 11 by decide) (fun h => absurd h qd) (fun c hc => absurd hc qf)
   refine qV _ Y69 (qu rfl) 59 _ _ rfl #[.slice (some ⟨q, o, none⟩) 8 xc] Y66 Y75 ((qY (fun _ => False) p (.slice (some ⟨q, o, none⟩) 8 xc) (xs.take 8) f9 Y78).mono ?_)
   rintro e p' ⟨u, rfl, hu, hf2⟩
   refine ⟨_, rfl, hf.trans hf2, fun k _ _ _ _ h => Xx Z q o xc xs k _ _ _ hf2 h, ?_, fun e _ _ h => UG Z q o xc xs e _ _ _ hf2 h, fun e he hi hx => by exact absurd he (Nat.not_lt_zero e)⟩
   refine qA b 11 _ Y64 (fun b' => Wt Z q o xc xs 2 b' p') ?_
   intro b' hd hne
   show qh 5 Z p' (slot b' 11) (xs.take 8)
   exact Y44
  | 3, _ =>
   have e0 : b.eval (.tmp 0) = .slice (some ⟨q, o, none⟩) 16 xc := (ho 0 qd).trans h0
   exact Y0
  | 4, _ =>
   have e0 : b.eval (.tmp 12) = .slice (some ⟨q, o, none⟩) 16 xc := fdq hF hr 3
   have ec : b.eval (.const (.int .i64 8)) = .int .i64 8 := rfl
   refine opV_step _ Y69 ?_
   refine qy _ rfl rfl _ ?_ (fstep_end hf (slot_put_self Y64))
   obtain ⟨ρ, hρ⟩ := exq (b.eval)
   rw [hρ] at e0 ec ⊢
   unfold execOp; simp [go_sem, e0, ec, ec, hc8, hc9, hc10, hc11]
  | 5, _ =>
   have e0 : b.eval (.tmp 13) = .slice (some ⟨q, o + 8, none⟩) 8 (xc - 8) := fdq hF hr 4
   have f10 : Bs (fun _ => False) p (.slice (some ⟨q, o + 8, none⟩) 8 (xc - 8)) (xs.drop 8) := hF 10 (show (10:Nat) < 11 by decide) (fun h => absurd h qd) (fun c hc => absurd hc qf)
   refine qV _ Y69 (qu rfl) 59 _ _ rfl #[.slice (some ⟨q, o + 8, none⟩) 8 (xc - 8)] Y66 Y75 ((qY (fun _ => False) p (.slice (some ⟨q, o + 8, none⟩) 8 (xc - 8)) (xs.drop 8) f10 Y89).mono ?_)
   rintro e p' ⟨u, rfl, hu, hf2⟩
   refine ⟨_, rfl, hf.trans hf2, fun k _ _ _ _ h => Xx Z q o xc xs k _ _ _ hf2 h, ?_, fun e _ _ h => UG Z q o xc xs e _ _ _ hf2 h, fun e he hi hx => by exact absurd he (Nat.not_lt_zero e)⟩
   refine qA b 14 _ Y64 (fun b' => Wt Z q o xc xs 5 b' p') ?_
   intro b' hd hne
   show qh 5 Z p' (slot b' 14) (xs.drop 8)
   exact Y44
  | 6, _ =>
   have f2 : qh 5 Z p (slot b 11) (xs.take 8) := fdq hF hr 2
   refine opV_step _ Y69 ?_
   refine qy _ rfl rfl (slot b 11) (by obtain ⟨ρ, hρ⟩ := exq (b.eval); have e0 : b.eval (.tmp 11) = slot b 11 := rfl; rw [hρ] at e0 ⊢; unfold execOp; simp [go_sem, e0]) ?_
   refine ⟨rfl, rfl, hf, fun _ _ _ _ _ h => h, ?_, fun _ _ _ h => h, fun e he hi hx => by exact absurd he (Nat.not_lt_zero e)⟩
   refine qA b 2 _ Y64 (fun b' => Wt Z q o xc xs 6 b' p) ?_
   intro b' hd hne
   show qh 5 Z p (slot b' 2) (xs.take 8)
   rw [hd]
   exact f2
  | 7, _ =>
   have f5 : qh 5 Z p (slot b 14) (xs.drop 8) := fdq hF hr 5
   refine opV_step _ Y69 ?_
   refine qy _ rfl rfl (slot b 14) (by obtain ⟨ρ, hρ⟩ := exq (b.eval); have e0 : b.eval (.tmp 14) = slot b 14 := rfl; rw [hρ] at e0 ⊢; unfold execOp; simp [go_sem, e0]) ?_
   refine ⟨rfl, rfl, hf, fun _ _ _ _ _ h => h, ?_, fun _ _ _ h => h, fun e he hi hx => by exact absurd he (Nat.not_lt_zero e)⟩
   refine qA b 3 _ Y64 (fun b' => Wt Z q o xc xs 7 b' p) ?_
   intro b' hd hne
   show qh 5 Z p (slot b' 3) (xs.drop 8)
   rw [hd]
   exact f5
  | 8, _ =>
   have ec : b.eval (.const .nilIface) = .nilIface := rfl
   exact Y17
 ·intro b p hd hs ho hf hall hex
  have a1 := hall 6 qd (fun c hc => by simp at hc)
  have a2 := hall 7 qd (fun c hc => by simp at hc)
  have a3 := hall 8 qd (fun c hc => by simp at hc)
  exact hQ b p hd (hs.trans hsz) ho hf a1 a2 a3
def YR (xs : List UInt8) : Nat := if xs.length = 16 then 0 else 8
theorem qa0 (E : Nat -> Addr) (B : Nat) (w0 : World) (v : Value) (xs : List UInt8) (hE : j7 all20 E B w0) (hB : Bs (fun _ => False) w0 v xs) :
  Calls Tryz.prog 14 #[v] w0 fun e w' => ∃ u1 u2, e = .returned (.tuple #[u1, u2, ue E (YR xs)]) /\ (xs.length = 16 -> qh 5 w0.heap.size w' u1 (xs.take 8) /\ qh 5 w0.heap.size w' u2 (xs.drop 8)) /\ (xs.length ≠ 16 -> u1 = .slice none 0 0 /\ u2 = .slice none 0 0) /\ Fr [] w0 w' := by
 by_cases hl : xs.length = 16
 ·have he : YR xs = 0 := if_pos hl
  rw [he, uz]
  obtain ⟨a, xc, rfl, hxc, -, h4⟩ := id hB
  obtain ⟨q, o, rfl, -, -⟩ := h4.some_of qdz
  rw [hl] at hxc
  clear h4
  rw [hl]
  have hB' := hB
  rw [hl] at hB'
  have h1 := hB'.take 8 qd
  have h2 := hB'.cut 8 qd
  rw [if_neg Y62] at h2
  have HH := Hdq (And.intro h1 (And.intro h2 (And.intro hl hxc)))
  clear hE hB hB' h1 h2 he
  go_enter Tryz.func14, Tryz.ntmps14
  go_wp2
  refine pt3 w0.heap.size q o xc xs w0 _ rfl rfl rfl HH.out.1 HH.out.2.1 HH.out.2.2.1 Y62 hxc Y62 Y62 Y62 _ ?_
  intro b w2 hbd hbs hbo hf g1 g2 g3
  rw [qb5 b hbs hbd, g3]
  have HG := Hdq (And.intro g1 g2)
  have HF := Hdq hf
  clear hbd hbs hbo hf g1 g2 g3
  go_wp2
  refine bodyPost_ret (results_tmp3 rfl _ _ _) rfl ?_
  exact ⟨_, _, rfl, fun _ => HG.out, fun h => absurd rfl h, HF.out⟩
 ·have he : YR xs = 8 := if_neg hl
  rw [he]
  have c1 := hE.cell 8 qd
  simp only [gOf, List.getD_eq_getElem?_getD, List.getElem?_cons_zero, List.getElem?_cons_succ, Option.getD_some] at c1
  obtain ⟨xa, xc, rfl, -, -, -⟩ := id hB
  have hi : ¬ (xs.length : Int) = 16 := by omega
  clear hE hB he
  go_enter Tryz.func14, Tryz.ntmps14
  go_wp2
  go_quiet (fail)
  go_wp2
  refine bodyPost_ret (results_tmp3 rfl _ _ _) rfl ?_
  exact ⟨_, _, rfl, fun h => absurd h hl, fun _ => ⟨rfl, rfl⟩, ((Dr.refl _).drewN _).fr⟩
def yU (m : List UInt8) (n x : Int) (xs : List UInt8) : Bool := decide (qp m n = 0 /\ xs.length = 16 /\ (0 <= x /\ x < 512) /\ xs.drop 8 = vY (qn m jR n) (beK 8 x ++ xs.take 8))
theorem VA (E : Nat -> Addr) (B : Nat) (w0 : World) (mv v : Value) (m xs : List UInt8) (n x : Int) (hE : j7 all20 E B w0) (hS : SG w0) (hB : Bs (fun b => w0.heap.size <= b) w0 mv m) (hV : Bs (fun _ => False) w0 v xs) :
  Calls Tryz.prog 13 #[mv, .int .i64 n, .int .i64 x, v] w0 fun e w' => e = .returned (.tuple #[.bool (yU m n x xs), ue E (qp m n)]) /\ Fr [] w0 w' := by
 obtain ⟨va, vc, rfl, -, -, -⟩ := id hV
 obtain ⟨xn, hxn⟩ := exq (xs.length)
 obtain ⟨ma, mc, rfl, -, -, -⟩ := id hB
 obtain ⟨mn, hmn⟩ := exq (m.length)
 rw [hxn] at hV ⊢
 rw [hmn] at hB ⊢
 have HX := Hdq hxn
 have HV := Hdq hV
 have HE := Hdq hE
 have HS := Hdq hS
 have HC := Hdq (WC E B w0 (.slice ma mn mc) m n hE hS hB)
 clear hmn hE hS hB hV hxn
 go_enter Tryz.func13, Tryz.ntmps13
 go_wp2_with (go_at_call 53; fail)
 refine HC.out.mono ?_
 rintro e w2 ⟨h1, h2, hf⟩
 have HF2 := Hdq hf
 have HE2 := Hdq (HE.out.keep0 hf)
 by_cases hk : qp m n = 0
 ·obtain ⟨kb, rfl, hkb⟩ := h1 hk
  have HKB := Hdq hkb
  have HK := Hdq hk
  have HP := Hdq (qa0 E B w2 (.slice va xn vc) xs HE2.out (HV.out.keep hf qf))
  clear h1 h2 hk hkb hf HC
  go_wp2_with (go_at_call 14; fail)
  refine HP.out.mono ?_
  rintro e w3 ⟨u1, u2, rfl, g1, g2, hf⟩
  have HF3 := Hdq (HF2.out.trans hf)
  have HK3 := Hdq (HKB.out.keep hf)
  have HS3 := Hdq (HS.out.keep HF3.out)
  by_cases h16 : xs.length = 16
  ·obtain ⟨o1, o2⟩ := g1 h16
   obtain ⟨a1, n1, c1, rfl⟩ := jK o1
   obtain ⟨a2, n2, c2, rfl⟩ := jK o2
   have b1 := o1.bs (A := fun _ => False) (fun _ h => h.elim)
   have b2 := o2.bs (A := fun _ => False) (fun _ h => h.elim)
   have he : YR xs = 0 := if_pos h16
   rw [he, uz]
   have HB := Hdq (And.intro b1 b2)
   have H16 := Hdq h16
   clear g1 g2 o1 o2 b1 b2 he hf h16 HP HF2 HE2 HE HKB
   go_wp2_with (go_at_call 54; fail)
   refine (Kk w3 x).mono ?_
   rintro e w4 ⟨rfl, hf⟩
   have HF4 := Hdq hf
   by_cases hp : 0 <= x /\ x < 512
   ·rw [decide_eq_true hp]
    have HPP := Hdq hp
    clear hf hp
    go_wp2_with (go_at_call 57; fail)
    refine (zY w4 x).mono ?_
    rintro e w5 ⟨u, rfl, hu, hf⟩
    obtain ⟨ua, un, uc, rfl⟩ := jK hu
    have hub := hu.bs (A := fun _ => False) (fun _ h => h.elim)
    have F45 := HF4.out.trans hf
    have hb1 := HB.out.1.keep F45 qf
    have hb2 := HB.out.2.keep F45 qf
    obtain ⟨wb, hwb⟩ := exq (w5.alloc (.cells #[.slice ua un uc, .slice a1 n1 c1] 22))
    have F5 : Fr [] w5 wb := by rw [<- hwb]; exact Fr.alloc _ _
    have hA5 : At wb w5.heap.size (.cells #[.slice ua un uc, .slice a1 n1 c1] 22) := by rw [<- hwb]; exact At.new rfl
    have HR5 := Hdq (show RdB (fun b => wb.heap.size <= b) wb (.slice (some ⟨w5.heap.size, 0, none⟩) 2 2) [(.slice ua un uc, beK 8 x), (.slice a1 n1 c1, xs.take 8)] from by
     refine V7 ⟨⟨_, 2, rfl, by simp, by decide, Row.of_block (c := #[.slice ua un uc, .slice a1 n1 c1]) (fz := (0, 0)) hA5 qf⟩, fun y hy => ?_⟩
     rcases List.mem_cons.1 hy with rfl | hy
     ·exact hub.keep F5 qf
     ·obtain rfl : y = (.slice a1 n1 c1, xs.take 8) := by simpa using hy
      exact hb1.keep F5 qf)
    have HF5 := Hdq ((HF3.out.trans F45).trans F5)
    have HK5 := Hdq ((HK3.out.keep F45).keep F5)
    have HS5 := Hdq ((HS3.out.keep F45).keep F5)
    have HB5 := Hdq (hb2.keep F5 qf)
    clear hu hf hub hb1 hb2 F5 hA5 F45 HF3 HK3 HS3 HB HF4
    go_wp2_with (go_at_call 58; fail)
    clear hwb
    refine (Ku wb kb _ _ (qn m jR n) (xs.drop 8) [(.slice ua un uc, beK 8 x), (.slice a1 n1 c1, xs.take 8)] (zk HB5.out) HK5.out HR5.out HS5.out qf qf (by simp [qP, yq, H16.out])).mono ?_
    rintro e w6 ⟨rfl, hf⟩
    have HF6 := Hdq (HF5.out.trans hf)
    obtain ⟨r, hr⟩ := exq (decide (xs.drop 8 = vY (qn m jR n) (qP [((.slice ua un uc : Value), beK 8 x), (.slice a1 n1 c1, xs.take 8)])))
    have HRR := Hdq (show yU m n x xs = r by
     rw [<- hr]
     unfold yU
     refine decide_eq_decide.2 ⟨fun h => by simpa [qP] using h.2.2.2, fun h => ⟨HK.out, H16.out, HPP.out, by simpa [qP] using h⟩⟩)
    rw [hr]
    clear hf hr
    go_wp2
    go_ret2
    exact ⟨by rw [HRR.out, HK.out]; rfl, HF6.out⟩
   ·rw [decide_eq_false hp]
    have HT := Hdq (show yU m n x xs = false from decide_eq_false (fun h => hp h.2.2.1))
    have HF9 := Hdq (HF3.out.trans hf)
    clear hf hp
    go_wp2
    go_ret2
    exact ⟨by rw [HT.out, HK.out]; rfl, HF9.out⟩
  ·obtain ⟨rfl, rfl⟩ := g2 h16
   have he : YR xs = 8 := if_neg h16
   have HT := Hdq (show yU m n x xs = false from decide_eq_false (fun h => h16 h.2.1))
   rw [he, errv_pos E 8 qd]
   clear g1 g2 he hf h16 HP HF2 HE2 HE HKB
   go_wp2
   go_ret2
   exact ⟨by rw [HT.out, HK.out]; rfl, HF3.out⟩
 ·obtain rfl := h2 hk
  have HK := Hdq hk
  have HT := Hdq (show yU m n x xs = false from decide_eq_false (fun h => hk h.1))
  rw [errv_pos E _ hk]
  clear h1 h2 hf hk HC HE HE2
  go_wp2
  go_ret2
  exact ⟨by rw [HT.out, errv_pos E _ HK.out]; rfl, HF2.out⟩
end Go.Proofs.YtnafknkchbfpaaaGreatDoor
