import Derived.Test.YtnafknkchbfpaaaGreatDoorHG
import Derived.Outline
import Derived.Maps.RangeWalk
import Derived.Test.YtnafknkchbfpaaaGreatDoorGL
import Derived.Test.YtnafknkchbfpaaaGreatDoorHM
set_option maxRecDepth 1000000
set_option maxHeartbeats 8000000
namespace Go.Proofs.YtnafknkchbfpaaaGreatDoor
open Go.RowKit Go.Bl
set_option linter.unusedVariables false
theorem tagger_any (E : Nat -> Addr) (B : Nat) (w0 : World) (mv : Value) (m : List UInt8) (n : Int) (hE : Errs all20 E B w0) (hS : SG w0) (hB : Bs (fun b => w0.heap.size <= b) w0 mv m) :
  Calls Tryz.prog 53 #[mv, .int .i64 n] w0 fun e w' => (keyBad m n = 0 -> ∃ kb, e = .returned (.tuple #[.pointer (some ⟨kb, 0, none⟩), .nilIface]) /\ KeyAt w' kb (subL m nTag n)) /\ (keyBad m n ≠ 0 -> e = .returned (.tuple #[.pointer none, errv E (keyBad m n)])) /\ Fr [] w0 w' := by
 obtain ⟨ma, mc, rfl, -, -, -⟩ := id hB
 obtain ⟨mn, hmn⟩ : ∃ x, m.length = x := ⟨_, rfl⟩
 rw [hmn] at hB ⊢
 clear hmn
 have HC := Lib.hid (all_any E B w0 (.slice ma mn mc) m n hE hS hB)
 have HS := Lib.hid hS
 clear hE hS hB
 go_enter Tryz.func53, Tryz.ntmps53
 go_wp2_with (go_at_call 90; fail)
 refine HC.out.mono ?_
 rintro e w3 ⟨u0, u1, u2, u3, u4, rfl, hg, hb, hf⟩
 by_cases hk : keyBad m n = 0
 ·obtain ⟨g0, g1, g2, g3, g4⟩ := hg hk
  obtain ⟨x0, n0, y0, rfl⟩ := ownB_ps g0
  obtain ⟨x1, n1, y1, rfl⟩ := ownB_ps g1
  obtain ⟨x2, n2, y2, rfl⟩ := ownB_ps g2
  obtain ⟨x3, n3, y3, rfl⟩ := ownB_ps g3
  obtain ⟨x4, n4, y4, rfl⟩ := ownB_ps g4
  rw [hk, errv_zero]
  have f35 : Fr [] w3 (w3.alloc (.cells #[.slice x0 n0 y0, .slice x1 n1 y1, .slice x2 n2 y2, .slice x3 n3 y3, .slice x4 n4 y4] 133)) := Fr.alloc _ _
  have HF := Lib.hid (hf.trans f35)
  have HS5 := Lib.hid (HS.out.keep HF.out)
  have HG := Lib.hid ((g3.bs (A := fun _ => False) (fun _ h => h.elim)).keep f35 (by simp))
  have HK := Lib.hid hk
  clear hg hb g0 g1 g2 g3 g4 f35 HC hf hk
  go_wp2_with (go_at_call 103; fail)
  refine (kmake_any _ (.slice x3 n3 y3) (subL m nTag n) (bs_low HG.out) (by have := subL_len m nTag n; omega) HS5.out).mono ?_
  rintro e w6 ⟨kb, rfl, hkb, hf⟩
  have HF6 := Lib.hid (HF.out.trans hf)
  have HKB := Lib.hid hkb
  clear hf hkb
  go_wp2
  go_ret2
  exact ⟨fun _ => ⟨kb, rfl, HKB.out⟩, fun h => absurd HK.out h, HF6.out⟩
 ·obtain ⟨rfl, rfl, rfl, rfl, rfl⟩ := hb hk
  rw [errv_pos E _ hk]
  have HF5 := Lib.hid (hf.trans (Fr.alloc (S := []) w3 (.cells #[.slice none 0 0, .slice none 0 0, .slice none 0 0, .slice none 0 0, .slice none 0 0] 133)))
  have HK := Lib.hid hk
  have HEV := Lib.hid (errv_pos E _ hk)
  clear hg hb hk HC hf
  go_wp2
  go_ret2
  exact ⟨fun h => absurd h HK.out, fun _ => by rw [HEV.out]; rfl, HF5.out⟩
theorem placed_any (w : World) (x : Int) : Calls Tryz.prog 54 #[.int .i64 x] w fun e w' => e = .returned (.bool (decide (0 <= x /\ x < 512))) /\ Fr [] w w' := by
 by_cases h0 : 0 <= x
 ·by_cases h1 : x < 512
  ·go_enter Tryz.func54, Tryz.ntmps54
   go_wp2
   go_ret
   exact ⟨by simp [h0, h1], Fr.refl _ _⟩
  ·go_enter Tryz.func54, Tryz.ntmps54
   go_wp2
   go_ret
   exact ⟨by simp [h1], Fr.refl _ _⟩
 ·have h1 : x < 512 := by omega
  go_enter Tryz.func54, Tryz.ntmps54
  go_wp2
  go_ret
  exact ⟨by simp [h0], Fr.refl _ _⟩
noncomputable def pt3R : Code := ((Tryz.f14.body.bind (findRegionC 3)).getD .skip)
theorem frame15p (a : Go.Act) (hs : a.tmps.size = 15) (hd : a.defers = []) : a = ⟨(slot a 0 :: slot a 1 :: slot a 2 :: slot a 3 :: slot a 4 :: slot a 5 :: slot a 6 :: slot a 7 :: slot a 8 :: slot a 9 :: slot a 10 :: slot a 11 :: slot a 12 :: slot a 13 :: slot a 14 :: []).toArray, []⟩ := frameX a 15 hs hd
def pt3F (Z q o xc : Nat) (xs : List UInt8) (k : Nat) (b : Go.Act) (p : World) : Prop :=
 match k with
 | 0 => slot b 9 = .slice (some ⟨q, o, none⟩) 16 xc
 | 1 => slot b 10 = .slice (some ⟨q, o, none⟩) 8 xc
 | 2 => OwnB 5 Z p (slot b 11) (xs.take 8)
 | 3 => slot b 12 = .slice (some ⟨q, o, none⟩) 16 xc
 | 4 => slot b 13 = .slice (some ⟨q, o + 8, none⟩) 8 (xc - 8)
 | 5 => OwnB 5 Z p (slot b 14) (xs.drop 8)
 | 6 => OwnB 5 Z p (slot b 2) (xs.take 8)
 | 7 => OwnB 5 Z p (slot b 3) (xs.drop 8)
 | 8 => slot b 4 = .nilIface
 | 9 => Bs (fun _ => False) p (.slice (some ⟨q, o, none⟩) 8 xc) (xs.take 8)
 | 10 => Bs (fun _ => False) p (.slice (some ⟨q, o + 8, none⟩) 8 (xc - 8)) (xs.drop 8)
 | _ => True
def pt3G (Z q o xc : Nat) (xs : List UInt8) (k : Nat) (b : Go.Act) (p : World) : Prop :=
 match k with
 | _ => True
theorem pt3_keep (Z q o xc : Nat) (xs : List UInt8) : ∀ (k : Nat) (b : Go.Act) (p p' : World), Fr [] p p' -> pt3F Z q o xc xs k b p -> pt3F Z q o xc xs k b p'
 | 0, b, p, p', hf, h => h
 | 1, b, p, p', hf, h => h
 | 2, b, p, p', hf, h => h.keep hf (fun _ h => by cases h)
 | 3, b, p, p', hf, h => h
 | 4, b, p, p', hf, h => h
 | 5, b, p, p', hf, h => h.keep hf (fun _ h => by cases h)
 | 6, b, p, p', hf, h => h.keep hf (fun _ h => by cases h)
 | 7, b, p, p', hf, h => h.keep hf (fun _ h => by cases h)
 | 8, b, p, p', hf, h => h
 | 9, b, p, p', hf, h => h.keep hf (by simp)
 | 10, b, p, p', hf, h => h.keep hf (by simp)
 | k + 11, b, p, p', hf, h => trivial
theorem pt3_keepG (Z q o xc : Nat) (xs : List UInt8) : ∀ (k : Nat) (b : Go.Act) (p p' : World), Fr [] p p' -> pt3G Z q o xc xs k b p -> pt3G Z q o xc xs k b p'
 | k, b, p, p', hf, h => trivial
theorem pt3 (Z q o xc : Nat) (xs : List UInt8) (w : World) (a : Go.Act) (hsz : a.tmps.size = 15) (h0 : slot a 0 = .slice (some ⟨q, o, none⟩) 16 xc) (hZ : w.heap.size = Z) (hB1 : Bs (fun _ => False) w (.slice (some ⟨q, o, none⟩) 8 xc) (xs.take 8)) (hB2 : Bs (fun _ => False) w (.slice (some ⟨q, o + 8, none⟩) 8 (xc - 8)) (xs.drop 8)) (hl : xs.length = 16) (hc8 : 8 <= xc) (hc9 : 16 <= xc) (hc10 : ¬ xc = 8) (hc11 : ¬ (8 : Nat) = xc) (hc12 : ¬ (xc : Int) < 8) (Q : Exit -> Go.Act -> World -> Prop)
  (hQ : ∀ (b : Go.Act) (p : World), b.defers = a.defers -> b.tmps.size = 15 -> (∀ s, some s ∉ ([some 9, some 10, some 11, some 12, some 13, some 14, some 2, some 3, some 4] : List (Option Nat)) -> slot b s = slot a s) -> Fr [] w p -> OwnB 5 Z p (slot b 2) (xs.take 8) -> OwnB 5 Z p (slot b 3) (xs.drop 8) -> slot b 4 = .nilIface -> Q .normal b p) : Code.wp Tryz.prog pt3R Q a w := by
 conv => arg 2; whnf
 refine wp_region_facts [] (pt3F Z q o xc xs) (pt3G Z q o xc xs) [some 9, some 10, some 11, some 12, some 13, some 14, some 2, some 3, some 4] [[9], [10], [11], [12], [13], [14], [2], [3], [4], [], []] [] [] [] (by kernel_rfl) (by kernel_rfl) (by kernel_rfl) (by kernel_rfl) (by kernel_rfl) (by decide) ?_ ?_ ?_ ?_ ?_
 ·intro w1 hw1 k hk1 hk2
  have hk3 : 9 <= k := hk1
  have hk4 : k < 11 := hk2
  clear hk1 hk2
  rcases (show k = 9 ∨ k = 10 by omega) with rfl | rfl
  ·exact hB1.keep hw1 (by simp)
  ·exact hB2.keep hw1 (by simp)
 ·intro k b b' p hs h
  match k with
  | 0 => show slot b' 9 = .slice (some ⟨q, o, none⟩) 16 xc; rw [<- hs 9 (by decide)]; exact h
  | 1 => show slot b' 10 = .slice (some ⟨q, o, none⟩) 8 xc; rw [<- hs 10 (by decide)]; exact h
  | 2 => show OwnB 5 Z p (slot b' 11) (xs.take 8); rw [<- hs 11 (by decide)]; exact h
  | 3 => show slot b' 12 = .slice (some ⟨q, o, none⟩) 16 xc; rw [<- hs 12 (by decide)]; exact h
  | 4 => show slot b' 13 = .slice (some ⟨q, o + 8, none⟩) 8 (xc - 8); rw [<- hs 13 (by decide)]; exact h
  | 5 => show OwnB 5 Z p (slot b' 14) (xs.drop 8); rw [<- hs 14 (by decide)]; exact h
  | 6 => show OwnB 5 Z p (slot b' 2) (xs.take 8); rw [<- hs 2 (by decide)]; exact h
  | 7 => show OwnB 5 Z p (slot b' 3) (xs.drop 8); rw [<- hs 3 (by decide)]; exact h
  | 8 => show slot b' 4 = .nilIface; rw [<- hs 4 (by decide)]; exact h
  | 9 => show Bs (fun _ => False) p (.slice (some ⟨q, o, none⟩) 8 xc) (xs.take 8); exact h
  | 10 => show Bs (fun _ => False) p (.slice (some ⟨q, o + 8, none⟩) 8 (xc - 8)) (xs.drop 8); exact h
  | k + 11 => trivial
 ·intro k b b' p hs h
  match k with
  | k => trivial
 ·intro i hi dn b p hs ho hf hF hG hdn hdc hr
  have hi9 : i < 9 := hi
  clear hi
  match i, hi9 with
  | 0, _ =>
   have e0 : b.eval (.tmp 0) = .slice (some ⟨q, o, none⟩) 16 xc := (ho 0 (by decide)).trans h0
   refine opV_step _ (by rfl) ?_
   refine wpl_val _ rfl rfl (.slice (some ⟨q, o, none⟩) 16 xc) (by obtain ⟨ρ, hρ⟩ : ∃ ρ, b.eval = ρ := ⟨_, rfl⟩; rw [hρ] at e0 ⊢; unfold execOp; simp [go_sem, e0]) ?_
   exact fstep_end hf (slot_put_self (by rw [hs, hsz]; decide))
  | 1, _ =>
   have e0 : b.eval (.tmp 9) = .slice (some ⟨q, o, none⟩) 16 xc := hF 0 (show (0:Nat) < 11 by decide) (fun _ => (hr 0 (by kernel_rfl)).2) (fun c hc => absurd hc (by simp))
   have ec : b.eval (.const (.int .i64 8)) = .int .i64 8 := rfl
   refine opV_step _ (by rfl) ?_
   refine wpl_val _ rfl rfl (.slice (some ⟨q, o, none⟩) 8 xc) (by obtain ⟨ρ, hρ⟩ : ∃ ρ, b.eval = ρ := ⟨_, rfl⟩; rw [hρ] at e0 ec ⊢; unfold execOp; simp [go_sem, e0, ec, ec, hc8, hc9, hc12]) ?_
   exact fstep_end hf (slot_put_self (by rw [hs, hsz]; decide))
  | 2, _ =>
   have e0 : b.eval (.tmp 10) = .slice (some ⟨q, o, none⟩) 8 xc := hF 1 (show (1:Nat) < 11 by decide) (fun _ => (hr 1 (by kernel_rfl)).2) (fun c hc => absurd hc (by simp))
   have f9 : Bs (fun _ => False) p (.slice (some ⟨q, o, none⟩) 8 xc) (xs.take 8) := hF 9 (show (9:Nat) < 11 by decide) (fun h => absurd h (by decide)) (fun c hc => absurd hc (by simp))
   refine opV_func _ (by rfl) (wanted_none rfl) 59 _ _ rfl #[.slice (some ⟨q, o, none⟩) 8 xc] (by simp only [List.map_toArray, List.map_cons, List.map_nil, e0]) (by simp [go_sem]) ((clone_any (fun _ => False) p (.slice (some ⟨q, o, none⟩) 8 xc) (xs.take 8) f9 (by rw [List.length_take]; omega)).mono ?_)
   rintro e p' ⟨u, rfl, hu, hf2⟩
   refine ⟨_, rfl, hf.trans hf2, fun k _ _ _ _ h => pt3_keep Z q o xc xs k _ _ _ hf2 h, ?_, fun e _ _ h => pt3_keepG Z q o xc xs e _ _ _ hf2 h, fun e he hi hx => by exact absurd he (Nat.not_lt_zero e)⟩
   refine put_new b 11 _ (by rw [hs, hsz]; decide) (fun b' => pt3F Z q o xc xs 2 b' p') ?_
   intro b' hd hne
   show OwnB 5 Z p' (slot b' 11) (xs.take 8)
   rw [hd]
   exact hu.base (by rw [<- hZ]; exact hf.size)
  | 3, _ =>
   have e0 : b.eval (.tmp 0) = .slice (some ⟨q, o, none⟩) 16 xc := (ho 0 (by decide)).trans h0
   refine opV_step _ (by rfl) ?_
   refine wpl_val _ rfl rfl (.slice (some ⟨q, o, none⟩) 16 xc) (by obtain ⟨ρ, hρ⟩ : ∃ ρ, b.eval = ρ := ⟨_, rfl⟩; rw [hρ] at e0 ⊢; unfold execOp; simp [go_sem, e0]) ?_
   exact fstep_end hf (slot_put_self (by rw [hs, hsz]; decide))
  | 4, _ =>
   have e0 : b.eval (.tmp 12) = .slice (some ⟨q, o, none⟩) 16 xc := hF 3 (show (3:Nat) < 11 by decide) (fun _ => (hr 3 (by kernel_rfl)).2) (fun c hc => absurd hc (by simp))
   have ec : b.eval (.const (.int .i64 8)) = .int .i64 8 := rfl
   refine opV_step _ (by rfl) ?_
   refine wpl_val _ rfl rfl (.slice (some ⟨q, o + 8, none⟩) 8 (xc - 8)) (by obtain ⟨ρ, hρ⟩ : ∃ ρ, b.eval = ρ := ⟨_, rfl⟩; rw [hρ] at e0 ec ⊢; unfold execOp; simp [go_sem, e0, ec, ec, hc8, hc9, hc10, hc11]) ?_
   exact fstep_end hf (slot_put_self (by rw [hs, hsz]; decide))
  | 5, _ =>
   have e0 : b.eval (.tmp 13) = .slice (some ⟨q, o + 8, none⟩) 8 (xc - 8) := hF 4 (show (4:Nat) < 11 by decide) (fun _ => (hr 4 (by kernel_rfl)).2) (fun c hc => absurd hc (by simp))
   have f10 : Bs (fun _ => False) p (.slice (some ⟨q, o + 8, none⟩) 8 (xc - 8)) (xs.drop 8) := hF 10 (show (10:Nat) < 11 by decide) (fun h => absurd h (by decide)) (fun c hc => absurd hc (by simp))
   refine opV_func _ (by rfl) (wanted_none rfl) 59 _ _ rfl #[.slice (some ⟨q, o + 8, none⟩) 8 (xc - 8)] (by simp only [List.map_toArray, List.map_cons, List.map_nil, e0]) (by simp [go_sem]) ((clone_any (fun _ => False) p (.slice (some ⟨q, o + 8, none⟩) 8 (xc - 8)) (xs.drop 8) f10 (by rw [List.length_drop]; omega)).mono ?_)
   rintro e p' ⟨u, rfl, hu, hf2⟩
   refine ⟨_, rfl, hf.trans hf2, fun k _ _ _ _ h => pt3_keep Z q o xc xs k _ _ _ hf2 h, ?_, fun e _ _ h => pt3_keepG Z q o xc xs e _ _ _ hf2 h, fun e he hi hx => by exact absurd he (Nat.not_lt_zero e)⟩
   refine put_new b 14 _ (by rw [hs, hsz]; decide) (fun b' => pt3F Z q o xc xs 5 b' p') ?_
   intro b' hd hne
   show OwnB 5 Z p' (slot b' 14) (xs.drop 8)
   rw [hd]
   exact hu.base (by rw [<- hZ]; exact hf.size)
  | 6, _ =>
   have f2 : OwnB 5 Z p (slot b 11) (xs.take 8) := hF 2 (show (2:Nat) < 11 by decide) (fun _ => (hr 2 (by kernel_rfl)).2) (fun c hc => absurd hc (by simp))
   refine opV_step _ (by rfl) ?_
   refine wpl_val _ rfl rfl (slot b 11) (by obtain ⟨ρ, hρ⟩ : ∃ ρ, b.eval = ρ := ⟨_, rfl⟩; have e0 : b.eval (.tmp 11) = slot b 11 := rfl; rw [hρ] at e0 ⊢; unfold execOp; simp [go_sem, e0]) ?_
   refine ⟨rfl, rfl, hf, fun _ _ _ _ _ h => h, ?_, fun _ _ _ h => h, fun e he hi hx => by exact absurd he (Nat.not_lt_zero e)⟩
   refine put_new b 2 _ (by rw [hs, hsz]; decide) (fun b' => pt3F Z q o xc xs 6 b' p) ?_
   intro b' hd hne
   show OwnB 5 Z p (slot b' 2) (xs.take 8)
   rw [hd]
   exact f2
  | 7, _ =>
   have f5 : OwnB 5 Z p (slot b 14) (xs.drop 8) := hF 5 (show (5:Nat) < 11 by decide) (fun _ => (hr 5 (by kernel_rfl)).2) (fun c hc => absurd hc (by simp))
   refine opV_step _ (by rfl) ?_
   refine wpl_val _ rfl rfl (slot b 14) (by obtain ⟨ρ, hρ⟩ : ∃ ρ, b.eval = ρ := ⟨_, rfl⟩; have e0 : b.eval (.tmp 14) = slot b 14 := rfl; rw [hρ] at e0 ⊢; unfold execOp; simp [go_sem, e0]) ?_
   refine ⟨rfl, rfl, hf, fun _ _ _ _ _ h => h, ?_, fun _ _ _ h => h, fun e he hi hx => by exact absurd he (Nat.not_lt_zero e)⟩
   refine put_new b 3 _ (by rw [hs, hsz]; decide) (fun b' => pt3F Z q o xc xs 7 b' p) ?_
   intro b' hd hne
   show OwnB 5 Z p (slot b' 3) (xs.drop 8)
   rw [hd]
   exact f5
  | 8, _ =>
   have ec : b.eval (.const .nilIface) = .nilIface := rfl
   refine opV_step _ (by rfl) ?_
   refine wpl_val _ rfl rfl (.nilIface) (by obtain ⟨ρ, hρ⟩ : ∃ ρ, b.eval = ρ := ⟨_, rfl⟩; rw [hρ] at ec ⊢; unfold execOp; simp [go_sem, ec]) ?_
   exact fstep_end hf (slot_put_self (by rw [hs, hsz]; decide))
 ·intro b p hd hs ho hf hall hex
  have a1 := hall 6 (by decide) (fun c hc => by simp at hc)
  have a2 := hall 7 (by decide) (fun c hc => by simp at hc)
  have a3 := hall 8 (by decide) (fun c hc => by simp at hc)
  exact hQ b p hd (hs.trans hsz) ho hf a1 a2 a3
def partE (xs : List UInt8) : Nat := if xs.length = 16 then 0 else 8
theorem parts_any (E : Nat -> Addr) (B : Nat) (w0 : World) (v : Value) (xs : List UInt8) (hE : Errs all20 E B w0) (hB : Bs (fun _ => False) w0 v xs) :
  Calls Tryz.prog 14 #[v] w0 fun e w' => ∃ u1 u2, e = .returned (.tuple #[u1, u2, errv E (partE xs)]) /\ (xs.length = 16 -> OwnB 5 w0.heap.size w' u1 (xs.take 8) /\ OwnB 5 w0.heap.size w' u2 (xs.drop 8)) /\ (xs.length ≠ 16 -> u1 = .slice none 0 0 /\ u2 = .slice none 0 0) /\ Fr [] w0 w' := by
 by_cases hl : xs.length = 16
 ·have he : partE xs = 0 := if_pos hl
  rw [he, errv_zero]
  obtain ⟨a, xc, rfl, hxc, -, h4⟩ := id hB
  obtain ⟨q, o, rfl, -, -⟩ := h4.some_of (by rw [List.length_map]; omega)
  rw [hl] at hxc
  clear h4
  rw [hl]
  have hB' := hB
  rw [hl] at hB'
  have h1 := hB'.take 8 (by decide)
  have h2 := hB'.cut 8 (by decide)
  rw [if_neg (by omega)] at h2
  have HH := Lib.hid (And.intro h1 (And.intro h2 (And.intro hl hxc)))
  clear hE hB hB' h1 h2 he
  go_enter Tryz.func14, Tryz.ntmps14
  go_wp2
  refine pt3 w0.heap.size q o xc xs w0 _ rfl rfl rfl HH.out.1 HH.out.2.1 HH.out.2.2.1 (by omega) hxc (by omega) (by omega) (by omega) _ ?_
  intro b w2 hbd hbs hbo hf g1 g2 g3
  rw [frame15p b hbs hbd, g3]
  have HG := Lib.hid (And.intro g1 g2)
  have HF := Lib.hid hf
  clear hbd hbs hbo hf g1 g2 g3
  go_wp2
  refine bodyPost_ret (results_tmp3 rfl _ _ _) rfl ?_
  exact ⟨_, _, rfl, fun _ => HG.out, fun h => absurd rfl h, HF.out⟩
 ·have he : partE xs = 8 := if_neg hl
  rw [he]
  have c1 := hE.cell 8 (by decide)
  simp only [gOf, List.getD_eq_getElem?_getD, List.getElem?_cons_zero, List.getElem?_cons_succ, Option.getD_some] at c1
  obtain ⟨xa, xc, rfl, -, -, -⟩ := id hB
  have hi : ¬ (xs.length : Int) = 16 := by omega
  clear hE hB he
  go_enter Tryz.func14, Tryz.ntmps14
  go_wp2
  go_quiet (fail)
  go_wp2
  refine bodyPost_ret (results_tmp3 rfl _ _ _) rfl ?_
  exact ⟨_, _, rfl, fun h => absurd h hl, fun _ => ⟨rfl, rfl⟩, ((Dr.refl _).drewN _).fr⟩
def tagE (m : List UInt8) (n x : Int) (xs : List UInt8) : Nat := if keyBad m n ≠ 0 then keyBad m n else if ¬ (0 <= x /\ x < 512) then 1 else if xs.length ≠ 8 then 8 else 0
theorem sdTag_any (E : Nat -> Addr) (B : Nat) (w0 : World) (mv v : Value) (m xs : List UInt8) (n x : Int) (hE : Errs all20 E B w0) (hS : SG w0) (hB : Bs (fun b => w0.heap.size <= b) w0 mv m) (hV : Bs (fun _ => False) w0 v xs) :
  Calls Tryz.prog 12 #[mv, .int .i64 n, .int .i64 x, v] w0 fun e w' => ∃ u, e = .returned (.tuple #[u, errv E (tagE m n x xs)]) /\ (tagE m n x xs = 0 -> OwnB 5 w0.heap.size w' u (tgdL (subL m nTag n) x xs)) /\ (tagE m n x xs ≠ 0 -> u = .slice none 0 0) /\ Fr [] w0 w' := by
 obtain ⟨va, vc, rfl, -, -, -⟩ := id hV
 obtain ⟨xn, hxn⟩ : ∃ q, xs.length = q := ⟨_, rfl⟩
 obtain ⟨ma, mc, rfl, -, -, -⟩ := id hB
 obtain ⟨mn, hmn⟩ : ∃ q, m.length = q := ⟨_, rfl⟩
 rw [hxn] at hV ⊢
 rw [hmn] at hB ⊢
 have HX := Lib.hid hxn
 have HV := Lib.hid hV
 have HE := Lib.hid hE
 have HS := Lib.hid hS
 have HC := Lib.hid (tagger_any E B w0 (.slice ma mn mc) m n hE hS hB)
 clear hmn hE hS hB hV hxn
 go_enter Tryz.func12, Tryz.ntmps12
 go_wp2_with (go_at_call 53; fail)
 refine HC.out.mono ?_
 rintro e w2 ⟨h1, h2, hf⟩
 have HF2 := Lib.hid hf
 have HE2 := Lib.hid (HE.out.keep0 hf)
 by_cases hk : keyBad m n = 0
 ·obtain ⟨kb, rfl, hkb⟩ := h1 hk
  have HKB := Lib.hid hkb
  have HK := Lib.hid hk
  clear h1 h2 hk hkb hf HC
  go_wp2_with (go_at_call 54; fail)
  refine (placed_any w2 x).mono ?_
  rintro e w3 ⟨rfl, hf⟩
  have HF3 := Lib.hid (HF2.out.trans hf)
  have HE3 := Lib.hid (HE2.out.keep0 hf)
  have HK3 := Lib.hid (HKB.out.keep hf)
  have c1 := HE3.out.cell 1 (by decide)
  have c8 := HE3.out.cell 8 (by decide)
  simp only [gOf, List.getD_eq_getElem?_getD, List.getElem?_cons_zero, List.getElem?_cons_succ, Option.getD_some] at c1 c8
  by_cases hp : 0 <= x /\ x < 512
  ·rw [decide_eq_true hp]
   by_cases h8 : xn = 8
   ·subst h8
    have ht : tagE m n x xs = 0 := by unfold tagE; rw [if_neg (by rw [HK.out]; decide), if_neg (by simpa using hp), if_neg (by rw [HX.out]; decide)]
    have HT := Lib.hid ht
    have HV3 := Lib.hid (HV.out.keep HF3.out (by simp))
    have HS3 := Lib.hid (HS.out.keep HF3.out)
    clear ht hf hp c1 c8 HF2 HE2 HE3 HE HKB
    go_wp2_with (go_at_call 57; fail)
    refine (lnumber_any w3 x).mono ?_
    rintro e w4 ⟨u, rfl, hu, hf⟩
    obtain ⟨ua, un, uc, rfl⟩ := ownB_ps hu
    have hub := hu.bs (A := fun _ => False) (fun _ h => h.elim)
    have hvb := HV3.out.keep hf (by simp)
    obtain ⟨wb, hwb⟩ : ∃ wb, w4.alloc (.cells #[.slice ua un uc, .slice va 8 vc] 22) = wb := ⟨_, rfl⟩
    have F5 : Fr [] w4 wb := by rw [<- hwb]; exact Fr.alloc _ _
    have hA5 : At wb w4.heap.size (.cells #[.slice ua un uc, .slice va 8 vc] 22) := by rw [<- hwb]; exact At.new rfl
    have HR5 := Lib.hid (show RdB (fun b => wb.heap.size <= b) wb (.slice (some ⟨w4.heap.size, 0, none⟩) 2 2) [(.slice ua un uc, beK 8 x), (.slice va 8 vc, xs)] from by
     refine rdb_low ⟨⟨_, 2, rfl, by simp, by decide, Row.of_block (c := #[.slice ua un uc, .slice va 8 vc]) (fz := (0, 0)) hA5 (by simp)⟩, fun y hy => ?_⟩
     rcases List.mem_cons.1 hy with rfl | hy
     ·exact hub.keep F5 (by simp)
     ·obtain rfl : y = (.slice va 8 vc, xs) := by simpa using hy
      exact hvb.keep F5 (by simp))
    have HF5 := Lib.hid ((HF3.out.trans hf).trans F5)
    have HK5 := Lib.hid ((HK3.out.keep hf).keep F5)
    have HS5 := Lib.hid ((HS3.out.keep hf).keep F5)
    have HV5 := Lib.hid (hvb.keep F5 (by simp))
    clear hu hf hub hvb F5 hA5 HF3 HK3 HS3 HV3
    go_wp2_with (go_at_call 56; fail)
    clear hwb
    refine (ktag_any wb kb _ (subL m nTag n) [(.slice ua un uc, beK 8 x), (.slice va 8 vc, xs)] HK5.out HR5.out HS5.out (by simp) (by simp) (by simp [catP, beK_len, HX.out])).mono ?_
    rintro e w6 ⟨t, rfl, ht, hf⟩
    have ht2 : OwnB 5 wb.heap.size w6 t (tagL (subL m nTag n) (beK 8 x ++ xs)) := by simpa [catP] using ht
    obtain ⟨ta, tn, tc, rfl⟩ := ownB_ps ht
    have htb := ht2.bs (A := fun _ => False) (fun _ h => h.elim)
    have hvb := HV5.out.keep hf (by simp)
    obtain ⟨wc, hwc⟩ : ∃ wc, w6.alloc (.cells #[.slice va 8 vc, .slice ta tn tc] 22) = wc := ⟨_, rfl⟩
    have F7 : Fr [] w6 wc := by rw [<- hwc]; exact Fr.alloc _ _
    have hA7 : At wc w6.heap.size (.cells #[.slice va 8 vc, .slice ta tn tc] 22) := by rw [<- hwc]; exact At.new rfl
    have HR7 := Lib.hid (show RdL (fun _ => False) wc (.slice (some ⟨w6.heap.size, 0, none⟩) 2 2) [(.slice va 8 vc, xs), (.slice ta tn tc, tagL (subL m nTag n) (beK 8 x ++ xs))] from by
     refine ⟨⟨_, 2, rfl, by simp, by decide, Row.of_block (c := #[.slice va 8 vc, .slice ta tn tc]) (fz := (0, 0)) hA7 (by simp)⟩, fun y hy => ?_⟩
     rcases List.mem_cons.1 hy with rfl | hy
     ·exact hvb.keep F7 (by simp)
     ·obtain rfl : y = (.slice ta tn tc, tagL (subL m nTag n) (beK 8 x ++ xs)) := by simpa using hy
      exact htb.keep F7 (by simp))
    have HF7 := Lib.hid ((HF5.out.trans hf).trans F7)
    clear ht hf ht2 htb hvb F7 hA7 HF5 HK5 HS5 HV5 HR5
    go_wp2_with (go_at_call 55; fail)
    clear hwc
    refine (concat_any (fun _ => False) wc _ [(.slice va 8 vc, xs), (.slice ta tn tc, tagL (subL m nTag n) (beK 8 x ++ xs))] HR7.out (by simp) (by simp [cat, tagL_len, HX.out])).mono ?_
    rintro e w8 ⟨z, rfl, hz, hf⟩
    have HZ := Lib.hid (show OwnB 5 w0.heap.size w8 z (tgdL (subL m nTag n) x xs) by
     have h5 := hz.base (base' := w0.heap.size) HF7.out.size
     simpa [cat, tgdL] using h5)
    have HF8 := Lib.hid (HF7.out.trans hf)
    clear hz hf
    go_wp2
    go_ret2
    exact ⟨_, by rw [HT.out]; rfl, fun _ => HZ.out, fun h => absurd HT.out h, HF8.out⟩
   ·have ht : tagE m n x xs = 8 := by unfold tagE; rw [if_neg (by rw [HK.out]; decide), if_neg (by simpa using hp), if_pos (by rw [HX.out]; exact h8)]
    have HT := Lib.hid ht
    have hi : ¬ (xn : Int) = 8 := by omega
    clear ht hf hp c1 HF2 HE2 HE3 HE HKB HK3
    go_wp2
    go_quiet (fail)
    go_wp2
    go_ret2
    exact ⟨_, by rw [HT.out]; rfl, fun h => absurd (HT.out.symm.trans h) (by decide), fun _ => rfl, HF3.out.trans ((Dr.refl _).drewN _).fr⟩
  ·rw [decide_eq_false hp]
   have ht : tagE m n x xs = 1 := by unfold tagE; rw [if_neg (by rw [HK.out]; decide), if_pos hp]
   have HT := Lib.hid ht
   clear ht hf hp c8 HF2 HE2 HE3 HE HKB HK3
   go_wp2
   go_quiet (fail)
   go_wp2
   go_ret2
   exact ⟨_, by rw [HT.out]; rfl, fun h => absurd (HT.out.symm.trans h) (by decide), fun _ => rfl, HF3.out.trans ((Dr.refl _).drewN _).fr⟩
 ·obtain rfl := h2 hk
  have ht : tagE m n x xs = keyBad m n := by unfold tagE; rw [if_pos hk]
  have HT := Lib.hid ht
  have HK := Lib.hid hk
  rw [errv_pos E _ hk]
  clear h1 h2 hf ht hk HC HE HE2
  go_wp2
  go_ret2
  exact ⟨_, by rw [HT.out, errv_pos E _ HK.out]; rfl, fun h => absurd (HT.out.symm.trans h) HK.out, fun _ => rfl, HF2.out⟩
def tagdB (m : List UInt8) (n x : Int) (xs : List UInt8) : Bool := decide (keyBad m n = 0 /\ xs.length = 16 /\ (0 <= x /\ x < 512) /\ xs.drop 8 = tagL (subL m nTag n) (beK 8 x ++ xs.take 8))
theorem sdTagged_any (E : Nat -> Addr) (B : Nat) (w0 : World) (mv v : Value) (m xs : List UInt8) (n x : Int) (hE : Errs all20 E B w0) (hS : SG w0) (hB : Bs (fun b => w0.heap.size <= b) w0 mv m) (hV : Bs (fun _ => False) w0 v xs) :
  Calls Tryz.prog 13 #[mv, .int .i64 n, .int .i64 x, v] w0 fun e w' => e = .returned (.tuple #[.bool (tagdB m n x xs), errv E (keyBad m n)]) /\ Fr [] w0 w' := by
 obtain ⟨va, vc, rfl, -, -, -⟩ := id hV
 obtain ⟨xn, hxn⟩ : ∃ q, xs.length = q := ⟨_, rfl⟩
 obtain ⟨ma, mc, rfl, -, -, -⟩ := id hB
 obtain ⟨mn, hmn⟩ : ∃ q, m.length = q := ⟨_, rfl⟩
 rw [hxn] at hV ⊢
 rw [hmn] at hB ⊢
 have HX := Lib.hid hxn
 have HV := Lib.hid hV
 have HE := Lib.hid hE
 have HS := Lib.hid hS
 have HC := Lib.hid (tagger_any E B w0 (.slice ma mn mc) m n hE hS hB)
 clear hmn hE hS hB hV hxn
 go_enter Tryz.func13, Tryz.ntmps13
 go_wp2_with (go_at_call 53; fail)
 refine HC.out.mono ?_
 rintro e w2 ⟨h1, h2, hf⟩
 have HF2 := Lib.hid hf
 have HE2 := Lib.hid (HE.out.keep0 hf)
 by_cases hk : keyBad m n = 0
 ·obtain ⟨kb, rfl, hkb⟩ := h1 hk
  have HKB := Lib.hid hkb
  have HK := Lib.hid hk
  have HP := Lib.hid (parts_any E B w2 (.slice va xn vc) xs HE2.out (HV.out.keep hf (by simp)))
  clear h1 h2 hk hkb hf HC
  go_wp2_with (go_at_call 14; fail)
  refine HP.out.mono ?_
  rintro e w3 ⟨u1, u2, rfl, g1, g2, hf⟩
  have HF3 := Lib.hid (HF2.out.trans hf)
  have HK3 := Lib.hid (HKB.out.keep hf)
  have HS3 := Lib.hid (HS.out.keep HF3.out)
  by_cases h16 : xs.length = 16
  ·obtain ⟨o1, o2⟩ := g1 h16
   obtain ⟨a1, n1, c1, rfl⟩ := ownB_ps o1
   obtain ⟨a2, n2, c2, rfl⟩ := ownB_ps o2
   have b1 := o1.bs (A := fun _ => False) (fun _ h => h.elim)
   have b2 := o2.bs (A := fun _ => False) (fun _ h => h.elim)
   have he : partE xs = 0 := if_pos h16
   rw [he, errv_zero]
   have HB := Lib.hid (And.intro b1 b2)
   have H16 := Lib.hid h16
   clear g1 g2 o1 o2 b1 b2 he hf h16 HP HF2 HE2 HE HKB
   go_wp2_with (go_at_call 54; fail)
   refine (placed_any w3 x).mono ?_
   rintro e w4 ⟨rfl, hf⟩
   have HF4 := Lib.hid hf
   by_cases hp : 0 <= x /\ x < 512
   ·rw [decide_eq_true hp]
    have HPP := Lib.hid hp
    clear hf hp
    go_wp2_with (go_at_call 57; fail)
    refine (lnumber_any w4 x).mono ?_
    rintro e w5 ⟨u, rfl, hu, hf⟩
    obtain ⟨ua, un, uc, rfl⟩ := ownB_ps hu
    have hub := hu.bs (A := fun _ => False) (fun _ h => h.elim)
    have F45 := HF4.out.trans hf
    have hb1 := HB.out.1.keep F45 (by simp)
    have hb2 := HB.out.2.keep F45 (by simp)
    obtain ⟨wb, hwb⟩ : ∃ wb, w5.alloc (.cells #[.slice ua un uc, .slice a1 n1 c1] 22) = wb := ⟨_, rfl⟩
    have F5 : Fr [] w5 wb := by rw [<- hwb]; exact Fr.alloc _ _
    have hA5 : At wb w5.heap.size (.cells #[.slice ua un uc, .slice a1 n1 c1] 22) := by rw [<- hwb]; exact At.new rfl
    have HR5 := Lib.hid (show RdB (fun b => wb.heap.size <= b) wb (.slice (some ⟨w5.heap.size, 0, none⟩) 2 2) [(.slice ua un uc, beK 8 x), (.slice a1 n1 c1, xs.take 8)] from by
     refine rdb_low ⟨⟨_, 2, rfl, by simp, by decide, Row.of_block (c := #[.slice ua un uc, .slice a1 n1 c1]) (fz := (0, 0)) hA5 (by simp)⟩, fun y hy => ?_⟩
     rcases List.mem_cons.1 hy with rfl | hy
     ·exact hub.keep F5 (by simp)
     ·obtain rfl : y = (.slice a1 n1 c1, xs.take 8) := by simpa using hy
      exact hb1.keep F5 (by simp))
    have HF5 := Lib.hid ((HF3.out.trans F45).trans F5)
    have HK5 := Lib.hid ((HK3.out.keep F45).keep F5)
    have HS5 := Lib.hid ((HS3.out.keep F45).keep F5)
    have HB5 := Lib.hid (hb2.keep F5 (by simp))
    clear hu hf hub hb1 hb2 F5 hA5 F45 HF3 HK3 HS3 HB HF4
    go_wp2_with (go_at_call 58; fail)
    clear hwb
    refine (right8_any wb kb _ _ (subL m nTag n) (xs.drop 8) [(.slice ua un uc, beK 8 x), (.slice a1 n1 c1, xs.take 8)] (bs_low HB5.out) HK5.out HR5.out HS5.out (by simp) (by simp) (by simp [catP, beK_len, H16.out])).mono ?_
    rintro e w6 ⟨rfl, hf⟩
    have HF6 := Lib.hid (HF5.out.trans hf)
    obtain ⟨r, hr⟩ : ∃ r, decide (xs.drop 8 = tagL (subL m nTag n) (catP [((.slice ua un uc : Value), beK 8 x), (.slice a1 n1 c1, xs.take 8)])) = r := ⟨_, rfl⟩
    have HRR := Lib.hid (show tagdB m n x xs = r by
     rw [<- hr]
     unfold tagdB
     refine decide_eq_decide.2 ⟨fun h => by simpa [catP] using h.2.2.2, fun h => ⟨HK.out, H16.out, HPP.out, by simpa [catP] using h⟩⟩)
    rw [hr]
    clear hf hr
    go_wp2
    go_ret2
    exact ⟨by rw [HRR.out, HK.out]; rfl, HF6.out⟩
   ·rw [decide_eq_false hp]
    have HT := Lib.hid (show tagdB m n x xs = false from decide_eq_false (fun h => hp h.2.2.1))
    have HF9 := Lib.hid (HF3.out.trans hf)
    clear hf hp
    go_wp2
    go_ret2
    exact ⟨by rw [HT.out, HK.out]; rfl, HF9.out⟩
  ·obtain ⟨rfl, rfl⟩ := g2 h16
   have he : partE xs = 8 := if_neg h16
   have HT := Lib.hid (show tagdB m n x xs = false from decide_eq_false (fun h => h16 h.2.1))
   rw [he, errv_pos E 8 (by decide)]
   clear g1 g2 he hf h16 HP HF2 HE2 HE HKB
   go_wp2
   go_ret2
   exact ⟨by rw [HT.out, HK.out]; rfl, HF3.out⟩
 ·obtain rfl := h2 hk
  have HK := Lib.hid hk
  have HT := Lib.hid (show tagdB m n x xs = false from decide_eq_false (fun h => hk h.1))
  rw [errv_pos E _ hk]
  clear h1 h2 hf hk HC HE HE2
  go_wp2
  go_ret2
  exact ⟨by rw [HT.out, errv_pos E _ HK.out]; rfl, HF2.out⟩
end Go.Proofs.YtnafknkchbfpaaaGreatDoor
