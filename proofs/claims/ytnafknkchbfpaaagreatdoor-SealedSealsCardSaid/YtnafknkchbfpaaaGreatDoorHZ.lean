import Derived.Test.YtnafknkchbfpaaaGreatDoorHH
set_option maxRecDepth 1000000
set_option maxHeartbeats 8000000
namespace Go.Proofs.YtnafknkchbfpaaaGreatDoor
open Go.RowKit Go.Bl
set_option linter.unusedVariables false
theorem ji.lit0 {e s : Nat} (base : Nat) (w : World) (hb : base <= w.heap.size) : ji e base s (w.alloc (.cells #[] e)) (.slice (some ⟨w.heap.size, 0, none⟩) 0 0) [] := ⟨World.ownsRow_lit (size := s) w #[] 0 hb qe qg, by simp⟩
theorem RG.keepS {w w' : World} {S : List Nat} (h : RG w) (hf : Fr S w w') (hS : ∀ b ∈ S, 21 < b) : RG w' :=
 ⟨fun j v hv => qm hf (fun hm => by have := hS _ hm; omega) (h.f j v hv), fun i hi => qm hf (fun hm => by have := hS _ hm; omega) (h.k i hi), Nat.lt_of_lt_of_le h.g hf.size⟩
theorem Tryz.infoArr : (Tryz.prog.info? 57).map (fun i => (i.zero, i.size, i.bytes)) = some (some (.agg qD), 32, 32) := by kernel_rfl
theorem zQ (o : List UInt8) (h : o.length = 32) : (Tryz.prog.info? 57).map (·.size) = some (o.map u8v).length := by rw [List.length_map, h]; kernel_rfl
theorem Xi (w0 : World) (n : Nat) (h2 : 2 <= n) (hn : n <= 1000000) : Calls Tryz.prog 128 #[.int .i64 (n : Int)] w0 fun e w' => e = .returned (.int .i64 ((ze n : Nat) : Int)) /\ w0 = w' := by
 obtain ⟨V, hV⟩ := exq (ze n)
 have HV := Hdq hV
 rw [hV]
 clear hV
 go_enter Tryz.func128, Tryz.ntmps128
 go_wp2
 go_loop [3] (fun k => ∃ a P : Nat, k = .int .i64 (P : Int) /\ Hid (2 ^ a = P) /\ 1 <= P /\ P < n) (fun k => n - (intOf k).toNat)
 case atStart => exact ⟨0, 1, rfl, Hdq rfl, by omega, by omega⟩
 case round =>
  obtain ⟨a, P, rfl, HP, hp1, hpn⟩ := hrel
  have hw1 : IntKind.i64.wrap ((n : Int) - (P : Int)) = ((n - P : Nat) : Int) := by rw [IntKind.wrap_i64]; omega
  have hw2 : IntKind.i64.wrap ((P : Int) * 2) = ((P * 2 : Nat) : Int) := by rw [IntKind.wrap_i64]; omega
  obtain ⟨D, hD⟩ := exq (n - P)
  rw [hD] at hw1
  by_cases hlt : P < D
  ·have hlti : (P : Int) < (D : Int) := by omega
   have HP2 := Hdq (show 2 ^ (a + 1) = P * 2 by rw [<- HP.out, Nat.pow_succ])
   have HD := Hdq hD
   clear HP hD
   go_wp2
   go_round
   case rel => exact ⟨a + 1, P * 2, by first | rfl | simp, HP2, by omega, by have := HD.out; omega⟩
   case measure => simp [intOf]; have := HD.out; omega
  ·have hlti : ¬ (P : Int) < (D : Int) := by omega
   have HE := Hdq (show P = V by
    have h := Xh (n := n) (k := a) h2 (by rw [HP.out]; exact hpn) (by rw [HP.out]; omega)
    rw [HP.out, HV.out] at h
    exact h.symm)
   clear HP hD
   go_wp2
   go_ret
   exact ⟨by rw [HE.out]; rfl, rfl⟩
theorem KR (w0 : World) (v : Value) (xs : List UInt8) (hB : Bs (fun _ => False) w0 v xs) (hl : xs.length <= 10000000) (hR : RG w0) :
  Calls Tryz.prog 130 #[v] w0 fun e w' => e = .returned (.agg ((zg xs).map u8v).toArray) /\ Fr [] w0 w' := by
 obtain ⟨va, vc, rfl, -, -, -⟩ := id hB
 obtain ⟨vn, hvn⟩ := exq (xs.length)
 rw [hvn] at hB ⊢
 have HXL := Hdq (show xs.length <= 10000000 from hl)
 obtain ⟨Z, hZ⟩ := exq (w0.heap.size)
 obtain ⟨w1, hw1⟩ := exq (w0.alloc (.cells qD 57))
 have F1 : Fr [] w0 w1 := by rw [<- hw1]; exact Fr.alloc _ _
 have HA := Hdq (show At w1 Z (.cells qD 57) by rw [<- hw1]; exact At.new hZ.symm)
 obtain ⟨w2, hw2⟩ := exq (w1.alloc (.cells #[.int .u8 0] 5))
 have F2 : Fr [] w1 w2 := by rw [<- hw2]; exact Fr.alloc _ _
 have HO := Hdq (show qi 5 w1.heap.size w2 (.slice (some ⟨w1.heap.size, 0, none⟩) 1 1) [0] from by rw [<- hw2]; exact World.ownsRow_lit (size := 1) w1 #[.int .u8 0] 1 (Nat.le_refl _) qe rfl)
 have HA2 := Hdq (HA.out.keep0 F2)
 have HAZ := HA
 have HF2 := Hdq (F1.trans F2)
 have HF1 := Hdq F1
 have HR1 := Hdq (hR.keep F1)
 have HFB := Hdq F2
 have HB := Hdq (hB.keep (F1.trans F2) qg)
 have HR := Hdq (hR.keep (F1.trans F2))
 have HSZ := Hdq F2.size
 have HZ := Hdq hZ
 clear hB hR hl F1 F2 HA hvn
 go_enter Tryz.func130, Tryz.ntmps130
 go_wp2_with (at_builtin; refine qh (ys := xs) (xs := [0]) (base := w1.heap.size) Tryz.underlying22 Tryz.infoByte rfl (.tmp 3) (.tmp 4) rfl rfl rfl HO.out HB.out (by have := HXL.out; simp; omega) HSZ.out ?_)
 clear hw1 hw2 hZ
 intro v3 w3 g1 g2
 have HF3 := Hdq (show Fr [] w1 w3 from qi.fr HO.out HFB.out g2 (Nat.le_refl _))
 have F3 : Fr (Value.slice (some ⟨w1.heap.size, 0, none⟩) 1 1).ownBlock.toList w2 w3 := Fr.grown g2 Ky
 have HO3 := Hdq (jb ((show qi 5 w1.heap.size w3 v3 (0 :: xs) from g1).bs (A := fun _ => False) (fun _ h => h.elim)))
 have HA3 := Hdq (HAZ.out.keep0 HF3.out)
 have HFW := Hdq (HF1.out.trans HF3.out)
 have HR3 := Hdq (HR1.out.keep HF3.out)
 clear g1 g2 F3 HO HB HA2
 go_wp2_with (go_at_call 31; fail)
 refine (vq w3 v3 (0 :: xs) HO3.out HR3.out.f HR3.out.k HR3.out.g (by have := HXL.out; simp; omega)).mono ?_
 rintro e w4 ⟨rfl, hf⟩
 obtain ⟨o, ho⟩ := exq (jE (0 :: xs))
 rw [ho]
 have HOO := Hdq (show zg xs = o from ho)
 have hol : o.length = 32 := by rw [<- ho, jM]
 have HOL := Hdq hol
 have HS9 := Hdq (show (Tryz.prog.info? 57).map (·.size) = some (o.map u8v).toArray.size by rw [List.size_toArray]; exact zQ o hol)
 have HA4 := Hdq (HA3.out.keep0 hf)
 have HF4 := Hdq (HFW.out.trans hf)
 clear ho hol hf
 go_wp2_with (refine ql (.tmp 2) (.tmp 6) rfl rfl (o.map u8v).toArray rfl rfl HS9.out HA4.out VB (jv _) ?_)
 intro w9 f9 a9 s9
 have HF9 := Hdq (HF4.out.then f9 (fun z hz => .inr vH))
 have HA9 := Hdq a9
 clear f9 a9 s9
 go_wp2
 refine bodyPost_ret (qR rfl _ _ Z _ rfl (qr HA9.out) Tryz.underlying57 rfl (zQ o HOL.out)) rfl ?_
 exact ⟨by rw [HOO.out], HF9.out⟩
theorem Va (w0 : World) (v : Value) (ls : List (Value × List UInt8)) (hR : RdB (fun _ => False) w0 v ls) (hl : ∀ x ∈ ls, x.2.length <= 10000000) (hn : ls.length <= 100000) (hS : RG w0) :
  Calls Tryz.prog 80 #[v] w0 fun e w' => ∃ u, e = .returned u /\ ji 57 w0.heap.size 32 w' u (dgK (ls.map fun x => zg x.2)) /\ Fr [] w0 w' := by
 obtain ⟨va, vc, rfl, hv1, hv2⟩ := jI hR
 unfold maxLen at hv2
 obtain ⟨n, hnn⟩ := exq (ls.length)
 rw [hnn] at hR hv1 hn ⊢
 have HH := Hdq (And.intro hS (And.intro hR hl))
 have HN := Hdq hnn
 have HNL := Hdq hn
 clear hl hS hR hnn hn
 obtain ⟨DL, hDL⟩ := exq ((ls.map fun x => zg x.2))
 rw [hDL]
 have HDL := Hdq hDL
 clear hDL
 have h0 := ji.lit0 (e := 57) (s := 32) w0.heap.size w0 (Nat.le_refl _)
 have HO0 := Hdq h0
 have HF0 := Hdq (show Fr [] w0 (w0.alloc (.cells #[] 57)) from Fr.alloc _ _)
 clear h0
 go_enter Tryz.func80, Tryz.ntmps80
 go_wp2
 go_loopw [3, 9] (fun o i wr => ∃ k : Nat, k <= n /\ i = .int .i64 (k : Int) /\ Hid (ji 57 w0.heap.size 32 wr o (dgK (DL.take k))) /\ Hid (Fr [] w0 wr)) (fun _ i _ => n - (intOf i).toNat)
 case atStart => exact ⟨0, by omega, rfl, by simpa [dgK] using HO0, HF0⟩
 case round =>
  clear HO0 HF0
  obtain ⟨k, hk, rfl, HO, HF⟩ := hrel
  by_cases hkn : k < n
  ·obtain ⟨x, hx⟩ : ∃ x, ls[k]? = some x := ⟨_, List.getElem?_eq_getElem qa3⟩
   obtain ⟨b, off, rfl, hc, hbx⟩ := zG (HH.out.2.1.keep HF.out qg) k x hx
   have HBX := Hdq hbx
   have HXL := Hdq (HH.out.2.2 x (List.mem_of_getElem? hx))
   have HUP := Hdq (show dgK (DL.take (k + 1)) = dgK (DL.take k) ++ [(zg x.2).map u8v] by rw [<- HDL.out, List.take_add_one, List.getElem?_map, hx]; simp [dgK])
   have hki : (k : Int) < (n : Int) := by omega
   clear hx hbx
   obtain ⟨wl, rfl⟩ : ∃ wl, wl = wr := ⟨wr, rfl⟩
   go_wp2_with (go_at_call 130; fail)
   refine (KR wl x.1 x.2 HBX.out HXL.out (HH.out.1.keep HF.out)).mono ?_
   rintro e w3 ⟨rfl, hf⟩
   obtain ⟨o, ho⟩ := exq ((zg x.2).map u8v)
   rw [ho] at HUP ⊢
   have hol : o.length = 32 := by rw [<- ho, List.length_map]; rfl
   have HOL := Hdq hol
   have HO1 := Hdq (show ∀ u ∈ o, u.oneCell' = true from by rw [<- ho]; exact jN _)
   have HO3 := Hdq (HO.out.keep0 (hf.trans (Fr.alloc w3 (.cells o.toArray 57))))
   have HF3 := Hdq ((HF.out.trans hf).trans (Fr.alloc w3 (.cells o.toArray 57)))
   have HSZ := Hdq HF3.out.size
   have HKL := Hdq (show (dgK (DL.take k)).length <= 100000 by rw [j4, List.length_take]; have := HNL.out; omega)
   clear hol ho hf HO HF hc
   go_wp2_with (first | (refine vr Tryz.underlying107 Tryz.infoArr qe qe rfl (.tmp 15) rfl o rfl HOL.out ?_) | (at_builtin; refine uA Tryz.underlying107 Tryz.infoArr qw qe rfl (.tmp 13) (.tmp 16) rfl rfl rfl (At.new rfl) HOL.out HO1.out HO3.out (by have := HKL.out; omega) (by have := HKL.out; unfold maxLen; omega) HSZ.out ?_))
   intro v' w4 ho hg
   have HO4 := Hdq (show ji 57 w0.heap.size 32 w4 v' (dgK (DL.take (k + 1))) by rw [HUP.out]; exact ho)
   have HF4 := Hdq (ji.fr HF3.out HO3.out hg (Nat.le_refl _))
   clear ho hg HO3 HF3 HUP
   go_wp2
   go_roundw
   case rel => exact ⟨k + 1, by omega, by simp, HO4, HF4⟩
   case measure => simp [intOf]; omega
  ·exact Y67
theorem qcp {base g : Nat} {w : World} {x : UInt8} (hb : base <= g) (hA : At w g (.cells #[u8v x] 5)) : qi 5 base w (.slice (some ⟨g, 0, none⟩) 1 1) [x] :=
 ⟨rfl, .inr ⟨g, 1, #[u8v x], rfl, hb, hA, Nat.le_refl _, by decide, rfl, rfl⟩⟩
noncomputable def qeM : Code := ((Tryz.f129.body.bind (qn 1)).getD .skip)
theorem qbQ (a : Go.Act) (hs : a.tmps.size = 11) (hd : a.defers = []) : a = ⟨(qd a 0 :: qd a 1 :: qd a 2 :: qd a 3 :: qd a 4 :: qd a 5 :: qd a 6 :: qd a 7 :: qd a 8 :: qd a 9 :: qd a 10 :: []).toArray, []⟩ := j6 a 11 hs hd
def Lg (Z g2 g3 g4 : Nat) (dx dy : List UInt8) (k : Nat) (b : Go.Act) (p : World) : Prop :=
 match k with
 | 0 => qi 5 Z p (qd b 5) [1]
 | 1 => qd b 6 = .slice (some ⟨g2, 0, none⟩) 32 32
 | 2 => qi 5 Z p (qd b 7) ([1] ++ dx)
 | 3 => qd b 8 = .slice (some ⟨g3, 0, none⟩) 32 32
 | 4 => qi 5 Z p (qd b 9) (([1] ++ dx) ++ dy)
 | 5 => qd b 10 = .agg ((jx dx dy).map u8v).toArray
 | 6 => At p g4 (.cells ((jx dx dy).map u8v).toArray 57)
 | 7 => At p g4 (.cells qD 57)
 | _ => True
def qdd (Z g2 g3 g4 : Nat) (dx dy : List UInt8) (k : Nat) (b : Go.Act) (p : World) : Prop :=
 match k with
 | _ => True
theorem UT (Z g2 g3 g4 : Nat) (dx dy : List UInt8) : ∀ (k : Nat) (b : Go.Act) (p p' : World), Fr [] p p' -> Lg Z g2 g3 g4 dx dy k b p -> Lg Z g2 g3 g4 dx dy k b p'
 | 0, b, p, p', hf, h => h.keep hf qg
 | 1, b, p, p', hf, h => h
 | 2, b, p, p', hf, h => h.keep hf qg
 | 3, b, p, p', hf, h => h
 | 4, b, p, p', hf, h => h.keep hf qg
 | 5, b, p, p', hf, h => h
 | 6, b, p, p', hf, h => h.keep0 hf
 | 7, b, p, p', hf, h => h.keep0 hf
 | k + 8, b, p, p', hf, h => trivial
theorem ZM (Z g2 g3 g4 : Nat) (dx dy : List UInt8) : ∀ (k : Nat) (b : Go.Act) (p p' : World), Fr [] p p' -> qdd Z g2 g3 g4 dx dy k b p -> qdd Z g2 g3 g4 dx dy k b p'
 | k, b, p, p', hf, h => trivial
theorem nd1 (Z g2 g3 g4 : Nat) (dx dy : List UInt8) (w : World) (a : Go.Act) (hsz : a.tmps.size = 11) (h2 : qd a 2 = .pointer (some ⟨g2, 0, none⟩)) (h3 : qd a 3 = .pointer (some ⟨g3, 0, none⟩)) (h4 : qd a 4 = .pointer (some ⟨g4, 0, none⟩)) (hZ : w.heap.size = Z) (h2A : At w g2 (.cells (dx.map u8v).toArray 57)) (h3A : At w g3 (.cells (dy.map u8v).toArray 57)) (h4A : At w g4 (.cells qD 57)) (hRG : RG w) (hx : dx.length = 32) (hy : dy.length = 32) (n2 : g2 ≠ g4) (n3 : g3 ≠ g4) (hgz : g4 < Z) (hg4 : ∀ b ∈ [g4], 21 < b) (Q : Exit -> Go.Act -> World -> Prop)
  (hQ : ∀ (b : Go.Act) (p : World), b.defers = a.defers -> b.tmps.size = 11 -> (∀ s, some s ∉ ([some 5, some 6, some 7, some 8, some 9, some 10, none] : List (Option Nat)) -> qd b s = qd a s) -> Fr [g4] w p -> At p g4 (.cells ((jx dx dy).map u8v).toArray 57) -> Q .normal b p) : Code.wp Tryz.prog qeM Q a w := by
 conv => arg 2; whnf
 refine qP [g4] (Lg Z g2 g3 g4 dx dy) (qdd Z g2 g3 g4 dx dy) [some 5, some 6, some 7, some 8, some 9, some 10, none] [[5], [6], [7], [8], [9], [10], [], []] [] [] [(0, 2), (2, 4), (7, 6)] qf qf qf qf qf qe ?_ ?_ ?_ ?_ ?_
 ·intro w1 hw1 k hk1 hk2
  have hk3 : 7 <= k := hk1
  have hk4 : k < 8 := hk2
  clear hk1 hk2
  rcases (show k = 7 by omega) with rfl
  ·exact h4A.keep0 hw1
 ·intro k b b' p hs h
  match k with
  | 0 => show qi 5 Z p (qd b' 5) [1]; rw [<- hs 5 qe]; exact h
  | 1 => show qd b' 6 = .slice (some ⟨g2, 0, none⟩) 32 32; rw [<- hs 6 qe]; exact h
  | 2 => show qi 5 Z p (qd b' 7) ([1] ++ dx); rw [<- hs 7 qe]; exact h
  | 3 => show qd b' 8 = .slice (some ⟨g3, 0, none⟩) 32 32; rw [<- hs 8 qe]; exact h
  | 4 => show qi 5 Z p (qd b' 9) (([1] ++ dx) ++ dy); rw [<- hs 9 qe]; exact h
  | 5 => show qd b' 10 = .agg ((jx dx dy).map u8v).toArray; rw [<- hs 10 qe]; exact h
  | 6 => show At p g4 (.cells ((jx dx dy).map u8v).toArray 57); exact h
  | 7 => show At p g4 (.cells qD 57); exact h
  | k + 8 => trivial
 ·intro k b b' p hs h
  match k with
  | k => trivial
 ·intro i hi dn b p hs ho hf hF hG hdn hdc hr
  have hi9 : i < 7 := hi
  clear hi
  match i, hi9 with
  | 0, _ =>
   refine qp _ qw ?_
   refine uR Tryz.underlying22 Tryz.infoByte rfl (.const (.int .u8 1)) rfl (.int .u8 1) rfl rfl ?_
   have hf2 : Fr [] p (p.alloc (.cells #[.int .u8 1] 5)) := Fr.alloc _ _
   obtain ⟨p', hp'⟩ : ∃ p', p.alloc (.cells #[.int .u8 1] 5) = p' := ⟨_, rfl⟩
   have hA : At p' p.heap.size (.cells #[.int .u8 1] 5) := by rw [<- hp']; exact At.new rfl
   rw [hp'] at hf2 ⊢
   clear hp'
   refine ⟨rfl, rfl, hf.trans (hf2).weak, fun k _ _ _ _ h => UT Z g2 g3 g4 dx dy k _ _ _ hf2 h, ?_, fun e _ _ h => ZM Z g2 g3 g4 dx dy e _ _ _ hf2 h, fun e he hi hx => by exact absurd he (Nat.not_lt_zero e)⟩
   refine qJ b 5 _ Y97 (fun b' => Lg Z g2 g3 g4 dx dy 0 b' p') ?_
   intro b' hd hne
   show qi 5 Z p' (qd b' 5) [1]
   rw [hd]
   exact qcp Jh hA
  | 1, _ =>
   have e0 : b.eval (.tmp 2) = .pointer (some ⟨g2, 0, none⟩) := (ho 2 qe).trans h2
   exact Y1
  | 2, _ =>
   have f0 : qi 5 Z p (qd b 5) [1] := hF 0 (show (0:Nat) < 8 by decide) (fun _ => (hr 0 qf).2) (fun c hc => by (have hq1 : c = 2 := by simpa using hc); subst hq1; exact hdn)
   have e1 : b.eval (.tmp 6) = .slice (some ⟨g2, 0, none⟩) 32 32 := fdq hF hr 1
   have f9 : At p g4 (.cells qD 57) := hF 7 (show (7:Nat) < 8 by decide) (fun h => absurd h qe) (fun c hc => by (have hq1 : c = 6 := by simpa using hc); subst hq1; exact (by cases hq : dn 6 with | false => rfl | true => (have hq2 := hdc 6 2 hq qf; rw [hdn] at hq2; cases hq2)))
   have hb : Bs (fun _ => False) p (.slice (some ⟨g2, 0, none⟩) 32 32) dx := zB (h2A.keep hf (by simpa using n2)) hx qe (fun h => h)
   refine qp _ qw ?_
   refine qh (ys := dx) (xs := [1]) (base := Z) Tryz.underlying22 Tryz.infoByte rfl (.tmp 5) (.tmp 6) rfl rfl e1 f0 hb (by simp [hx, hy]) Jh ?_
   intro v' p' g1 g9
   have hfp : Fr [g4] w p' := qi.fr f0 hf g9 (by rw [hZ]; exact Nat.le_refl _)
   have hat : At p' g4 (.cells qD 57) := f9.keep (Fr.grown (S := (qd b 5).ownBlock.toList) g9 (fun g hg => by rw [show (qd b 5).ownBlock = some g from hg]; simp)) (fun hm => by have := (f0.lt g4 vd).1; omega)
   refine ⟨rfl, rfl, hfp, fun k hki hnr hco hli h => ?_, ?_, fun _ _ _ h => h, fun e he hi hx => absurd he (Nat.not_lt_zero e)⟩
   ·match k with
    | 0 => exact absurd qe hco
    | 1 => exact h
    | 2 => exact absurd rfl hki
    | 3 => exact h
    | 4 => exact absurd (hnr.symm.trans (show js _ 12 4 2 = true by kernel_rfl)) qe
    | 5 => exact h
    | 6 => exact absurd (hnr.symm.trans (show js _ 12 6 2 = true by kernel_rfl)) qe
    | 7 => exact hat
    | k + 8 => exact trivial
   ·show qi 5 Z p' (qd (b.put (some 7) v') 7) ([1] ++ dx)
    rw [qt Y97]
    exact g1
  | 3, _ =>
   have e0 : b.eval (.tmp 3) = .pointer (some ⟨g3, 0, none⟩) := (ho 3 qe).trans h3
   exact Y1
  | 4, _ =>
   have f2 : qi 5 Z p (qd b 7) ([1] ++ dx) := hF 2 (show (2:Nat) < 8 by decide) (fun _ => (hr 2 qf).2) (fun c hc => by (have hq1 : c = 4 := by simpa using hc); subst hq1; exact hdn)
   have e1 : b.eval (.tmp 8) = .slice (some ⟨g3, 0, none⟩) 32 32 := fdq hF hr 3
   have f9 : At p g4 (.cells qD 57) := hF 7 (show (7:Nat) < 8 by decide) (fun h => absurd h qe) (fun c hc => by (have hq1 : c = 6 := by simpa using hc); subst hq1; exact (by cases hq : dn 6 with | false => rfl | true => (have hq2 := hdc 6 4 hq qf; rw [hdn] at hq2; cases hq2)))
   have hb : Bs (fun _ => False) p (.slice (some ⟨g3, 0, none⟩) 32 32) dy := zB (h3A.keep hf (by simpa using n3)) hy qe (fun h => h)
   refine qp _ qw ?_
   refine qh (ys := dy) (xs := ([1] ++ dx)) (base := Z) Tryz.underlying22 Tryz.infoByte rfl (.tmp 7) (.tmp 8) rfl rfl e1 f2 hb (by simp [hx, hy]) Jh ?_
   intro v' p' g1 g9
   have hfp : Fr [g4] w p' := qi.fr f2 hf g9 (by rw [hZ]; exact Nat.le_refl _)
   have hat : At p' g4 (.cells qD 57) := f9.keep (Fr.grown (S := (qd b 7).ownBlock.toList) g9 (fun g hg => by rw [show (qd b 7).ownBlock = some g from hg]; simp)) (fun hm => by have := (f2.lt g4 vd).1; omega)
   refine ⟨rfl, rfl, hfp, fun k hki hnr hco hli h => ?_, ?_, fun _ _ _ h => h, fun e he hi hx => absurd he (Nat.not_lt_zero e)⟩
   ·match k with
    | 0 => exact absurd (hr 2 qf).2 (by rw [hli 2 qe]; decide)
    | 1 => exact h
    | 2 => exact absurd qe hco
    | 3 => exact h
    | 4 => exact absurd rfl hki
    | 5 => exact h
    | 6 => exact absurd (hnr.symm.trans (show js _ 12 6 4 = true by kernel_rfl)) qe
    | 7 => exact hat
    | k + 8 => exact trivial
   ·show qi 5 Z p' (qd (b.put (some 9) v') 9) (([1] ++ dx) ++ dy)
    rw [qt Y97]
    exact g1
  | 5, _ =>
   have f4 : qi 5 Z p (qd b 9) (([1] ++ dx) ++ dy) := fdq hF hr 4
   have e0 : b.eval (.tmp 9) = qd b 9 := rfl
   refine qG _ qw (qq rfl) 31 _ _ rfl #[qd b 9] Y98 zC ((vq p (qd b 9) (([1] ++ dx) ++ dy) (jb (f4.bs (A := fun _ => False) (fun _ h => h.elim))) (hRG.keepS hf hg4).f (hRG.keepS hf hg4).k (hRG.keepS hf hg4).g (by simp [hx, hy])).mono ?_)
   rintro e p' ⟨rfl, hf2⟩
   refine ⟨_, rfl, hf.trans (hf2).weak, fun k _ _ _ _ h => UT Z g2 g3 g4 dx dy k _ _ _ hf2 h, ?_, fun e _ _ h => ZM Z g2 g3 g4 dx dy e _ _ _ hf2 h, fun e he hi hx => by exact absurd he (Nat.not_lt_zero e)⟩
   refine qJ b 10 _ Y97 (fun b' => Lg Z g2 g3 g4 dx dy 5 b' p') ?_
   intro b' hd hne
   show qd b' 10 = .agg ((jx dx dy).map u8v).toArray
   rw [hd]; simp [jx]
  | 6, _ =>
   have f9 : At p g4 (.cells qD 57) := hF 7 (show (7:Nat) < 8 by decide) (fun h => absurd h qe) (fun c hc => by (have hq1 : c = 6 := by simpa using hc); subst hq1; exact hdn)
   have f5 : qd b 10 = .agg ((jx dx dy).map u8v).toArray := fdq hF hr 5
   skip
   have e0 : b.eval (.tmp 4) = .pointer (some ⟨g4, 0, none⟩) := (ho 4 qe).trans h4
   have e1 : b.eval (.tmp 10) = .agg ((jx dx dy).map u8v).toArray := f5
   refine qp _ qw ?_
   refine ql (.tmp 4) (.tmp 10) rfl rfl ((jx dx dy).map u8v).toArray e0 e1 (by rw [List.size_toArray]; exact zQ _ (yr dx dy)) f9 (by rw [List.size_toArray, List.length_map, yr]; rfl) (jv _) ?_
   intro p' f1 a1 _
   refine ⟨rfl, rfl, hf.trans f1, fun k hki hnr hco hli h => ?_, a1, fun _ _ _ h => h, fun e he hi hx => absurd he (Nat.not_lt_zero e)⟩
   match k with
   | 0 => exact absurd (hr 2 qf).2 (by rw [hli 2 qe]; decide)
   | 1 => exact h
   | 2 => exact absurd (hr 4 qf).2 (by rw [hli 4 qe]; decide)
   | 3 => exact h
   | 4 => exact h.keep f1 (by simpa using hgz)
   | 5 => exact h
   | 6 => exact absurd rfl hki
   | 7 => exact absurd qe hco
   | k + 8 => exact trivial
 ·intro b p hd hs ho hf hall hex
  exact hQ b p hd (hs.trans hsz) ho hf (hall 6 qe (fun c hc => by simp at hc))
theorem Ks (w0 : World) (x y : List UInt8) (hx : x.length = 32) (hy : y.length = 32) (hR : RG w0) :
  Calls Tryz.prog 129 #[.agg (x.map u8v).toArray, .agg (y.map u8v).toArray] w0 fun e w' => e = .returned (.agg ((jx x y).map u8v).toArray) /\ Fr [] w0 w' := by
 obtain ⟨Z, hZ⟩ := exq (w0.heap.size)
 obtain ⟨xc, hxc⟩ := exq ((x.map u8v).toArray)
 obtain ⟨yc, hyc⟩ := exq ((y.map u8v).toArray)
 have HXC := Hdq hxc
 have HYC := Hdq hyc
 rw [hxc, hyc]
 have F0 : Fr [] w0 (((w0.alloc (.cells xc 57)).alloc (.cells yc 57)).alloc (.cells qD 57)) := ((Fr.alloc _ _).trans (Fr.alloc _ _)).trans (Fr.alloc _ _)
 have HX := Hdq (show At (((w0.alloc (.cells xc 57)).alloc (.cells yc 57)).alloc (.cells qD 57)) Z (.cells (x.map u8v).toArray 57) by rw [hxc]; exact (At.new hZ.symm).al.al)
 have HY := Hdq (show At (((w0.alloc (.cells xc 57)).alloc (.cells yc 57)).alloc (.cells qD 57)) (Z + 1) (.cells (y.map u8v).toArray 57) by rw [hyc]; exact (At.new vt).al)
 have HC := Hdq (show At (((w0.alloc (.cells xc 57)).alloc (.cells yc 57)).alloc (.cells qD 57)) (Z + 2) (.cells qD 57) from At.new vt)
 have HSZ := Hdq (show (((w0.alloc (.cells xc 57)).alloc (.cells yc 57)).alloc (.cells qD 57)).heap.size = Z + 3 by simp [hZ])
 have HRR := Hdq (hR.keep F0)
 have HG := Hdq (show 21 < Z by rw [<- hZ]; exact hR.g)
 obtain ⟨w1, hw1⟩ := exq ((((w0.alloc (.cells xc 57)).alloc (.cells yc 57)).alloc (.cells qD 57)))
 rw [hw1] at F0 HX HY HC HSZ HRR
 have HF := Hdq F0
 have HZ := Hdq hZ
 clear F0 hR hxc hyc
 go_enter Tryz.func129, Tryz.ntmps129
 go_wp2_with (first | (refine jD (.tmp 0) rfl rfl xc rfl ?_) | (refine jD (.tmp 1) rfl rfl yc rfl ?_))
 clear hw1 hZ
 refine nd1 (Z + 3) Z (Z + 1) (Z + 2) x y w1 _ rfl rfl rfl rfl HSZ.out HX.out HY.out HC.out HRR.out hx hy Y95 Y95 Y95 (by have := HG.out; simp; omega) _ ?_
 intro b p hd hs ho hf hA
 rw [qbQ b hs hd, show qd b 4 = .pointer (some ⟨(Z + 2), 0, none⟩) from ho 4 qe]
 have HF9 := Hdq (HF.out.then hf (fun z hz => .inr vH))
 have HA9 := Hdq hA
 clear hf ho hs hd hA
 go_wp2
 refine bodyPost_ret (qR rfl _ _ (Z + 2) _ rfl (qr HA9.out) Tryz.underlying57 rfl (zQ _ (yr x y))) rfl ?_
 exact ⟨rfl, HF9.out⟩
end Go.Proofs.YtnafknkchbfpaaaGreatDoor
