import Derived.Test.YtnafknkchbfpaaaGreatDoorSRchk
set_option maxRecDepth 1000000
set_option maxHeartbeats 8000000
namespace Go.Proofs.YtnafknkchbfpaaaGreatDoor
open Go.RowKit Go.Bl
set_option linter.unusedVariables false
theorem qcD (a : Go.Act) (hs : a.tmps.size = 68) (hd : a.defers = []) : a = ⟨(qd a 0 :: qd a 1 :: qd a 2 :: qd a 3 :: qd a 4 :: qd a 5 :: qd a 6 :: qd a 7 :: qd a 8 :: qd a 9 :: qd a 10 :: qd a 11 :: qd a 12 :: qd a 13 :: qd a 14 :: qd a 15 :: qd a 16 :: qd a 17 :: qd a 18 :: qd a 19 :: qd a 20 :: qd a 21 :: qd a 22 :: qd a 23 :: qd a 24 :: qd a 25 :: qd a 26 :: qd a 27 :: qd a 28 :: qd a 29 :: qd a 30 :: qd a 31 :: qd a 32 :: qd a 33 :: qd a 34 :: qd a 35 :: qd a 36 :: qd a 37 :: qd a 38 :: qd a 39 :: qd a 40 :: qd a 41 :: qd a 42 :: qd a 43 :: qd a 44 :: qd a 45 :: qd a 46 :: qd a 47 :: qd a 48 :: qd a 49 :: qd a 50 :: qd a 51 :: qd a 52 :: qd a 53 :: qd a 54 :: qd a 55 :: qd a 56 :: qd a 57 :: qd a 58 :: qd a 59 :: qd a 60 :: qd a 61 :: qd a 62 :: qd a 63 :: qd a 64 :: qd a 65 :: qd a 66 :: qd a 67 :: []).toArray, []⟩ := j6 a 68 hs hd
noncomputable def qef : Code := ((Tryz.f117.body.bind (qn 6)).getD .skip)
theorem st6 (w : World) (a : Go.Act) (hsz : a.tmps.size = 68) (x P A C : Nat) (hq : Int.tdiv (x : Int) (P : Int) = (A : Int)) (hq1 : IntKind.i64.wrap (A : Int) = (A : Int)) (hq2 : (x : Int) / (P : Int) = (A : Int)) (hq3 : ¬ (P : Int) = 0) (hq4 : ¬ P = 0) (hr : Int.tmod (x : Int) (P : Int) = (C : Int)) (hr1 : IntKind.i64.wrap (C : Int) = (C : Int)) (hr2 : (x : Int) % (P : Int) = (C : Int)) (h2 : qd a 2 = .int .i64 (x : Int)) (h7 : qd a 7 = .int .i64 (P : Int)) (Q : Exit -> Go.Act -> World -> Prop)
  (hQ : ∀ (b : Go.Act) (p : World), b.defers = a.defers -> b.tmps.size = 68 -> (∀ s, s ∉ ([24, 25, 26, 27, 28, 29, 9, 10] : List Nat) -> qd b s = qd a s) -> qd b 9 = .int .i64 (A : Int) -> qd b 10 = .int .i64 (C : Int) -> Fr [] w p -> Q .normal b p) : Code.wp Tryz.prog qef Q a w := by
 conv => arg 2; whnf
 refine qU qf qf [some 24, some 25, some 26, some 27, some 28, some 29, some 9, some 10] [] [.rd (.int .i64 (x : Int)) 0, .rd (.int .i64 (P : Int)) 0, .rd (.int .i64 (A : Int)) 0, .rd (.int .i64 (x : Int)) 0, .rd (.int .i64 (P : Int)) 0, .rd (.int .i64 (C : Int)) 0, .rd (.int .i64 (A : Int)) 0, .rd (.int .i64 (C : Int)) 0] (fun cj => undef) (fun s g p => Fr [] w p) qf qw xz qf qf qe ?_ ⟨?_, ?_, ?_, ?_, ?_, ?_, ?_, ?_, trivial⟩ ?_
 ·exact Y85
 ·refine ⟨⟨24, rfl⟩, .inl rfl, fun b p s g hs hlow hS h => ?_⟩
  have e0 := h.eo qe h2
  exact Y0
 ·refine ⟨⟨25, rfl⟩, .inl rfl, fun b p s g hs hlow hS h => ?_⟩
  have e0 := h.eo qe h7
  exact Y0
 ·refine ⟨⟨26, rfl⟩, .inl rfl, fun b p s g hs hlow hS h => ?_⟩
  have e0 := h.er 0 24 qf rfl rfl
  have e1 := h.er 1 25 qf rfl rfl
  refine gw0 rfl rfl ?_
  obtain ⟨ρ, hρ, ec⟩ := evx b
  rw [hρ] at e0 e1 ⊢
  unfold execOp; simp [go_sem, e0, e1, ec, hq, hq1, hq2, hq3, hq4]
 ·refine ⟨⟨27, rfl⟩, .inl rfl, fun b p s g hs hlow hS h => ?_⟩
  have e0 := h.eo qe h2
  exact Y0
 ·refine ⟨⟨28, rfl⟩, .inl rfl, fun b p s g hs hlow hS h => ?_⟩
  have e0 := h.eo qe h7
  exact Y0
 ·refine ⟨⟨29, rfl⟩, .inl rfl, fun b p s g hs hlow hS h => ?_⟩
  have e0 := h.er 3 27 qf rfl rfl
  have e1 := h.er 4 28 qf rfl rfl
  refine gw0 rfl rfl ?_
  obtain ⟨ρ, hρ, ec⟩ := evx b
  rw [hρ] at e0 e1 ⊢
  unfold execOp; simp [go_sem, e0, e1, ec, hr, hr1, hr2, hq3, hq4]
 ·refine ⟨⟨9, rfl⟩, .inl rfl, fun b p s g hs hlow hS h => ?_⟩
  have e0 := h.er 2 26 qf rfl rfl
  exact Y0
 ·refine ⟨⟨10, rfl⟩, .inl rfl, fun b p s g hs hlow hS h => ?_⟩
  have e0 := h.er 5 29 qf rfl rfl
  exact Y0
 ·intro b p h1 h2 h3 h4 h5
  obtain ⟨g, h4, h6⟩ := h4
  have r9 : qd b 9 = .int .i64 (A : Int) := h5 6 (.int .i64 (A : Int)) _ 9 rfl rfl
  have r10 : qd b 10 = .int .i64 (C : Int) := h5 7 (.int .i64 (C : Int)) _ 10 rfl rfl
  exact hQ b p h1 (h2.trans hsz) (fun s hs => h3 s (fun hm => hs vd)) r9 r10 h4
theorem Kb (w0 : World) (n : Nat) (hn : n <= 1048576) : Calls Tryz.prog 116 #[.int .i64 (n : Int)] w0 fun e w' => e = .returned (.int .i64 ((jJ n : Nat) : Int)) /\ w0 = w' := by
 obtain ⟨V, hV⟩ := exq (jJ n)
 have HV := Hdq hV
 rw [hV]
 clear hV
 go_enter Tryz.func116, Tryz.ntmps116
 go_wp2
 go_loop [3, 4] (fun b p => ∃ k P : Nat, k <= 9 /\ b = .int .i64 (1 + (k : Int)) /\ p = .int .i64 (P : Int) /\ Hid (4 ^ (1 + k) = P) /\ Hid (zV (10 - k) (1 + k) n = V)) (fun b _ => 11 - (intOf b).toNat)
 case atStart => exact ⟨0, 4, by omega, rfl, rfl, Hdq rfl, Hdq HV.out⟩
 case round =>
  obtain ⟨k, P, hk, rfl, rfl, HP, HB⟩ := hrel
  have hP : P <= 1048576 := by
   have h := HP.out
   have h2 : (4 : Nat) ^ (1 + k) <= 4 ^ 10 := Nat.pow_le_pow_right qe Y95
   rw [h] at h2
   exact Nat.le_trans h2 qe
  by_cases hlt : P < n
  ·have hk9 : k < 9 := by
    rcases Nat.lt_or_ge k 9 with h | h
    ·exact h
    ·exfalso
     have h2 : (4 : Nat) ^ (1 + 9) <= 4 ^ (1 + k) := Nat.pow_le_pow_right qe Y95
     rw [HP.out] at h2
     have h3 : (4 : Nat) ^ (1 + 9) = 1048576 := by decide
     omega
   have HB2 := Hdq (show zV (10 - (k + 1)) (1 + (k + 1)) n = V by
    have h := HB.out
    rw [show 10 - k = (10 - (k + 1)) + 1 by omega, J8 (by rw [HP.out]; exact hlt)] at h
    exact h)
   have HP2 := Hdq (show 4 ^ (1 + (k + 1)) = P * 4 by rw [<- HP.out, show 1 + (k + 1) = (1 + k) + 1 by omega, Nat.pow_succ])
   have hlti : (P : Int) < (n : Int) := by omega
   have hw : IntKind.i64.wrap ((P : Int) * 4) = ((P * 4 : Nat) : Int) := by rw [IntKind.wrap_i64]; omega
   clear HB HP
   go_wp2
   go_round
   case rel => exact ⟨k + 1, P * 4, by omega, by first | (simp; omega) | (congr 1; omega) | (congr 1; push_cast; omega), by first | rfl | simp, HP2, HB2⟩
   case measure => simp [intOf]; omega
  ·have hlti : ¬ (P : Int) < (n : Int) := by omega
   have HE := Hdq (show 1 + (k : Int) = (V : Int) by
    have h := HB.out
    rw [Zk (by rw [HP.out]; exact hlt)] at h
    omega)
   clear HB HP
   go_wp2
   go_ret
   exact ⟨by rw [HE.out]; rfl, rfl⟩
theorem qab (l : List UInt8) (j : Nat) (h : j < 8) : uH (l.take j) < 72057594037927936 := by
 have h1 := Jn (l.take j).length (l.take j) rfl
 have h2 : (256 : Nat) ^ (l.take j).length <= 256 ^ 7 := Nat.pow_le_pow_right qe JP
 have h3 : (256 : Nat) ^ 7 = 72057594037927936 := by decide
 omega
theorem Zv (w0 : World) (kv : Value) (key : List UInt8) (bw x : Nat) (hK : Bs (fun b => w0.heap.size <= b) w0 kv key) (hkl : key.length <= 90000000) (hR : RG w0) (h1 : 1 <= bw) (h2 : bw <= 10) (hx : x < 4 ^ bw) :
  Calls Tryz.prog 117 #[kv, .int .i64 (bw : Int), .int .i64 (x : Int)] w0 fun e w' => e = .returned (.int .i64 ((ju bw (fnS key bw) x : Nat) : Int)) /\ Fr [] w0 w' := by
 obtain ⟨ka, kc, rfl, -, -, -⟩ := id hK
 obtain ⟨kn, hkn⟩ := exq (key.length)
 rw [hkn] at hK ⊢
 have HKL := Hdq hkl
 clear hkn hkl
 have hh := uN hx
 have hx4 : x < 1048576 := Nat.lt_of_lt_of_le hx (Nat.le_trans (Nat.pow_le_pow_right qe h2) qe)
 obtain ⟨P, hP⟩ := exq (2 ^ bw)
 have hpw : P <= 1024 := by rw [<- hP]; exact Nat.le_trans (Nat.pow_le_pow_right qe h2) qe
 have hp0 : 0 < P := by rw [<- hP]; exact Nat.two_pow_pos bw
 rw [hP] at hh
 obtain ⟨p0, hp⟩ : ∃ q : Nat × Nat, (x / P, x % P) = q := ⟨_, rfl⟩
 have HQ1 := Hdq (show x / P = p0.1 by rw [<- hp])
 have HQ2 := Hdq (show x % P = p0.2 by rw [<- hp])
 have HB0 := Hdq (show p0.1 < 2 ^ bw /\ p0.2 < 2 ^ bw by rw [hP, <- hp]; exact hh)
 have HE := Hdq (show (zI (fnS key bw) 4 p0).1 * P + (zI (fnS key bw) 4 p0).2 = ju bw (fnS key bw) x by rw [<- hp, <- hP]; rfl)
 obtain ⟨V, hV⟩ := exq (ju bw (fnS key bw) x)
 have HVL := Hdq (show V < 1048576 by rw [<- hV]; exact Nat.lt_of_lt_of_le (xM (zW key bw) hx) (Nat.le_trans (Nat.pow_le_pow_right qe h2) qe))
 rw [hV] at HE ⊢
 have HKR := Hdq (fun wi (h : Fr [] w0 wi) => hK.mono (A' := fun b => wi.heap.size <= b) h qg (fun b hb => .inl (Nat.le_trans h.size hb)))
 have HR := Hdq (fun wi (h : Fr [] w0 wi) => hR.keep h)
 have HP := Hdq hP
 have HX := Hdq (And.intro hx4 (And.intro hpw (And.intro hp0 h2)))
 clear hK hR h1 h2 hx hh hp hV hpw hp0 hP hx4
 go_enter Tryz.func117, Tryz.ntmps117
 go_wp2
 go_loop [7, 8] (fun s i => ∃ j S : Nat, j <= bw /\ i = .int .i64 (j : Int) /\ s = .int .i64 (S : Int) /\ Hid (2 ^ j = S)) (fun _ i => bw - (intOf i).toNat)
 case atStart => exact ⟨0, 1, Nat.zero_le _, rfl, rfl, Hdq rfl⟩
 case round =>
  obtain ⟨j, S, hj, rfl, rfl, HS⟩ := hrel
  by_cases hlt : j < bw
  ·have HS2 := Hdq (show 2 ^ (j + 1) = S * 2 by rw [<- HS.out, Nat.pow_succ])
   have hSP : S <= 1024 := by
    have h := HX.out.2.2.2
    rw [<- HS.out]
    exact Nat.le_trans (Nat.pow_le_pow_right qe (show j <= 10 by omega)) qe
   have hw : IntKind.i64.wrap ((S : Int) * 2) = ((S * 2 : Nat) : Int) := by rw [IntKind.wrap_i64]; omega
   have hji : (j : Int) < (bw : Int) := by omega
   have hj10 : (j : Int) < 10 := by have := HX.out.2.2.2; omega
   clear HS
   go_wp2
   go_round
   case rel => exact ⟨j + 1, S * 2, by omega, by go_num, by first | rfl | simp, HS2⟩
   case measure => simp [intOf]; omega
  ·obtain rfl : j = bw := by omega
   obtain rfl : S = P := HS.out.symm.trans HP.out
   have hji : ¬ (j : Int) < (j : Int) := by omega
   clear HS
   go_wp2
   refine st6 w0 _ rfl x S p0.1 p0.2 (by rw [<- Int.ofNat_tdiv, HQ1.out]) (by rw [IntKind.wrap_i64]; have h1 := HQ1.out; have h2 := HX.out; have h3 := Nat.div_le_self x S; omega) (by rw [<- Int.natCast_ediv, HQ1.out]) (by have := HX.out.2.2.1; omega) (by have := HX.out.2.2.1; omega) (by rw [<- Int.ofNat_tmod, HQ2.out]) (by rw [IntKind.wrap_i64]; have h1 := HQ2.out; have h2 := HX.out; have h3 := Nat.mod_lt x h2.2.2.1; omega) (by rw [<- Int.natCast_emod, HQ2.out]) rfl rfl _ ?_
   intro b p hd hs ho r9 r10 hf
   rw [qcD b hs hd, r9, r10, show qd b 0 = .slice ka kn kc from ho 0 qe, show qd b 1 = .int .i64 (j : Int) from ho 1 qe, show qd b 7 = .int .i64 (S : Int) from ho 7 qe]
   have HF0 := Hdq hf
   clear hf ho hs hd r9 r10
   go_wp2
   go_loopw [9, 10, 11] (fun l r i wr => ∃ t : Nat, t <= 4 /\ i = .int .i64 (t : Int) /\ l = .int .i64 (((zI (fnS key j) t p0).1 : Nat) : Int) /\ r = .int .i64 (((zI (fnS key j) t p0).2 : Nat) : Int) /\ Hid (Fr [] w0 wr)) (fun _ _ i _ => 4 - (intOf i).toNat)
   case atStart => exact ⟨0, by omega, rfl, rfl, rfl, HF0⟩
   case round =>
    clear HF0
    obtain ⟨t, ht, rfl, rfl, rfl, HF⟩ := hrel
    obtain ⟨a, ha⟩ := exq ((zI (fnS key j) t p0).1)
    obtain ⟨c, hc⟩ := exq ((zI (fnS key j) t p0).2)
    have HLT := Hdq (ym (zW key j) t p0 HB0.out.1 HB0.out.2)
    rw [ha, hc, HP.out] at HLT
    by_cases ht4 : t < 4
    ·have HU := Hdq (show zI (fnS key j) (t + 1) p0 = (c, a ^^^ fnS key j t c) by rw [<- ha, <- hc]; rfl)
     rw [ha, hc]
     have hti : (t : Int) < 4 := by omega
     have hb8 : IntKind.u8.wrap (t : Int) = ((b8 (t : Int)).toNat : Int) := UC t
     clear ha hc
     obtain ⟨wl, rfl⟩ : ∃ wl, wl = wr := ⟨wr, rfl⟩
     obtain ⟨w1, hw1⟩ := exq (wl.alloc (.cells #[.int .u8 ((b8 (t : Int)).toNat : Int)] 5))
     have F1 : Fr [] wl w1 := by rw [<- hw1]; exact Fr.alloc _ _
     have HO1 := Hdq (show qi 5 wl.heap.size w1 (.slice (some ⟨wl.heap.size, 0, none⟩) 1 1) [b8 (t : Int)] from by rw [<- hw1]; exact World.ownsRow_lit (size := 1) wl #[.int .u8 ((b8 (t : Int)).toNat : Int)] 1 (Nat.le_refl _) qe rfl)
     have HF1 := Hdq (HF.out.trans F1)
     have HFl := Hdq F1
     clear F1
     go_wp2_with (go_at_call 62; fail)
     clear hw1
     refine (Qm w1 (c : Int)).mono ?_
     rintro e w2 ⟨u2, rfl, hu, hf⟩
     have HF2 := Hdq (HF1.out.trans hf)
     have HFl2 := Hdq (HFl.out.trans hf)
     have HO2 := Hdq (HO1.out.keep hf qg)
     have HU2 := Hdq (hu.bs (A := fun _ => False) (fun _ h => h.elim))
     have HSL := Hdq HFl2.out.size
     clear hu hf HO1 HF1 HFl
     go_wp2_with (at_builtin; refine qh (ys := beK 8 (c : Int)) (xs := [b8 (t : Int)]) (base := wl.heap.size) Tryz.underlying22 Tryz.infoByte rfl (.tmp 37) (.tmp 39) rfl rfl rfl HO2.out HU2.out (by simp [zf]) HSL.out ?_)
     intro v3 w3 g1 g2
     have HF3 := Hdq (HF.out.trans (qi.fr HO2.out HFl2.out g2 (Nat.le_refl _)))
     have HO3 := Hdq (jb ((show qi 5 wl.heap.size w3 v3 (b8 (t : Int) :: beK 8 (c : Int)) from g1).bs (A := fun _ => False) (fun _ h => h.elim)))
     clear g1 g2 HO2 HU2 HSL HF2 HFl2
     go_wp2_with (go_at_call 102; fail)
     refine (Qw w3 (.slice ka kn kc) v3 key (b8 (t : Int) :: beK 8 (c : Int)) (HKR.out _ HF3.out) HO3.out HKL.out (by simp [zf]) (HR.out _ HF3.out)).mono ?_
     rintro e w4 ⟨rfl, hf⟩
     obtain ⟨d, hd⟩ := exq (zm key (b8 (t : Int) :: beK 8 (c : Int)))
     rw [hd]
     have hdl : d.length = 32 := by rw [<- hd]; exact Qc _ _
     have HFN := Hdq (show uH (d.take 8) % S = fnS key j t c by rw [<- hd, <- HP.out]; rfl)
     have HSD := Hdq (show (Tryz.prog.info? 57).map (·.size) = some (d.map u8v).toArray.size by rw [List.size_toArray, List.length_map, hdl]; kernel_rfl)
     have HSE := Hdq (show ((qD : Array Value)).size = (d.map u8v).toArray.size by
      have h : (d.map u8v).toArray.size = 32 := by rw [List.size_toArray, List.length_map, hdl]
      exact h.symm)
     obtain ⟨g, hg⟩ := exq (w4.heap.size)
     obtain ⟨w5, hw5⟩ := exq (w4.alloc (.cells (d.map u8v).toArray 57))
     have F5 : Fr [] w4 w5 := by rw [<- hw5]; exact Fr.alloc _ _
     have HA5 := Hdq (show At w5 g (.cells (d.map u8v).toArray 57) by rw [<- hw5]; exact At.new hg.symm)
     have HF5 := Hdq ((HF3.out.trans hf).trans F5)
     obtain ⟨L, hL⟩ := exq (d.take 8)
     rw [hL] at HFN
     have HL8 := Hdq (show L.length = 8 by rw [<- hL, List.length_take, hdl]; rfl)
     have HNL := Hdq (show uH L < 18446744073709551616 by rw [<- hL]; exact JC d)
     have HC := Hdq (show ∀ j, j < 8 -> w5.cell? ⟨g, j, none⟩ = some (.int .u8 ((L[j]?.getD 0).toNat : Int)) from fun j hj => by
      rw [HA5.out.cell, List.getElem?_toArray, List.getElem?_map, <- hL, List.getElem?_take, if_pos hj, List.getElem?_eq_getElem (by rw [hdl]; omega)]
      rfl)
     have HG := Hdq hg
     clear hd hdl hf F5 HF3 HO3 HA5 hL hb8 HF
     go_wp2_with (refine qy (.tmp 12) (.tmp 41) rfl rfl (d.map u8v).toArray (congrArg (fun n => Value.pointer (some ⟨n, 0, none⟩)) HG.out.symm) rfl HSD.out HSE.out (jv _) ?_)
     clear hw5 hg
     go_loop [13, 44] (fun x i => ∃ j : Nat, j <= 8 /\ i = .int .i64 (j : Int) /\ x = .int .u64 ((uH (L.take j) : Nat) : Int)) (fun _ i => 8 - (intOf i).toNat)
     case atStart => exact ⟨0, by omega, rfl, rfl⟩
     case round =>
      obtain ⟨q, hq, rfl, rfl⟩ := hrel
      by_cases hq8 : q < 8
      ·have c1 := HC.out q hq8
       obtain ⟨cc, hcc⟩ := exq (L[q]?.getD 0)
       rw [hcc] at c1
       have hst := xI L q (by rw [HL8.out]; exact hq8)
       have hLq : L[q]'(by rw [HL8.out]; exact hq8) = cc := by rw [<- hcc, List.getElem?_eq_getElem (by rw [HL8.out]; exact hq8)]; rfl
       rw [hLq] at hst
       have hy8 := qab L q hq8
       have hcl := cc.toNat_lt
       have hcw : IntKind.u64.wrap (cc.toNat : Int) = (cc.toNat : Int) := by rw [IntKind.wrap_u64]; omega
       have hqi : (q : Int) < 8 := by omega
       obtain ⟨y, hy⟩ := exq (uH (L.take q))
       obtain ⟨z, hz⟩ := exq (uH (L.take (q + 1)))
       rw [hy] at hst hy8
       rw [hz] at hst
       have hw1 : IntKind.u64.wrap ((y : Int) * 256) = ((y * 256 : Nat) : Int) := by rw [IntKind.wrap_u64]; omega
       have hw2 : IntKind.u64.wrap (((y * 256 : Nat) : Int) + (cc.toNat : Int)) = (z : Int) := by rw [IntKind.wrap_u64]; omega
       obtain ⟨y2, hy2⟩ := exq (y * 256)
       rw [hy2] at hw1 hw2
       have HZ := Hdq hz
       rw [hy]
       clear hcc hLq hst hy8 hcl hy hz hy2
       go_wp2
       go_round
       case rel => exact ⟨q + 1, by omega, by simp, by rw [HZ.out]⟩
       case measure => simp [intOf]; omega
      ·obtain rfl : q = 8 := by omega
       rw [List.take_of_length_le (by rw [HL8.out]; exact Nat.le_refl _)]
       obtain ⟨N, hN⟩ := exq (uH L)
       rw [hN] at HFN HNL ⊢
       obtain ⟨f, hf⟩ := exq (fnS key j t c)
       rw [hf] at HFN HU
       have hS0 := HX.out.2.2.1
       have hS1 := HX.out.2.1
       have hfl : f < S := by rw [<- HFN.out]; exact Nat.mod_lt _ hS0
       have hm1 : (N : Int) % (S : Int) = (f : Int) := by rw [<- Int.natCast_emod, HFN.out]
       have hm2 : Int.tmod (N : Int) (S : Int) = (f : Int) := by rw [<- Int.ofNat_tmod, HFN.out]
       have hm3 : IntKind.u64.wrap (f : Int) = (f : Int) := by rw [IntKind.wrap_u64]; omega
       have hm4 : IntKind.i64.wrap (f : Int) = (f : Int) := by rw [IntKind.wrap_i64]; omega
       have hm5 : IntKind.u64.wrap (S : Int) = (S : Int) := by rw [IntKind.wrap_u64]; omega
       have hm6 : ¬ (S : Int) = 0 := by omega
       have hm7 : ((S : Int) == 0) = false := by rw [beq_eq_false_iff_ne]; exact hm6
       have hxx : bits .xor .i64 (a : Int) (f : Int) = ((a ^^^ f : Nat) : Int) := ve a f (by have := HLT.out; omega) Y95
       have hqi : ¬ (8 : Int) < 8 := by decide
       clear hN hf hfl hS0 hS1 hq8 hq HNL HC HLT
       go_wp2
       go_roundw
       case rel => exact ⟨t + 1, by omega, by simp, by rw [HU.out], by rw [HU.out], HF5⟩
       case measure => simp [intOf]; omega
    ·obtain rfl : t = 4 := by omega
     rw [ha, hc] at HE ⊢
     have hw1 : IntKind.i64.wrap ((a : Int) * (S : Int)) = ((a * S : Nat) : Int) := by
      rw [IntKind.wrap_i64]
      have h1 := HE.out
      have h2 := HVL.out
      have h3 : ((a * S : Nat) : Int) = (a : Int) * (S : Int) := by simp
      rw [<- h3]
      omega
     have hw2 : IntKind.i64.wrap (((a * S : Nat) : Int) + (c : Int)) = (V : Int) := by
      rw [IntKind.wrap_i64]
      have h1 := HE.out
      have h2 := HVL.out
      omega
     obtain ⟨q, hq⟩ := exq (a * S)
     rw [hq] at hw1 hw2
     have hti : ¬ (4 : Int) < 4 := by decide
     clear ha hc hq HE HLT ht4 ht
     go_wp2
     exact Y82
def qbS (f : Nat -> Nat) (n K y : Nat) : Nat := if y < n then 0 else Lz f n K y
theorem YR (w0 : World) (kv : Value) (key : List UInt8) (n x : Nat) (hK : Bs (fun b => w0.heap.size <= b) w0 kv key) (hkl : key.length <= 90000000) (hR : RG w0) (hn : n <= 1048576) (hx : x < n) :
  Calls Tryz.prog 70 #[kv, .int .i64 (n : Int), .int .i64 (x : Int)] w0 fun e w' => e = .returned (.int .i64 ((jU key n x : Nat) : Int)) /\ Fr [] w0 w' := by
 obtain ⟨ka, kc, rfl, -, -, -⟩ := id hK
 obtain ⟨kn, hkn⟩ := exq (key.length)
 rw [hkn] at hK ⊢
 have HKL := Hdq hkl
 have HKR := Hdq (fun wi (h : Fr [] w0 wi) => hK.mono (A' := fun b => wi.heap.size <= b) h qg (fun b hb => .inl (Nat.le_trans h.size hb)))
 have HR := Hdq (fun wi (h : Fr [] w0 wi) => hR.keep h)
 obtain ⟨K, k1, k2, k3, k4⟩ := yb (zW key (jJ n)) (uZ n Y95) hx
 have HBL := Hdq (yU hn)
 have hx4 : x < 4 ^ jJ n := Nat.lt_of_lt_of_le hx (uZ n Y95)
 have HIT := Hdq (fun j => Jr (w := jJ n) (f := ju (jJ n) (fnS key (jJ n))) (fun x h => xM (zW key (jJ n)) h) hx4 j)
 have HRB := Hdq (fun w => Kb w n hn)
 obtain ⟨V, hV⟩ := exq (jU key n x)
 have hV2 : toN (jJ n) n (fnS key (jJ n)) x = V := hV
 rw [hV2] at k2 k3
 rw [hV]
 obtain ⟨bw, hbw⟩ := exq (jJ n)
 rw [hbw] at k2 k4 HBL HIT HRB hx4
 have HK := Hdq (And.intro k1 (And.intro k2 (And.intro k3 k4)))
 have HX4 := Hdq hx4
 clear hK hR hkl hkn k1 k2 k3 k4 hV hV2 hbw hx4 hx hn
 go_enter Tryz.func70, Tryz.ntmps70
 go_wp2_with (go_at_call 116; fail)
 refine (HRB.out w0).mono ?_
 rintro e w1 ⟨rfl, rfl⟩
 go_wp2_with (go_at_call 117; fail)
 refine (Zv w0 (.slice ka kn kc) key bw x (HKR.out _ (Fr.refl _ _)) HKL.out (HR.out _ (Fr.refl _ _)) HBL.out.1 HBL.out.2 HX4.out).mono ?_
 rintro e w2 ⟨rfl, hf⟩
 have HF := Hdq hf
 clear hf
 go_wp2
 go_loopw [8] (fun y wr => ∃ j : Nat, 1 <= j /\ j <= K /\ y = .int .i64 ((qV (ju bw (fnS key bw)) j x : Nat) : Int) /\ Hid (Fr [] w0 wr)) (fun y wr => qbS (ju bw (fnS key bw)) n K (kN y))
 case atStart => exact ⟨1, Nat.le_refl _, HK.out.1, rfl, HF⟩
 case round =>
  clear HF
  obtain ⟨j, hj1, hj, rfl, HF⟩ := hrel
  by_cases hjK : j = K
  ·subst hjK
   rw [HK.out.2.1]
   have hlt := HK.out.2.2.1
   have hlti : ¬ (n : Int) <= (V : Int) := by omega
   clear hlt
   go_wp2
   exact Y82
  ·have hjl : j < K := by omega
   have hnl := HK.out.2.2.2 j hj1 hjl
   have HCJ := Hdq (Qi K x qcA HK.out.2.2.2 K j Y95 hjl)
   have HCN := Hdq (fun (h : j + 1 < K) => Qi K x qcA HK.out.2.2.2 K (j + 1) Y95 h)
   have HNN := Hdq (fun (h : j + 1 < K) => HK.out.2.2.2 (j + 1) Y95 h)
   have HIJ := Hdq (HIT.out j)
   have HU := Hdq (show ju bw (fnS key bw) (qV (ju bw (fnS key bw)) j x) = qV (ju bw (fnS key bw)) (j + 1) x from rfl)
   obtain ⟨y, hy⟩ := exq (qV (ju bw (fnS key bw)) j x)
   rw [hy] at hnl HCJ HIJ HU ⊢
   have HNL := Hdq hnl
   have hnli : (n : Int) <= (y : Int) := by omega
   have HJ := Hdq (And.intro hj1 hjl)
   clear hy hnl hj1 hj hjK hjl
   obtain ⟨wl, rfl⟩ : ∃ wl, wl = wr := ⟨wr, rfl⟩
   go_wp2_with (go_at_call 117; fail)
   refine (Zv wl (.slice ka kn kc) key bw y (HKR.out _ HF.out) HKL.out (HR.out _ HF.out) HBL.out.1 HBL.out.2 HIJ.out).mono ?_
   rintro e w4 ⟨rfl, hf⟩
   have HF2 := Hdq (HF.out.trans hf)
   rw [HU.out]
   obtain ⟨z, hz⟩ := exq (qV (ju bw (fnS key bw)) (j + 1) x)
   have HZ := Hdq hz
   rw [hz]
   clear hf HF hz
   go_wp2
   go_roundw
   case rel => exact ⟨j + 1, by omega, by have := HJ.out; omega, by rw [HZ.out], HF2⟩
   case measure =>
    have a1 := HCJ.out
    have a3 := HNL.out
    have a4 := HJ.out
    have a5 := HNN.out
    have a2 := HCN.out
    rw [HZ.out] at a2 a5
    simp only [kN, Int.toNat_natCast]
    rw [show qbS (ju bw (fnS key bw)) n K y = K - j from (if_neg a3).trans a1]
    by_cases h9 : z < n
    ·rw [show qbS (ju bw (fnS key bw)) n K z = 0 from if_pos h9]; omega
    ·have h8 : j + 1 < K := by
      rcases Nat.lt_or_ge (j + 1) K with h | h
      ·exact h
      ·exfalso
       have e : j + 1 = K := by omega
       have b1 := HK.out.2.1
       rw [<- e, HZ.out] at b1
       exact h9 (by rw [b1]; exact HK.out.2.2.1)
     rw [show qbS (ju bw (fnS key bw)) n K z = K - (j + 1) from (if_neg h9).trans (a2 h8)]
     omega
theorem Zl (w0 : World) (kv : Value) (key : List UInt8) (i : Int) (hK : Bs (fun b => w0.heap.size <= b) w0 kv key) (hkl : key.length <= 90000000) (hR : RG w0) (h0 : 0 <= i) (h1 : i <= 1099511627776) :
  Calls Tryz.prog 71 #[kv, .int .i64 i] w0 fun e w' => ∃ u, e = .returned (.tuple #[u, .int .i64 0]) /\ qi 5 w0.heap.size w' u (zT key i) /\ Fr [] w0 w' := by
 obtain ⟨ka, kc, rfl, -, -, -⟩ := id hK
 obtain ⟨kn, hkn⟩ := exq (key.length)
 rw [hkn] at hK ⊢
 have HKL := Hdq hkl
 have HKR := Hdq (fun wi (h : Fr [] w0 wi) => hK.mono (A' := fun b => wi.heap.size <= b) h qg (fun b hb => .inl (Nat.le_trans h.size hb)))
 have HR := Hdq (fun wi (h : Fr [] w0 wi) => hR.keep h)
 have h2 : ¬ i < 0 := by omega
 have h3 : ¬ (1099511627776 : Int) < i := by omega
 clear hK hR hkl hkn h0 h1
 go_enter Tryz.func71, Tryz.ntmps71
 go_wp2_with (go_at_call 62; fail)
 refine (Qm w0 i).mono ?_
 rintro e w2 ⟨u2, rfl, hu, hf⟩
 have HF2 := Hdq hf
 have HU2 := Hdq (jb (hu.bs (A := fun _ => False) (fun _ h => h.elim)))
 clear hu hf
 go_wp2_with (go_at_call 102; fail)
 refine (Qw w2 (.slice ka kn kc) u2 key (beK 8 i) (HKR.out _ HF2.out) HU2.out HKL.out (by rw [zf]; decide) (HR.out _ HF2.out)).mono ?_
 rintro e wp ⟨rfl, hf⟩
 obtain ⟨d, hd⟩ := exq (zm key (beK 8 i))
 rw [hd]
 have hdl : d.length = 32 := by rw [<- hd]; exact Qc _ _
 have HT := Hdq (show zT key i = d.take 8 by rw [<- hd]; rfl)
 have HSD := Hdq (show (Tryz.prog.info? 57).map (·.size) = some (d.map u8v).toArray.size by rw [List.size_toArray, List.length_map, hdl]; kernel_rfl)
 have HSE := Hdq (show ((qD : Array Value)).size = (d.map u8v).toArray.size by
  have h : (d.map u8v).toArray.size = 32 := by rw [List.size_toArray, List.length_map, hdl]
  exact h.symm)
 have hf2 := HF2.out.trans hf
 have GD : Fr [] wp (wp.alloc (.cells (d.map u8v).toArray 57)) := Fr.alloc _ _
 have GE : Fr [] (wp.alloc (.cells (d.map u8v).toArray 57)) ((wp.alloc (.cells (d.map u8v).toArray 57)).alloc (.cells #[] 5)) := Fr.alloc _ _
 have HBD := Hdq (show Bs (fun _ => False) ((wp.alloc (.cells (d.map u8v).toArray 57)).alloc (.cells #[] 5)) (.slice (some ⟨wp.heap.size, 0, none⟩) 8 32) (d.take 8) from ((zB (A := fun _ => False) (n := 32) (At.new rfl) hdl qe (fun h => h)).keep GE (fun b h => by cases h)).take 8 qe)
 have hsz : w0.heap.size <= (wp.alloc (.cells (d.map u8v).toArray 57)).heap.size := (hf2.trans GD).size
 have HE0 := Hdq (show qi 5 w0.heap.size ((wp.alloc (.cells (d.map u8v).toArray 57)).alloc (.cells #[] 5)) (.slice (some ⟨wp.heap.size + 1, 0, none⟩) 0 0) [] from by
  have h := qi.empty 5 w0.heap.size (wp.alloc (.cells (d.map u8v).toArray 57)) hsz
  rw [World.size_alloc] at h
  exact h)
 have HFE := Hdq ((hf2.trans GD).trans GE)
 have HSZ := Hdq (Nat.le_trans hsz GE.size)
 have HDL := Hdq hdl
 clear hd hdl hf hf2 GD GE hsz HF2 HU2
 go_wp2_with (first | (refine qy (.tmp 6) (.tmp 16) rfl rfl (d.map u8v).toArray rfl rfl HSD.out HSE.out (jv _) ?_) | (at_builtin; refine qh (ys := d.take 8) (base := w0.heap.size) Tryz.underlying22 Tryz.infoByte rfl (.tmp 17) (.tmp 18) rfl rfl rfl HE0.out HBD.out (by rw [List.length_take, HDL.out]; decide) HSZ.out ?_))
 intro v5 wc2 g1 g2
 have HO5 := Hdq (show qi 5 w0.heap.size wc2 v5 (zT key i) by rw [HT.out]; exact g1)
 have HF5 := Hdq (show Fr [] w0 wc2 from qi.fr HE0.out HFE.out g2 (Nat.le_refl _))
 clear g1 g2
 go_wp2
 go_ret2
 exact ⟨_, rfl, HO5.out, HF5.out⟩
end Go.Proofs.YtnafknkchbfpaaaGreatDoor
