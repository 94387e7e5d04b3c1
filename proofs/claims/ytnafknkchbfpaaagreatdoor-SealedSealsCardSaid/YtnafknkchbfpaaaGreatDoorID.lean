import Derived.Test.YtnafknkchbfpaaaGreatDoorIB
set_option maxRecDepth 1000000
set_option maxHeartbeats 8000000
namespace Go.Proofs.YtnafknkchbfpaaaGreatDoor
open Go.RowKit Go.Bl
set_option linter.unusedVariables false
theorem uG.keepT {E : Nat -> Addr} {w w' : World} {k : Nat} {v : Value} {g : Nat} {c : Array Value} {t : TypeId} (h : uG E w k v) (hf : Fr [g] w w') (ha : At w g (.cells c t)) (ht : 206 ≠ t) : uG E w' k v := by
 cases h with
 | nil => exact .nil
 | plain k h => exact .plain k h
 | wrap k h pb s n hb => exact .wrap k h pb s n (hf.keep hb (by simpa using yL hb ha ht))
noncomputable def qeJ : Code := ((Tryz.f26.body.bind (qn 5)).getD .skip)
theorem qbv (a : Go.Act) (hs : a.tmps.size = 66) (hd : a.defers = []) : a = ⟨(qd a 0 :: qd a 1 :: qd a 2 :: qd a 3 :: qd a 4 :: qd a 5 :: qd a 6 :: qd a 7 :: qd a 8 :: qd a 9 :: qd a 10 :: qd a 11 :: qd a 12 :: qd a 13 :: qd a 14 :: qd a 15 :: qd a 16 :: qd a 17 :: qd a 18 :: qd a 19 :: qd a 20 :: qd a 21 :: qd a 22 :: qd a 23 :: qd a 24 :: qd a 25 :: qd a 26 :: qd a 27 :: qd a 28 :: qd a 29 :: qd a 30 :: qd a 31 :: qd a 32 :: qd a 33 :: qd a 34 :: qd a 35 :: qd a 36 :: qd a 37 :: qd a 38 :: qd a 39 :: qd a 40 :: qd a 41 :: qd a 42 :: qd a 43 :: qd a 44 :: qd a 45 :: qd a 46 :: qd a 47 :: qd a 48 :: qd a 49 :: qd a 50 :: qd a 51 :: qd a 52 :: qd a 53 :: qd a 54 :: qd a 55 :: qd a 56 :: qd a 57 :: qd a 58 :: qd a 59 :: qd a 60 :: qd a 61 :: qd a 62 :: qd a 63 :: qd a 64 :: qd a 65 :: []).toArray, []⟩ := j6 a 66 hs hd
def qed (EV : Value) (g : Nat) (k : Nat) (b : Go.Act) (p : World) : Prop :=
 match k with
 | 0 => qd b 26 = .agg Tryz.zeroCells60
 | 1 => qd b 27 = EV
 | 2 => At p g (.cells Tryz.zeroCells60 60)
 | 3 => qd b 9 = EV
 | 4 => At p g (.cells Tryz.zeroCells60 60)
 | _ => True
def qec (EV : Value) (g : Nat) (k : Nat) (b : Go.Act) (p : World) : Prop :=
 match k with
 | _ => True
theorem sl5 (EV : Value) (g : Nat) (w : World) (a : Go.Act) (hsz : a.tmps.size = 66) (h8 : qd a 8 = .pointer (some ⟨g, 0, none⟩)) (hV : w.cell? ⟨1, 0, none⟩ = some EV) (hg : 1 ≠ g) (hK : At w g (.cells Tryz.zeroCells60 60)) (Q : Exit -> Go.Act -> World -> Prop)
  (hQ : ∀ (b : Go.Act) (p : World), b.defers = a.defers -> b.tmps.size = 66 -> (∀ s, some s ∉ ([some 26, some 27, none, some 9] : List (Option Nat)) -> qd b s = qd a s) -> Fr [g] w p -> qd b 9 = EV -> At p g (.cells Tryz.zeroCells60 60) -> Q .normal b p) : Code.wp Tryz.prog qeJ Q a w := by
 conv => arg 2; whnf
 refine qP [g] (qed EV g) (qec EV g) [some 26, some 27, none, some 9] [[26], [27], [], [9], []] [] [] [] qf qf qf qf qf qe ?_ ?_ ?_ ?_ ?_
 ·intro w1 hw1 k hk1 hk2
  have hk3 : 4 <= k := hk1
  have hk4 : k < 5 := hk2
  clear hk1 hk2
  rcases (show k = 4 by omega) with rfl
  ·exact hK.keep0 hw1
 ·intro k b b' p hs h
  match k with
  | 0 => show qd b' 26 = .agg Tryz.zeroCells60; rw [<- hs 26 qe]; exact h
  | 1 => show qd b' 27 = EV; rw [<- hs 27 qe]; exact h
  | 2 => show At p g (.cells Tryz.zeroCells60 60); exact h
  | 3 => show qd b' 9 = EV; rw [<- hs 9 qe]; exact h
  | 4 => show At p g (.cells Tryz.zeroCells60 60); exact h
  | k + 5 => trivial
 ·intro k b b' p hs h
  match k with
  | k => trivial
 ·intro i hi dn b p hs ho hf hF hG hdn hdc hr
  have hi9 : i < 4 := hi
  clear hi
  match i, hi9 with
  | 0, _ =>
   refine qp _ qw ?_
   refine xw rfl (.agg Tryz.zeroCells60) p qf ?_
   exact Y39
  | 1, _ =>
   have e9 : b.eval (.global 1) = .pointer (some ⟨1, 0, none⟩) := rfl
   have c1 : p.cell? ⟨1, 0, none⟩ = some EV := qm hf (by simpa using hg) hV
   exact Y58
  | 2, _ =>
   have e0 : b.eval (.tmp 8) = .pointer (some ⟨g, 0, none⟩) := (ho 8 qe).trans h8
   have e1 : b.eval (.tmp 26) = .agg Tryz.zeroCells60 := fdq hF hr 0
   have f4 : At p g (.cells Tryz.zeroCells60 60) := hF 4 (show (4:Nat) < 5 by decide) (fun h => absurd h qe) (fun c hc => absurd hc qg)
   refine qp _ qw ?_
   refine ql (.tmp 8) (.tmp 26) rfl rfl (Tryz.zeroCells60) e0 e1 qf f4 rfl qf ?_
   intro p' f1 a1 _
   refine ⟨rfl, rfl, hf.trans f1, fun k hki hnr hco hli h => ?_, a1, fun _ _ _ h => h, fun e he hi hx => absurd he (Nat.not_lt_zero e)⟩
   match k with
   | 0 => exact h
   | 1 => exact h
   | 2 => exact absurd rfl hki
   | 3 => exact h
   | 4 => exact a1
   | k + 5 => exact trivial
  | 3, _ =>
   have e0 : b.eval (.tmp 27) = EV := fdq hF hr 1
   exact Y1
 ·exact Y38
theorem Lm (E : Nat -> Addr) (B : Nat) (w0 : World) (mv v : Value) (m xs : List UInt8) (n : Int) (p : Par) (hE : za jB E B w0) (hS : SG w0) (hB : Bs (fun b => w0.heap.size <= b) w0 mv m) (hV : Bs (fun _ => False) w0 v xs) (hc : chk p ≠ 0) :
  Calls Tryz.prog 26 #[mv, .int .i64 n, v, .agg #[.int .i64 p.size, .int .i64 p.sent, .int .i64 p.spots, .int .i64 p.per, .int .i64 p.pat, .int .i64 p.ret]] w0 fun e w' => ∃ ev, e = .returned (.tuple #[.agg Tryz.zeroCells60, ev]) /\ uG E w' (chk p) ev /\ Fr [] w0 w' := by
 obtain ⟨Z, hZ⟩ := exq (w0.heap.size)
 obtain ⟨ws, hws⟩ := exq (((w0.alloc (.cells #[.int .i64 p.size, .int .i64 p.sent, .int .i64 p.spots, .int .i64 p.per, .int .i64 p.pat, .int .i64 p.ret] 24)).alloc (.cells Tryz.zeroCells60 60)))
 have F2 : Fr [] w0 ws := by rw [<- hws]; exact (Fr.alloc _ _).trans (Fr.alloc _ _)
 have HP := Hdq (show At ws Z (.cells #[.int .i64 p.size, .int .i64 p.sent, .int .i64 p.spots, .int .i64 p.per, .int .i64 p.pat, .int .i64 p.ret] 24) by rw [<- hws]; exact (At.new hZ.symm).al)
 have HA := Hdq (show At ws (Z + 1) (.cells Tryz.zeroCells60 60) from by rw [<- hws]; exact At.new vt)
 have HF := Hdq F2
 have HC := Hdq (vK jB E B ws (hE.keep0 F2) qe qe qe p)
 have HZ1 := Hdq (show w0.heap.size <= Z + 1 by omega)
 obtain ⟨va, vc, rfl, -, -⟩ := id hV
 obtain ⟨ma, mc, rfl, -, -, -⟩ := id hB
 obtain ⟨xn, hxn⟩ := exq (xs.length)
 obtain ⟨mn, hmn⟩ := exq (m.length)
 rw [hxn, hmn]
 obtain ⟨kq, hkq⟩ := exq (chk p)
 rw [hkq] at HC hc ⊢
 have HKK := Hdq hc
 clear hE hS hB hV hc F2 hxn hmn hkq
 have hk : ∀ i, ws.cell? ⟨Z, i, none⟩ = #[.int .i64 p.size, .int .i64 p.sent, .int .i64 p.spots, .int .i64 p.per, .int .i64 p.pat, .int .i64 p.ret][i]? := fun i => HP.out.cell i
 have k0 := hk 0
 have k1 := hk 1
 have k2 := hk 2
 have k3 := hk 3
 have k4 := hk 4
 have k5 := hk 5
 simp only [List.getElem?_toArray, List.getElem?_cons_zero, List.getElem?_cons_succ] at k0 k1 k2 k3 k4 k5
 clear hk
 go_enter Tryz.func26, Tryz.ntmps26
 go_wp2_with (go_at_call 72; fail)
 clear k0 k1 k2 k3 k4 k5 hws hZ
 refine HC.out.mono ?_
 rintro e w2 ⟨ev, rfl, hv, hf⟩
 replace HF := Hdq (HF.out.trans hf)
 replace HA := Hdq (HA.out.keep0 hf)
 obtain ⟨et, ea, rfl⟩ := hv.some_of HKK.out
 have HV := Hdq hv
 clear hv hf HC
 go_wp2_with (refine ql (.tmp 8) (.tmp 19) rfl rfl (Tryz.zeroCells60) rfl rfl qf HA.out rfl qf ?_)
 exact Y30
theorem Kj (E : Nat -> Addr) (B : Nat) (w0 : World) (mv v : Value) (m xs : List UInt8) (n : Int) (p : Par) (hE : za jB E B w0) (hS : SG w0) (hB : Bs (fun b => w0.heap.size <= b) w0 mv m) (hV : Bs (fun _ => False) w0 v xs) (hc : chk p = 0) (hx : (xs.length : Int) ≠ p.size) :
  Calls Tryz.prog 26 #[mv, .int .i64 n, v, .agg #[.int .i64 p.size, .int .i64 p.sent, .int .i64 p.spots, .int .i64 p.per, .int .i64 p.pat, .int .i64 p.ret]] w0 fun e w' => ∃ ev, e = .returned (.tuple #[.agg Tryz.zeroCells60, ev]) /\ uG E w' (8) ev /\ Fr [] w0 w' := by
 obtain ⟨Z, hZ⟩ := exq (w0.heap.size)
 obtain ⟨ws, hws⟩ := exq (((w0.alloc (.cells #[.int .i64 p.size, .int .i64 p.sent, .int .i64 p.spots, .int .i64 p.per, .int .i64 p.pat, .int .i64 p.ret] 24)).alloc (.cells Tryz.zeroCells60 60)))
 have F2 : Fr [] w0 ws := by rw [<- hws]; exact (Fr.alloc _ _).trans (Fr.alloc _ _)
 have HP := Hdq (show At ws Z (.cells #[.int .i64 p.size, .int .i64 p.sent, .int .i64 p.spots, .int .i64 p.per, .int .i64 p.pat, .int .i64 p.ret] 24) by rw [<- hws]; exact (At.new hZ.symm).al)
 have HA := Hdq (show At ws (Z + 1) (.cells Tryz.zeroCells60 60) from by rw [<- hws]; exact At.new vt)
 have HF := Hdq F2
 have HC := Hdq (vK jB E B ws (hE.keep0 F2) qe qe qe p)
 have HZ1 := Hdq (show w0.heap.size <= Z + 1 by omega)
 have HG := Hdq (hE.keep0 F2)
 obtain ⟨va, vc, rfl, -, -⟩ := id hV
 obtain ⟨ma, mc, rfl, -, -, -⟩ := id hB
 obtain ⟨xn, hxn⟩ := exq (xs.length)
 obtain ⟨mn, hmn⟩ := exq (m.length)
 have HXN := Hdq (show ¬ (xn : Int) = p.size by rw [<- hxn]; exact hx)
 rw [hxn, hmn]
 have HKK := Hdq hc
 have HZZ := Hdq hZ
 clear hE hS hB hV hc hx F2 hxn hmn
 have hk : ∀ i, ws.cell? ⟨Z, i, none⟩ = #[.int .i64 p.size, .int .i64 p.sent, .int .i64 p.spots, .int .i64 p.per, .int .i64 p.pat, .int .i64 p.ret][i]? := fun i => HP.out.cell i
 have k0 := hk 0
 have k1 := hk 1
 have k2 := hk 2
 have k3 := hk 3
 have k4 := hk 4
 have k5 := hk 5
 simp only [List.getElem?_toArray, List.getElem?_cons_zero, List.getElem?_cons_succ] at k0 k1 k2 k3 k4 k5
 clear hk
 go_enter Tryz.func26, Tryz.ntmps26
 go_wp2_with (go_at_call 72; fail)
 clear k0 k1 k2 k3 k4 k5 hws hZ
 refine HC.out.mono ?_
 rintro e w2 ⟨ev, rfl, hv, hf⟩
 replace HF := Hdq (HF.out.trans hf)
 replace HA := Hdq (HA.out.keep0 hf)
 rw [HKK.out] at hv
 have := hv.nil_iff
 subst this
 have k0 : w2.cell? ⟨Z, 0, none⟩ = some (.int .i64 p.size) := (HP.out.keep0 hf).cell 0
 have hxi := HXN.out
 have hc8 := (HG.out.keep0 hf).cell 8 qe
 simp only [gOf, List.getD_eq_getElem?_getD, List.getElem?_cons_zero, List.getElem?_cons_succ, Option.getD_some] at hc8
 have HC8 := Hdq hc8
 have HG8 := Hdq (show 1 ≠ Z + 1 from fun h => by
  have h1 := HA.out.cell 0
  rw [<- h, hc8, show (Tryz.zeroCells60)[0]? = some (.slice none 0 0) by kernel_rfl] at h1
  cases h1)
 clear hv hf HC HP hc8
 go_wp2
 refine sl5 (.iface 317 (.pointer (some (E 8)))) (Z + 1) w2 _ rfl rfl HC8.out HG8.out HA.out _ ?_
 intro b pw hd hs ho hf h5 hA
 rw [qbv b hs hd, show qd b 8 = .pointer (some ⟨Z + 1, 0, none⟩) from ho 8 qe, h5]
 have HF9 := Hdq (HF.out.then hf (fun z hz => .inr (by simp at hz; subst hz; exact HZ1.out)))
 have HA9 := Hdq hA
 clear hf hA ho
 go_wp2
 refine bodyPost_ret (jC rfl _ _ (Z + 1) (Tryz.zeroCells60).toList qw (qr HA9.out) Tryz.underlying60 rfl qf) rfl ?_
 exact ⟨_, rfl, .plain 8 qe, HF9.out⟩
theorem qbd (E : Nat -> Addr) (B : Nat) (w0 : World) (mv v : Value) (m xs : List UInt8) (n : Int) (p : Par) (hE : za jB E B w0) (hS : SG w0) (hB : Bs (fun b => w0.heap.size <= b) w0 mv m) (hV : Bs (fun _ => False) w0 v xs) (hc : chk p = 0) (hx : (xs.length : Int) = p.size) (hk : qz m n ≠ 0) :
  Calls Tryz.prog 26 #[mv, .int .i64 n, v, .agg #[.int .i64 p.size, .int .i64 p.sent, .int .i64 p.spots, .int .i64 p.per, .int .i64 p.pat, .int .i64 p.ret]] w0 fun e w' => ∃ ev, e = .returned (.tuple #[.agg Tryz.zeroCells60, ev]) /\ uG E w' (qz m n) ev /\ Fr [] w0 w' := by
 obtain ⟨Z, hZ⟩ := exq (w0.heap.size)
 obtain ⟨ws, hws⟩ := exq (((w0.alloc (.cells #[.int .i64 p.size, .int .i64 p.sent, .int .i64 p.spots, .int .i64 p.per, .int .i64 p.pat, .int .i64 p.ret] 24)).alloc (.cells Tryz.zeroCells60 60)))
 have F2 : Fr [] w0 ws := by rw [<- hws]; exact (Fr.alloc _ _).trans (Fr.alloc _ _)
 have HP := Hdq (show At ws Z (.cells #[.int .i64 p.size, .int .i64 p.sent, .int .i64 p.spots, .int .i64 p.per, .int .i64 p.pat, .int .i64 p.ret] 24) by rw [<- hws]; exact (At.new hZ.symm).al)
 have HA := Hdq (show At ws (Z + 1) (.cells Tryz.zeroCells60 60) from by rw [<- hws]; exact At.new vt)
 have HF := Hdq F2
 have HC := Hdq (vK jB E B ws (hE.keep0 F2) qe qe qe p)
 have HZ1 := Hdq (show w0.heap.size <= Z + 1 by omega)
 have HE := Hdq (hE.keep0 F2)
 have HS := Hdq (hS.keep F2)
 have HB := Hdq (hB.mono (A' := fun b => ws.heap.size <= b) F2 qg (fun b hb => .inl (Nat.le_trans F2.size hb)))
 obtain ⟨va, vc, rfl, -, -⟩ := id hV
 obtain ⟨ma, mc, rfl, -, -, -⟩ := id hB
 obtain ⟨xn, hxn⟩ := exq (xs.length)
 obtain ⟨mn, hmn⟩ := exq (m.length)
 have HXN := Hdq (show p.size = (xn : Int) by rw [<- hxn]; exact hx.symm)
 rw [hmn] at HB
 rw [hxn, hmn]
 have HKK := Hdq hc
 obtain ⟨kq, hkq⟩ := exq (qz m n)
 rw [hkq] at hk ⊢
 have HKB := Hdq hk
 have HKQ := Hdq hkq
 clear hE hS hB hV hc hx hk F2 hxn hmn hkq
 have hk : ∀ i, ws.cell? ⟨Z, i, none⟩ = #[.int .i64 p.size, .int .i64 p.sent, .int .i64 p.spots, .int .i64 p.per, .int .i64 p.pat, .int .i64 p.ret][i]? := fun i => HP.out.cell i
 have k0 := hk 0
 have k1 := hk 1
 have k2 := hk 2
 have k3 := hk 3
 have k4 := hk 4
 have k5 := hk 5
 simp only [List.getElem?_toArray, List.getElem?_cons_zero, List.getElem?_cons_succ] at k0 k1 k2 k3 k4 k5
 clear hk
 go_enter Tryz.func26, Tryz.ntmps26
 go_wp2_with (go_at_call 72; fail)
 clear k0 k1 k2 k3 k4 k5 hws hZ
 refine HC.out.mono ?_
 rintro e w2 ⟨ev, rfl, hv, hf⟩
 replace HF := Hdq (HF.out.trans hf)
 replace HA := Hdq (HA.out.keep0 hf)
 rw [HKK.out] at hv
 have := hv.nil_iff
 subst this
 have hk : ∀ i, w2.cell? ⟨Z, i, none⟩ = #[.int .i64 p.size, .int .i64 p.sent, .int .i64 p.spots, .int .i64 p.per, .int .i64 p.pat, .int .i64 p.ret][i]? := fun i => (HP.out.keep0 hf).cell i
 have k0 := hk 0
 have k1 := hk 1
 have k2 := hk 2
 have k3 := hk 3
 have k4 := hk 4
 have k5 := hk 5
 simp only [List.getElem?_toArray, List.getElem?_cons_zero, List.getElem?_cons_succ] at k0 k1 k2 k3 k4 k5
 have hpx : (xn : Int) = p.size := HXN.out.symm
 have HSD := Hdq (V3 E B w2 (.slice ma mn mc) m n p (HE.out.keep0 hf) (HS.out.keep hf) (HB.out.mono (A' := fun b => w2.heap.size <= b) hf qg (fun b hb => .inl (Nat.le_trans hf.size hb))))
 clear hk hv hf HC HP
 go_wp2_with (go_at_call 64; fail)
 clear hpx k0 k1 k2 k3 k4 k5
 refine HSD.out.mono ?_
 rintro e w3 ⟨-, hbad, hf⟩
 have hsd : sdE p m n = kq := by unfold sdE; rw [if_neg (by rw [HKK.out]; decide)]; exact HKQ.out
 rw [hsd] at hbad
 obtain ⟨ev, rfl, hv⟩ := hbad HKB.out
 obtain ⟨et, ea, rfl⟩ := hv.some_of HKB.out
 have HV := Hdq hv
 replace HF := Hdq (HF.out.trans hf)
 replace HA := Hdq (HA.out.keep0 hf)
 clear hbad hsd hv hf HSD
 go_wp2_with (refine ql (.tmp 8) (.tmp 37) rfl rfl (Tryz.zeroCells60) rfl rfl qf HA.out rfl qf ?_)
 exact Y30
theorem qcN (q : Par) : chk q <= 20 := by unfold chk; split <;> (try split) <;> (try split) <;> decide
def zA (p : Par) (m : List UInt8) (n : Int) (xs : List UInt8) : Nat := if chk p ≠ 0 then chk p else if (xs.length : Int) ≠ p.size then 8 else qz m n
theorem XG {p : Par} {m xs : List UInt8} {n : Int} (h : zA p m n xs = 0) : chk p = 0 /\ (xs.length : Int) = p.size /\ qz m n = 0 := by
 unfold zA at h
 by_cases hc : chk p = 0
 ·rw [if_neg (by simpa using hc)] at h
  by_cases hx : (xs.length : Int) = p.size
  ·rw [if_neg (by simpa using hx)] at h; exact ⟨hc, hx, h⟩
  ·rw [if_pos hx] at h; exact absurd h qe
 ·rw [if_pos hc] at h; exact absurd h hc
theorem qaQ {p : Par} {m xs : List UInt8} {n : Int} : zA p m n xs <= 20 := by
 unfold zA
 split
 ·exact qcN p
 ·split
  ·decide
  ·exact Wr m n
theorem Lt (E : Nat -> Addr) (B : Nat) (w0 : World) (mv v : Value) (m xs : List UInt8) (n : Int) (p : Par) (hE : za jB E B w0) (hS : SG w0) (hB : Bs (fun b => w0.heap.size <= b) w0 mv m) (hV : Bs (fun _ => False) w0 v xs) (hk : zA p m n xs ≠ 0) :
  Calls Tryz.prog 26 #[mv, .int .i64 n, v, .agg #[.int .i64 p.size, .int .i64 p.sent, .int .i64 p.spots, .int .i64 p.per, .int .i64 p.pat, .int .i64 p.ret]] w0 fun e w' => ∃ ev, e = .returned (.tuple #[.agg Tryz.zeroCells60, ev]) /\ uG E w' (zA p m n xs) ev /\ Fr [] w0 w' := by
 by_cases hc : chk p = 0
 ·by_cases hx : (xs.length : Int) = p.size
  ·have e : zA p m n xs = qz m n := by unfold zA; rw [if_neg (by simpa using hc), if_neg (by simpa using hx)]
   rw [e] at hk ⊢
   exact qbd E B w0 mv v m xs n p hE hS hB hV hc hx hk
  ·have e : zA p m n xs = 8 := by unfold zA; rw [if_neg (by simpa using hc), if_pos hx]
   rw [e]
   exact Kj E B w0 mv v m xs n p hE hS hB hV hc hx
 ·have e : zA p m n xs = chk p := if_pos hc
  rw [e]
  exact Lm E B w0 mv v m xs n p hE hS hB hV hc
theorem WN (w0 : World) (mv v : Value) (m xs : List UInt8) (n : Int) (p : Par) (hB : Bs (fun b => w0.heap.size <= b) w0 mv m) (hV : Bs (fun _ => False) w0 v xs) (hR : RG w0) (hk : zA p m n xs ≠ 0) :
  Calls Tryz.prog 27 #[mv, .int .i64 n, v, .agg #[.int .i64 p.size, .int .i64 p.sent, .int .i64 p.spots, .int .i64 p.per, .int .i64 p.pat, .int .i64 p.ret]] w0 fun e w' => e = .returned (.tuple #[.slice none 0 0, .int .i64 (zA p m n xs : Nat)]) /\ Fr [] w0 w' := by
 by_cases hc : chk p = 0
 ·by_cases hx : (xs.length : Int) = p.size
  ·have e : zA p m n xs = qz m n := by unfold zA; rw [if_neg (by simpa using hc), if_neg (by simpa using hx)]
   rw [e] at hk ⊢
   exact KJ w0 mv v m xs n p hB hV hR hc hx hk
  ·have e : zA p m n xs = 8 := by unfold zA; rw [if_neg (by simpa using hc), if_pos hx]
   rw [e]
   exact XM w0 mv v m xs n p hB hV hR hc hx
 ·have e : zA p m n xs = chk p := if_pos hc
  rw [e]
  exact Kp w0 mv v m xs n p hB hV hR hc
end Go.Proofs.YtnafknkchbfpaaaGreatDoor
