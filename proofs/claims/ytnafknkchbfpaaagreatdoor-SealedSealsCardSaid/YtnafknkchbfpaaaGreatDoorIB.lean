import Derived.Test.YtnafknkchbfpaaaGreatDoorHL
import Derived.Test.YtnafknkchbfpaaaGreatDoorHY
import Derived.Test.YtnafknkchbfpaaaGreatDoorHX
import Derived.Test.YtnafknkchbfpaaaGreatDoorHZ
set_option maxRecDepth 1000000
set_option maxHeartbeats 8000000
namespace Go.Proofs.YtnafknkchbfpaaaGreatDoor
open Go.RowKit Go.Bl
set_option linter.unusedVariables false
noncomputable def qdA : Code := ((Tryz.f27.body.bind (qn 17)).getD .skip)
def YD (Z kb lb lo mm lc kk : Nat) (x0 xa : Option Addr) (n0 y0 xn xc : Nat) (row : List UInt8) (k : Nat) (b : Go.Act) (p : World) : Prop :=
 match k with
 | 0 => qd b 68 = .pointer (some ⟨kb, 0, none⟩)
 | 1 => qd b 69 = .slice x0 n0 y0
 | 2 => qd b 70 = .int .i64 (kk : Int)
 | 3 => qd b 71 = .slice (some ⟨lb, lo, none⟩) mm lc
 | 4 => qd b 72 = .int .i64 (kk : Int)
 | 5 => qd b 73 = .pointer (some ⟨lb, lo + kk, none⟩)
 | 6 => qd b 74 = .slice xa xn xc
 | 7 => ∃ u, qd b 75 = .tuple #[u, .int .i64 0] /\ qi 5 Z p u row
 | 8 => qd b 67 = qd b 75
 | 9 => qi 5 Z p (qd b 76) row
 | 10 => qd b 77 = .int .i64 0
 | 11 => qd b 20 = qd b 76
 | _ => True
def LE (Z kb lb lo mm lc kk : Nat) (x0 xa : Option Addr) (n0 y0 xn xc : Nat) (row : List UInt8) (k : Nat) (b : Go.Act) (p : World) : Prop :=
 match k with
 | _ => True
theorem KE (Z kb lb lo mm lc kk : Nat) (x0 xa : Option Addr) (n0 y0 xn xc : Nat) (row : List UInt8) : ∀ (k : Nat) (b : Go.Act) (p p' : World), Fr [] p p' -> YD Z kb lb lo mm lc kk x0 xa n0 y0 xn xc row k b p -> YD Z kb lb lo mm lc kk x0 xa n0 y0 xn xc row k b p'
 | 0, b, p, p', hf, h => h
 | 1, b, p, p', hf, h => h
 | 2, b, p, p', hf, h => h
 | 3, b, p, p', hf, h => h
 | 4, b, p, p', hf, h => h
 | 5, b, p, p', hf, h => h
 | 6, b, p, p', hf, h => h
 | 7, b, p, p', hf, h => let ⟨u, h1, h2⟩ := h; ⟨u, h1, h2.keep hf qg⟩
 | 8, b, p, p', hf, h => h
 | 9, b, p, p', hf, h => h.keep hf qg
 | 10, b, p, p', hf, h => h
 | 11, b, p, p', hf, h => h
 | k + 12, b, p, p', hf, h => trivial
theorem XS (Z kb lb lo mm lc kk : Nat) (x0 xa : Option Addr) (n0 y0 xn xc : Nat) (row : List UInt8) : ∀ (k : Nat) (b : Go.Act) (p p' : World), Fr [] p p' -> LE Z kb lb lo mm lc kk x0 xa n0 y0 xn xc row k b p -> LE Z kb lb lo mm lc kk x0 xa n0 y0 xn xc row k b p'
 | k, b, p, p', hf, h => trivial
theorem qeB (Z kb lb lo mm lc kk : Nat) (x0 xa : Option Addr) (n0 y0 xn xc : Nat) (row : List UInt8) (w : World) (a : Go.Act) (hsz : a.tmps.size = 102) (h13 : qd a 13 = .pointer (some ⟨kb, 0, none⟩)) (h19 : qd a 19 = .int .i64 (kk : Int)) (h15 : qd a 15 = .slice (some ⟨lb, lo, none⟩) mm lc) (hZ : w.heap.size = Z) (hk0 : w.cell? ⟨kb, 0, none⟩ = some (.slice x0 n0 y0)) (hk2 : w.cell? ⟨lb, lo + kk, none⟩ = some (.slice xa xn xc)) (hki : (kk : Int) < (mm : Int)) (hkn : kk < mm) (hmask : ∀ p, Fr [] w p -> Calls Tryz.prog 78 #[.slice x0 n0 y0, .int .i64 (kk : Int), .slice xa xn xc] p fun e w' => ∃ u, e = .returned (.tuple #[u, .int .i64 0]) /\ qi 5 p.heap.size w' u row /\ Fr [] p w') (Q : Exit -> Go.Act -> World -> Prop)
  (hQ : ∀ (b : Go.Act) (p : World), b.defers = a.defers -> b.tmps.size = 102 -> (∀ s, some s ∉ ([some 68, some 69, some 70, some 71, some 72, some 73, some 74, some 75, some 67, some 76, some 77, some 20] : List (Option Nat)) -> qd b s = qd a s) -> Fr [] w p -> qi 5 Z p (qd b 20) row -> Q .normal b p) : Code.wp Tryz.prog qdA Q a w := by
 conv => arg 2; whnf
 refine qP [] (YD Z kb lb lo mm lc kk x0 xa n0 y0 xn xc row) (LE Z kb lb lo mm lc kk x0 xa n0 y0 xn xc row) [some 68, some 69, some 70, some 71, some 72, some 73, some 74, some 75, some 67, some 76, some 77, some 20] [[68], [69], [70], [71], [72], [73], [74], [75], [67, 75], [76], [77], [20, 76]] [] [] [] qf qf qf qf qf qe ?_ ?_ ?_ ?_ ?_
 ·intro w1 hw1 k hk1 hk2
  have hk3 : 12 <= k := hk1
  have hk4 : k < 12 := hk2
  clear hk1 hk2
  omega
 ·intro k b b' p hs h
  match k with
  | 0 => show qd b' 68 = .pointer (some ⟨kb, 0, none⟩); rw [<- hs 68 qe]; exact h
  | 1 => show qd b' 69 = .slice x0 n0 y0; rw [<- hs 69 qe]; exact h
  | 2 => show qd b' 70 = .int .i64 (kk : Int); rw [<- hs 70 qe]; exact h
  | 3 => show qd b' 71 = .slice (some ⟨lb, lo, none⟩) mm lc; rw [<- hs 71 qe]; exact h
  | 4 => show qd b' 72 = .int .i64 (kk : Int); rw [<- hs 72 qe]; exact h
  | 5 => show qd b' 73 = .pointer (some ⟨lb, lo + kk, none⟩); rw [<- hs 73 qe]; exact h
  | 6 => show qd b' 74 = .slice xa xn xc; rw [<- hs 74 qe]; exact h
  | 7 => show ∃ u, qd b' 75 = .tuple #[u, .int .i64 0] /\ qi 5 Z p u row; rw [<- hs 75 qe]; exact h
  | 8 => show qd b' 67 = qd b' 75; rw [<- hs 67 qe, <- hs 75 qe]; exact h
  | 9 => show qi 5 Z p (qd b' 76) row; rw [<- hs 76 qe]; exact h
  | 10 => show qd b' 77 = .int .i64 0; rw [<- hs 77 qe]; exact h
  | 11 => show qd b' 20 = qd b' 76; rw [<- hs 20 qe, <- hs 76 qe]; exact h
  | k + 12 => trivial
 ·intro k b b' p hs h
  match k with
  | k => trivial
 ·intro i hi dn b p hs ho hf hF hG hdn hdc hr
  have hi9 : i < 12 := hi
  clear hi
  match i, hi9 with
  | 0, _ =>
   have e0 : b.eval (.tmp 13) = .pointer (some ⟨kb, 0, none⟩) := (ho 13 qe).trans h13
   have ec : b.eval (.const (.int .i64 0)) = .int .i64 0 := rfl
   refine qp _ qw ?_
   refine qC _ rfl rfl _ ?_ (zx hf (qt Y97))
   obtain ⟨ρ, hρ⟩ := exq (b.eval)
   rw [hρ] at e0 ec ⊢
   unfold execOp; simp [go_sem, e0, ec, Tryz.underlying29, ec]
  | 1, _ =>
   have e0 : b.eval (.tmp 68) = .pointer (some ⟨kb, 0, none⟩) := fdq hF hr 0
   have c1 : p.cell? ⟨kb, 0, none⟩ = some (.slice x0 n0 y0) := qm hf qg hk0
   exact Y3
  | 2, _ =>
   have e0 : b.eval (.tmp 19) = .int .i64 (kk : Int) := (ho 19 qe).trans h19
   exact Y1
  | 3, _ =>
   have e0 : b.eval (.tmp 15) = .slice (some ⟨lb, lo, none⟩) mm lc := (ho 15 qe).trans h15
   exact Y1
  | 4, _ =>
   have e0 : b.eval (.tmp 19) = .int .i64 (kk : Int) := (ho 19 qe).trans h19
   exact Y1
  | 5, _ =>
   have e0 : b.eval (.tmp 71) = .slice (some ⟨lb, lo, none⟩) mm lc := fdq hF hr 3
   have e1 : b.eval (.tmp 72) = .int .i64 (kk : Int) := fdq hF hr 4
   refine qp _ qw ?_
   refine qC _ rfl rfl _ ?_ (zx hf (qt Y97))
   obtain ⟨ρ, hρ⟩ := exq (b.eval)
   rw [hρ] at e0 e1 ⊢
   unfold execOp; simp [go_sem, e0, e1, Tryz.underlying56, hki, hkn]
  | 6, _ =>
   have e0 : b.eval (.tmp 73) = .pointer (some ⟨lb, lo + kk, none⟩) := fdq hF hr 5
   have c1 : p.cell? ⟨lb, lo + kk, none⟩ = some (.slice xa xn xc) := qm hf qg hk2
   exact Y3
  | 7, _ =>
   have e0 : b.eval (.tmp 69) = .slice x0 n0 y0 := fdq hF hr 1
   have e1 : b.eval (.tmp 70) = .int .i64 (kk : Int) := fdq hF hr 2
   have e2 : b.eval (.tmp 74) = .slice xa xn xc := fdq hF hr 6
   refine qG _ qw (qq rfl) 78 _ _ rfl #[.slice x0 n0 y0, .int .i64 (kk : Int), .slice xa xn xc] (by simp only [List.map_toArray, List.map_cons, List.map_nil, e0, e1, e2]) zC ((hmask p hf).mono ?_)
   rintro e p' ⟨u, rfl, hu, hf2⟩
   refine ⟨_, rfl, hf.trans hf2, fun k _ _ _ _ h => KE Z kb lb lo mm lc kk x0 xa n0 y0 xn xc row k _ _ _ hf2 h, ?_, fun e _ _ h => XS Z kb lb lo mm lc kk x0 xa n0 y0 xn xc row e _ _ _ hf2 h, fun e he hi hx => by exact absurd he (Nat.not_lt_zero e)⟩
   refine qJ b 75 _ Y97 (fun b' => YD Z kb lb lo mm lc kk x0 xa n0 y0 xn xc row 7 b' p') ?_
   intro b' hd hne
   show ∃ u, qd b' 75 = .tuple #[u, .int .i64 0] /\ qi 5 Z p' u row
   exact ⟨u, hd, hu.base Jh⟩
  | 8, _ =>
   refine qp _ qw ?_
   refine qC _ rfl rfl (b.eval (.tmp 75)) qdp ?_
   exact Y29
  | 9, _ =>
   have f7 : ∃ u, qd b 75 = .tuple #[u, .int .i64 0] /\ qi 5 Z p u row := fdq hF hr 7
   have f8 : qd b 67 = qd b 75 := fdq hF hr 8
   obtain ⟨u, g1, g2⟩ := f7
   have e0 : b.eval (.tmp 67) = .tuple #[u, .int .i64 0] := f8.trans g1
   refine qp _ qw ?_
   refine qC _ rfl rfl u WY ?_
   refine ⟨rfl, rfl, hf, fun _ _ _ _ _ h => h, ?_, fun _ _ _ h => h, fun e he hi hx => absurd he (Nat.not_lt_zero e)⟩
   show qi 5 Z p (qd (b.put (some 76) u) 76) row
   rw [qt Y97]
   exact g2
  | 10, _ =>
   have f7 : ∃ u, qd b 75 = .tuple #[u, .int .i64 0] /\ qi 5 Z p u row := fdq hF hr 7
   have f8 : qd b 67 = qd b 75 := fdq hF hr 8
   obtain ⟨u, g1, g2⟩ := f7
   have e0 : b.eval (.tmp 67) = .tuple #[u, .int .i64 0] := f8.trans g1
   exact Y1
  | 11, _ =>
   refine qp _ qw ?_
   refine qC _ rfl rfl (b.eval (.tmp 76)) qdp ?_
   exact Y29
 ·intro b p hd hs ho hf hall hex
  have e11 := hall 11 qe (fun c hc => by simp at hc)
  have e9 := hall 9 qe (fun c hc => by simp at hc)
  refine hQ b p hd (hs.trans hsz) ho hf ?_
  rw [show qd b 20 = qd b 76 from e11]
  exact e9
theorem Kp (w0 : World) (mv v : Value) (m xs : List UInt8) (n : Int) (p : Par) (hB : Bs (fun b => w0.heap.size <= b) w0 mv m) (hV : Bs (fun _ => False) w0 v xs) (hR : RG w0) (hk : chk p ≠ 0) :
  Calls Tryz.prog 27 #[mv, .int .i64 n, v, .agg #[.int .i64 p.size, .int .i64 p.sent, .int .i64 p.spots, .int .i64 p.per, .int .i64 p.pat, .int .i64 p.ret]] w0 fun e w' => e = .returned (.tuple #[.slice none 0 0, .int .i64 (chk p : Nat)]) /\ Fr [] w0 w' := by
 obtain ⟨ma, mc, rfl, -, -, -⟩ := id hB
 obtain ⟨mn, hmn⟩ := exq (m.length)
 rw [hmn] at hB ⊢
 obtain ⟨va, vc, rfl, -, -, -⟩ := id hV
 obtain ⟨vn, hvn⟩ := exq (xs.length)
 rw [hvn] at hV ⊢
 obtain ⟨Z, hZ⟩ := exq (w0.heap.size)
 obtain ⟨w1, hw1⟩ := exq (w0.alloc (.cells #[.int .i64 p.size, .int .i64 p.sent, .int .i64 p.spots, .int .i64 p.per, .int .i64 p.pat, .int .i64 p.ret] 44))
 have F0 : Fr [] w0 w1 := by rw [<- hw1]; exact Fr.alloc _ _
 have HP := Hdq (show At w1 Z (.cells #[.int .i64 p.size, .int .i64 p.sent, .int .i64 p.spots, .int .i64 p.per, .int .i64 p.pat, .int .i64 p.ret] 44) by rw [<- hw1]; exact At.new hZ.symm)
 have HF := Hdq F0
 have HB := Hdq (fun wi (h : Fr [] w0 wi) => hB.mono (A' := fun b => wi.heap.size <= b) h qg (fun b hb => .inl (Nat.le_trans h.size hb)))
 have HV := Hdq (fun wi (h : Fr [] w0 wi) => hV.keep h qg)
 have HR := Hdq (fun wi (h : Fr [] w0 wi) => hR.keep h)
 have HVN := Hdq hvn
 have HZ := Hdq hZ
 have HKK := Hdq hk
 clear hB hV hR hk F0 hmn hvn
 go_enter Tryz.func27, Tryz.ntmps27
 go_wp2_with (first | (refine qu (.tmp 7) rfl rfl Z 0 [.int .i64 p.size, .int .i64 p.sent, .int .i64 p.spots, .int .i64 p.per, .int .i64 p.pat, .int .i64 p.ret] rfl (qr HP.out) Tryz.underlying44 rfl qf ?_) | (go_at_call 63; fail))
 clear hw1 hZ
 refine (xh w1 p).mono ?_
 rintro e w2 ⟨cs, cv, rfl, hf⟩
 replace HF := Hdq (HF.out.trans hf)
 replace HP := Hdq (HP.out.keep0 hf)
 clear hf
 obtain ⟨kq, hkq⟩ := exq (chk p)
 rw [hkq] at HKK ⊢
 have hk0 : ¬ (kq : Int) = 0 := by have := HKK.out; omega
 have HKQ := Hdq hkq
 clear hkq
 go_wp2
 go_ret2
 exact ⟨by rw [HKQ.out]; rfl, HF.out⟩
theorem XM (w0 : World) (mv v : Value) (m xs : List UInt8) (n : Int) (p : Par) (hB : Bs (fun b => w0.heap.size <= b) w0 mv m) (hV : Bs (fun _ => False) w0 v xs) (hR : RG w0) (hc : chk p = 0) (hx : (xs.length : Int) ≠ p.size) :
  Calls Tryz.prog 27 #[mv, .int .i64 n, v, .agg #[.int .i64 p.size, .int .i64 p.sent, .int .i64 p.spots, .int .i64 p.per, .int .i64 p.pat, .int .i64 p.ret]] w0 fun e w' => e = .returned (.tuple #[.slice none 0 0, .int .i64 8]) /\ Fr [] w0 w' := by
 obtain ⟨ma, mc, rfl, -, -, -⟩ := id hB
 obtain ⟨mn, hmn⟩ := exq (m.length)
 rw [hmn] at hB ⊢
 obtain ⟨va, vc, rfl, -, -, -⟩ := id hV
 obtain ⟨vn, hvn⟩ := exq (xs.length)
 rw [hvn] at hV ⊢
 obtain ⟨Z, hZ⟩ := exq (w0.heap.size)
 obtain ⟨w1, hw1⟩ := exq (w0.alloc (.cells #[.int .i64 p.size, .int .i64 p.sent, .int .i64 p.spots, .int .i64 p.per, .int .i64 p.pat, .int .i64 p.ret] 44))
 have F0 : Fr [] w0 w1 := by rw [<- hw1]; exact Fr.alloc _ _
 have HP := Hdq (show At w1 Z (.cells #[.int .i64 p.size, .int .i64 p.sent, .int .i64 p.spots, .int .i64 p.per, .int .i64 p.pat, .int .i64 p.ret] 44) by rw [<- hw1]; exact At.new hZ.symm)
 have HF := Hdq F0
 have HB := Hdq (fun wi (h : Fr [] w0 wi) => hB.mono (A' := fun b => wi.heap.size <= b) h qg (fun b hb => .inl (Nat.le_trans h.size hb)))
 have HV := Hdq (fun wi (h : Fr [] w0 wi) => hV.keep h qg)
 have HR := Hdq (fun wi (h : Fr [] w0 wi) => hR.keep h)
 have HVN := Hdq hvn
 have HZ := Hdq hZ
 have HCK := Hdq hc
 have hxi : ¬ (vn : Int) = p.size := by rw [<- hvn]; exact hx
 clear hB hV hR hc hx F0 hmn hvn
 go_enter Tryz.func27, Tryz.ntmps27
 go_wp2_with (first | (refine qu (.tmp 7) rfl rfl Z 0 [.int .i64 p.size, .int .i64 p.sent, .int .i64 p.spots, .int .i64 p.per, .int .i64 p.pat, .int .i64 p.ret] rfl (qr HP.out) Tryz.underlying44 rfl qf ?_) | (go_at_call 63; fail))
 clear hw1 hZ
 refine (xh w1 p).mono ?_
 rintro e w2 ⟨cs, cv, rfl, hf⟩
 replace HF := Hdq (HF.out.trans hf)
 replace HP := Hdq (HP.out.keep0 hf)
 clear hf
 rw [HCK.out]
 have c0 : w2.cell? ⟨Z, 0, none⟩ = some (.int .i64 p.size) := HP.out.cell 0
 go_wp2
 go_ret2
 exact ⟨rfl, HF.out⟩
theorem KJ (w0 : World) (mv v : Value) (m xs : List UInt8) (n : Int) (p : Par) (hB : Bs (fun b => w0.heap.size <= b) w0 mv m) (hV : Bs (fun _ => False) w0 v xs) (hR : RG w0) (hc : chk p = 0) (hx : (xs.length : Int) = p.size) (hk : qz m n ≠ 0) :
  Calls Tryz.prog 27 #[mv, .int .i64 n, v, .agg #[.int .i64 p.size, .int .i64 p.sent, .int .i64 p.spots, .int .i64 p.per, .int .i64 p.pat, .int .i64 p.ret]] w0 fun e w' => e = .returned (.tuple #[.slice none 0 0, .int .i64 (qz m n : Nat)]) /\ Fr [] w0 w' := by
 obtain ⟨ma, mc, rfl, -, -, -⟩ := id hB
 obtain ⟨mn, hmn⟩ := exq (m.length)
 rw [hmn] at hB ⊢
 obtain ⟨va, vc, rfl, -, -, -⟩ := id hV
 obtain ⟨vn, hvn⟩ := exq (xs.length)
 rw [hvn] at hV ⊢
 obtain ⟨Z, hZ⟩ := exq (w0.heap.size)
 obtain ⟨w1, hw1⟩ := exq (w0.alloc (.cells #[.int .i64 p.size, .int .i64 p.sent, .int .i64 p.spots, .int .i64 p.per, .int .i64 p.pat, .int .i64 p.ret] 44))
 have F0 : Fr [] w0 w1 := by rw [<- hw1]; exact Fr.alloc _ _
 have HP := Hdq (show At w1 Z (.cells #[.int .i64 p.size, .int .i64 p.sent, .int .i64 p.spots, .int .i64 p.per, .int .i64 p.pat, .int .i64 p.ret] 44) by rw [<- hw1]; exact At.new hZ.symm)
 have HF := Hdq F0
 have HB := Hdq (fun wi (h : Fr [] w0 wi) => hB.mono (A' := fun b => wi.heap.size <= b) h qg (fun b hb => .inl (Nat.le_trans h.size hb)))
 have HV := Hdq (fun wi (h : Fr [] w0 wi) => hV.keep h qg)
 have HR := Hdq (fun wi (h : Fr [] w0 wi) => hR.keep h)
 have HVN := Hdq hvn
 have HZ := Hdq hZ
 have HCK := Hdq hc
 have HXS := Hdq (show (vn : Int) = p.size by rw [<- hvn]; exact hx)
 have HKK := Hdq hk
 clear hB hV hR hc hx hk F0 hmn hvn
 go_enter Tryz.func27, Tryz.ntmps27
 go_wp2_with (first | (refine qu (.tmp 7) rfl rfl Z 0 [.int .i64 p.size, .int .i64 p.sent, .int .i64 p.spots, .int .i64 p.per, .int .i64 p.pat, .int .i64 p.ret] rfl (qr HP.out) Tryz.underlying44 rfl qf ?_) | (go_at_call 63; fail))
 clear hw1 hZ
 refine (xh w1 p).mono ?_
 rintro e w2 ⟨cs, cv, rfl, hf⟩
 replace HF := Hdq (HF.out.trans hf)
 replace HP := Hdq (HP.out.keep0 hf)
 clear hf
 rw [HCK.out]
 have c0 : w2.cell? ⟨Z, 0, none⟩ = some (.int .i64 p.size) := HP.out.cell 0
 rw [<- HXS.out] at c0
 go_wp2_with (go_at_call 11; fail)
 clear c0
 refine (LS w2 (.slice ma mn mc) m n (HB.out _ HF.out) (HR.out _ HF.out) HKK.out).mono ?_
 rintro e w3 ⟨rfl, hf⟩
 replace HF := Hdq (HF.out.trans hf)
 obtain ⟨kq, hkq⟩ := exq (qz m n)
 rw [hkq] at HKK ⊢
 have hk0 : ¬ (kq : Int) = 0 := by have := HKK.out; omega
 have HKQ := Hdq hkq
 obtain ⟨kb, hkb⟩ := exq (w3.heap.size)
 obtain ⟨w4, hw4⟩ := exq (w3.alloc (.cells n5q 29))
 have F4 : Fr [] w3 w4 := by rw [<- hw4]; exact Fr.alloc _ _
 have HK := Hdq (show At w4 kb (.cells n5q 29) by rw [<- hw4]; exact At.new hkb.symm)
 have HKZ := Hdq (show w0.heap.size <= kb by rw [<- hkb]; exact HF.out.size)
 replace HF := Hdq (HF.out.trans F4)
 clear hkq hf F4
 go_wp2_with (refine ql (.tmp 13) (.tmp 40) rfl rfl n5q rfl rfl qf HK.out rfl qf ?_)
 clear hw4 hkb
 intro w5 f9 a9 s9
 replace HF := Hdq (HF.out.then f9 (fun z hz => .inr (by simp at hz; subst hz; exact HKZ.out)))
 clear f9 a9 s9
 go_wp2
 go_ret2
 exact ⟨by rw [HKQ.out]; rfl, HF.out⟩
theorem Lx (w0 : World) (mv v : Value) (m xs : List UInt8) (n : Int) (p : Par) (hB : Bs (fun b => w0.heap.size <= b) w0 mv m) (hV : Bs (fun _ => False) w0 v xs) (hR : RG w0) (hc : chk p = 0) (hx : (xs.length : Int) = p.size) (hk : qz m n = 0) :
  Calls Tryz.prog 27 #[mv, .int .i64 n, v, .agg #[.int .i64 p.size, .int .i64 p.sent, .int .i64 p.spots, .int .i64 p.per, .int .i64 p.pat, .int .i64 p.ret]] w0 fun e w' => ∃ (u : Value) (us : List (Value × List UInt8)), e = .returned (.tuple #[u, .int .i64 0]) /\ RdB (fun _ => False) w' u us /\ us.map (·.2) = vf m n xs p.sent.toNat /\ Fr [] w0 w' := by
 obtain ⟨ma, mc, rfl, -, -, -⟩ := id hB
 obtain ⟨mn, hmn⟩ := exq (m.length)
 rw [hmn] at hB ⊢
 obtain ⟨va, vc, rfl, -, -, -⟩ := id hV
 obtain ⟨vn, hvn⟩ := exq (xs.length)
 rw [hvn] at hV ⊢
 obtain ⟨Z, hZ⟩ := exq (w0.heap.size)
 obtain ⟨w1, hw1⟩ := exq (w0.alloc (.cells #[.int .i64 p.size, .int .i64 p.sent, .int .i64 p.spots, .int .i64 p.per, .int .i64 p.pat, .int .i64 p.ret] 44))
 have F0 : Fr [] w0 w1 := by rw [<- hw1]; exact Fr.alloc _ _
 have HP := Hdq (show At w1 Z (.cells #[.int .i64 p.size, .int .i64 p.sent, .int .i64 p.spots, .int .i64 p.per, .int .i64 p.pat, .int .i64 p.ret] 44) by rw [<- hw1]; exact At.new hZ.symm)
 have HF := Hdq F0
 have HB := Hdq (fun wi (h : Fr [] w0 wi) => hB.mono (A' := fun b => wi.heap.size <= b) h qg (fun b hb => .inl (Nat.le_trans h.size hb)))
 have HV := Hdq (fun wi (h : Fr [] w0 wi) => hV.keep h qg)
 have HR := Hdq (fun wi (h : Fr [] w0 wi) => hR.keep h)
 have HVN := Hdq hvn
 have HZ := Hdq hZ
 have HCK := Hdq hc
 have HXS := Hdq (show (vn : Int) = p.size by rw [<- hvn]; exact hx)
 have HKK := Hdq hk
 have hq := yu hc
 have hbl := Ue (p := p) (xs := xs) hx hq.1
 have hb2 := JM hq.1
 have hsq : 0 <= p.sent /\ p.sent <= 8 := hq.2
 obtain ⟨bl, hblx⟩ := exq (jd xs)
 have hb8 : ∀ r ∈ bl, r.length = 8 := by rw [<- hblx]; exact xO xs
 obtain ⟨mm, hmm⟩ := exq (bl.length)
 obtain ⟨ss, hss⟩ := exq (p.sent.toNat)
 have hpz : p.sent = (ss : Int) := by omega
 have HNN := Hdq (show mm <= 510 /\ ss <= 8 /\ mm + ss <= 1000 from by rw [hblx, hmm] at hbl; omega)
 have HB8 := Hdq (And.intro hb8 hmm)
 have HBL := Hdq hblx
 have HXL := Hdq (show xs.length <= 2000 from by have h1 : 0 <= p.size /\ p.size <= 2000 := hq.1; omega)
 have HSS := Hdq hss
 obtain ⟨AL, hAL⟩ := exq (Jf (qv m jT n) (qv m jw n) bl ss)
 have HAL := Hdq hAL
 have hALL : AL.length = mm + ss := by rw [<- hAL, ya, hmm]
 have HALL := Hdq hALL
 have HPS := Hdq hpz
 have HSEAL := Hdq (show vf m n xs p.sent.toNat = zO (jU (qv m je n) (mm + ss)) (fun p b => zk (qv m zi n) (p : Int) b) AL (mm + ss) by
  unfold vf
  simp only [hss, hblx, hAL, hALL])
 obtain ⟨NN, hNN⟩ := exq (mm + ss)
 have HN := Hdq hNN
 rw [hNN] at HNN HALL HSEAL
 rw [HSEAL.out]
 clear hB hV hR hc hx hk F0 hmn hvn hq hbl hb2 hsq hblx hb8 hmm hss hpz hAL hALL hNN
 go_enter Tryz.func27, Tryz.ntmps27
 go_wp2_with (first | (refine qu (.tmp 7) rfl rfl Z 0 [.int .i64 p.size, .int .i64 p.sent, .int .i64 p.spots, .int .i64 p.per, .int .i64 p.pat, .int .i64 p.ret] rfl (qr HP.out) Tryz.underlying44 rfl qf ?_) | (go_at_call 63; fail))
 clear hw1 hZ
 refine (xh w1 p).mono ?_
 rintro e w2 ⟨cs, cv, rfl, hf⟩
 replace HF := Hdq (HF.out.trans hf)
 replace HP := Hdq (HP.out.keep0 hf)
 clear hf
 rw [HCK.out]
 have c0 : w2.cell? ⟨Z, 0, none⟩ = some (.int .i64 p.size) := HP.out.cell 0
 rw [<- HXS.out] at c0
 go_wp2_with (go_at_call 11; fail)
 clear c0
 refine (qbL w2 (.slice ma mn mc) m n (HB.out _ HF.out) (HR.out _ HF.out) HKK.out).mono ?_
 rintro e w3 ⟨u0, u1, u2, u3, u4, rfl, ⟨g0, g1, g2, g3, g4⟩, hf⟩
 obtain ⟨x0, n0, y0, rfl⟩ := jh g0
 obtain ⟨x1, n1, y1, rfl⟩ := jh g1
 obtain ⟨x2, n2, y2, rfl⟩ := jh g2
 obtain ⟨x3, n3, y3, rfl⟩ := jh g3
 obtain ⟨x4, n4, y4, rfl⟩ := jh g4
 replace HF := Hdq (HF.out.trans hf)
 replace HP := Hdq (HP.out.keep0 hf)
 obtain ⟨kb, hkb⟩ := exq (w3.heap.size)
 have HKB := Hdq hkb
 obtain ⟨w4, hw4⟩ := exq (w3.alloc (.cells #[.slice x0 n0 y0, .slice x1 n1 y1, .slice x2 n2 y2, .slice x3 n3 y3, .slice x4 n4 y4] 29))
 have F4 : Fr [] w3 w4 := by rw [<- hw4]; exact Fr.alloc _ _
 have HK4 := Hdq (show At w4 kb (.cells #[.slice x0 n0 y0, .slice x1 n1 y1, .slice x2 n2 y2, .slice x3 n3 y3, .slice x4 n4 y4] 29) by rw [<- hw4]; exact At.new hkb.symm)
 have HG := Hdq (And.intro ((g0.bs (A := fun _ => False) (fun _ h => h.elim)).keep F4 qg) (And.intro ((g1.bs (A := fun _ => False) (fun _ h => h.elim)).keep F4 qg) (And.intro ((g2.bs (A := fun _ => False) (fun _ h => h.elim)).keep F4 qg) ((g3.bs (A := fun _ => False) (fun _ h => h.elim)).keep F4 qg))))
 have HF4 := Hdq (HF.out.trans F4)
 have HP4 := Hdq (HP.out.keep0 F4)
 clear hf F4 g0 g1 g2 g3 g4 HF HP
 go_wp2_with (first | (refine qy (.tmp 13) (.tmp 40) rfl rfl #[.slice x0 n0 y0, .slice x1 n1 y1, .slice x2 n2 y2, .slice x3 n3 y3, .slice x4 n4 y4] (by first | rfl | exact congrArg (fun n => Value.pointer (some ⟨n, 0, none⟩)) HKB.out.symm) rfl qf rfl qf ?_) | (go_at_call 77; fail))
 clear hw4 hkb
 refine (Vb w4 (.slice va vn vc) xs (HV.out _ HF4.out) HXL.out).mono ?_
 rintro e w5 ⟨bu, ls, rfl, hO, hT, hL, hf⟩
 rw [HBL.out] at hL
 have hll : ls.length = mm := by rw [<- List.length_map (·.2), hL]; exact HB8.out.2
 have hR5 : RdB (fun _ => False) w5 bu ls := ⟨hO.vs (fun _ h => h.elim), fun x hx => (hT x hx).bs (fun _ h => h)⟩
 obtain ⟨ba, bc, rfl, hb1, hb2⟩ := jI hR5
 rw [hll] at hR5 hb1 ⊢
 have hnni : (mm : Int) + (ss : Int) = (NN : Int) := by have := HN.out; omega
 have HMM := Hdq hll
 have HLM := Hdq hL
 have cs : w5.cell? ⟨Z, 1, none⟩ = some (.int .i64 (ss : Int)) := by rw [<- HPS.out]; exact (HP4.out.keep0 hf).cell 1
 obtain ⟨rb, hrb⟩ := exq (w5.heap.size)
 have HRBB := Hdq hrb
 obtain ⟨w6, hw6⟩ := exq (w5.alloc (.cells (madeCells #[.slice none 0 0] NN) 22))
 have F6 : Fr [] w5 w6 := by rw [<- hw6]; exact Fr.alloc _ _
 have HA := Hdq (show At w6 rb (.cells (((List.replicate NN ((.slice none 0 0, []) : Value × List UInt8)).map (·.1)).toArray) 22) from by rw [List.map_replicate, <- Qr, <- hw6]; exact At.new hrb.symm)
 have HF6 := Hdq ((HF4.out.trans hf).trans F6)
 have HK := Hdq ((HK4.out.keep0 hf).keep0 F6)
 have K0 := Hdq (show Bs (fun b => rb <= b) w6 (.slice x0 n0 y0) (qv m jT n) from by rw [<- hrb]; exact (jb (HG.out.1.keep hf qg)).keep F6 qg)
 have K1 := Hdq (show Bs (fun b => rb <= b) w6 (.slice x1 n1 y1) (qv m je n) from by rw [<- hrb]; exact (jb (HG.out.2.1.keep hf qg)).keep F6 qg)
 have K2 := Hdq (show Bs (fun b => rb <= b) w6 (.slice x2 n2 y2) (qv m jw n) from by rw [<- hrb]; exact (jb (HG.out.2.2.1.keep hf qg)).keep F6 qg)
 have K3 := Hdq (show Bs (fun b => rb <= b) w6 (.slice x3 n3 y3) (qv m zi n) from by rw [<- hrb]; exact (jb (HG.out.2.2.2.keep hf qg)).keep F6 qg)
 have HR6 := Hdq (show RdB (fun b => rb <= b) w6 (.slice ba mm bc) ls from by rw [<- hrb]; exact (Uf hR5).keep F6 qg)
 have hkr : kb ≠ rb := by have := qx (show w4.heap[kb]? = _ from HK4.out); have := hf.size; omega
 have hgr : 21 < rb := by rw [<- hrb]; exact (HR.out _ (HF4.out.trans hf)).g
 have HX := Hdq (fun wi (h : Fr [rb] w6 wi) => And.intro ((HR.out _ HF6.out).keepS h (fun b hb => by rw [List.mem_singleton.1 hb]; exact hgr)) (HK.out.keep h (by simpa using hkr)))
 have HRB := Hdq (show w6.heap.size <= w6.heap.size /\ w0.heap.size <= rb from ⟨Nat.le_refl _, by rw [<- hrb]; exact (HF4.out.trans hf).size⟩)
 have HN1 := Hdq (show NN <= 1000 by have := HNN.out; omega)
 clear hf F6 hO hT hL hR5 hll hb1 hb2 HG HP4 HK4 hkr hgr
 have hnb : (NN : Int) <= 1000 := by have := HN1.out; omega
 have hnz : (0 : Int) <= (NN : Int) := by omega
 go_wp2_with (refine UH Tryz.underlying56 Tryz.infoBytes rfl rfl (.tmp 55) rfl NN rfl VP VP ?_)
 clear hw6 hrb cs
 go_loopw [19] (fun i wr => ∃ (k : Nat) (us : List (Value × List UInt8)), k <= NN /\ i = .int .i64 (k : Int) /\ Hid (us.length = NN) /\ Hid (At wr rb (.cells (us.map (·.1)).toArray 22)) /\ Hid (∀ x ∈ us, Bs (fun b => b <= rb) wr x.1 x.2) /\ Hid (us.map (·.2) = zO (jU (qv m je n) NN) (fun p b => zk (qv m zi n) (p : Int) b) AL k) /\ Hid (Fr [rb] w6 wr)) (fun i _ => NN - (intOf i).toNat)
 case atStart =>
  refine ⟨0, List.replicate NN (.slice none 0 0, []), by omega, rfl, Hdq List.length_replicate, HA, Hdq (fun x hx => ?_), Hdq ?_, Hdq (Fr.refl _ _)⟩
  ·obtain ⟨-, rfl⟩ := List.mem_replicate.1 hx
   exact Bs.nil _ _ _ _ (Nat.zero_le _)
  ·rw [List.map_replicate, zO, HALL.out]
 case round =>
  clear HA
  obtain ⟨k, us, hk, rfl, HUL, HA, HBU, HL, HF⟩ := hrel
  obtain ⟨wl, rfl⟩ : ∃ wl, wl = wr := ⟨wr, rfl⟩
  by_cases hkn : k < NN
  ·have hkni : (k : Int) < (NN : Int) := by omega
   have HAG := Hdq (show AL = Jf (qv m jT n) (qv m jw n) bl ss from HAL.out.symm)
   obtain ⟨wb, hwb⟩ := exq (wl.alloc (.cells #[] 5))
   have HWB := Hdq (show Fr [] wl wb by rw [<- hwb]; exact Fr.alloc _ _)
   have HFB := Hdq (HF.out.then HWB.out qg)
   by_cases hkm : k < mm
   ·have hki : (k : Int) < (mm : Int) := by omega
    obtain ⟨⟨xv, xr⟩, hx⟩ : ∃ x, ls[k]? = some x := ⟨_, List.getElem?_eq_getElem (by rw [HMM.out]; exact hkm)⟩
    have hxb : bl[k]? = some xr := by rw [<- HLM.out, List.getElem?_map, hx]; rfl
    have hx8 : xr.length = 8 := HB8.out.1 _ (List.mem_of_getElem? hxb)
    obtain ⟨lb, lo, rfl, hc2, hbx⟩ := zG (HR6.out.keep HFB.out qg) k _ hx
    replace hbx : Bs (fun b => rb <= b) wb xv xr := hbx
    replace hc2 : wb.cell? ⟨lb, lo + k, none⟩ = some xv := hc2
    obtain ⟨xa, xc, rfl, -, -, -⟩ := id hbx
    rw [hx8] at hc2 hbx
    have HROW := Hdq (show AL.getD k [] = zt (qv m jT n) (k : Int) xr by
     rw [HAG.out, List.getD_eq_getElem?_getD, Jf, List.getElem?_append_left (by rw [List.length_mapIdx, HB8.out.2]; exact hkm), List.getElem?_mapIdx, hxb]; rfl)
    have HRL := Hdq (show (zt (qv m jT n) (k : Int) xr).length <= 1000000 by rw [yj _ _ _ hx8]; decide)
    have HBX := Hdq hbx
    have HX8 := Hdq hx8
    have HC2 := Hdq hc2
    clear hx hxb hbx hx8 hc2
    go_wp2
    clear hwb
    refine qeB wb.heap.size kb lb lo mm bc k x0 xa n0 y0 8 xc (zt (qv m jT n) (k : Int) xr) wb _ rfl rfl rfl rfl rfl ((HX.out _ HFB.out).2.cell 0) HC2.out hki hkm (fun p hp => WU p _ _ _ xr (k : Int) (K0.out.mono (HFB.out.then hp qg) qg (fun b hb => .inr (Nat.le_trans (HFB.out.then hp qg).size hb))) (HBX.out.mono hp qg (fun b hb => .inr (Nat.le_trans hp.size hb))) Ws HX8.out (HX.out _ (HFB.out.then hp qg)).1 Y95 VP) _ ?_
    intro b pw hd hs ho hf hO
    have hb2 := vS b _ [68, 69, 70, 71, 72, 73, 74, 75, 67, 76, 77, 20] hd hs (fun s hn => ho s (by simpa using hn))
    simp only [List.foldl_cons, List.foldl_nil] at hb2
    obtain ⟨o2, ho2⟩ := exq (qd b 20)
    rw [ho2] at hO hb2
    obtain ⟨ra, rn, rc, rfl⟩ := jh hO
    have HRW := Hdq (hO.bs (A := fun _ => False) (fun _ h => h.elim))
    have HFX := Hdq (HFB.out.then hf qg)
    have HFW := Hdq (HWB.out.trans hf)
    clear hO hf ho hs hd ho2
    generalize qd b 68 = s68 at hb2
    generalize qd b 69 = s69 at hb2
    generalize qd b 70 = s70 at hb2
    generalize qd b 71 = s71 at hb2
    generalize qd b 72 = s72 at hb2
    generalize qd b 73 = s73 at hb2
    generalize qd b 74 = s74 at hb2
    generalize qd b 75 = s75 at hb2
    generalize qd b 67 = s67 at hb2
    generalize qd b 76 = s76 at hb2
    generalize qd b 77 = s77 at hb2
    subst hb2
    unfold Act.put
    have c1 : pw.cell? ⟨kb, 1, none⟩ = some (.slice x1 n1 y1) := (HX.out _ HFX.out).2.cell 1
    go_wp2_with (go_at_call 70; fail)
    clear c1
    refine (YR pw (.slice x1 n1 y1) (qv m je n) NN k (K1.out.mono HFX.out qg (fun b hb => .inr (Nat.le_trans HFX.out.size hb))) Ws (HX.out _ HFX.out).1 VP hkn).mono ?_
    rintro e w8 ⟨rfl, hf⟩
    have HPL := Hdq (yp (key := qv m je n) (n := NN) VP hkn)
    obtain ⟨pl, hpl⟩ := exq (jU (qv m je n) NN k)
    rw [hpl] at HPL ⊢
    have HPK := Hdq hpl
    have HFX8 := Hdq (HFX.out.then hf qg)
    have HFW8 := Hdq (HFW.out.trans hf)
    have HRW8 := Hdq (HRW.out.keep hf qg)
    have c3 : w8.cell? ⟨kb, 3, none⟩ = some (.slice x3 n3 y3) := (HX.out _ HFX8.out).2.cell 3
    clear hpl hf HFX HFW HRW
    go_wp2_with (go_at_call 17; fail)
    clear c3
    refine (JA w8 (.slice x3 n3 y3) (.slice ra rn rc) (qv m zi n) (zt (qv m jT n) (k : Int) xr) (pl : Int) (K3.out.mono HFX8.out qg (fun b hb => .inr (Nat.le_trans HFX8.out.size hb))) (jb HRW8.out) Ws HRL.out (HX.out _ HFX8.out).1).mono ?_
    rintro e w9 ⟨u, rfl, hu, hf⟩
    have HFW9 := Hdq (HFW8.out.trans hf)
    have hrw : rb < wl.heap.size := qx (show wl.heap[rb]? = _ from HA.out)
    have hw8 : rb < w8.heap.size := Nat.lt_of_lt_of_le hrw HFW8.out.size
    have hbu := hu.bs (A := fun b => b <= rb) (fun b hb => Nat.lt_of_le_of_lt hb hw8)
    obtain ⟨ua, un, uc, rfl⟩ := jh hu
    have HA9 := Hdq (HA.out.keep0 HFW9.out)
    have HBN := Hdq hbu
    have hpi : (pl : Int) < (NN : Int) := by have := HPL.out; omega
    have hpn : pl < NN := HPL.out
    clear hu hf hbu hrw hw8
    go_wp2_with (refine qj (.tmp 100) (.tmp 99) rfl rfl (.slice ua un uc) rfl rfl HA9.out qdi qf rfl ?_)
    intro w7 f7 a7 s7
    have HF7 := Hdq ((HF.out.then HFW9.out qg).then f7 (fun z hz => .inl hz))
    have HA7 := Hdq (show At w7 rb (.cells ((us.set pl (.slice ua un uc, zk (qv m zi n) (pl : Int) (zt (qv m jT n) (k : Int) xr))).map (·.1)).toArray 22) from by rw [List.map_set]; simpa using a7)
    have HB7 := Hdq (show ∀ y ∈ us.set pl (Value.slice ua un uc, zk (qv m zi n) (pl : Int) (zt (qv m jT n) (k : Int) xr)), Bs (fun b => b <= rb) w7 y.1 y.2 from fun y hy => by
     rcases List.mem_or_eq_of_mem_set hy with hy | rfl
     ·exact ((HBU.out y hy).keep HFW9.out qg).keep f7 qg
     ·exact HBN.out.keep f7 qg)
    have HL7 := Hdq (show (us.set pl (Value.slice ua un uc, zk (qv m zi n) (pl : Int) (zt (qv m jT n) (k : Int) xr))).map (·.2) = zO (jU (qv m je n) NN) (fun p b => zk (qv m zi n) (p : Int) b) AL (k + 1) by
     rw [List.map_set, HL.out, zO, HPK.out, HROW.out])
    have HU7 := Hdq (show (us.set pl (Value.slice ua un uc, zk (qv m zi n) (pl : Int) (zt (qv m jT n) (k : Int) xr))).length = NN by rw [List.length_set, HUL.out])
    clear f7 a7 s7 HF HA HBU HL HUL HFX8 HFW8 HFW9 HA9 HBN HPK hpi hpn
    go_wp2
    go_roundw
    case rel => exact ⟨k + 1, _, by omega, by simp, HU7, HA7, HB7, HL7, HF7⟩
    case measure => simp [intOf]; omega
   ·have hki : ¬ (k : Int) < (mm : Int) := by omega
    have hkz : (mm : Int) <= (k : Int) := by omega
    have HROW := Hdq (show AL.getD k [] = zT (qv m jw n) ((k : Int) - (mm : Int)) by
     rw [HAG.out, List.getD_eq_getElem?_getD, Jf, List.getElem?_append_right (by rw [List.length_mapIdx, HB8.out.2]; omega), List.length_mapIdx, HB8.out.2, List.getElem?_map, List.getElem?_range ux, show (k : Int) - (mm : Int) = ((k - mm : Nat) : Int) by omega]; rfl)
    have HRL := Hdq (show (zT (qv m jw n) ((k : Int) - (mm : Int))).length <= 1000000 by rw [xQ]; decide)
    have c2 : wb.cell? ⟨kb, 2, none⟩ = some (.slice x2 n2 y2) := (HX.out _ HFB.out).2.cell 2
    go_wp2_with (go_at_call 71; fail)
    clear c2 hwb
    refine (Zl wb (.slice x2 n2 y2) (qv m jw n) ((k : Int) - (mm : Int)) (K2.out.mono HFB.out qg (fun b hb => .inr (Nat.le_trans HFB.out.size hb))) Ws (HX.out _ HFB.out).1 Y95 VP).mono ?_
    rintro e wq ⟨u, rfl, hO, hf⟩
    obtain ⟨ra, rn, rc, rfl⟩ := jh hO
    have HRW := Hdq (hO.bs (A := fun _ => False) (fun _ h => h.elim))
    have HFX := Hdq (HFB.out.then hf qg)
    have HFW := Hdq (HWB.out.trans hf)
    clear hO hf
    have c1 : wq.cell? ⟨kb, 1, none⟩ = some (.slice x1 n1 y1) := (HX.out _ HFX.out).2.cell 1
    go_wp2_with (go_at_call 70; fail)
    clear c1
    refine (YR wq (.slice x1 n1 y1) (qv m je n) NN k (K1.out.mono HFX.out qg (fun b hb => .inr (Nat.le_trans HFX.out.size hb))) Ws (HX.out _ HFX.out).1 VP hkn).mono ?_
    rintro e w8 ⟨rfl, hf⟩
    have HPL := Hdq (yp (key := qv m je n) (n := NN) VP hkn)
    obtain ⟨pl, hpl⟩ := exq (jU (qv m je n) NN k)
    rw [hpl] at HPL ⊢
    have HPK := Hdq hpl
    have HFX8 := Hdq (HFX.out.then hf qg)
    have HFW8 := Hdq (HFW.out.trans hf)
    have HRW8 := Hdq (HRW.out.keep hf qg)
    have c3 : w8.cell? ⟨kb, 3, none⟩ = some (.slice x3 n3 y3) := (HX.out _ HFX8.out).2.cell 3
    clear hpl hf HFX HFW HRW
    go_wp2_with (go_at_call 17; fail)
    clear c3
    refine (JA w8 (.slice x3 n3 y3) (.slice ra rn rc) (qv m zi n) (zT (qv m jw n) ((k : Int) - (mm : Int))) (pl : Int) (K3.out.mono HFX8.out qg (fun b hb => .inr (Nat.le_trans HFX8.out.size hb))) (jb HRW8.out) Ws HRL.out (HX.out _ HFX8.out).1).mono ?_
    rintro e w9 ⟨u, rfl, hu, hf⟩
    have HFW9 := Hdq (HFW8.out.trans hf)
    have hrw : rb < wl.heap.size := qx (show wl.heap[rb]? = _ from HA.out)
    have hw8 : rb < w8.heap.size := Nat.lt_of_lt_of_le hrw HFW8.out.size
    have hbu := hu.bs (A := fun b => b <= rb) (fun b hb => Nat.lt_of_le_of_lt hb hw8)
    obtain ⟨ua, un, uc, rfl⟩ := jh hu
    have HA9 := Hdq (HA.out.keep0 HFW9.out)
    have HBN := Hdq hbu
    have hpi : (pl : Int) < (NN : Int) := by have := HPL.out; omega
    have hpn : pl < NN := HPL.out
    clear hu hf hbu hrw hw8
    go_wp2_with (refine qj (.tmp 100) (.tmp 99) rfl rfl (.slice ua un uc) rfl rfl HA9.out qdi qf rfl ?_)
    intro w7 f7 a7 s7
    have HF7 := Hdq ((HF.out.then HFW9.out qg).then f7 (fun z hz => .inl hz))
    have HA7 := Hdq (show At w7 rb (.cells ((us.set pl (.slice ua un uc, zk (qv m zi n) (pl : Int) (zT (qv m jw n) ((k : Int) - (mm : Int))))).map (·.1)).toArray 22) from by rw [List.map_set]; simpa using a7)
    have HB7 := Hdq (show ∀ y ∈ us.set pl (Value.slice ua un uc, zk (qv m zi n) (pl : Int) (zT (qv m jw n) ((k : Int) - (mm : Int)))), Bs (fun b => b <= rb) w7 y.1 y.2 from fun y hy => by
     rcases List.mem_or_eq_of_mem_set hy with hy | rfl
     ·exact ((HBU.out y hy).keep HFW9.out qg).keep f7 qg
     ·exact HBN.out.keep f7 qg)
    have HL7 := Hdq (show (us.set pl (Value.slice ua un uc, zk (qv m zi n) (pl : Int) (zT (qv m jw n) ((k : Int) - (mm : Int))))).map (·.2) = zO (jU (qv m je n) NN) (fun p b => zk (qv m zi n) (p : Int) b) AL (k + 1) by
     rw [List.map_set, HL.out, zO, HPK.out, HROW.out])
    have HU7 := Hdq (show (us.set pl (Value.slice ua un uc, zk (qv m zi n) (pl : Int) (zT (qv m jw n) ((k : Int) - (mm : Int))))).length = NN by rw [List.length_set, HUL.out])
    clear f7 a7 s7 HF HA HBU HL HUL HFX8 HFW8 HFW9 HA9 HBN HPK hpi hpn
    go_wp2
    go_roundw
    case rel => exact ⟨k + 1, _, by omega, by simp, HU7, HA7, HB7, HL7, HF7⟩
    case measure => simp [intOf]; omega
  ·obtain rfl : k = NN := by omega
   go_wp2
   go_ret2
   have hrr : RdB (fun _ => False) wl (.slice (some ⟨rb, 0, none⟩) k k) us := by
    refine ⟨⟨some ⟨rb, 0, none⟩, k, by rw [List.length_map, HUL.out], by rw [List.length_map, HUL.out]; exact Nat.le_refl _, by have := HN1.out; simp [maxLen]; omega, ?_⟩, fun y hy => ?_⟩
    ·have h := Row.of_block (A := fun _ => False) (w := wl) (b := rb) (c := (us.map (fun x : Value × List UInt8 => x.1)).toArray) (e := 22) (fz := (0, 0)) HA.out (fun h => h)
     simpa using h
    ·exact (HBU.out y hy).mono (S := []) (Fr.refl _ _) qg (fun b hb => hb.elim)
   exact ⟨_, us, rfl, hrr, HL.out, HF6.out.then HF.out (fun z hz => .inr (by simp at hz; subst hz; exact HRB.out.2))⟩
end Go.Proofs.YtnafknkchbfpaaaGreatDoor
