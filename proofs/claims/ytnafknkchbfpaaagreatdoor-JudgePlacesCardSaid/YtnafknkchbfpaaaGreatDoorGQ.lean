import Derived.Test.YtnafknkchbfpaaaGreatDoorGM
import Derived.Test.YtnafknkchbfpaaaGreatDoorGP
import Derived.Test.YtnafknkchbfpaaaGreatDoorGO
set_option linter.unusedVariables false
set_option linter.unusedSimpArgs false
set_option maxRecDepth 1000000
set_option maxHeartbeats 8000000
namespace Go.Proofs.YtnafknkchbfpaaaGreatDoor
open Go.RowKit Go.Bl
def qdv (v : Value) : Nat := match v with
 | .slice _ n _ => n
 | _ => 0
theorem z7 (n : Nat) : qB n <= 63 := by unfold qB; omega
theorem qaL (n r j : Nat) (hr : r = n % 64) (hj : j < qB n) : ¬ (r + 1 + j) % 64 = 56 := by unfold qB at hj; omega
theorem KY (n r : Nat) (hr : r = n % 64) : (r + 1 + qB n) % 64 = 56 := by unfold qB; omega
theorem Up (A : Nat -> Prop) (w : World) (c : UInt8) (hA : ¬ A w.heap.size) : Bs A (w.alloc (.cells #[.int .u8 (c.toNat : Int)] 5)) (.slice (some ⟨w.heap.size, 0, none⟩) 1 1) [c] :=
 ⟨_, 1, rfl, by simp, by simp [maxLen], Row.of_block (A := A) (ul (w := w) (o := .cells #[.int .u8 (c.toNat : Int)] 5) rfl) hA⟩
theorem xG (n : Nat) : (uI n).length = 8 := rfl
theorem qcU (n j : Nat) (hj : j < 8) : (uI n).getD j 0 = UInt8.ofNat (n * 8 / 2 ^ (56 - 8 * j) % 256) := by
 match j, hj with
 | 0, _ => rfl
 | 1, _ => rfl
 | 2, _ => rfl
 | 3, _ => rfl
 | 4, _ => rfl
 | 5, _ => rfl
 | 6, _ => rfl
 | 7, _ => rfl
theorem Xr (n j : Nat) (hj : j < 8) : ((n * 8 / 2 ^ (56 - 8 * j) : Nat) : Int) % 256 = (((uI n).getD j 0).toNat : Int) := by
 rw [qcU n j hj, UInt8.toNat_ofNat']
 omega
theorem KH (n j : Nat) (hj : j < 8) : (uI n).take (j + 1) = (uI n).take j ++ [(uI n).getD j 0] := by
 rw [List.take_succ_eq_append_getElem (by rw [xG]; exact hj), List.getD_eq_getElem?_getD, List.getElem?_eq_getElem (by rw [xG]; exact hj)]
 rfl
theorem uN (ws : List UInt8) : (ws.map u8v).toArray.all (·.oneCell') = true := by
 rw [List.all_toArray, List.all_map]
 exact List.all_eq_true.2 fun _ _ => rfl
theorem fr_below {w w' : World} (h : Below w.heap.size w w') : Fr [] w w' := ⟨h.os, h.tape, h.output, h.size, fun k hk _ => h.block k hk⟩
def vW (X : List UInt8) (x : Nat) : List UInt8 := (X.drop (64 * x)).take 64
def Wo {M : Nat} (X : List UInt8) (s0 : St8) (pre : List {x : Nat // x < M}) : St8 := pre.foldl (fun s x => qY s (vW X x.1)) s0
theorem UI {M : Nat} (X : List UInt8) (s0 : St8) (pre : List {x : Nat // x < M}) (x : {x : Nat // x < M}) : Wo X s0 (pre ++ [x]) = qY (Wo X s0 pre) (vW X x.1) := by simp [Wo, List.foldl_append]
theorem Ks {M : Nat} (X : List UInt8) (s0 : St8) : ∀ k, k <= M -> Wo X s0 (upF M k) = jg k s0 X
 | 0, _ => rfl
 | k + 1, h => by
  rw [Zf M k Y66, UI, Ks X s0 k Y66, vh k 1]
  rfl
theorem Wm (X : List UInt8) (x M : Nat) (hl : X.length = 64 * M) (hx : x < M) : (vW X x).length = 64 := by
 rw [vW, List.length_take, List.length_drop]
 omega
def dW (S : St8) (n : Nat) : Array Value := (((zD S).take n ++ List.replicate (32 - n) 0).map u8v).toArray
theorem Zb (S : St8) (n : Nat) (h : n < 32) : (dW S n).setIfInBounds n (.int .u8 (((zD S).getD n 0).toNat : Int)) = dW S (n + 1) := by
 unfold dW
 rw [List.setIfInBounds_toArray]
 congr 1
 rw [show (Value.int .u8 (((zD S).getD n 0).toNat : Int)) = u8v ((zD S).getD n 0) from rfl, <- List.map_set]
 congr 1
 rw [List.set_append_right _ _ Y95, List.length_take, uM, Nat.min_eq_left Y66, Nat.sub_self, show 32 - n = (32 - (n + 1)) + 1 by omega, List.replicate_succ, List.set_cons_zero, List.take_succ_eq_append_getElem (by rw [uM]; exact h), List.append_assoc, List.getD_eq_getElem?_getD, List.getElem?_eq_getElem (by rw [uM]; exact h)]
 rfl
theorem QV (S : St8) (n : Nat) (h : n <= 32) : (dW S n).size = 32 := by
 unfold dW
 rw [List.size_toArray, List.length_map, List.length_append, List.length_take, uM, List.length_replicate]
 omega
theorem qcd (S : St8) : dW S 32 = ((zD S).map u8v).toArray := by
 unfold dW
 rw [List.take_of_length_le (by rw [uM]; omega), Nat.sub_self, List.replicate_zero, List.append_nil]
theorem qfl (S : St8) (k j : Nat) (hk : k < 8) (hj : j < 4) : (zD S).getD (4 * k + j) 0 = (qev (S.l.getD k 0)).getD j 0 := by
 match k, hk, j, hj with
 | 0, _, 0, _ => rfl
 | 0, _, 1, _ => rfl
 | 0, _, 2, _ => rfl
 | 0, _, 3, _ => rfl
 | 1, _, 0, _ => rfl
 | 1, _, 1, _ => rfl
 | 1, _, 2, _ => rfl
 | 1, _, 3, _ => rfl
 | 2, _, 0, _ => rfl
 | 2, _, 1, _ => rfl
 | 2, _, 2, _ => rfl
 | 2, _, 3, _ => rfl
 | 3, _, 0, _ => rfl
 | 3, _, 1, _ => rfl
 | 3, _, 2, _ => rfl
 | 3, _, 3, _ => rfl
 | 4, _, 0, _ => rfl
 | 4, _, 1, _ => rfl
 | 4, _, 2, _ => rfl
 | 4, _, 3, _ => rfl
 | 5, _, 0, _ => rfl
 | 5, _, 1, _ => rfl
 | 5, _, 2, _ => rfl
 | 5, _, 3, _ => rfl
 | 6, _, 0, _ => rfl
 | 6, _, 1, _ => rfl
 | 6, _, 2, _ => rfl
 | 6, _, 3, _ => rfl
 | 7, _, 0, _ => rfl
 | 7, _, 1, _ => rfl
 | 7, _, 2, _ => rfl
 | 7, _, 3, _ => rfl
theorem qdr (x : UInt32) (j : Nat) (hj : j < 4) : ((((qev x).getD j 0).toNat : Nat) : Int) = IntKind.u8.wrap (wN x / 2 ^ (24 - 8 * j)) := by
 match j, hj with
 | 0, _ => rw [JH x 24 qa, yF]; rfl
 | 1, _ => rw [JH x 16 qa, yF]; rfl
 | 2, _ => rw [JH x 8 qa, yF]; rfl
 | 3, _ => rw [show 24 - 8 * 3 = 0 from rfl, Int.pow_zero, Int.ediv_one, yF]; rfl
theorem qbK (S : St8) (k j : Nat) (hk : k < 8) (hj : j < 4) : IntKind.u8.wrap (wN (S.l.getD k 0) / 2 ^ (24 - 8 * j)) = (((zD S).getD (4 * k + j) 0).toNat : Int) := by rw [qfl S k j hk hj, qdr _ j hj]
noncomputable def qdY : Code := ((Tryz.f31.body.bind (jj 34)).getD .skip)
theorem Lw (wr : World) (a : Go.Act) (hsz : a.tmps.size = 305) (hd : a.defers = []) (Z db k p0 p1 p2 p3 : Nat) (S : St8) (x : UInt32) (c0 c1 c2 c3 : UInt8) (h2 : slot a 2 = .pointer (some ⟨Z, 0, none⟩)) (h24 : slot a 24 = .pointer (some ⟨db, 0, none⟩)) (h272 : slot a 272 = .agg (wA S.l)) (h273 : slot a 273 = .int .i64 (k : Int)) (hk : k < 8) (g0 : 4 * k = p0) (g1 : p0 + 1 = p1) (g2 : p1 + 1 = p2) (g3 : p2 + 1 = p3) (hix : ∀ w, (Instr.index 157 (.agg (wA S.l)) (.int .i64 (k : Int))).run Tryz.prog w = .ok (.int .u32 (wN x)) w) (hD : At wr db (.cells (dW S p0) 57)) (e0 : (zD S).getD p0 0 = c0) (f0 : (wN x / 16777216) % 256 = (c0.toNat : Int)) (e1 : (zD S).getD p1 0 = c1) (f1 : (wN x / 65536) % 256 = (c1.toNat : Int)) (e2 : (zD S).getD p2 0 = c2) (f2 : (wN x / 256) % 256 = (c2.toNat : Int)) (e3 : (zD S).getD p3 0 = c3) (f3 : wN x % 256 = (c3.toNat : Int)) (Q : Exit -> Go.Act -> World -> Prop)
  (hq : ∀ (c : Go.Act) (w' : World), c.defers = [] -> c.tmps.size = 305 -> slot c 2 = .pointer (some ⟨Z, 0, none⟩) -> slot c 24 = .pointer (some ⟨db, 0, none⟩) -> slot c 272 = .agg (wA S.l) -> slot c 273 = .int .i64 ((k : Int) + 1) -> At w' db (.cells (dW S (4 * (k + 1))) 57) -> Fr [db] wr w' -> Q .normal c w') : Code.wp Tryz.prog qdY Q a wr := by
 have HQ := Hdq hq
 rw [qG a hsz hd, h2, h24, h272, h273]
 clear hq h2 h24 h272 h273 hsz hd
 conv => arg 2; whnf
 have hki : (k : Int) < 8 := by omega
 have HIX := Hdq hix
 have HD0 := Hdq hD
 have E0 := Hdq e0
 have E1 := Hdq e1
 have E2 := Hdq e2
 have E3 := Hdq e3
 have i0 : (4 : Int) * (k : Int) = (p0 : Int) := by omega
 have i1 : (p0 : Int) + 1 = (p1 : Int) := by omega
 have i2 : (p0 : Int) + 2 = (p2 : Int) := by omega
 have i3 : (p0 : Int) + 3 = (p3 : Int) := by omega
 have b0 : (p0 : Int) < 32 := by omega
 have b0n : p0 < 32 := by omega
 have HQ0 := Hdq b0n
 have b1 : (p1 : Int) < 32 := by omega
 have b1n : p1 < 32 := by omega
 have HQ1 := Hdq b1n
 have b2 : (p2 : Int) < 32 := by omega
 have b2n : p2 < 32 := by omega
 have HQ2 := Hdq b2n
 have b3 : (p3 : Int) < 32 := by omega
 have b3n : p3 < 32 := by omega
 have HQ3 := Hdq b3n
 have HP1 := Hdq g1
 have HP2 := Hdq g2
 have HP3 := Hdq g3
 have HPE := Hdq (show p3 + 1 = 4 * (k + 1) by omega)
 have HN0 := Hdq (show p0 < (dW S p0).size by rw [QV _ _ Y66]; exact b0n)
 clear hix hD e0 e1 e2 e3 g0 g1 g2 g3
 go_wp2_with (first | (refine Jc (.tmp 272) (.tmp 273) rfl rfl (wA S.l) k (.int .u32 (wN x)) rfl rfl HIX.out ?_) | (refine qh (.tmp 299) (.tmp 290) rfl rfl _ rfl rfl HD0.out (HN0.out) qb rfl ?_))
 intro w1 f a1 _
 try rw [f0] at a1
 have HD1 := Hdq (show At w1 db (.cells (dW S p1) 57) by
  rw [<- E0.out, Zb S p0 (HQ0.out)] at a1
  rw [<- HP1.out]
  exact a1)
 have HF1 := Hdq (f)
 have HN1 := Hdq (show p1 < (dW S p1).size by rw [QV _ _ (by have := HQ1.out; omega)]; exact HQ1.out)
 clear f a1 HD0
 go_wp2_with (refine qh (.tmp 300) (.tmp 293) rfl rfl _ rfl rfl HD1.out (HN1.out) qb rfl ?_)
 intro w2 f a1 _
 try rw [f1] at a1
 have HD2 := Hdq (show At w2 db (.cells (dW S p2) 57) by
  rw [<- E1.out, Zb S p1 (HQ1.out)] at a1
  rw [<- HP2.out]
  exact a1)
 have HF2 := Hdq (HF1.out.trans f)
 have HN2 := Hdq (show p2 < (dW S p2).size by rw [QV _ _ (by have := HQ2.out; omega)]; exact HQ2.out)
 clear f a1 HD1
 go_wp2_with (refine qh (.tmp 301) (.tmp 296) rfl rfl _ rfl rfl HD2.out (HN2.out) qb rfl ?_)
 intro w3 f a1 _
 try rw [f2] at a1
 have HD3 := Hdq (show At w3 db (.cells (dW S p3) 57) by
  rw [<- E2.out, Zb S p2 (HQ2.out)] at a1
  rw [<- HP3.out]
  exact a1)
 have HF3 := Hdq (HF2.out.trans f)
 have HN3 := Hdq (show p3 < (dW S p3).size by rw [QV _ _ (by have := HQ3.out; omega)]; exact HQ3.out)
 clear f a1 HD2
 go_wp2_with (refine qh (.tmp 302) (.tmp 298) rfl rfl _ rfl rfl HD3.out (HN3.out) qb rfl ?_)
 intro w4 f a1 _
 try rw [f3] at a1
 have HD4 := Hdq (show At w4 db (.cells (dW S (p3 + 1)) 57) by
  rw [<- E3.out, Zb S p3 (HQ3.out)] at a1
  
  exact a1)
 have HF4 := Hdq (HF3.out.trans f)
 clear f a1 HD3
 go_wp2
 refine HQ.out _ _ rfl rfl rfl rfl rfl (by go_num) ?_ HF4.out
 rw [<- HPE.out]
 exact HD4.out
noncomputable def qd6 : Code := ((Tryz.f31.body.bind (jj 2)).getD .skip)
theorem LH (wr : World) (a : Go.Act) (hsz : a.tmps.size = 305) (hd : a.defers = []) (v0 : Value) (Z : Nat) (w1 : World) (va : Option Addr) (vn vc : Nat) (X : List UInt8) (h0 : slot a 0 = v0) (h2 : slot a 2 = .pointer (some ⟨Z, 0, none⟩)) (h3 : slot a 3 = .slice va vn vc) (hO : qf 5 w1.heap.size wr (.slice va vn vc) X) (hvn : X.length = vn) (hvl : vn <= 200000000) (hne : ¬ vn % 64 = 56) (hF : Fr [] w1 wr) (Q : Exit -> Go.Act -> World -> Prop)
  (hq : ∀ (c : Go.Act) (w' : World) (v : Value), c.defers = [] -> c.tmps.size = 305 -> slot c 0 = v0 -> slot c 2 = .pointer (some ⟨Z, 0, none⟩) -> slot c 3 = v -> qf 5 w1.heap.size w' v (X ++ [0]) -> Fr [] w1 w' -> Q .normal c w') : Code.wp Tryz.prog qd6 Q a wr := by
 have HQ := Hdq hq
 rw [qG a hsz hd, h0, h2, h3]
 clear hq h0 h2 h3 hsz hd
 conv => arg 2; whnf
 have hne2 : ((vn : Int) % 64 != 56) = true := by simp only [bne_iff_ne, ne_eq]; omega
 have hne3 : ¬ (vn : Int) % 64 = 56 := by omega
 have f2 : Fr [] wr (wr.alloc (.cells #[.int .u8 0] 5)) := Fr.alloc _ _
 have HO2 := Hdq (hO.keep f2 qc)
 have HF2 := Hdq (hF.trans f2)
 have hz2 : w1.heap.size <= (wr.alloc (.cells #[.int .u8 0] 5)).heap.size := HF2.out.size
 have HVN := Hdq hvn
 have HVL := Hdq hvl
 clear f2 hO hF hvn hvl hne
 go_wp2_with (at_builtin; refine qu (A := fun _ => False) (ys := [0]) (base := w1.heap.size) Tryz.underlying22 Tryz.infoByte rfl (.tmp 36) (.tmp 37) rfl rfl rfl HO2.out (Up _ wr 0 qc) (by have := HVN.out; have := HVL.out; simp; omega) hz2 ?_)
 intro v3 w3 h5 h6
 have HO3 := Hdq h5
 have HF3 := Hdq (show Fr [] w1 w3 from qf.fr HO2.out HF2.out h6 (Nat.le_refl _))
 clear h5 h6 HO2 HF2 hz2
 go_wp2
 exact HQ.out _ _ _ rfl rfl rfl rfl rfl HO3.out HF3.out
theorem qaI (wr : World) (a : Go.Act) (hsz : a.tmps.size = 305) (hd : a.defers = []) (v0 : Value) (Z : Nat) (va : Option Addr) (vn vc : Nat) (h0 : slot a 0 = v0) (h2 : slot a 2 = .pointer (some ⟨Z, 0, none⟩)) (h3 : slot a 3 = .slice va vn vc) (hne : vn % 64 = 56) (Q : Exit -> Go.Act -> World -> Prop)
  (hq : ∀ c : Go.Act, c.defers = [] -> c.tmps.size = 305 -> slot c 0 = v0 -> slot c 2 = .pointer (some ⟨Z, 0, none⟩) -> slot c 3 = .slice va vn vc -> Q (.exit 0) c wr) : Code.wp Tryz.prog qd6 Q a wr := by
 have HQ := Hdq hq
 rw [qG a hsz hd, h0, h2, h3]
 clear hq h0 h2 h3 hsz hd
 conv => arg 2; whnf
 have hne2 : ((vn : Int) % 64 != 56) = false := by simp only [bne_eq_false_iff_eq]; omega
 have hne3 : (vn : Int) % 64 = 56 := by omega
 clear hne
 exact Y46
noncomputable def qem : Code := ((Tryz.f31.body.bind (jj 6)).getD .skip)
theorem LU (wr : World) (a : Go.Act) (hsz : a.tmps.size = 305) (hd : a.defers = []) (v0 : Value) (Z mn i b : Nat) (w1 : World) (va : Option Addr) (vn vc : Nat) (X : List UInt8) (y : UInt8) (h0 : slot a 0 = v0) (h2 : slot a 2 = .pointer (some ⟨Z, 0, none⟩)) (h4 : slot a 4 = .int .u64 ((mn : Int) * 8)) (h3 : slot a 3 = .slice va vn vc) (h5 : slot a 5 = .int .i64 (i : Int)) (hO : qf 5 w1.heap.size wr (.slice va vn vc) X) (hvn : X.length = vn) (hvl : vn <= 200000000) (hi : i <= 7) (hb : 8 * i = b) (e8 : ((mn : Int) * 8 / 2 ^ b) % 256 = (y.toNat : Int)) (hF : Fr [] w1 wr) (Q : Exit -> Go.Act -> World -> Prop)
  (hq : ∀ (c : Go.Act) (w' : World) (v : Value), c.defers = [] -> c.tmps.size = 305 -> slot c 0 = v0 -> slot c 2 = .pointer (some ⟨Z, 0, none⟩) -> slot c 4 = .int .u64 ((mn : Int) * 8) -> slot c 3 = v -> slot c 5 = .int .i64 ((i : Int) - 1) -> qf 5 w1.heap.size w' v (X ++ [y]) -> Fr [] w1 w' -> Q .normal c w') : Code.wp Tryz.prog qem Q a wr := by
 have HQ := Hdq hq
 rw [qG a hsz hd, h0, h2, h4, h3, h5]
 clear hq h0 h2 h4 h3 h5 hsz hd
 conv => arg 2; whnf
 have hbI : (8 : Int) * (i : Int) = (b : Int) := by omega
 have hbi : (b : Int) <= 56 := by omega
 have f2 : Fr [] wr (wr.alloc (.cells #[.int .u8 (y.toNat : Int)] 5)) := Fr.alloc _ _
 have HO2 := Hdq (hO.keep f2 qc)
 have HF2 := Hdq (hF.trans f2)
 have hz2 : w1.heap.size <= (wr.alloc (.cells #[.int .u8 (y.toNat : Int)] 5)).heap.size := HF2.out.size
 have HVN := Hdq hvn
 have HVL := Hdq hvl
 have HBB := Hdq hb
 clear f2 hO hF hvn hvl hb
 go_wp2_with (at_builtin; refine qu (A := fun _ => False) (ys := [y]) (base := w1.heap.size) Tryz.underlying22 Tryz.infoByte rfl (.tmp 47) (.tmp 54) rfl rfl rfl HO2.out (Up _ wr y qc) (by have := HVN.out; have := HVL.out; simp; omega) hz2 ?_)
 intro v3 w3 h5 h6
 have HO3 := Hdq h5
 have HF3 := Hdq (show Fr [] w1 w3 from qf.fr HO2.out HF2.out h6 (Nat.le_refl _))
 clear h5 h6 HO2 HF2 hz2
 go_wp2
 exact HQ.out _ _ _ rfl rfl rfl rfl rfl rfl rfl HO3.out HF3.out
theorem qcv (wr : World) (a : Go.Act) (hsz : a.tmps.size = 305) (hd : a.defers = []) (v0 : Value) (Z mn : Nat) (va : Option Addr) (vn vc : Nat) (h0 : slot a 0 = v0) (h2 : slot a 2 = .pointer (some ⟨Z, 0, none⟩)) (h4 : slot a 4 = .int .u64 ((mn : Int) * 8)) (h3 : slot a 3 = .slice va vn vc) (h5 : slot a 5 = .int .i64 (-1))  (Q : Exit -> Go.Act -> World -> Prop)
  (hq : ∀ c : Go.Act, c.defers = [] -> c.tmps.size = 305 -> slot c 0 = v0 -> slot c 2 = .pointer (some ⟨Z, 0, none⟩) -> slot c 4 = .int .u64 ((mn : Int) * 8) -> slot c 3 = .slice va vn vc -> Q (.exit 2) c wr) : Code.wp Tryz.prog qem Q a wr := by
 have HQ := Hdq hq
 rw [qG a hsz hd, h0, h2, h4, h3, h5]
 clear hq h0 h2 h4 h3 h5 hsz hd
 conv => arg 2; whnf
 exact Y46
theorem qa5 (wr : World) (a : Go.Act) (hsz : a.tmps.size = 305) (hd : a.defers = []) (Z db : Nat) (S : St8) (h2 : slot a 2 = .pointer (some ⟨Z, 0, none⟩)) (h24 : slot a 24 = .pointer (some ⟨db, 0, none⟩)) (h272 : slot a 272 = .agg (wA S.l)) (h273 : slot a 273 = .int .i64 8)  (Q : Exit -> Go.Act -> World -> Prop)
  (hq : ∀ c : Go.Act, c.defers = [] -> c.tmps.size = 305 -> slot c 2 = .pointer (some ⟨Z, 0, none⟩) -> slot c 24 = .pointer (some ⟨db, 0, none⟩) -> slot c 272 = .agg (wA S.l) -> Q (.exit 12) c wr) : Code.wp Tryz.prog qdY Q a wr := by
 have HQ := Hdq hq
 rw [qG a hsz hd, h2, h24, h272, h273]
 clear hq h2 h24 h272 h273 hsz hd
 conv => arg 2; whnf
 exact Y46
theorem Lu (S : St8) (k : Nat) (hk : k < 8) (w : World) : (Instr.index 157 (.agg (wA S.l)) (.int .i64 (k : Int))).run Tryz.prog w = .ok (.int .u32 (wN (S.l.getD k 0))) w :=
 vG Tryz.underlying157 Tryz.infoU32 qb qb hk (VJ (show k < S.l.length from hk)) w
theorem Kn (S : St8) (k i p d : Nat) (hk : k < 8) (hi : i < 4) (hp : 4 * k + i = p) (hd : (2 : Int) ^ (24 - 8 * i) = (d : Int)) : wN (S.l.getD k 0) / (d : Int) % 256 = (((zD S).getD p 0).toNat : Int) := by
 have h := qbK S k i hk hi
 rw [hp, IntKind.wrap_u8, hd] at h
 exact h
theorem qaE (w0 : World) (a : Go.Act) (hsz : a.tmps.size = 305) (hd : a.defers = []) (Z db : Nat) (S : St8) (h2 : slot a 2 = .pointer (some ⟨Z, 0, none⟩)) (h24 : slot a 24 = .pointer (some ⟨db, 0, none⟩)) (h272 : slot a 272 = .agg (wA S.l)) (h273 : slot a 273 = .int .i64 0) (hD : At w0 db (.cells (dW S 0) 57)) (Q : Exit -> Go.Act -> World -> Prop)
  (hq : ∀ (c : Go.Act) (w' : World), c.defers = [] -> c.tmps.size = 305 -> slot c 2 = .pointer (some ⟨Z, 0, none⟩) -> slot c 24 = .pointer (some ⟨db, 0, none⟩) -> slot c 272 = .agg (wA S.l) -> At w' db (.cells (dW S 32) 57) -> Fr [db] w0 w' -> Q (.exit 12) c w') : Code.wp Tryz.prog (Code.loop qdY) Q a w0 := by
 refine wp_loop (fun a w => a.tmps.size = 305 /\ a.defers = [] /\ slot a 2 = .pointer (some ⟨Z, 0, none⟩) /\ slot a 24 = .pointer (some ⟨db, 0, none⟩) /\ slot a 272 = .agg (wA S.l) /\ ∃ k : Nat, k <= 8 /\ slot a 273 = .int .i64 (k : Int) /\ At w db (.cells (dW S (4 * k)) 57) /\ Fr [db] w0 w) (fun a _ => 8 - kN (slot a 273)) ⟨hsz, hd, h2, h24, h272, 0, by omega, h273, hD, Fr.refl _ _⟩ ?_
 clear h2 h24 h272 h273 hsz hd hD
 rintro a wr ⟨hsz, hd, h2, h24, h272, k, hk, h273, hD, hF⟩
 by_cases hk8 : k < 8
 ·refine Lw wr a hsz hd Z db k (4 * k) (4 * k + 1) (4 * k + 2) (4 * k + 3) S (S.l.getD k 0) _ _ _ _ h2 h24 h272 h273 hk8 rfl rfl rfl rfl (Lu S k hk8) hD rfl (Kn S k 0 _ 16777216 hk8 qa rfl qa) rfl (Kn S k 1 _ 65536 hk8 qa rfl qa) rfl (Kn S k 2 _ 256 hk8 qa rfl qa) rfl (by have h := Kn S k 3 _ 1 hk8 qa rfl qa; simpa using h) _ ?_
  intro c w' kd ks q2 q24 q272 q273 hD' hF'
  refine ⟨⟨ks, kd, q2, q24, q272, k + 1, by omega, by rw [q273]; rfl, hD', hF.trans hF'⟩, ?_⟩
  rw [q273, h273]
  simp [kN]; omega
 ·obtain rfl : k = 8 := by omega
  refine qa5 wr a hsz hd Z db S h2 h24 h272 h273 _ ?_
  intro c kd ks q2 q24 q272
  exact hq c wr kd ks q2 q24 q272 hD hF
theorem LK (n j : Nat) (hj : j < qB n) : ¬ (n + 1 + j) % 64 = 56 := by unfold qB at hj; omega
theorem W7 (n : Nat) : (n + 1 + qB n) % 64 = 56 := by unfold qB; omega
theorem qaZ (w1 w0 : World) (a : Go.Act) (hsz : a.tmps.size = 305) (hd : a.defers = []) (v0 v : Value) (Z mn : Nat) (m : List UInt8) (h0 : slot a 0 = v0) (h2 : slot a 2 = .pointer (some ⟨Z, 0, none⟩)) (h3 : slot a 3 = v) (hm : m.length = mn) (hml : mn <= 100000000) (hO : qf 5 w1.heap.size w0 v (m ++ 128 :: List.replicate 0 0)) (hF : Fr [] w1 w0) (Q : Exit -> Go.Act -> World -> Prop)
  (hq : ∀ (c : Go.Act) (w' : World) (v' : Value), c.defers = [] -> c.tmps.size = 305 -> slot c 0 = v0 -> slot c 2 = .pointer (some ⟨Z, 0, none⟩) -> slot c 3 = v' -> qf 5 w1.heap.size w' v' (m ++ 128 :: List.replicate (qB mn) 0) -> Fr [] w1 w' -> Q (.exit 0) c w') : Code.wp Tryz.prog (Code.loop qd6) Q a w0 := by
 refine wp_loop (fun a w => a.tmps.size = 305 /\ a.defers = [] /\ slot a 0 = v0 /\ slot a 2 = .pointer (some ⟨Z, 0, none⟩) /\ ∃ (j : Nat) (v : Value), j <= qB mn /\ slot a 3 = v /\ qf 5 w1.heap.size w v (m ++ 128 :: List.replicate j 0) /\ Fr [] w1 w) (fun a _ => mn + 200 - qdv (slot a 3)) ⟨hsz, hd, h0, h2, 0, v, by omega, h3, hO, hF⟩ ?_
 clear h0 h2 h3 hsz hd hO hF
 rintro a wr ⟨hsz, hd, h0, h2, j, v, hj, h3, hO, hF⟩
 have hz := z7 mn
 have hlen : (m ++ 128 :: List.replicate j 0).length = mn + 1 + j := by rw [List.length_append, hm, List.length_cons, List.length_replicate]; omega
 obtain ⟨va, vc, rfl, -⟩ := hO.bs (A := fun _ => False) qc
 by_cases hjz : j < qB mn
 ·refine LH wr a hsz hd v0 Z w1 va _ vc (m ++ 128 :: List.replicate j 0) h0 h2 h3 hO rfl (by rw [hlen]; omega) (by rw [hlen]; exact LK mn j hjz) hF _ ?_
  intro c w' v' kd ks q0 q2 q3 hO' hF'
  rw [List.append_assoc, List.cons_append, <- List.replicate_succ'] at hO'
  refine ⟨⟨ks, kd, q0, q2, j + 1, v', by omega, q3, hO', hF'⟩, ?_⟩
  obtain ⟨va', vc', rfl, -⟩ := hO'.bs (A := fun _ => False) qc
  rw [q3, h3]
  simp only [qdv]
  rw [hlen, List.length_append, hm, List.length_cons, List.length_replicate]
  omega
 ·obtain rfl : j = qB mn := by omega
  refine qaI wr a hsz hd v0 Z va _ vc h0 h2 h3 (by rw [hlen]; exact W7 mn) _ ?_
  intro c kd ks q0 q2 q3
  exact hq c wr _ kd ks q0 q2 q3 hO hF
theorem qbE (w1 w0 : World) (a : Go.Act) (hsz : a.tmps.size = 305) (hd : a.defers = []) (v0 v : Value) (Z mn : Nat) (X : List UInt8) (h0 : slot a 0 = v0) (h2 : slot a 2 = .pointer (some ⟨Z, 0, none⟩)) (h4 : slot a 4 = .int .u64 ((mn : Int) * 8)) (h3 : slot a 3 = v) (h5 : slot a 5 = .int .i64 7) (hml : X.length <= 190000000) (hO : qf 5 w1.heap.size w0 v X) (hF : Fr [] w1 w0) (Q : Exit -> Go.Act -> World -> Prop)
  (hq : ∀ (c : Go.Act) (w' : World) (v' : Value), c.defers = [] -> c.tmps.size = 305 -> slot c 0 = v0 -> slot c 2 = .pointer (some ⟨Z, 0, none⟩) -> slot c 4 = .int .u64 ((mn : Int) * 8) -> slot c 3 = v' -> qf 5 w1.heap.size w' v' (X ++ uI mn) -> Fr [] w1 w' -> Q (.exit 2) c w') : Code.wp Tryz.prog (Code.loop qem) Q a w0 := by
 refine wp_loop (fun a w => a.tmps.size = 305 /\ a.defers = [] /\ slot a 0 = v0 /\ slot a 2 = .pointer (some ⟨Z, 0, none⟩) /\ slot a 4 = .int .u64 ((mn : Int) * 8) /\ ∃ (j : Nat) (v : Value), j <= 8 /\ slot a 5 = .int .i64 (7 - (j : Int)) /\ slot a 3 = v /\ qf 5 w1.heap.size w v (X ++ (uI mn).take j) /\ Fr [] w1 w) (fun a _ => (intOf (slot a 5) + 1).toNat) ⟨hsz, hd, h0, h2, h4, 0, v, by omega, h5, h3, by rw [List.take_zero, List.append_nil]; exact hO, hF⟩ ?_
 clear h0 h2 h4 h3 h5 hsz hd hO hF
 rintro a wr ⟨hsz, hd, h0, h2, h4, j, v, hj, h5, h3, hO, hF⟩
 obtain ⟨va, vc, rfl, -⟩ := hO.bs (A := fun _ => False) qc
 by_cases hj8 : j < 8
 ·have hll : ((uI mn).take j).length <= 8 := by rw [List.length_take, xG]; omega
  refine LU wr a hsz hd v0 Z mn (7 - j) (56 - 8 * j) w1 va _ vc (X ++ (uI mn).take j) ((uI mn).getD j 0) h0 h2 h4 h3 (by rw [h5]; congr 1; omega) hO rfl (by rw [List.length_append]; omega) Y66 Y66 (by have h := Xr mn j hj8; rw [<- h]; simp) hF _ ?_
  intro c w' v' kd ks q0 q2 q4 q3 q5 hO' hF'
  rw [List.append_assoc, <- KH mn j hj8] at hO'
  refine ⟨⟨ks, kd, q0, q2, q4, j + 1, v', by omega, by rw [q5]; congr 1; omega, q3, hO', hF'⟩, ?_⟩
  rw [q5, h5]
  simp only [intOf]
  omega
 ·obtain rfl : j = 8 := by omega
  refine qcv wr a hsz hd v0 Z mn va _ vc h0 h2 h4 h3 (by rw [h5]; rfl) _ ?_
  intro c kd ks q0 q2 q4 q3
  rw [List.take_of_length_le (by rw [xG]; omega)] at hO
  rw [List.take_of_length_le (by rw [xG]; omega)] at q3
  exact hq c wr _ kd ks q0 q2 q4 q3 hO hF
end Go.Proofs.YtnafknkchbfpaaaGreatDoor
