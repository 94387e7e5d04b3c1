import Derived.Test.YtdloaifdpajcjaaGreatDoorGT
import Derived.Test.YtdloaifdpajcjaaGreatDoorGR
set_option linter.unusedVariables false
set_option linter.unusedSimpArgs false
set_option maxRecDepth 1000000
set_option maxHeartbeats 8000000
namespace Go.Proofs.YtdloaifdpajcjaaGreatDoor
open Go.RowKit Go.Bl
def QE (xs : List UInt8) (c : UInt8) (k : Nat) : List UInt8 := (xs.take k).map (· ^^^ c) ++ xs.drop k
theorem qd8 (xs : List UInt8) (c : UInt8) (k : Nat) : (QE xs c k).length = xs.length := by
 rw [QE, List.length_append, List.length_map, List.length_take, List.length_drop]
 omega
theorem qf0 (xs : List UInt8) (c : UInt8) (k : Nat) (h : k < xs.length) : (QE xs c k)[k]? = some (xs.getD k 0) := by
 have hl : ((xs.take k).map (· ^^^ c)).length = k := by rw [List.length_map, List.length_take]; omega
 rw [QE, List.getElem?_append_right Y54, hl, Nat.sub_self, List.getElem?_drop, Nat.add_zero, List.getD_eq_getElem?_getD, List.getElem?_eq_getElem h]
 rfl
theorem qe2 (xs : List UInt8) (c : UInt8) (k : Nat) (h : k < xs.length) : (QE xs c k).set k (xs.getD k 0 ^^^ c) = QE xs c (k + 1) := by
 have hl : ((xs.take k).map (· ^^^ c)).length = k := by rw [List.length_map, List.length_take]; omega
 have hd : xs.drop k = xs.getD k 0 :: xs.drop (k + 1) := by
  rw [List.getD_eq_getElem?_getD, List.getElem?_eq_getElem h]
  exact List.drop_eq_getElem_cons h
 rw [QE, List.set_append_right _ _ Y54, hl, Nat.sub_self, hd, List.set_cons_zero, QE, List.take_succ_eq_append_getElem h, List.map_append, List.append_assoc, List.getD_eq_getElem?_getD, List.getElem?_eq_getElem h]
 rfl
theorem qfb (xs : List UInt8) (c : UInt8) (k : Nat) (h : xs.length <= k) : QE xs c k = xs.map (· ^^^ c) := by
 rw [QE, List.take_of_length_le h, List.drop_of_length_le h, List.append_nil]
theorem WO (w0 : World) (xs : List UInt8) (hx : xs.length = 64) (c : UInt8) :
  Calls Tryz.prog 147 #[.agg (xs.map u8v).toArray, .int .u8 (c.toNat : Int)] w0 fun e w' => e = .returned (.slice (some ⟨w0.heap.size, 0, none⟩) 64 64) /\ At w' w0.heap.size (.cells ((xs.map (· ^^^ c)).map u8v).toArray 268) /\ Fr [] w0 w' := by
 obtain ⟨Z, hZ⟩ := exq (w0.heap.size)
 obtain ⟨A0, hA0⟩ := exq ((xs.map u8v).toArray)
 have HP0 := Hdq (show At (w0.alloc (.cells A0 268)) Z (.cells ((QE xs c 0).map u8v).toArray 268) by
  rw [show QE xs c 0 = xs from rfl, hA0]
  exact At.new hZ.symm)
 have HF0 := Hdq (show Fr [] w0 (w0.alloc (.cells A0 268)) from Fr.alloc _ _)
 have HX := Hdq hx
 rw [hA0]
 clear hA0 hx
 go_enter Tryz.func147, Tryz.ntmps147
 go_wp2_with (refine qaM (.tmp 0) rfl rfl A0 rfl ?_)
 have HZ := Hdq hZ
 clear hZ
 go_loopw [6] (fun i wr => ∃ k : Nat, k <= 64 /\ i = .int .i64 (k : Int) /\ Hid (At wr Z (.cells ((QE xs c k).map u8v).toArray 268)) /\ Hid (Fr [] w0 wr)) (fun i _ => 64 - (intOf i).toNat)
 case atStart => exact ⟨0, by omega, rfl, HP0, HF0⟩
 case round =>
  clear HP0 HF0
  obtain ⟨k, hk, rfl, HP, HF⟩ := hrel
  by_cases hk64 : k < 64
  ·obtain ⟨y, hy⟩ := exq (xs.getD k 0)
   have c1 : wr.cell? ⟨Z, k, none⟩ = some (.int .u8 (y.toNat : Int)) := by
    have h := HP.out.cell k
    rw [List.getElem?_toArray, List.getElem?_map, qf0 xs c k (by rw [HX.out]; exact hk64), hy] at h
    exact h
   have HS := Hdq (qe2 xs c k (by rw [HX.out]; exact hk64))
   have HN := Hdq (show k < ((QE xs c k).map u8v).toArray.size by rw [List.size_toArray, List.length_map, qd8, HX.out]; exact hk64)
   have HY := Hdq hy
   have hki : (k : Int) < 64 := by omega
   have hxx := u8_xor_u y c
   clear hy
   go_wp2_with (refine qw (.tmp 14) (.tmp 13) rfl rfl _ rfl rfl HP.out HN.out Y55 rfl ?_)
   intro w3 f a1 _
   have HP3 := Hdq (show At w3 Z (.cells ((QE xs c (k + 1)).map u8v).toArray 268) by
    rw [<- HS.out, HY.out, List.map_set]
    have h := a1
    first
    | exact h
    | (rw [show (Value.int IntKind.u8 ((y.toNat ^^^ c.toNat : Nat) : Int)) = u8v (y ^^^ c) from by rw [<- UInt8.toNat_xor]; rfl] at h; simpa using h))
   have HF3 := Hdq (HF.out.then f (fun z hz => .inr (by simp at hz; have := HZ.out; omega)))
   clear f a1 HP HF c1 HN HS hxx
   go_wp2
   go_roundw
   case rel => exact ⟨k + 1, by omega, by simp, HP3, HF3⟩
   case measure => simp [intOf]; omega
  ·obtain rfl : k = 64 := by omega
   have HE := Hdq (show At wr Z (.cells ((xs.map (· ^^^ c)).map u8v).toArray 268) by
    rw [<- qfb xs c 64 (by rw [HX.out]; exact Nat.le_refl _)]
    exact HP.out)
   go_wp2
   go_ret
   exact ⟨by rw [HZ.out]; rfl, by rw [HZ.out]; exact HE.out, HF.out⟩
noncomputable def mkR : Code := ((Tryz.f82.body.bind (qV 6)).getD .skip)
def MkI (w : World) (a : Go.Act) (xs : List UInt8) (dn : Nat -> Bool) (b : Go.Act) (p : World) : Prop :=
 b.defers = a.defers /\ b.tmps.size = 21 /\ (∀ s, s ∉ ([15, 16, 17, 18, 19, 20, 2] : List Nat) -> slot b s = slot a s) /\ Fr [] w p /\ ∃ g1 g2 g3 : Nat,
  (dn 0 = true -> slot b 15 = .agg (xs.map u8v).toArray) /\
  (dn 1 = true -> slot b 16 = .slice (some ⟨g1, 0, none⟩) 64 64 /\ At p g1 (.cells ((xs.map (· ^^^ 54)).map u8v).toArray 268) /\ w.heap.size <= g1) /\
  (dn 2 = true -> slot b 17 = .agg (xs.map u8v).toArray) /\
  (dn 3 = true -> slot b 18 = .slice (some ⟨g2, 0, none⟩) 64 64 /\ At p g2 (.cells ((xs.map (· ^^^ 92)).map u8v).toArray 268) /\ w.heap.size <= g2) /\
  (dn 4 = true -> (dn 1 = true /\ dn 3 = true) /\ slot b 19 = .agg #[.slice (some ⟨g1, 0, none⟩) 64 64, .slice (some ⟨g2, 0, none⟩) 64 64]) /\
  (dn 5 = true -> (dn 1 = true /\ dn 3 = true) /\ slot b 20 = .pointer (some ⟨g3, 0, none⟩) /\ At p g3 (.cells #[.slice (some ⟨g1, 0, none⟩) 64 64, .slice (some ⟨g2, 0, none⟩) 64 64] 271) /\ w.heap.size <= g3) /\
  (dn 6 = true -> dn 5 = true /\ slot b 2 = .pointer (some ⟨g3, 0, none⟩))
theorem qek (w : World) (a : Go.Act) (pb : Nat) (xs : List UInt8) (hsz : a.tmps.size = 21) (hx : xs.length = 64) (h3 : slot a 3 = .pointer (some ⟨pb, 0, none⟩)) (hA : At w pb (.cells (xs.map u8v).toArray 268)) (hsP : (Tryz.prog.info? 268).map (·.size) = some (xs.map u8v).length) (Q : Exit -> Go.Act -> World -> Prop)
  (hQ : ∀ (b : Go.Act) (p : World) (g1 g2 g3 : Nat), b.defers = a.defers -> b.tmps.size = 21 -> (∀ s, s ∉ ([15, 16, 17, 18, 19, 20, 2] : List Nat) -> slot b s = slot a s) -> slot b 2 = .pointer (some ⟨g3, 0, none⟩) -> Fr [] w p -> At p g1 (.cells ((xs.map (· ^^^ 54)).map u8v).toArray 268) -> At p g2 (.cells ((xs.map (· ^^^ 92)).map u8v).toArray 268) -> At p g3 (.cells #[.slice (some ⟨g1, 0, none⟩) 64 64, .slice (some ⟨g2, 0, none⟩) 64 64] 271) -> w.heap.size <= g1 -> w.heap.size <= g2 -> w.heap.size <= g3 -> Q .normal b p) : Code.wp Tryz.prog mkR Q a w := by
 conv => arg 2; whnf
 refine vX (MkI w a xs) Y55 Y55 ?_ ?_ ?_
 ·intro w1 hw1
  exact ⟨rfl, hsz, fun _ _ => rfl, hw1, 0, 0, 0, (fun h => nomatch h), (fun h => nomatch h), (fun h => nomatch h), (fun h => nomatch h), (fun h => nomatch h), (fun h => nomatch h), (fun h => nomatch h)⟩
 ·intro i hi dn b p hdn hdeps ⟨hd, hs, ho, hf, g1, g2, g3, c0, c1, c2, c3, c4, c5, c6⟩
  have hi9 : i < 7 := hi
  clear hi
  match i, hi9 with
  | 0, _ =>
   refine jm (K := fun b p => MkI w a xs (ur dn 0) b p) _ Y72 ?_
   have e3 : b.eval (.tmp 3) = .pointer (some ⟨pb, 0, none⟩) := (ho 3 Y86).trans h3
   refine jX (.tmp 3) rfl rfl pb 0 (xs.map u8v) e3 (jQ (hA.keep0 hf)) Tryz.underlying268 rfl hsP ?_
   refine ⟨rfl, rfl, hd, Y71, fun s hsn => (slot_put_ne Y66).trans (ho s hsn), hf, g1, g2, g3, ?_, ?_, ?_, ?_, ?_, ?_, ?_⟩
   ·intro _
    exact jh Y79
   ·intro hk
    rw [also_ne dn (show (1 : Nat) ≠ 0 by decide)] at hk
    obtain ⟨x1, x2, x3⟩ := c1 hk
    exact Y9
   ·intro hk
    rw [also_ne dn (show (2 : Nat) ≠ 0 by decide)] at hk
    exact Y37
   ·intro hk
    rw [also_ne dn (show (3 : Nat) ≠ 0 by decide)] at hk
    obtain ⟨x1, x2, x3⟩ := c3 hk
    exact Y9
   ·intro hk
    rw [also_ne dn (show (4 : Nat) ≠ 0 by decide)] at hk
    obtain ⟨⟨y1, y3⟩, x1⟩ := c4 hk
    exact ⟨⟨(by rw [also_ne dn (show (1 : Nat) ≠ 0 by decide)]; exact y1), (by rw [also_ne dn (show (3 : Nat) ≠ 0 by decide)]; exact y3)⟩, Y60⟩
   ·intro hk
    rw [also_ne dn (show (5 : Nat) ≠ 0 by decide)] at hk
    obtain ⟨⟨y1, y3⟩, x1, x2, x3⟩ := c5 hk
    exact ⟨⟨(by rw [also_ne dn (show (1 : Nat) ≠ 0 by decide)]; exact y1), (by rw [also_ne dn (show (3 : Nat) ≠ 0 by decide)]; exact y3)⟩, Y60, x2, x3⟩
   ·intro hk
    rw [also_ne dn (show (6 : Nat) ≠ 0 by decide)] at hk
    obtain ⟨y5, x1⟩ := c6 hk
    exact ⟨(by rw [also_ne dn (show (5 : Nat) ≠ 0 by decide)]; exact y5), Y60⟩
  | 1, _ =>
   have e1 : b.eval (.tmp 15) = .agg (xs.map u8v).toArray := c0 (hdeps 0 Y55)
   refine yE _ Y72 (zp rfl) 147 _ _ rfl #[.agg (xs.map u8v).toArray, .int .u8 54] (by simp only [List.map_toArray, List.map_cons, List.map_nil, e1]; rfl) (by simp [go_sem]) ((WO p xs hx 54).mono ?_)
   rintro e p2 ⟨rfl, ha2, hf2⟩
   refine ⟨_, rfl, ?_⟩
   show MkI w a xs (ur dn 1) (b.put (some 16) (.slice (some ⟨p.heap.size, 0, none⟩) 64 64)) p2
   refine ⟨hd, Y71, fun s hsn => (slot_put_ne Y66).trans (ho s hsn), hf.trans hf2, p.heap.size, g2, g3, ?_, ?_, ?_, ?_, ?_, ?_, ?_⟩
   ·intro hk
    rw [also_ne dn (show (0 : Nat) ≠ 1 by decide)] at hk
    exact Y38
   ·intro _
    exact ⟨jh Y79, ha2, hf.size⟩
   ·intro hk
    rw [also_ne dn (show (2 : Nat) ≠ 1 by decide)] at hk
    exact Y37
   ·intro hk
    rw [also_ne dn (show (3 : Nat) ≠ 1 by decide)] at hk
    obtain ⟨x1, x2, x3⟩ := c3 hk
    exact Y27
   ·intro hk
    rw [also_ne dn (show (4 : Nat) ≠ 1 by decide)] at hk
    have hx2 := (c4 hk).1.1
    rw [hdn] at hx2
    cases hx2
   ·intro hk
    rw [also_ne dn (show (5 : Nat) ≠ 1 by decide)] at hk
    have hx2 := (c5 hk).1.1
    rw [hdn] at hx2
    cases hx2
   ·intro hk
    rw [also_ne dn (show (6 : Nat) ≠ 1 by decide)] at hk
    have h5 := (c6 hk).1
    have hx2 := (c5 h5).1.1
    rw [hdn] at hx2
    cases hx2
  | 2, _ =>
   refine jm (K := fun b p => MkI w a xs (ur dn 2) b p) _ Y72 ?_
   have e3 : b.eval (.tmp 3) = .pointer (some ⟨pb, 0, none⟩) := (ho 3 Y86).trans h3
   refine jX (.tmp 3) rfl rfl pb 0 (xs.map u8v) e3 (jQ (hA.keep0 hf)) Tryz.underlying268 rfl hsP ?_
   refine ⟨rfl, rfl, hd, Y71, fun s hsn => (slot_put_ne Y66).trans (ho s hsn), hf, g1, g2, g3, ?_, ?_, ?_, ?_, ?_, ?_, ?_⟩
   ·intro hk
    rw [also_ne dn (show (0 : Nat) ≠ 2 by decide)] at hk
    exact Y38
   ·intro hk
    rw [also_ne dn (show (1 : Nat) ≠ 2 by decide)] at hk
    obtain ⟨x1, x2, x3⟩ := c1 hk
    exact Y9
   ·intro _
    exact jh Y79
   ·intro hk
    rw [also_ne dn (show (3 : Nat) ≠ 2 by decide)] at hk
    obtain ⟨x1, x2, x3⟩ := c3 hk
    exact Y9
   ·intro hk
    rw [also_ne dn (show (4 : Nat) ≠ 2 by decide)] at hk
    obtain ⟨⟨y1, y3⟩, x1⟩ := c4 hk
    exact ⟨⟨(by rw [also_ne dn (show (1 : Nat) ≠ 2 by decide)]; exact y1), (by rw [also_ne dn (show (3 : Nat) ≠ 2 by decide)]; exact y3)⟩, Y60⟩
   ·intro hk
    rw [also_ne dn (show (5 : Nat) ≠ 2 by decide)] at hk
    obtain ⟨⟨y1, y3⟩, x1, x2, x3⟩ := c5 hk
    exact ⟨⟨(by rw [also_ne dn (show (1 : Nat) ≠ 2 by decide)]; exact y1), (by rw [also_ne dn (show (3 : Nat) ≠ 2 by decide)]; exact y3)⟩, Y60, x2, x3⟩
   ·intro hk
    rw [also_ne dn (show (6 : Nat) ≠ 2 by decide)] at hk
    obtain ⟨y5, x1⟩ := c6 hk
    exact ⟨(by rw [also_ne dn (show (5 : Nat) ≠ 2 by decide)]; exact y5), Y60⟩
  | 3, _ =>
   have e1 : b.eval (.tmp 17) = .agg (xs.map u8v).toArray := c2 (hdeps 2 Y55)
   refine yE _ Y72 (zp rfl) 147 _ _ rfl #[.agg (xs.map u8v).toArray, .int .u8 92] (by simp only [List.map_toArray, List.map_cons, List.map_nil, e1]; rfl) (by simp [go_sem]) ((WO p xs hx 92).mono ?_)
   rintro e p2 ⟨rfl, ha2, hf2⟩
   refine ⟨_, rfl, ?_⟩
   show MkI w a xs (ur dn 3) (b.put (some 18) (.slice (some ⟨p.heap.size, 0, none⟩) 64 64)) p2
   refine ⟨hd, Y71, fun s hsn => (slot_put_ne Y66).trans (ho s hsn), hf.trans hf2, g1, p.heap.size, g3, ?_, ?_, ?_, ?_, ?_, ?_, ?_⟩
   ·intro hk
    rw [also_ne dn (show (0 : Nat) ≠ 3 by decide)] at hk
    exact Y38
   ·intro hk
    rw [also_ne dn (show (1 : Nat) ≠ 3 by decide)] at hk
    obtain ⟨x1, x2, x3⟩ := c1 hk
    exact Y27
   ·intro hk
    rw [also_ne dn (show (2 : Nat) ≠ 3 by decide)] at hk
    exact Y37
   ·intro _
    exact ⟨jh Y79, ha2, hf.size⟩
   ·intro hk
    rw [also_ne dn (show (4 : Nat) ≠ 3 by decide)] at hk
    have hx2 := (c4 hk).1.2
    rw [hdn] at hx2
    cases hx2
   ·intro hk
    rw [also_ne dn (show (5 : Nat) ≠ 3 by decide)] at hk
    have hx2 := (c5 hk).1.2
    rw [hdn] at hx2
    cases hx2
   ·intro hk
    rw [also_ne dn (show (6 : Nat) ≠ 3 by decide)] at hk
    have h5 := (c6 hk).1
    have hx2 := (c5 h5).1.2
    rw [hdn] at hx2
    cases hx2
  | 4, _ =>
   refine jm (K := fun b p => MkI w a xs (ur dn 4) b p) _ Y72 ?_
   have hd1 := hdeps 1 Y55
   have hd3 := hdeps 3 Y55
   have e16 : b.eval (.tmp 16) = .slice (some ⟨g1, 0, none⟩) 64 64 := (c1 hd1).1
   have e18 : b.eval (.tmp 18) = .slice (some ⟨g2, 0, none⟩) 64 64 := (c3 hd3).1
   refine jf _ rfl rfl (.agg #[.slice (some ⟨g1, 0, none⟩) 64 64, .slice (some ⟨g2, 0, none⟩) 64 64]) (by obtain ⟨ρ, hρ⟩ := exq (b.eval); rw [hρ] at e16 e18 ⊢; unfold execOp; simp [go_sem, e16, e18]) ?_
   refine ⟨rfl, rfl, hd, Y71, fun s hsn => (slot_put_ne Y66).trans (ho s hsn), hf, g1, g2, g3, ?_, ?_, ?_, ?_, ?_, ?_, ?_⟩
   ·intro hk
    rw [also_ne dn (show (0 : Nat) ≠ 4 by decide)] at hk
    exact Y38
   ·intro hk
    rw [also_ne dn (show (1 : Nat) ≠ 4 by decide)] at hk
    obtain ⟨x1, x2, x3⟩ := c1 hk
    exact Y9
   ·intro hk
    rw [also_ne dn (show (2 : Nat) ≠ 4 by decide)] at hk
    exact Y37
   ·intro hk
    rw [also_ne dn (show (3 : Nat) ≠ 4 by decide)] at hk
    obtain ⟨x1, x2, x3⟩ := c3 hk
    exact Y9
   ·intro _
    exact ⟨⟨by rw [also_ne dn (show (1 : Nat) ≠ 4 by decide)]; exact hd1, by rw [also_ne dn (show (3 : Nat) ≠ 4 by decide)]; exact hd3⟩, jh Y79⟩
   ·intro hk
    rw [also_ne dn (show (5 : Nat) ≠ 4 by decide)] at hk
    obtain ⟨⟨y1, y3⟩, x1, x2, x3⟩ := c5 hk
    exact ⟨⟨(by rw [also_ne dn (show (1 : Nat) ≠ 4 by decide)]; exact y1), (by rw [also_ne dn (show (3 : Nat) ≠ 4 by decide)]; exact y3)⟩, Y60, x2, x3⟩
   ·intro hk
    rw [also_ne dn (show (6 : Nat) ≠ 4 by decide)] at hk
    obtain ⟨y5, x1⟩ := c6 hk
    exact ⟨(by rw [also_ne dn (show (5 : Nat) ≠ 4 by decide)]; exact y5), Y60⟩
  | 5, _ =>
   refine jm (K := fun b p => MkI w a xs (ur dn 5) b p) _ Y72 ?_
   obtain ⟨h13, x19⟩ := c4 (hdeps 4 Y55)
   have e19 : b.eval (.tmp 19) = .agg #[.slice (some ⟨g1, 0, none⟩) 64 64, .slice (some ⟨g2, 0, none⟩) 64 64] := x19
   refine qaM (.tmp 19) rfl rfl _ e19 ?_
   have hf2 : Fr [] p (p.alloc (.cells #[.slice (some ⟨g1, 0, none⟩) 64 64, .slice (some ⟨g2, 0, none⟩) 64 64] 271)) := Fr.alloc _ _
   refine ⟨rfl, rfl, hd, Y71, fun s hsn => (slot_put_ne Y66).trans (ho s hsn), hf.trans hf2, g1, g2, p.heap.size, ?_, ?_, ?_, ?_, ?_, ?_, ?_⟩
   ·intro hk
    rw [also_ne dn (show (0 : Nat) ≠ 5 by decide)] at hk
    exact Y38
   ·intro hk
    rw [also_ne dn (show (1 : Nat) ≠ 5 by decide)] at hk
    obtain ⟨x1, x2, x3⟩ := c1 hk
    exact Y27
   ·intro hk
    rw [also_ne dn (show (2 : Nat) ≠ 5 by decide)] at hk
    exact Y37
   ·intro hk
    rw [also_ne dn (show (3 : Nat) ≠ 5 by decide)] at hk
    obtain ⟨x1, x2, x3⟩ := c3 hk
    exact Y27
   ·intro hk
    rw [also_ne dn (show (4 : Nat) ≠ 5 by decide)] at hk
    obtain ⟨⟨y1, y3⟩, x1⟩ := c4 hk
    exact ⟨⟨(by rw [also_ne dn (show (1 : Nat) ≠ 5 by decide)]; exact y1), (by rw [also_ne dn (show (3 : Nat) ≠ 5 by decide)]; exact y3)⟩, Y60⟩
   ·intro _
    exact ⟨⟨by rw [also_ne dn (show (1 : Nat) ≠ 5 by decide)]; exact h13.1, by rw [also_ne dn (show (3 : Nat) ≠ 5 by decide)]; exact h13.2⟩, jh Y79, At.new rfl, hf.size⟩
   ·intro hk
    rw [also_ne dn (show (6 : Nat) ≠ 5 by decide)] at hk
    have hx2 := (c6 hk).1
    rw [hdn] at hx2
    cases hx2
  | 6, _ =>
   refine jm (K := fun b p => MkI w a xs (ur dn 6) b p) _ Y72 ?_
   have hd5 := hdeps 5 Y55
   have e20 : b.eval (.tmp 20) = .pointer (some ⟨g3, 0, none⟩) := (c5 hd5).2.1
   refine jf _ rfl rfl (.pointer (some ⟨g3, 0, none⟩)) (by obtain ⟨ρ, hρ⟩ := exq (b.eval); rw [hρ] at e20 ⊢; unfold execOp; simp [go_sem, e20]) ?_
   refine ⟨rfl, rfl, hd, Y71, fun s hsn => (slot_put_ne Y66).trans (ho s hsn), hf, g1, g2, g3, ?_, ?_, ?_, ?_, ?_, ?_, ?_⟩
   ·intro hk
    rw [also_ne dn (show (0 : Nat) ≠ 6 by decide)] at hk
    exact Y38
   ·intro hk
    rw [also_ne dn (show (1 : Nat) ≠ 6 by decide)] at hk
    obtain ⟨x1, x2, x3⟩ := c1 hk
    exact Y9
   ·intro hk
    rw [also_ne dn (show (2 : Nat) ≠ 6 by decide)] at hk
    exact Y37
   ·intro hk
    rw [also_ne dn (show (3 : Nat) ≠ 6 by decide)] at hk
    obtain ⟨x1, x2, x3⟩ := c3 hk
    exact Y9
   ·intro hk
    rw [also_ne dn (show (4 : Nat) ≠ 6 by decide)] at hk
    obtain ⟨⟨y1, y3⟩, x1⟩ := c4 hk
    exact ⟨⟨(by rw [also_ne dn (show (1 : Nat) ≠ 6 by decide)]; exact y1), (by rw [also_ne dn (show (3 : Nat) ≠ 6 by decide)]; exact y3)⟩, Y60⟩
   ·intro hk
    rw [also_ne dn (show (5 : Nat) ≠ 6 by decide)] at hk
    obtain ⟨⟨y1, y3⟩, x1, x2, x3⟩ := c5 hk
    exact ⟨⟨(by rw [also_ne dn (show (1 : Nat) ≠ 6 by decide)]; exact y1), (by rw [also_ne dn (show (3 : Nat) ≠ 6 by decide)]; exact y3)⟩, Y60, x2, x3⟩
   ·intro _
    exact ⟨by rw [also_ne dn (show (5 : Nat) ≠ 6 by decide)]; exact hd5, jh Y79⟩
 ·intro dn b p hall ⟨hd, hs, ho, hf, g1, g2, g3, c0, c1, c2, c3, c4, c5, c6⟩
  have x1 := c1 (hall 1 Y86)
  have x3 := c3 (hall 3 Y86)
  have x5 := c5 (hall 5 Y86)
  exact hQ b p g1 g2 g3 hd hs ho (c6 (hall 6 Y86)).2 hf x1.2.1 x3.2.1 x5.2.2.1 x1.2.2 x3.2.2 x5.2.2.2
theorem qaB (a : Go.Act) (hs : a.tmps.size = 21) (hd : a.defers = []) : a = ⟨(slot a 0 :: slot a 1 :: slot a 2 :: slot a 3 :: slot a 4 :: slot a 5 :: slot a 6 :: slot a 7 :: slot a 8 :: slot a 9 :: slot a 10 :: slot a 11 :: slot a 12 :: slot a 13 :: slot a 14 :: slot a 15 :: slot a 16 :: slot a 17 :: slot a 18 :: slot a 19 :: slot a 20 :: []).toArray, []⟩ := Lp a 21 hs hd
def yB (w : World) (kb : Nat) (key : List UInt8) : Prop := ∃ g1 g2, At w kb (.cells #[.slice (some ⟨g1, 0, none⟩) 64 64, .slice (some ⟨g2, 0, none⟩) 64 64] 271) /\ At w g1 (.cells ((VI key).map u8v).toArray 268) /\ At w g2 (.cells ((VL key).map u8v).toArray 268)
def Qo : List Value := List.replicate 64 (.int .u8 0)
theorem VC (k : List UInt8) (h : k.length <= 64) : splice Qo 0 (k.map u8v) = (k ++ List.replicate (64 - k.length) 0).map u8v := by
 simp only [splice, List.take_zero, List.nil_append, Nat.zero_add, List.length_map, List.map_append, List.map_replicate, Qo, List.drop_replicate]
 rfl
theorem UB (w0 : World) (v : Value) (k : List UInt8) (hB : Bs (fun b => w0.heap.size <= b) w0 v k) (hk : k.length <= 64) :
  Calls Tryz.prog 82 #[v] w0 fun e w' => ∃ kb, e = .returned (.pointer (some ⟨kb, 0, none⟩)) /\ yB w' kb k /\ Fr [] w0 w' := by
 obtain ⟨a0, c0, rfl, hc1, hc2, hrow⟩ := id hB
 unfold maxLen at hc2
 obtain ⟨Z, hZ⟩ := exq (w0.heap.size)
 obtain ⟨n, hn⟩ := exq (k.length)
 have F1 : Fr [] w0 (w0.alloc (.cells Qo.toArray 268)) := Fr.alloc _ _
 have HA := Hdq (show At (w0.alloc (.cells Qo.toArray 268)) Z (.cells Qo.toArray 268) from At.new hZ.symm)
 have HF := Hdq F1
 have HROW := Hdq (hrow.keep F1 Y85)
 rw [hn] at hc1 hk ⊢
 have HN := Hdq hn
 have HZ := Hdq hZ
 have hni : ¬ (64 : Int) < (n : Int) := by omega
 clear hB hrow hn F1
 go_enter Tryz.func82, Tryz.ntmps82
 go_wp2_with (refine wpList_copy_splice rfl (.tmp 12) (.tmp 13) 22 22 rfl 5 Tryz.underlying22 Y55 (some ⟨Z, 0, none⟩) a0 64 64 n c0 rfl rfl Z 0 Qo 268 HA.out (k.map u8v) (by rw [List.length_map, HN.out]; show n = min n 64; omega) ?pos (by rw [List.length_map, HN.out]; show 0 + n <= 64; omega) (fun v hv => Jl k v hv) Z w0 ?bel (Nat.le_refl _) ?rest)
 case pos =>
  intro hp
  obtain ⟨b, off, rfl, -, -⟩ := HROW.out.some_of (by simpa using hp)
  refine ⟨_, rfl, fun j y hy => ?_⟩
  have hj : j < (k.map u8v).length := by rw [List.length_map]; exact (List.getElem?_eq_some_iff.1 hy).1
  have h := HROW.out.cell j hj
  rw [List.getElem?_map, hy] at h
  exact h
 case bel =>
  rw [<- HZ.out]
  exact (Fr.alloc w0 _).below
 case rest =>
  intro w3 hA3 hb3
  have hA4 := hA3.out
  rw [VC k (by rw [HN.out]; exact hk)] at hA4
  have HA4 := Hdq hA4
  have HF4 := Hdq (show Fr [] w0 w3 from fr_below (by rw [HZ.out]; exact hb3))
  have HXL := Hdq (show (k ++ List.replicate (64 - k.length) 0).length = 64 by rw [List.length_append, List.length_replicate, HN.out]; omega)
  have HPK := Hdq (show ZU k = k ++ List.replicate (64 - k.length) 0 by rw [ZU, Kn, if_neg (by rw [HN.out]; omega)])
  clear hA3 hA4 hb3 HROW HA hZ
  go_wp2
  refine qek w3 _ Z (k ++ List.replicate (64 - k.length) 0) rfl HXL.out rfl HA4.out (by rw [List.length_map, HXL.out]; kernel_rfl) _ ?_
  intro b p g1 g2 g3 q1 q2 q3 q4 hf a1 a2 a3 l1 l2 l3
  rw [qaB b q2 q1, q4]
  go_wp2
  go_ret
  exact ⟨g3, rfl, ⟨g1, g2, a3, by rw [VI, HPK.out]; exact a1, by rw [VL, HPK.out]; exact a2⟩, HF4.out.trans hf⟩
theorem XJ (w0 : World) (v : Value) (k : List UInt8) (hB : Bs (fun b => w0.heap.size <= b) w0 v k) (hk : 64 < k.length) (hl : k.length <= 100000000) (hF1 : FAt 20 w0) (hK1 : KAt 21 w0) (hG : 21 < w0.heap.size) :
  Calls Tryz.prog 82 #[v] w0 fun e w' => ∃ kb, e = .returned (.pointer (some ⟨kb, 0, none⟩)) /\ yB w' kb k /\ Fr [] w0 w' := by
 obtain ⟨a0, c0, rfl, hc1, hc2, hrow⟩ := id hB
 obtain ⟨Z, hZ⟩ := exq (w0.heap.size)
 obtain ⟨n, hn⟩ := exq (k.length)
 have F2 : Fr [] w0 ((w0.alloc (.cells Qo.toArray 268)).alloc (.cells #[.slice a0 k.length c0] 22)) := (Fr.alloc _ _).trans (Fr.alloc _ _)
 have HB2 := Hdq (hB.mono (A' := fun b => Z + 2 <= b) F2 Y85 (fun b hb => .inl Y54))
 rw [hn] at hc1 hk hl F2 HB2 ⊢
 have hs2 : ((w0.alloc (.cells Qo.toArray 268)).alloc (.cells #[.slice a0 n c0] 22)).heap.size = Z + 2 := by simp [hZ]
 have HS2 := Hdq hs2
 have HV2 := Hdq (show RdB (fun b => ((w0.alloc (.cells Qo.toArray 268)).alloc (.cells #[.slice a0 n c0] 22)).heap.size <= b) ((w0.alloc (.cells Qo.toArray 268)).alloc (.cells #[.slice a0 n c0] 22)) (.slice (some ⟨Z + 1, 0, none⟩) 1 1) [(.slice a0 n c0, k)] from by
  rw [hs2]
  refine ⟨⟨_, 1, rfl, by simp, by simp [maxLen], Row.of_block (A := fun b => Z + 2 <= b) (b := Z + 1) (c := #[.slice a0 n c0]) (e := 22) (fz := (0, 0)) ?_ Y54⟩, ?_⟩
  ·exact (At.new (by simp [hZ]) : At ((w0.alloc (.cells Qo.toArray 268)).alloc (.cells #[.slice a0 n c0] 22)) (Z + 1) _)
  ·intro x hx
   simp at hx
   subst hx
   exact HB2.out)
 have HA2 := Hdq (show At ((w0.alloc (.cells Qo.toArray 268)).alloc (.cells #[.slice a0 n c0] 22)) Z (.cells Qo.toArray 268) from (At.new hZ.symm).al)
 have HF2 := Hdq F2
 have HF := Hdq (hF1.keep F2)
 have HK := Hdq (hK1.keep F2)
 have HN := Hdq hn
 have hni : (64 : Int) < (n : Int) := by omega
 have hG2 : 21 < ((w0.alloc (.cells Qo.toArray 268)).alloc (.cells #[.slice a0 n c0] 22)).heap.size := by rw [hs2]; omega
 have HG2 := Hdq hG2
 clear hB hrow hn F2 hF1 hK1 hs2 hG2
 go_enter Tryz.func82, Tryz.ntmps82
 go_wp2_with (go_at_call 12; fail)
 refine (qea _ _ [(.slice a0 n c0, k)] HV2.out HF.out HK.out HG2.out (by simp [vA]; have := HN.out; omega)).mono ?_
 rintro e w3 ⟨rfl, hf3⟩
 obtain ⟨o, ho⟩ := exq (qz (vA [(Value.slice a0 n c0, k)]))
 rw [ho]
 have HO := Hdq (show qz k = o by rw [<- ho]; simp [vA])
 have hol : o.length = 32 := by rw [<- ho, jv]
 obtain ⟨Zd, hZd⟩ := exq (w3.heap.size)
 have HOL := Hdq hol
 have HS9 := Hdq (show (Tryz.prog.info? 36).map (·.size) = some (o.map u8v).toArray.size by rw [List.size_toArray, List.length_map, hol]; kernel_rfl)
 have F5 : Fr [] w3 (w3.alloc (.cells (o.map u8v).toArray 36)) := Fr.alloc _ _
 have HA5 := Hdq (show At (w3.alloc (.cells (o.map u8v).toArray 36)) Z (.cells Qo.toArray 268) from (HA2.out.keep0 hf3).keep0 F5)
 have HF5 := Hdq ((HF2.out.trans hf3).trans F5)
 have HD5 := Hdq (show At (w3.alloc (.cells (o.map u8v).toArray 36)) Zd (.cells (o.map u8v).toArray 36) from At.new hZd.symm)
 have HZD := Hdq hZd
 have HZ := Hdq hZ
 clear ho hol F5 hf3 HV2 HA2 HF2 HB2 HF HK HG2 HS2 hZ
 go_wp2_with (first | (refine zI (.tmp 4) (.tmp 10) rfl rfl (o.map u8v).toArray (congrArg (fun n => Value.pointer (some ⟨n, 0, none⟩)) HZD.out.symm) rfl HS9.out (show (32 : Nat) = (o.map u8v).toArray.size by rw [List.size_toArray, List.length_map, HOL.out]) (L1 _) ?_) | (refine wpList_copy_splice rfl (.tmp 12) (.tmp 13) 22 22 rfl 5 Tryz.underlying22 Y55 (some ⟨Z, 0, none⟩) (some ⟨Zd, 0, none⟩) 64 64 32 32 rfl rfl Z 0 Qo 268 HA5.out (o.map u8v) (by rw [List.length_map, HOL.out]; rfl) ?pos (by rw [List.length_map, HOL.out]; decide) (fun v hv => Jl o v hv) Z w0 ?bel (Nat.le_refl _) ?rest))
 case pos =>
  intro hp j y hy
  exact ⟨y, hy, rfl⟩
 case bel =>
  rw [<- HZ.out]
  exact HF5.out.below
 case rest =>
  intro w6 hA6 hb6
  have hA7 := hA6.out
  rw [VC o (by rw [HOL.out]; decide)] at hA7
  have HA7 := Hdq hA7
  have HF7 := Hdq (show Fr [] w0 w6 from fr_below (by rw [HZ.out]; exact hb6))
  have HXL := Hdq (show (o ++ List.replicate (64 - o.length) 0).length = 64 by rw [List.length_append, List.length_replicate, HOL.out])
  have HPK := Hdq (show ZU k = o ++ List.replicate (64 - o.length) 0 by rw [ZU, Kn, if_pos (by rw [HN.out]; omega), HO.out])
  clear hA6 hA7 hb6 HA5 HF5 HD5 HS9
  go_wp2
  refine qek w6 _ Z (o ++ List.replicate (64 - o.length) 0) rfl HXL.out rfl HA7.out (by rw [List.length_map, HXL.out]; kernel_rfl) _ ?_
  intro b p g1 g2 g3 q1 q2 q3 q4 hf a1 a2 a3 l1 l2 l3
  rw [qaB b q2 q1, q4]
  go_wp2
  go_ret
  exact ⟨g3, rfl, ⟨g1, g2, a3, by rw [VI, HPK.out]; exact a1, by rw [VL, HPK.out]; exact a2⟩, HF7.out.trans hf⟩
structure SG (w : World) : Prop where
 f : FAt 20 w
 k : KAt 21 w
 g : 21 < w.heap.size
theorem SG.keep {w w' : World} (h : SG w) (hf : Fr [] w w') : SG w' := ⟨h.f.keep hf, h.k.keep hf, Nat.lt_of_lt_of_le h.g hf.size⟩
theorem yB.keep {w w' : World} {kb : Nat} {key : List UInt8} (h : yB w kb key) (hf : Fr [] w w') : yB w' kb key := by
 obtain ⟨g1, g2, a, b, c⟩ := h
 exact ⟨g1, g2, a.keep0 hf, b.keep0 hf, c.keep0 hf⟩
theorem qdg {w : World} {b c : Nat} {x y : Array Value} {s t : TypeId} (h1 : At w b (.cells x s)) (h2 : At w c (.cells y t)) (hne : s ≠ t) : b ≠ c := by
 rintro rfl
 have e : some (Obj.cells x s (0, 0)) = some (.cells y t (0, 0)) := Eq.trans (Eq.symm h1) h2
 simp only [Option.some.injEq, Obj.cells.injEq] at e
 exact hne e.2.1
end Go.Proofs.YtdloaifdpajcjaaGreatDoor
