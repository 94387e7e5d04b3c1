import Derived.Test.YtnafknkchbfpaaaGreatDoorHT
set_option maxRecDepth 1000000
set_option maxHeartbeats 8000000
namespace Go.Proofs.YtnafknkchbfpaaaGreatDoor
open Go.RowKit Go.Bl
set_option linter.unusedVariables false
theorem Yr {ops : Array Oper} {i : Nat} {b : Go.Act} {p : World} {ys : List UInt8} (o : Oper) (ho : ops[i]? = some o) (hg : o.guard = none) (c : Array Value) (hr : (execOp b.eval o).run Tryz.prog p = .ok (.value (.slice (some ⟨p.heap.size, 0, none⟩) ys.length ys.length)) (p.alloc (.cells c 5))) (hc : c = (ys.map u8v).toArray) (hl : ys.length <= 1000) : opV Tryz.prog ops i b p fun u p' => Fr [] p p' /\ Bs (fun g => g < p.heap.size) p' u ys :=
 yn o ho hg hr ⟨Fr.alloc _ _, by subst hc; exact zB (At.new rfl) rfl X9 (fun h => Nat.lt_irrefl _ h)⟩
noncomputable def qdy : Code := ((Tryz.f78.body.bind (qn 10)).getD .skip)
theorem qev (w : World) (a : Go.Act) (hsz : a.tmps.size = 44) (base : Nat) (v0 : Value) (xs : List UInt8) (q1 f1 q2 k vc mc : Nat) (x y : UInt8) (h10 : qd a 10 = v0) (hown : qi 5 base w v0 xs) (hbase : base <= w.heap.size) (hlen : xs.length <= 1000) (h2 : qd a 2 = .slice (some ⟨q1, f1, none⟩) 8 vc) (h8 : qd a 8 = .slice (some ⟨q2, 0, none⟩) 8 mc) (h11 : qd a 11 = .int .i64 (k : Int)) (hk8 : (k : Int) < 8) (hk9 : k < 8)
  (hc1 : ∀ p, Fr v0.ownBlock.toList w p -> p.cell? ⟨q1, f1 + k, none⟩ = some (.int .u8 (x.toNat : Int))) (hc2 : ∀ p, Fr v0.ownBlock.toList w p -> p.cell? ⟨q2, k, none⟩ = some (.int .u8 (y.toNat : Int))) (Q : Exit -> Go.Act -> World -> Prop)
  (hQ : ∀ (b : Go.Act) (p : World), b.defers = a.defers -> b.tmps.size = a.tmps.size -> (∀ s, s ∉ [30, 31, 32, 33, 34, 35, 36, 37, 38, 39, 40, 41, 10] -> qd b s = qd a s) -> qi 5 base p (qd b 10) (xs ++ [x ^^^ y]) -> Fr v0.ownBlock.toList w p -> Q .normal b p) : Code.wp Tryz.prog qdy Q a w := by
 conv => arg 2; whnf
 refine Zq (t := 22) (e := 5) qf qf Tryz.underlying22 Tryz.infoByte [30, 31, 32, 33, 34, 35, 36, 37, 38, 39, 40, 41, 10] [11] [[x ^^^ y]] [.mv, .rd (.slice (some ⟨q1, f1, none⟩) 8 vc), .rd (.int .i64 (k : Int)), .rd (.pointer (some ⟨q1, f1 + k, none⟩)), .rd (.int .u8 (x.toNat : Int)), .rd (.slice (some ⟨q2, 0, none⟩) 8 mc), .rd (.int .i64 (k : Int)), .rd (.pointer (some ⟨q2, k, none⟩)), .rd (.int .u8 (y.toNat : Int)), .rd (.int .u8 ((x ^^^ y).toNat : Int)), .pc [x ^^^ y], .ap 0 10 ([x ^^^ y]), .fin] 12 base v0 xs qf qe xz qf qf qe qe (of_decide_eq_true qf) qe h10 hown hbase jF rfl ⟨?_, ?_, ?_, ?_, ?_, ?_, ?_, ?_, ?_, ?_, ?_, ?_, ?_, trivial⟩ ?_
 ·exact ⟨rfl, _, by rfl, rfl, rfl⟩
 ·refine ⟨by decide, by decide, fun b p h => ?_⟩
  have e : b.eval (.tmp 2) = .slice (some ⟨q1, f1, none⟩) 8 vc := (h.old 2 qe).trans h2
  exact Y35
 ·refine ⟨by decide, by decide, fun b p h => ?_⟩
  have e : b.eval (.tmp 11) = .int .i64 (k : Int) := (h.old 11 qe).trans h11
  exact Y35
 ·refine ⟨by decide, by decide, fun b p h => ?_⟩
  have e := (show b.eval (.tmp 31) = .slice (some ⟨q1, f1, none⟩) 8 vc from h.rd 1 _ qf rfl)
  have e2 := (show b.eval (.tmp 32) = .int .i64 (k : Int) from h.rd 2 _ qf rfl)
  exact Y87
 ·refine ⟨by decide, by decide, fun b p h => ?_⟩
  have e := (show b.eval (.tmp 33) = .pointer (some ⟨q1, f1 + k, none⟩) from h.rd 3 _ qf rfl)
  have c := hc1 p h.fr
  obtain ⟨ρ, hρ⟩ := exq (b.eval)
  rw [hρ] at e ⊢
  exact ⟨_, by rfl, rfl, by unfold execOp; simp [go_sem, e, c]⟩
 ·refine ⟨by decide, by decide, fun b p h => ?_⟩
  have e : b.eval (.tmp 8) = .slice (some ⟨q2, 0, none⟩) 8 mc := (h.old 8 qe).trans h8
  exact Y35
 ·refine ⟨by decide, by decide, fun b p h => ?_⟩
  have e : b.eval (.tmp 11) = .int .i64 (k : Int) := (h.old 11 qe).trans h11
  exact Y35
 ·refine ⟨by decide, by decide, fun b p h => ?_⟩
  have e := (show b.eval (.tmp 35) = .slice (some ⟨q2, 0, none⟩) 8 mc from h.rd 5 _ qf rfl)
  have e2 := (show b.eval (.tmp 36) = .int .i64 (k : Int) from h.rd 6 _ qf rfl)
  exact Y87
 ·refine ⟨by decide, by decide, fun b p h => ?_⟩
  have e := (show b.eval (.tmp 37) = .pointer (some ⟨q2, k, none⟩) from h.rd 7 _ qf rfl)
  have c := hc2 p h.fr
  obtain ⟨ρ, hρ⟩ := exq (b.eval)
  rw [hρ] at e ⊢
  exact ⟨_, by rfl, rfl, by unfold execOp; simp [go_sem, e, c]⟩
 ·refine ⟨by decide, by decide, fun b p h => ?_⟩
  have e := (show b.eval (.tmp 34) = .int .u8 (x.toNat : Int) from h.rd 4 _ qf rfl)
  have e2 := (show b.eval (.tmp 38) = .int .u8 (y.toNat : Int) from h.rd 8 _ qf rfl)
  obtain ⟨ρ, hρ⟩ := exq (b.eval)
  rw [hρ] at e e2 ⊢
  exact ⟨_, by rfl, rfl, by unfold execOp; simp [go_sem, e, e2, uk]⟩
 ·refine ⟨by decide, by decide, fun b p h => ?_⟩
  have e := (show b.eval (.tmp 39) = .int .u8 ((x ^^^ y).toNat : Int) from h.rd 9 _ qf rfl)
  refine Yr _ qw rfl #[.int .u8 ((x ^^^ y).toNat : Int)] ?_ rfl qg
  obtain ⟨ρ, hρ⟩ := exq (b.eval)
  rw [hρ] at e ⊢
  unfold execOp; simp [go_sem, e]
 ·exact ⟨by decide, by decide, rfl, rfl, by kernel_rfl, rfl, .inl ⟨rfl, by kernel_rfl⟩, _, by rfl, rfl, rfl⟩
 ·exact ⟨rfl, _, by rfl, rfl, rfl, 11, rfl, by kernel_rfl⟩
 ·intro b p h1 h2 h3 h4 h5 h6 h7
  refine hQ b p h1 h2 h3 ?_ h5
  replace h4 : qi 5 base p (qd b 10) _ := h4
  simpa using h4
theorem WU (w0 : World) (kv v : Value) (key xs : List UInt8) (i : Int) (hK : Bs (fun b => w0.heap.size <= b) w0 kv key) (hV : Bs (fun b => w0.heap.size <= b) w0 v xs) (hkl : key.length <= 90000000) (hxl : xs.length = 8) (hR : RG w0) (h0 : 0 <= i) (h1 : i <= 1099511627776) :
  Calls Tryz.prog 78 #[kv, .int .i64 i, v] w0 fun e w' => ∃ u, e = .returned (.tuple #[u, .int .i64 0]) /\ qi 5 w0.heap.size w' u (zt key i xs) /\ Fr [] w0 w' := by
 obtain ⟨va, vc, rfl, hvc, -, hrow⟩ := id hV
 obtain ⟨q1, f1, rfl, -, -⟩ := hrow.some_of Vv
 rw [hxl] at hV hvc ⊢
 have HC := Hdq (Zl w0 kv key i hK hkl hR h0 h1)
 have HV := Hdq hV
 have HXL := Hdq hxl
 have HML := Hdq (yj key i xs hxl)
 obtain ⟨ML, hML⟩ := exq (zt key i xs)
 rw [hML] at HML ⊢
 have HM := Hdq hML
 clear hK hV hkl hxl hR h0 h1 hrow hvc hML
 go_enter Tryz.func78, Tryz.ntmps78
 go_wp2_with (go_at_call 71; fail)
 refine HC.out.mono ?_
 rintro e w2 ⟨u, rfl, hu, hf⟩
 obtain ⟨q2, mc, e9, hq2, -, -, hcell⟩ := hu.shape (by rw [xQ]; decide)
 subst e9
 rw [xQ] at hcell ⊢
 have HCM := Hdq hcell
 have hm2 := (hu.lt q2 rfl)
 have HQ2 := Hdq hm2
 have HU := Hdq hu
 have HF2 := Hdq (hf.trans (Fr.alloc w2 (.cells #[] 5)))
 have HFM := Hdq (show Fr [] w2 (w2.alloc (.cells #[] 5)) from Fr.alloc _ _)
 have HFA := Hdq hf
 have HO := Hdq (qi.empty 5 w2.heap.size w2 (Nat.le_refl _))
 obtain ⟨Z2, hZ2⟩ := exq (w2.heap.size)
 rw [hZ2] at HO
 have HZ2 := Hdq hZ2
 clear hu hf hcell hm2 HC hq2
 go_wp2
 go_loopw [10, 27] (fun o j wr => ∃ k : Nat, k <= 8 /\ j = .int .i64 (k : Int) /\ Hid (qi 5 Z2 wr o (ML.take k)) /\ Hid (Fr [] w2 wr)) (fun _ j _ => 8 - (intOf j).toNat)
 case atStart => exact ⟨0, by omega, rfl, HO, HFM⟩
 case round =>
  clear HO HFM HF2
  obtain ⟨k, hk, rfl, HO, HF⟩ := hrel
  by_cases hk8 : k < 8
  ·obtain ⟨x, hx⟩ : ∃ x, xs[k]? = some x := ⟨_, List.getElem?_eq_getElem (by rw [HXL.out]; exact hk8)⟩
   obtain ⟨y, hy⟩ : ∃ y, (zT key i)[k]? = some y := ⟨_, List.getElem?_eq_getElem (by rw [xQ]; exact hk8)⟩
   have HUP := Hdq (show ML.take (k + 1) = ML.take k ++ [x ^^^ y] by
    rw [List.take_add_one, <- HM.out, zt, List.getElem?_map, show (xs.zip (zT key i))[k]? = some (x, y) from List.getElem?_zip_eq_some.2 ⟨hx, hy⟩]; rfl)
   have hki : (k : Int) < 8 := by omega
   have HX := Hdq (And.intro hx hy)
   obtain ⟨wl, rfl⟩ : ∃ wl, wl = wr := ⟨wr, rfl⟩
   obtain ⟨oa, on, oc, rfl⟩ := jh HO.out
   clear hx hy
   go_wp2
   refine qev wl _ rfl Z2 (.slice oa on oc) (ML.take k) q1 f1 q2 k vc mc x y rfl HO.out (by rw [<- HZ2.out]; exact HF.out.size) JP rfl rfl rfl hki hk8 ?_ ?_ _ ?_
   ·intro p hp
    have h9 : Fr [] w2 p := HF.out.then hp (fun z hz => .inr qcJ)
    have h8 := (HV.out.keep HFA.out qg).mono (A' := fun _ => False) h9 qg (fun _ h => h.elim)
    obtain ⟨a', c', e', -, -, hr⟩ := h8
    rw [HXL.out] at e'
    cases e'
    have h7 := hr.cell k (by rw [List.length_map, HXL.out]; exact hk8)
    rw [show (⟨q1, f1, none⟩ : Addr).add k = ⟨q1, f1 + k, none⟩ by unfold Addr.add; split <;> simp_all] at h7
    rw [h7, List.getElem?_map, HX.out.1]
    rfl
   ·intro p hp
    have h9 : Fr [] w2 p := HF.out.then hp (fun z hz => .inr qcJ)
    have h7 := qm h9 qg (HCM.out k hk8)
    rw [h7, List.getD_eq_getElem?_getD, HX.out.2]
    rfl
   ·intro b p hd hs ho hO hf
    have hb2 := vS b _ [30, 31, 32, 33, 34, 35, 36, 37, 38, 39, 40, 41, 10] hd hs ho
    simp only [List.foldl_cons, List.foldl_nil] at hb2
    obtain ⟨o2, ho2⟩ := exq (qd b 10)
    rw [ho2] at hO hb2
    have HO4 := Hdq (show qi 5 Z2 p o2 (ML.take (k + 1)) by rw [HUP.out]; exact hO)
    have HF4 := Hdq (HF.out.then hf (fun z hz => .inr qcJ))
    clear hO hf ho hs hd ho2 HO HF HUP
    generalize qd b 30 = s30 at hb2
    generalize qd b 31 = s31 at hb2
    generalize qd b 32 = s32 at hb2
    generalize qd b 33 = s33 at hb2
    generalize qd b 34 = s34 at hb2
    generalize qd b 35 = s35 at hb2
    generalize qd b 36 = s36 at hb2
    generalize qd b 37 = s37 at hb2
    generalize qd b 38 = s38 at hb2
    generalize qd b 39 = s39 at hb2
    generalize qd b 40 = s40 at hb2
    generalize qd b 41 = s41 at hb2
    subst hb2
    unfold Act.put
    go_wp2
    go_roundw
    case rel => exact ⟨k + 1, by omega, by simp, HO4, HF4⟩
    case measure => simp [intOf]; omega
  ·obtain rfl : k = 8 := by omega
   rw [List.take_of_length_le (by rw [HML.out]; exact Nat.le_refl _)] at HO
   have HO9 := Hdq (HO.out.base (base' := w0.heap.size) (by rw [<- HZ2.out]; exact HFA.out.size))
   have HF9 := Hdq (HFA.out.trans HF.out)
   go_wp2
   go_ret2
   exact ⟨_, rfl, HO9.out, HF9.out⟩
end Go.Proofs.YtnafknkchbfpaaaGreatDoor
