import Derived.Test.YtdloaifdpajcjaaGreatDoorGQ
set_option linter.unusedVariables false
set_option linter.unusedSimpArgs false
set_option maxRecDepth 1000000
set_option maxHeartbeats 8000000
namespace Go.Proofs.YtdloaifdpajcjaaGreatDoor
open Go.RowKit Go.Bl
theorem VV {F : Fence} {n : Nat} {P : Program} {w w' : World} {ops : Array Oper} {rest : List Oper} {o : Oper} {a : Go.Act} {Q : Exit -> Go.Act -> World -> Prop} (hgd : o.guard = none) (hab : (∃ ty x, o.op = .load ty x) ∨ (∃ ty p x, o.op = .store ty p x) ∨ ∃ ty x i, o.op = .index ty x i) (v : Value)
  (h : wpListIn F n P ops Q rest (a.put o.dst v) w') (hq : (execOp a.eval o).run P w = .ok (.value v) w' ∨ ((execOp a.eval o).run P w = .ok .skip w' /\ v = undef)) : wpListIn F n P ops Q (o :: rest) a w := by
 refine wpListIn_plain hgd fun K hK => ?_
 unfold Oper.wpIn
 refine ⟨by rcases hab with ⟨ty, x, e⟩ | ⟨ty, p, x, e⟩ | ⟨ty, x, i, e⟩ <;> simp [Oper.about, e], ?_⟩
 rw [Oper.semAt_plain F _ _ (by rcases hab with ⟨ty, x, e⟩ | ⟨ty, p, x, e⟩ | ⟨ty, x, i, e⟩ <;> (rw [e]; intro c hc'; cases hc'))]
 rcases hq with hq | ⟨hq, rfl⟩
 ·rw [hq]; exact hK _ _ h
 ·rw [hq]; exact hK _ _ h
theorem Yt {F : Fence} {n : Nat} {P : Program} {w : World} {ops : Array Oper} {rest : List Oper} {o : Oper} {a : Go.Act} {Q : Exit -> Go.Act -> World -> Prop} {ty : TypeId} {d : TypeDesc} (x : Operand) (ho : o.op = .load ty x) (hgd : o.guard = none)
  (b off : Nat) (c : List Value) (hx : a.eval x = .pointer (some ⟨b, off, none⟩)) (hc : w.rangeAt b off c) (hu : P.underlying ty = some d) (hd : d.isRow = true) (hi : (P.info? ty).map (·.size) = some c.length)
  (h : wpListIn F n P ops Q rest (a.put o.dst (.agg c.toArray)) w) : wpListIn F n P ops Q (o :: rest) a w := by
 refine VV hgd (.inl ⟨_, _, ho⟩) (.agg c.toArray) h (.inl ?_)
 exact Y20
theorem ZS {F : Fence} {n : Nat} {P : Program} {w : World} {ops : Array Oper} {rest : List Oper} {o : Oper} {a : Go.Act} {Q : Exit -> Go.Act -> World -> Prop} {t te : TypeId} {cur : Array Value} {g : Nat} (p x : Operand) (hgd : o.guard = none)
  (ho : o.op = .store t p x) (c' : Array Value) (hp : a.eval p = .pointer (some ⟨g, 0, none⟩)) (hx : a.eval x = .agg c') (hi : (P.info? t).map (·.size) = some c'.size) (hb : At w g (.cells cur te (0, 0))) (hsz : c'.size = cur.size) (h1 : c'.all (·.oneCell') = true)
  (h : ∀ w', Fr [g] w w' -> At w' g (.cells c' te (0, 0)) -> w'.heap.size = w.heap.size -> wpListIn F n P ops Q rest (a.put o.dst undef) w') : wpListIn F n P ops Q (o :: rest) a w := by
 have hst := run_storeCells_at P g 0 te c'.toList 0 cur w hb Y57 (by intro v hv; exact (Array.all_eq_true'.1 h1) v (by simpa using hv))
 simp only [Nat.add_zero, Nat.zero_add, Array.length_toList, List.take_zero, List.nil_append] at hst
 have e : cur.toList.drop c'.size = [] := List.drop_of_length_le Y57
 rw [e, List.append_nil] at hst
 cases hq : P.info? t with
 | none => simp [hq] at hi
 | some i =>
  have hs : i.size = c'.size := by simpa [hq] using hi
  have hrun : (storeVar t ⟨g, 0, none⟩ (.agg c')).run P w = .ok () (w.setRow g c'.toList.toArray) := by
   simp [storeVar, sizeOf, typeInfo, hq, Value.cells, hs, hst]
  refine VV hgd (.inr (.inl ⟨_, _, _, ho⟩)) undef (h (w.setRow g c'.toList.toArray) ⟨rfl, rfl, rfl, by simp [World.setRow], fun k hk hn => setRow_other w g k _ (by simpa using hn)⟩ (setRow_heap w g cur c' te (0, 0) hb) (by simp [World.setRow])) ?_
  unfold execOp
  simp only [ho, hp, hx, Instr.storeAt, Instr.sureAddr, Sem.run_bind, Sem.run_pure, Result.andThen_ok, hrun]
  first
  | exact .inl rfl
  | exact .inr ⟨rfl, rfl⟩
  | exact .inr ⟨rfl, trivial⟩
  | simp
attribute [local go_sem] Oper.semAt_some
theorem K6 (w : World) (a : Option Addr) (L cap : Nat) :
  Calls Tryz.prog 108 #[.slice a L cap, .int .i64 64] w fun e w' => e = .returned (.func (.func 167) #[] #[.pointer (some ⟨w.heap.size, 0, none⟩), .pointer (some ⟨w.heap.size + 1, 0, none⟩)]) /\ w' = (w.alloc (.cells #[.slice a L cap] 22)).alloc (.cells #[.int .i64 64] 3) := by
 go_enter Tryz.func108, Tryz.ntmps108
 go_wp2
 go_ret
 exact ⟨by simp, rfl⟩
theorem qhB (w0 : World) (base hb : Nat) (m : List UInt8) (hH : yr base w0 hb m) (hK : KAt 21 w0) (hG : 21 < w0.heap.size) (hm : m.length <= 100000000) :
  CallsIn Fence.wide 3 Tryz.prog 52 #[.pointer (some ⟨hb, 0, none⟩)] w0 fun e w' => e = .returned (.agg ((qz m).map u8v).toArray) /\ Fr [] w0 w' := by
 obtain ⟨rv, hA, hO⟩ := hH
 obtain ⟨ra, rc, hrv, -⟩ := hO.bs (A := fun _ => False) Y85
 subst hrv
 obtain ⟨Z, hZ⟩ := exq (w0.heap.size)
 obtain ⟨mn, hmn⟩ := exq (m.length)
 obtain ⟨rn, hrn⟩ := exq ((qI m).length)
 have hr64 : rn = mn % 64 := by rw [<- hrn, <- hmn, vo]
 rw [hmn] at hA hm
 rw [hrn] at hA hO
 have W1F : Fr [] w0 (w0.alloc (.cells xL 36)) := Fr.alloc _ _
 have HMN := Hdq hmn
 have HRN := Hdq hrn
 have HR64 := Hdq hr64
 have HKK := Hdq hK
 have HA := Hdq (hA.keep0 W1F)
 have HB := Hdq (Bs.keep (qt.bs (A := fun _ => False) hO Y85) W1F Y85)
 have HR0 := Hdq (At.new hZ.symm : At (w0.alloc (.cells xL 36)) Z (.cells xL 36))
 have HF0 := Hdq W1F
 have c8 : (w0.alloc (.cells xL 36)).cell? ⟨hb, 8, none⟩ = some (.slice ra rn rc) := (HA.out.cell 8).trans (Q9 _ _ _)
 have HZ := Hdq hZ
 clear hmn hrn hr64 hK hA hO W1F
 refine callsIn_of_wp_marks Tryz.func52 rfl trivial (wpIn_wide.2 ?_) rfl
 simp only [Tryz.ntmps52, List.size_toArray, List.length_cons, List.length_nil, Nat.reduceAdd, Nat.reduceSub, Array.replicate_succ, Array.replicate_zero, List.push_toArray, List.append_toArray, List.nil_append, List.cons_append]
 go_wp2_with (go_at_call 107; fail)
 clear hZ
 refine (clone_any _ _ _ _ HB.out (by rw [HRN.out]; have := HR64.out; omega)).mono ?_
 rintro e w1 ⟨v1, rfl, h1, hf⟩
 have HO1 := Hdq (h1.base (show w0.heap.size <= _ from by simp))
 have HF1 := Hdq (HF0.out.trans hf)
 have HA1 := Hdq (HA.out.keep0 hf)
 have HR1 := Hdq (HR0.out.keep0 hf)
 have hz1 : w0.heap.size <= w1.heap.size := HF1.out.size
 clear h1 hf c8 HB HF0 HA HR0
 have f2 : Fr [] w1 (w1.alloc (.cells #[.int .u8 128] 5)) := Fr.alloc _ _
 have HO2 := Hdq (HO1.out.keep f2 Y85)
 have HF2 := Hdq (HF1.out.trans f2)
 have HA2 := Hdq (HA1.out.keep0 f2)
 have HR2 := Hdq (HR1.out.keep0 f2)
 have hz2 : w0.heap.size <= (w1.alloc (.cells #[.int .u8 128] 5)).heap.size := HF2.out.size
 clear f2 HO1 HF1 HA1 HR1
 go_wp2_with (at_builtin; refine qd (A := fun _ => False) (ys := [128]) (base := w0.heap.size) Tryz.underlying22 Tryz.infoByte rfl (.tmp 15) (.tmp 16) rfl rfl rfl HO2.out (qeN _ w1 128 Y85) (by rw [HRN.out]; have := HR64.out; simp; omega) hz2 ?_)
 intro v3 w3 h5 h6
 have HO3 := Hdq (show qt 5 w0.heap.size w3 v3 (qI m ++ 128 :: List.replicate 0 0) from h5)
 have HF3 := Hdq (show Fr [] w0 w3 from qt.fr HO2.out HF2.out h6 (Nat.le_refl _))
 have HA3 := Hdq (HA2.out.grown h6 (ub HO2.out HA2.out Y86))
 have HR3 := Hdq (HR2.out.grown h6 (ub HO2.out HR2.out Y86))
 clear h5 h6 HO2 HF2 HA2 HR2 hz2 hz1
 go_wp2
 go_loopw [3] (fun v wr => ∃ j : Nat, j <= jg mn /\ Hid (qt 5 w0.heap.size wr v (qI m ++ 128 :: List.replicate j 0)) /\ Hid (At wr hb (.cells (hC (Qq m) (.slice ra rn rc) (mn : Int)) 213)) /\ Hid (At wr Z (.cells xL 36)) /\ Hid (Fr [] w0 wr)) (fun v _ => 200 - qhM v)
 case atStart => exact ⟨0, by omega, HO3, HA3, HR3, HF3⟩
 case round =>
  clear HO3 HA3 HR3 HF3
  obtain ⟨j, hj, HO, HA, HR, HF⟩ := hrel
  obtain ⟨va, vc, hv, -⟩ := HO.out.bs (A := fun _ => False) Y85
  subst hv
  have hz63 := xN mn
  obtain ⟨vn, hvn⟩ := exq ((qI m ++ 128 :: List.replicate j 0).length)
  have hvn2 : vn = rn + 1 + j := by rw [<- hvn, List.length_append, HRN.out, List.length_cons, List.length_replicate]; omega
  rw [hvn] at HO ⊢
  have HVN := Hdq hvn
  clear hvn
  have hr64 : rn < 64 := by have := HR64.out; omega
  have hz1 : w0.heap.size <= wr.heap.size := HF.out.size
  by_cases hjz : j < jg mn
  ·have hmod := qcY mn rn j HR64.out hjz
   have hne : ((vn : Int) % 64 != 56) = true := by simp only [bne_iff_ne, ne_eq]; omega
   have hne2 : ¬ (vn : Int) % 64 = 56 := by omega
   have f2 : Fr [] wr (wr.alloc (.cells #[.int .u8 0] 5)) := Fr.alloc _ _
   have HO2 := Hdq (HO.out.keep f2 Y85)
   have HF2 := Hdq (HF.out.trans f2)
   have HA2 := Hdq (HA.out.keep0 f2)
   have HR2 := Hdq (HR.out.keep0 f2)
   have hz2 : w0.heap.size <= (wr.alloc (.cells #[.int .u8 0] 5)).heap.size := HF2.out.size
   have HVL := Hdq (show (qI m ++ 128 :: List.replicate j 0).length <= 1000 by rw [HVN.out]; omega)
   have hv2 := Hdq hvn2
   have HJ := Hdq hjz
   clear f2 HO HF HA HR hz1 hmod hjz hvn2
   go_wp2_with (at_builtin; refine qd (A := fun _ => False) (ys := [0]) (base := w0.heap.size) Tryz.underlying22 Tryz.infoByte rfl (.tmp 22) (.tmp 23) rfl rfl rfl HO2.out (qeN _ wr 0 Y85) (by have := HVL.out; simp at this ⊢; omega) hz2 ?_)
   intro v3 w3 h5 h6
   have e5 : (qI m ++ 128 :: List.replicate j 0) ++ [0] = qI m ++ 128 :: List.replicate (j + 1) 0 := by rw [List.append_assoc, List.cons_append, List.replicate_succ']
   have h5' : qt 5 w0.heap.size w3 v3 (qI m ++ 128 :: List.replicate (j + 1) 0) := by
    rw [<- e5]
    simpa using h5
   obtain ⟨va3, vc3, hv3, -⟩ := h5'.bs (A := fun _ => False) Y85
   subst hv3
   have HS5 := Hdq (show (qI m ++ 128 :: List.replicate (j + 1) 0).length = rn + 2 + j by rw [List.length_append, HRN.out, List.length_cons, List.length_replicate]; omega)
   have HO3 := Hdq h5'
   clear h5' e5
   have HF3 := Hdq (show Fr [] w0 w3 from qt.fr HO2.out HF2.out h6 (Nat.le_refl _))
   have HA3 := Hdq (HA2.out.grown h6 (ub HO2.out HA2.out Y86))
   have HR3 := Hdq (HR2.out.grown h6 (ub HO2.out HR2.out Y86))
   clear h5 h6 HO2 HF2 HA2 HR2 hz2
   go_wp2
   go_roundw
   case rel => exact ⟨j + 1, by have := HJ.out; omega, HO3, HA3, HR3, HF3⟩
   case measure => simp only [qhM]; rw [HS5.out, hv2.out]; omega
  ·obtain rfl : j = jg mn := by omega
   have hmod := qcs mn rn HR64.out
   have hne : ((vn : Int) % 64 != 56) = false := by simp only [bne_eq_false_iff_eq]; omega
   have hne2 : (vn : Int) % 64 = 56 := by omega
   clear hmod hjz hj
   have HO4 := Hdq (show qt 5 w0.heap.size wr (.slice va vn vc) (qI m ++ 128 :: (List.replicate (jg mn) 0 ++ (xI mn).take 0)) from by rw [List.take_zero, List.append_nil]; exact HO.out)
   clear HO HVN hz1 hz63
   go_wp2
   clear hne hne2 hvn2
   generalize (((rn : Int) + 1 + ((jg mn : Nat) : Int)) % 64 != 56) = q21
   generalize (((rn : Int) + 1 + ((jg mn : Nat) : Int)) % 64) = q20
   generalize ((rn : Int) + 1 + ((jg mn : Nat) : Int)) = q19
   go_loopw [3, 4] (fun v i wr => ∃ j : Nat, j <= 8 /\ i = .int .i64 (56 - 8 * (j : Int)) /\ Hid (qt 5 w0.heap.size wr v (qI m ++ 128 :: (List.replicate (jg mn) 0 ++ (xI mn).take j))) /\ Hid (At wr hb (.cells (hC (Qq m) (.slice ra rn rc) (mn : Int)) 213)) /\ Hid (At wr Z (.cells xL 36)) /\ Hid (Fr [] w0 wr)) (fun _ i _ => (intOf i + 8).toNat)
   case atStart => exact ⟨0, by omega, rfl, HO4, HA, HR, HF⟩
   case round =>
    clear HO4 HA HR HF
    obtain ⟨j, hj, rfl, HO, HA, HR, HF⟩ := hrel
    by_cases hj8 : j < 8
    ·obtain ⟨b, hb8⟩ := exq (56 - 8 * j)
     rw [show (56 : Int) - 8 * (j : Int) = (b : Int) by omega]
     obtain ⟨c, hc⟩ := exq ((xI mn).getD j 0)
     have e8 : ((mn : Int) * 8 / 2 ^ b) % 256 = (c.toNat : Int) := by
      have h := YG mn j hj8
      rw [hc, hb8] at h
      rw [<- h]
      simp
     have HUP := Hdq (show (xI mn).take (j + 1) = (xI mn).take j ++ [c] by rw [qbg mn j hj8, hc])
     have c9 : wr.cell? ⟨hb, 9, none⟩ = some (.int .i64 (mn : Int)) := (HA.out.cell 9).trans (qhQ _ _ _)
     have hz1 : w0.heap.size <= wr.heap.size := HF.out.size
     have f2 : Fr [] wr (wr.alloc (.cells #[.int .u8 (c.toNat : Int)] 5)) := Fr.alloc _ _
     have HO2 := Hdq (HO.out.keep f2 Y85)
     have HF2 := Hdq (HF.out.trans f2)
     have HA2 := Hdq (HA.out.keep0 f2)
     have HR2 := Hdq (HR.out.keep0 f2)
     have hz2 : w0.heap.size <= (wr.alloc (.cells #[.int .u8 (c.toNat : Int)] 5)).heap.size := HF2.out.size
     have hz63 := xN mn
     have HVL := Hdq (show (qI m ++ 128 :: (List.replicate (jg mn) 0 ++ (xI mn).take j)).length <= 1000 by
      rw [List.length_append, HRN.out, List.length_cons, List.length_append, List.length_replicate, List.length_take]
      omega)
     have HC := Hdq hc
     have hbi : (b : Int) <= 56 := by omega
     have HB8 := Hdq hb8
     clear f2 HO HF HA HR hz1 hz63 hc hb8
     go_wp2_with (at_builtin; refine qd (A := fun _ => False) (ys := [c]) (base := w0.heap.size) Tryz.underlying22 Tryz.infoByte rfl (.tmp 29) (.tmp 39) rfl rfl rfl HO2.out (qeN _ wr c Y85) (by have := HVL.out; simp at this ⊢; omega) hz2 ?_)
     intro v5 w5 h5 h6
     have e5 : (qI m ++ 128 :: (List.replicate (jg mn) 0 ++ (xI mn).take j)) ++ [c] = qI m ++ 128 :: (List.replicate (jg mn) 0 ++ (xI mn).take (j + 1)) := by rw [HUP.out]; simp
     have h5' : qt 5 w0.heap.size w5 v5 (qI m ++ 128 :: (List.replicate (jg mn) 0 ++ (xI mn).take (j + 1))) := by
      rw [<- e5]
      simpa using h5
     have HO3 := Hdq h5'
     have HF3 := Hdq (show Fr [] w0 w5 from qt.fr HO2.out HF2.out h6 (Nat.le_refl _))
     have HA3 := Hdq (HA2.out.grown h6 (ub HO2.out HA2.out Y86))
     have HR3 := Hdq (HR2.out.grown h6 (ub HO2.out HR2.out Y86))
     clear h5 h5' e5 h6 HO2 HF2 HA2 HR2 hz2 e8 c9
     go_wp2
     go_roundw
     case rel => exact ⟨j + 1, by omega, by have := HB8.out; simp; omega, HO3, HA3, HR3, HF3⟩
     case measure => have := HB8.out; simp [intOf]; omega
    ·obtain rfl : j = 8 := by omega
     rw [show (56 : Int) - 8 * ((8 : Nat) : Int) = -8 from rfl]
     obtain ⟨va4, vc4, hv4, hvc4, hvm4, -⟩ := HO.out.bs (A := fun _ => False) Y85
     subst hv4
     have HO5 := Hdq (show qt 5 w0.heap.size wr _ (qI m ++ xZ mn) from HO.out)
     obtain ⟨en, hen⟩ := exq ((qI m ++ xZ mn).length)
     have hlt : (qI m ++ 128 :: (List.replicate (jg mn) 0 ++ (xI mn).take 8)).length = en := hen
     rw [hlt] at HO5 hvc4 ⊢
     have HEN := Hdq hen
     have HL := Hdq (Wn HA.out)
     have HS8 := Hdq (show (Tryz.prog.info? 211).map (·.size) = some ((Qq m).l.map js).length by rw [show ((Qq m).l.map js).length = 8 from rfl]; kernel_rfl)
     have HS9 := Hdq (show (Tryz.prog.info? 211).map (·.size) = some (wA (Qq m).l).size by rw [show (wA (Qq m).l).size = 8 from rfl]; kernel_rfl)
     clear HO hj hj8 hen hlt
     go_wp2_with (first | (refine jX (.tmp 43) rfl rfl hb 0 ((Qq m).l.map js) rfl HL.out Tryz.underlying211 rfl HS8.out ?_) | (refine zI (.tmp 5) (.tmp 44) rfl rfl (wA (Qq m).l) rfl rfl HS9.out rfl (QK _) ?_))
     clear HL HS8 HS9
     refine (K6 _ va4 en vc4).mono ?_
     rintro e w6 ⟨rfl, rfl⟩
     obtain ⟨bb, cc4, hs4, hbb, -, -, -⟩ := HO5.out.shape (by have := HEN.out; rw [this]; rw [<- this, List.length_append, vy]; omega)
     have hva : va4 = some ⟨bb, 0, none⟩ := by injection hs4
     subst hva
     clear hs4
     obtain ⟨s0, hs0⟩ := exq (Qq m)
     obtain ⟨X, hX⟩ := exq (qI m ++ xZ mn)
     obtain ⟨M, hM⟩ := exq (en / 64)
     have hen : en = 64 * M /\ M <= 4 := by
      have h := HEN.out
      rw [List.length_append, HRN.out, vy] at h
      have h1 := qev mn
      rw [vy, <- HR64.out] at h1
      have h2 := HR64.out
      have h3 := xN mn
      omega
     have HEM := Hdq hen
     clear hen
     rw [hs0] at HA ⊢
     rw [hX] at HO5 HEN
     have HS0 := Hdq hs0
     have HX := Hdq hX
     have HM := Hdq hM
     obtain ⟨cE, eE, fE, hE1, hE2⟩ : ∃ cE eE fE, At wr bb (.cells cE eE fE) /\ ∀ i, i < (X.map u8v).length -> cE[i]? = (X.map u8v)[i]? := by
      obtain ⟨a', cap', h1, h2, h3, h4⟩ := HO5.out.bs (A := fun _ => False) Y85
      cases h1
      rcases h4 with h4 | ⟨b, off, c, e, fz, ha, -, hc, hcs⟩
      ·exfalso
       have h5 := congrArg List.length h4
       simp only [List.length_map, List.length_nil] at h5
       have h6 := congrArg List.length HX.out
       rw [List.length_append, vy] at h6
       omega
      ·cases ha
       exact ⟨c, e, fz, hc, fun i hi => by have := hcs i hi; rwa [Nat.zero_add] at this⟩
     have aX : At (((wr.alloc (.cells (wA s0.l) 211)).alloc (.cells #[.slice (some ⟨bb, 0, none⟩) en vc4] 22)).alloc (.cells #[.int .i64 64] 3)) bb (.cells cE eE fE) := ((hE1.al).al).al
     have aB : At (((wr.alloc (.cells (wA s0.l) 211)).alloc (.cells #[.slice (some ⟨bb, 0, none⟩) en vc4] 22)).alloc (.cells #[.int .i64 64] 3)) wr.heap.size (.cells (wA s0.l) 211) := ((At.new rfl).al).al
     have aS : At (((wr.alloc (.cells (wA s0.l) 211)).alloc (.cells #[.slice (some ⟨bb, 0, none⟩) en vc4] 22)).alloc (.cells #[.int .i64 64] 3)) (wr.heap.size + 1) (.cells #[.slice (some ⟨bb, 0, none⟩) en vc4] 22) := (At.new Y85).al
     have aN : At (((wr.alloc (.cells (wA s0.l) 211)).alloc (.cells #[.slice (some ⟨bb, 0, none⟩) en vc4] 22)).alloc (.cells #[.int .i64 64] 3)) (wr.heap.size + 1 + 1) (.cells #[.int .i64 64] 3) := At.new Y85
     have aR : At (((wr.alloc (.cells (wA s0.l) 211)).alloc (.cells #[.slice (some ⟨bb, 0, none⟩) en vc4] 22)).alloc (.cells #[.int .i64 64] 3)) Z (.cells xL 36) := ((HR.out.al).al).al
     have hbW : Below w0.heap.size w0 (((wr.alloc (.cells (wA s0.l) 211)).alloc (.cells #[.slice (some ⟨bb, 0, none⟩) en vc4] 22)).alloc (.cells #[.int .i64 64] 3)) := (((HF.out.trans (Fr.alloc _ _)).trans (Fr.alloc _ _)).trans (Fr.alloc _ _)).below
     have hbl := hE1.lt
     have hZl : Z < wr.heap.size := HR.out.lt
     have hZw := HZ.out
     have hbs5 := HF.out.size
     have hsz : (((wr.alloc (.cells (wA s0.l) 211)).alloc (.cells #[.slice (some ⟨bb, 0, none⟩) en vc4] 22)).alloc (.cells #[.int .i64 64] 3)).heap.size = wr.heap.size + 3 := by simp
     have HEE := Hdq hE2
     have HKX := Hdq hvm4
     clear hE1 hE2 hs0 hX hM HA HR HF HO5 hvm4
     go_wp2
     refine (wpIn_wide (n := 3)).1 (wpIn_rangeFunc_ownG rfl Y86 (gf := 167) (lb := #[.pointer (some ⟨wr.heap.size + 1, 0, none⟩), .pointer (some ⟨wr.heap.size + 1 + 1, 0, none⟩)]) rfl trivial (enters_of Tryz.func167 Y55 rfl)
      (Yr Fence.wide 2 trivial rfl Y54 (wr.heap.size + 1) (wr.heap.size + 1 + 1) bb M en vc4 [wr.heap.size + 1, wr.heap.size + 1 + 1] HEM.out.1 (by have := HEM.out.2; omega) hvc4 (by have := HKX.out; simpa [maxLen] using this) _ (aS.cell 0) (aN.cell 0) Y85 Y85 (by rw [hsz]; omega) (by rw [hsz]; omega)) uk.trans ?kb (Below.refl _ _) (fun _ => rfl)
      (fun pre W => (At W wr.heap.size (.cells (wA (Lj X s0 pre).l) 211) /\ At W bb (.cells cE eE fE) /\ At W Z (.cells xL 36)) /\ Below w0.heap.size w0 W)
      (fun c pre W => False /\ Below w0.heap.size w0 W)
      (OwnFrom.and (Own.from (fun s A B row hs hg hr => ⟨(grownBy_keeps_cells hg hr hs.1 rfl).trans hs.1, (grownBy_keeps_cells hg hr hs.2.1 rfl).trans hs.2.1, (grownBy_keeps_cells hg hr hs.2.2 rfl).trans hs.2.2⟩) _) (ownFrom_below (Nat.le_refl _) (by rw [hsz]; omega)))
      (fun c => OwnFrom.and (Own.from (fun s A B row hs hg hr => hs) _) (ownFrom_below (Nat.le_refl _) (by rw [hsz]; omega)))
      ⟨⟨aB, aX, aR⟩, hbW⟩
      (fun y => { tmps := #[.pointer (some ⟨hb, 0, none⟩), undef, .pointer (some ⟨Z, 0, none⟩), .slice (some ⟨bb, 0, none⟩) en vc4, .int .i64 (-8), .pointer (some ⟨wr.heap.size, 0, none⟩), ckW bb y.1, undef, undef, undef, undef, .pointer (some ⟨hb, 0, none⟩), .pointer (some ⟨hb, 0, none⟩), .pointer (some ⟨hb, 8, none⟩), .slice ra rn rc, v1, .slice (some ⟨w1.heap.size, 0, none⟩) 1 1, v3, .slice va vn vc, .int .i64 q19, .int .i64 q20, .bool q21, u22, u23, u24, .int .i64 (-8), .bool false, u27, u28, u29, u30, u31, u32, u33, u34, u35, u36, u37, u38, u39, u40, .pointer (some ⟨hb, 0, none⟩), .pointer (some ⟨hb, 0, none⟩), .pointer (some ⟨hb, 0, none⟩), .agg (List.map js s0.l).toArray, .slice (some ⟨bb, 0, none⟩) en vc4, .func (.func 167) #[] #[.pointer (some ⟨wr.heap.size + 1, 0, none⟩), .pointer (some ⟨wr.heap.size + 1 + 1, 0, none⟩)], ckW bb y.1, undef, undef, undef, undef, undef, undef, undef, undef, undef, undef, undef, undef, undef, undef, undef, undef, undef, undef, undef, undef, undef, undef, undef, undef, undef], defers := [] }) ?assign ?body ?done ?stop)
     case kb =>
      intro W l o o' hl ho _ _ g hg og hog
      rw [hsz] at hl
      exact (Fr.grown (S := [l]) (grownBy_putObj' W l o') (by intro k e; cases e; simp)).keep hog (by simp at hg ⊢; omega)
     case assign =>
      intro l y W K hK
      gi_wp2
      exact hK
     case body =>
      rintro l pre y W ⟨⟨hB5, hXX, hZZ⟩, hBW⟩ _
      obtain ⟨st, hst⟩ := exq (Lj X s0 pre)
      rw [hst] at hB5
      have hpl : (xP X y.1).length = 64 := qas X y.1 M (by rw [HEN.out]; exact HEM.out.1) y.2
      have hbp : Bs (fun _ => False) W (.slice (some ⟨bb, 64 * y.1, none⟩) 64 64) (xP X y.1) := by
       refine ⟨some ⟨bb, 64 * y.1, none⟩, 64, by rw [hpl], by rw [hpl]; exact Nat.le_refl _, by simp [maxLen], .inr ⟨bb, 64 * y.1, cE, eE, fE, rfl, by simp, hXX, ?_⟩⟩
       intro i hi
       rw [List.length_map, hpl] at hi
       have h1 : 64 * y.1 + i < X.length := by rw [HEN.out, HEM.out.1]; have := y.2; omega
       rw [HEE.out _ (by rw [List.length_map]; exact h1), xP, List.map_take, List.map_drop, List.getElem?_take, if_pos hi, List.getElem?_drop]
      obtain ⟨S1, hS1⟩ := exq (ji st (xP X y.1))
      have hlast : Lj X s0 (pre ++ [y]) = S1 := by rw [VT, hst, hS1]
      have HFW := Hdq (fr_below hBW)
      have hsW := HFW.out.size
      have HR5 := Hdq (jQ (c := st.l.map js) hB5)
      have HS8 := Hdq (show (Tryz.prog.info? 211).map (·.size) = some (st.l.map js).length by rw [show (st.l.map js).length = 8 from rfl]; kernel_rfl)
      have HS9 := Hdq (show (Tryz.prog.info? 211).map (·.size) = some (wA S1.l).size by rw [show (wA S1.l).size = 8 from rfl]; kernel_rfl)
      have HPL := Hdq hpl
      have HBP := Hdq hbp
      have HS1 := Hdq hS1
      have HLA := Hdq hlast
      have HB5 := Hdq hB5
      have HXX := Hdq hXX
      have HZZ := Hdq hZZ
      have HBW := Hdq hBW
      have HSZ := Hdq hsz
      have hw5 := hB5.lt
      clear hst hpl hbp hS1 hlast hB5 hXX hZZ hBW aX aB aS aN aR hbW hsz
      unfold ckW
      gi_wp2_with (refine Yt (.tmp 5) rfl rfl wr.heap.size 0 (st.l.map js) rfl HR5.out Tryz.underlying211 rfl HS8.out ?_)
      refine ⟨trivial, (CallsIn.inRound l (callsIn_wide.2 (YT W st bb (64 * y.1) 64 (xP X y.1) HPL.out HBP.out (HKK.out.keep HFW.out) Y54))).mono ?_⟩
      rintro e W2 ⟨rfl, hf2⟩
      rw [HS1.out]
      have HB52 := Hdq (HB5.out.keep0 hf2)
      have HF2 := Hdq hf2
      clear hf2
      gi_wp2_with (refine ZS (.tmp 5) (.tmp 50) rfl rfl (wA S1.l) rfl rfl HS9.out HB52.out rfl (QK _) ?_)
      intro W3 hf3 hB53 hs3
      have hs2 := HF2.out.size
      gi_wp2
      refine ⟨?_, ?_, ?_⟩
      ·refine KeepsFrom.trans ⟨HF2.out.size, fun k o _ hk _ => HF2.out.keep hk Y85⟩ ⟨hf3.size, fun k o hk ho _ => hf3.keep ho ?_⟩
       rw [HSZ.out] at hk
       simp
       omega
      ·exact (uk.of_fr HF2.out Y85).trans (uk.of_fr hf3 (by intro g hg; simp at hg ⊢; omega))
      ·refine ⟨⟨by rw [HLA.out]; exact hB53, (HXX.out.keep0 HF2.out).keep hf3 Y57, (HZZ.out.keep0 HF2.out).keep hf3 Y57⟩, ?_⟩
       exact (HFW.out.trans (HF2.out)).then hf3 (fun z hz => .inr (by simp at hz; omega)) |>.below
     case done =>
      rintro D ys W hD rfl ⟨⟨hB5, hXX, hZZ⟩, hBW⟩ hK
      rw [qaw X s0 M (Nat.le_refl _)] at hB5
      obtain ⟨S, hS⟩ := exq (jJ M s0 X)
      rw [hS] at hB5
      have HSS := Hdq (show x7 S = qz m by rw [qcx, HMN.out, HX.out, HEN.out, HS0.out, HM.out, hS])
      obtain ⟨Dg, hDg⟩ := exq (W.heap.size)
      have HFW := Hdq ((fr_below hBW).trans (Fr.alloc W (.cells (dW S 0) 36)))
      have HB5 := Hdq (show At (W.alloc (.cells (dW S 0) 36)) wr.heap.size _ from hB5.al)
      have HZZ := Hdq (show At (W.alloc (.cells (dW S 0) 36)) Z _ from hZZ.al)
      have HDG := Hdq (show At (W.alloc (.cells (dW S 0) 36)) Dg (.cells (dW S 0) 36) from At.new hDg.symm)
      have HHK := Hdq (show At (W.alloc (.cells (dW S 0) 36)) D _ from (show At W D _ from hK).al)
      have HR5 := Hdq (jQ (c := S.l.map js) HB5.out)
      have HS8 := Hdq (show (Tryz.prog.info? 211).map (·.size) = some (S.l.map js).length by rw [show (S.l.map js).length = 8 from rfl]; kernel_rfl)
      have hDn : wr.heap.size + 3 <= D := by rw [hsz] at hD; exact hD
      have hDl : D < Dg := by have := qk hK; omega
      clear hS hB5 hXX hZZ hBW hK hD hbW aX aB aS aN aR hsz
      go_wp2_with (refine jX (.tmp 5) rfl rfl wr.heap.size 0 (S.l.map js) rfl HR5.out Tryz.underlying211 rfl HS8.out ?_)
      clear HR5 HS8 hDg
      have hDz : Dg ≠ Z := by omega
      have hDw : w0.heap.size <= Dg := by omega
      go_loopw [52] (fun i wr => ∃ k : Nat, k <= 8 /\ i = .int .i64 (k : Int) /\ Hid (At wr Dg (.cells (dW S (4 * k)) 36)) /\ Hid (At wr Z (.cells xL 36)) /\ Hid (At wr D (.deferred (some []))) /\ Hid (Fr [] w0 wr)) (fun i _ => 8 - (intOf i).toNat)
      case atStart => exact ⟨0, by omega, rfl, HDG, HZZ, HHK, HFW⟩
      case round =>
       clear HDG HZZ HHK HFW HB5
       obtain ⟨k, hk, rfl, HDG, HZZ, HHK, HFW⟩ := hrel
       by_cases hk8 : k < 8
       ·obtain ⟨x, hx⟩ := exq (S.l.getD k 0)
        have HXK := Hdq hx
        have HIX := Hdq (show ∀ w, (Instr.index 211 (.agg (wA S.l)) (.int .i64 (k : Int))).run Tryz.prog w = .ok (.int .u32 (wN x)) w from fun w => Qw Tryz.underlying211 Tryz.infoU32 Y55 Y55 hk8 (by rw [<- hx]; exact LO hk8) w)
        clear hx hk
        go_wp2_with (refine Xw (.tmp 51) (.tmp 52) rfl rfl (wA S.l) k (.int .u32 (wN x)) rfl rfl HIX.out ?_)
        go_loopw [56] (fun i wr => ∃ j : Nat, j <= 4 /\ i = .int .i64 (j : Int) /\ Hid (At wr Dg (.cells (dW S (4 * k + j)) 36)) /\ Hid (At wr Z (.cells xL 36)) /\ Hid (At wr D (.deferred (some []))) /\ Hid (Fr [] w0 wr)) (fun i _ => 4 - (intOf i).toNat)
        case atStart => exact ⟨0, by omega, rfl, HDG, HZZ, HHK, HFW⟩
        case round =>
         clear HDG HZZ HHK HFW
         obtain ⟨j, hj, rfl, HDG, HZZ, HHK, HFW⟩ := hrel
         by_cases hj4 : j < 4
         ·obtain ⟨b, hb⟩ := exq (24 - 8 * j)
          obtain ⟨p, hp⟩ := exq (4 * k + j)
          obtain ⟨c, hc⟩ := exq ((x7 S).getD p 0)
          have e8 : (wN x / 2 ^ b) % 256 = (c.toNat : Int) := by
           have h := qdm S k j hk8 hj4
           rw [HXK.out, hb, hp, hc, IntKind.wrap_u8] at h
           exact h
          have hbI : (24 : Int) - 8 * (j : Int) = (b : Int) := by omega
          have hpI : (4 : Int) * (k : Int) + (j : Int) = (p : Int) := by omega
          have hp32 : p < 32 := by omega
          rw [hp] at HDG
          obtain ⟨v0, hv0⟩ : ∃ v0, (dW S p)[p]? = some v0 := ⟨_, Array.getElem?_eq_getElem (by rw [qfx S p Y54]; exact hp32)⟩
          have c9 : wr.cell? ⟨Dg, p, none⟩ = some v0 := (HDG.out.cell p).trans hv0
          have d9 := HDG.out.free p
          have HD2 := Hdq (show At (wr.setCell ⟨Dg, p, none⟩ (.int .u8 (c.toNat : Int))) Dg (.cells (dW S (p + 1)) 36) by
           rw [<- qgX S p hp32, hc]
           exact HDG.out.set p _)
          have HZ2 := Hdq (HZZ.out.other (a := ⟨Dg, p, none⟩) (v := .int .u8 (c.toNat : Int)) hDz)
          have HH2 := Hdq (HHK.out.other (a := ⟨Dg, p, none⟩) (v := .int .u8 (c.toNat : Int)) (show Dg ≠ D by omega))
          have HF2 := Hdq (HFW.out.then (Fr.setCell (S := [Dg]) wr ⟨Dg, p, none⟩ (.int .u8 (c.toNat : Int)) Y85) (fun z hz => .inr (by simp at hz; omega)))
          have HP := Hdq hp
          clear HDG HZZ HHK HFW hb hp hc hv0 hj
          go_wp2
          go_roundw
          case rel => exact ⟨j + 1, by omega, by simp, by rw [show 4 * k + (j + 1) = p + 1 by have := HP.out; omega]; exact HD2, HZ2, HH2, HF2⟩
          case measure => simp [intOf]; omega
         ·obtain rfl : j = 4 := by omega
          go_wp2
          go_roundw
          case rel => exact ⟨k + 1, by omega, by simp, HDG, HZZ, HHK, HFW⟩
          case measure => simp [intOf]; omega
       ·obtain rfl : k = 8 := by omega
        have hee := HDG.out
        rw [show 4 * 8 = 32 from rfl, qgP, HSS.out] at hee
        obtain ⟨o, ho⟩ := exq (qz m)
        rw [ho] at hee
        have HOO := Hdq ho
        have hol : o.length = 32 := by rw [<- ho, jv]
        have HR5 := Hdq (jQ (c := o.map u8v) hee)
        have HS8 := Hdq (show (Tryz.prog.info? 36).map (·.size) = some (o.map u8v).length by rw [List.length_map, hol]; kernel_rfl)
        have HS9 := Hdq (show (Tryz.prog.info? 36).map (·.size) = some (o.map u8v).toArray.size by rw [List.size_toArray, List.length_map, hol]; kernel_rfl)
        have HOL := Hdq hol
        clear hee ho hol HSS hk hk8
        go_wp2_with (first | (refine jX (.tmp 7) rfl rfl Dg 0 (o.map u8v) rfl HR5.out Tryz.underlying36 rfl HS8.out ?_) | (refine zM (.tmp 2) (.tmp 72) rfl rfl (o.map u8v).toArray rfl rfl HS9.out HZZ.out (by rw [List.size_toArray, List.length_map, HOL.out]; rfl) (L1 _) ?_))
        intro w9 f9 a9 s9
        have HH9 := Hdq (HHK.out.keep f9 Y57)
        have HZ9 := Hdq a9
        have HF9 := Hdq (HFW.out.then f9 (fun z hz => .inr (by simp at hz; omega)))
        clear f9 a9 s9 HHK HZZ HFW HR5 HS9
        go_wp2
        refine ⟨by simp, .inl ⟨_, _, rfl, run_takeDeferred HH9.out, ?_⟩⟩
        have hZD : Z ≠ D := by omega
        have hzz : At (w9.putObj D (.deferred none)) Z (.cells (o.map u8v).toArray 36) := (World.putObj_heap_other hZD).trans HZ9.out
        refine ⟨_, uY rfl _ _ Z _ rfl (jQ hzz) Tryz.underlying36 rfl HS8.out, ?_⟩
        refine ⟨by rw [HOO.out], ?_⟩
        exact fr_below (HF9.out.below.trans (belowK_b (w := w0) (Nat.le_refl _) w9 D _ _ Y54 HH9.out rfl rfl))
     case stop =>
      rintro D c pre W hD _ ⟨⟨hx, -⟩, -⟩ hK
def FAt (g : Nat) (w : World) : Prop := w.rangeAt g 0 (yb.l.map js)
theorem FAt.keep {g : Nat} {w w' : World} (h : FAt g w) (hf : Fr [] w w') : FAt g w' := fun j v hv => ux hf Y85 (h j v hv)
theorem qfk (w : World) (hF : FAt 20 w) :
  Calls Tryz.prog 50 #[] w fun e w' => e = .returned (.pointer (some ⟨w.heap.size, 0, none⟩)) /\ w' = w.alloc (.cells (hC yb (.slice none 0 0) 0) 213) := by
 have HF := Hdq hF
 have HS8 := Hdq (show (Tryz.prog.info? 211).map (·.size) = some (yb.l.map js).length by rw [show (yb.l.map js).length = 8 from rfl]; kernel_rfl)
 clear hF
 go_enter Tryz.func50, Tryz.ntmps50
 go_wp2_with (refine jX (.global 20) rfl rfl 20 0 (yb.l.map js) rfl HF.out Tryz.underlying211 rfl HS8.out ?_)
 go_ret
 exact ⟨rfl, rfl⟩
theorem qds (w : World) (base : Nat) : yr base (w.alloc (.cells (hC yb (.slice none 0 0) 0) 213)) w.heap.size [] :=
 ⟨_, At.new rfl, qt.nil _ _ _⟩
def vA (ls : List (Value × List UInt8)) : List UInt8 := (ls.map (·.2)).flatten
theorem qbk (ls : List (Value × List UInt8)) (k : Nat) (x : Value × List UInt8) (h : ls[k]? = some x) : vA (ls.take (k + 1)) = vA (ls.take k) ++ x.2 := by
 unfold vA
 rw [List.take_add_one, h]
 simp
theorem qfL (ls : List (Value × List UInt8)) (k : Nat) : (vA (ls.take k)).length <= (vA ls).length := by
 have h : vA (ls.take k ++ ls.drop k) = vA (ls.take k) ++ vA (ls.drop k) := by
  unfold vA
  rw [List.map_append, List.flatten_append]
 rw [List.take_append_drop] at h
 have h2 := congrArg List.length h
 rw [List.length_append] at h2
 exact h2 ▸ Nat.le_add_right _ _
theorem qea (w0 : World) (v : Value) (ls : List (Value × List UInt8)) (hI : RdB (fun b => w0.heap.size <= b) w0 v ls) (hF : FAt 20 w0) (hK : KAt 21 w0) (hG : 21 < w0.heap.size) (hlen : (vA ls).length <= 100000000) :
  Calls Tryz.prog 12 #[v] w0 fun e w' => e = .returned (.agg ((qz (vA ls)).map u8v).toArray) /\ Fr [] w0 w' := by
 obtain ⟨va, vc, rfl, hv1, hv2⟩ := JR hI
 unfold maxLen at hv2
 obtain ⟨Z, hZ⟩ := exq (w0.heap.size)
 obtain ⟨n, hn⟩ := exq (ls.length)
 rw [hn] at hI hv1 ⊢
 have W1F : Fr [] w0 (w0.alloc (.cells xL 36)) := Fr.alloc _ _
 have HN := Hdq hn
 have HI1 := Hdq (show RdB (fun b => Z + 1 <= b) (w0.alloc (.cells xL 36)) (.slice va n vc) ls from by
  obtain ⟨⟨a, cap, h1, h2, h3, h4⟩, h5⟩ := hI
  exact ⟨⟨a, cap, h1, h2, h3, h4.mono W1F Y85 (fun b hb => .inl Y54)⟩, fun x hx => (h5 x hx).mono W1F Y85 (fun b hb => .inl Y54)⟩)
 have HF1 := Hdq (hF.keep W1F)
 have HK1 := Hdq (hK.keep W1F)
 have HR1 := Hdq (At.new hZ.symm : At (w0.alloc (.cells xL 36)) Z (.cells xL 36))
 have HFR1 := Hdq W1F
 have hs1 : (w0.alloc (.cells xL 36)).heap.size = Z + 1 := by simp [hZ]
 have HS1 := Hdq hs1
 have HZ := Hdq hZ
 have hGZ : 21 < Z := by omega
 clear hI hF hK W1F hn hs1 hG
 go_enter Tryz.func12, Tryz.ntmps12
 go_wp2_with (go_at_call 50; fail)
 clear hZ
 refine (qfk _ HF1.out).mono ?_
 rintro e w2 ⟨rfl, rfl⟩
 rw [HS1.out]
 obtain ⟨w2, hw2⟩ := exq ((w0.alloc (.cells xL 36)).alloc (.cells (hC yb (.slice none 0 0) 0) 213))
 have F2 : Fr [] (w0.alloc (.cells xL 36)) w2 := by rw [<- hw2]; exact Fr.alloc _ _
 have HH2 := Hdq (show yr (Z + 1) w2 (Z + 1) [] by
  have h := qds (w0.alloc (.cells xL 36)) (Z + 1)
  rw [HS1.out, hw2] at h
  exact h)
 have HI2 := Hdq (HI1.out.keep F2 Y85)
 have HK2 := Hdq (HK1.out.keep F2)
 have HR2 := Hdq (HR1.out.keep0 F2)
 have HFR2 := Hdq (HFR1.out.trans F2)
 have HS2 := Hdq (show Z + 1 < w2.heap.size by rw [<- hw2, World.size_alloc, HS1.out]; omega)
 rw [hw2]
 clear hw2 F2 HI1 HF1 HK1 HR1 HFR1
 go_wp2
 go_loopw [9] (fun i wr => ∃ k : Nat, k <= n /\ i = .int .i64 (k : Int) /\ Hid (yr (Z + 1) wr (Z + 1) (vA (ls.take k))) /\ Hid (RdB (fun b => Z + 1 <= b) wr (.slice va n vc) ls) /\ Hid (KAt 21 wr) /\ Hid (At wr Z (.cells xL 36)) /\ Hid (Fr [] w0 wr) /\ Hid (Z + 1 < wr.heap.size)) (fun i _ => n - (intOf i).toNat)
 case atStart => exact ⟨0, by omega, rfl, HH2, HI2, HK2, HR2, HFR2, HS2⟩
 case round =>
  clear HH2 HI2 HK2 HR2 HFR2 HS2
  obtain ⟨k, hk, rfl, HH, HI, HK, HR, HFR, HS⟩ := hrel
  by_cases hkn : k < n
  ·obtain ⟨x, hx⟩ : ∃ x, ls[k]? = some x := ⟨_, List.getElem?_eq_getElem (by rw [HN.out]; exact hkn)⟩
   obtain ⟨b, off, rfl, hc, hbx⟩ := W7 HI.out k x hx
   have HCP := Hdq (qbk ls k x hx)
   have HBX := Hdq hbx
   have hle := qfL ls (k + 1)
   rw [qbk ls k x hx, List.length_append] at hle
   have HLE := Hdq hle
   clear hx hbx hle
   go_wp2_with (go_at_call 51; fail)
   refine (qfP wr (Z + 1) (Z + 1) _ x.2 x.1 HH.out HBX.out HK.out Y54 (Nat.le_refl _) (by have := HS.out; omega) (by have := HLE.out; omega)).mono ?_
   rintro e w3 ⟨rfl, hh, S3, hf3, hs3⟩
   have HH3 := Hdq (show yr (Z + 1) w3 (Z + 1) (vA (ls.take (k + 1))) by rw [HCP.out]; exact hh)
   have HI3 := Hdq (HI.out.keep hf3 hs3)
   have HR3 := Hdq (HR.out.keep hf3 (fun hm => by have := hs3 _ hm; omega))
   have HK3 := Hdq (show KAt 21 w3 from fun i hi => ux hf3 (fun hm => by have := hs3 _ hm; omega) (HK.out i hi))
   have HFR3 := Hdq (HFR.out.then hf3 (fun z hz => .inr (by have := hs3 z hz; have := HZ.out; omega)))
   have HS3 := Hdq (show Z + 1 < w3.heap.size by have := hf3.size; have := HS.out; omega)
   clear hh hf3 hs3 HH HI HK HR HFR HS hc
   go_wp2
   go_roundw
   case rel => exact ⟨k + 1, by omega, by simp, HH3, HI3, HK3, HR3, HFR3, HS3⟩
   case measure => simp [intOf]; omega
  ·obtain rfl : k = n := by omega
   have HCE := Hdq (show vA (ls.take k) = vA ls by rw [<- HN.out, List.take_length])
   go_wp2_with (go_at_call 52; fail)
   refine (callsIn_wide.1 (qhB wr (Z + 1) (Z + 1) (vA ls) (by rw [<- HCE.out]; exact HH.out) HK.out (by have := HS.out; omega) Y54)).mono ?_
   rintro e w3 ⟨rfl, hf3⟩
   obtain ⟨o, ho⟩ := exq (qz (vA ls))
   rw [ho]
   have hol : o.length = 32 := by rw [<- ho, jv]
   have HS8 := Hdq (show (Tryz.prog.info? 36).map (·.size) = some (o.map u8v).length by rw [List.length_map, hol]; kernel_rfl)
   have HS9 := Hdq (show (Tryz.prog.info? 36).map (·.size) = some (o.map u8v).toArray.size by rw [List.size_toArray, List.length_map, hol]; kernel_rfl)
   have HOO := Hdq ho
   have HOL := Hdq hol
   have HR3 := Hdq (HR.out.keep0 hf3)
   have HFR3 := Hdq (HFR.out.trans hf3)
   clear ho hol hf3 HR HFR HH HI HK HS
   go_wp2_with (refine zM (.tmp 2) (.tmp 18) rfl rfl (o.map u8v).toArray rfl rfl HS9.out HR3.out (by rw [List.size_toArray, List.length_map, HOL.out]; rfl) (L1 _) ?_)
   intro w9 f9 a9 s9
   have HF9 := Hdq (HFR3.out.then f9 (fun z hz => .inr (by simp at hz; have := HZ.out; omega)))
   have HZ9 := Hdq a9
   clear f9 a9 s9
   go_wp2
   refine bodyPost_ret (uY rfl _ _ Z _ rfl (jQ HZ9.out) Tryz.underlying36 rfl HS8.out) rfl ?_
   exact ⟨by rw [HOO.out], HF9.out⟩
end Go.Proofs.YtdloaifdpajcjaaGreatDoor
