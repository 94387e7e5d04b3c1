import Derived.Stop.BytesEq
import Derived.Test.YtnafknkchbfpaaaGreatDoorID
import Derived.Test.YtnafknkchbfpaaaGreatDoorHU
import Derived.Test.YtnafknkchbfpaaaGreatDoorIC
set_option maxRecDepth 1000000
set_option maxHeartbeats 8000000
namespace Go.Proofs.YtnafknkchbfpaaaGreatDoor
open Go.RowKit Go.Bl
set_option linter.unusedVariables false
theorem ZG {P : Program} {w : World} {o : Oper} {ρ : Operand -> Value} {ty : TypeId} {d : TypeDesc} (x : Operand) (ho : o.op = .load ty x) (b off : Nat) (c : List Value) (hx : ρ x = .pointer (some ⟨b, off, none⟩)) (hc : w.rangeAt b off c) (hu : P.underlying ty = some d) (hd : d.isRow = true) (hi : (P.info? ty).map (·.size) = some c.length) : (execOp ρ o).run P w = .ok (.value (.agg c.toArray)) w := by
 exact Y92
theorem UA {P : Program} {w : World} {o : Oper} {ρ : Operand -> Value} {t e tt : TypeId} {n : Nat} (x y : Operand) (ho : o.op = .binOp .eql t x y tt)
  (ht : P.underlying t = some (.array n e)) (he : P.underlying e = some (.int .u8)) (hi : (P.info? e).map (·.size) = some 1) (hg : P.eqGuardType P.depth t = false) (xs ys : List UInt8) (hx : ρ x = .agg (xs.map u8v).toArray) (hy : ρ y = .agg (ys.map u8v).toArray) (hxl : xs.length = n) (hyl : ys.length = n) (r : Bool) (hr : (xs == ys) = r) :
  (execOp ρ o).run P w = .ok (.value (.bool r)) w := by
 subst hr
 obtain ⟨i, hi2⟩ : ∃ i, P.info? e = some i := by
  cases hq : P.info? e with
  | none => rw [hq] at hi; cases hi
  | some i => exact ⟨i, rfl⟩
 have hs1 : i.size = 1 := by rw [hi2] at hi; simpa using hi
 have hsz : ∀ w, (sizeOf e).run P w = .ok 1 w := fun w => by simp [sizeOf, run_typeInfo w hi2, hs1]
 have h2 := run_eql_bytes (P := P) w t e n ht he hsz xs ys hxl hyl
 have h3 : (eqGuard .eql t x y (.agg (xs.map u8v).toArray) (.agg (ys.map u8v).toArray)).run P w = .ok () w := run_eqGuard_agg w .eql t x y _ _ hg
 unfold execOp
 simp only [ho, hx, hy, Sem.run_bind, h3, Result.andThen_ok, Sem.run_pure]
 have h4 : (binOp .eql t (.agg (xs.map u8v).toArray) (.agg (ys.map u8v).toArray)).run P w = .ok (.bool (xs == ys)) w := h2
 simp only [h4, Result.andThen_ok]
theorem YU {P : Program} {w : World} {ops : Array Oper} {rest : List Oper} {o : Oper} {a : Go.Act} {Q : Exit -> Go.Act -> World -> Prop} {t e tt : TypeId} {n : Nat} (x y : Operand) (ho : o.op = .binOp .eql t x y tt) (hw : Region.wanted o (yielded ops a.tmps) = true)
  (ht : P.underlying t = some (.array n e)) (he : P.underlying e = some (.int .u8)) (hi : (P.info? e).map (·.size) = some 1) (hg : P.eqGuardType P.depth t = false) (xs ys : List UInt8) (hx : a.eval x = .agg (xs.map u8v).toArray) (hy : a.eval y = .agg (ys.map u8v).toArray) (hxl : xs.length = n) (hyl : ys.length = n) (r : Bool) (hr : (xs == ys) = r)
  (h : wpList P ops Q rest (a.put o.dst (.bool r)) w) : wpList P ops Q (o :: rest) a w := by
 exact U6 hw (.bool r) (UA x y ho ht he hi hg xs ys hx hy hxl hyl r hr) h
theorem uM {w : World} {b o k : Nat} {c : Array Value} {e : TypeId} {fz : Nat × Nat} {l : List Value} (h : At w b (.cells c e fz)) (hl : (c.toList.drop o).take k = l) : w.rangeAt b o l := fun j v hv => by
 rw [h.cell (o + j)]
 rw [<- hl, List.getElem?_take] at hv
 split at hv
 ·rw [List.getElem?_drop, Array.getElem?_toList] at hv
  exact hv
 ·cases hv
theorem qcF {base : Nat} {w : World} {u : Value} {xs : List UInt8} (h : Mk base w u xs) : ∃ a n c, u = .slice a n c := by
 obtain ⟨g, cap, cur, rfl, -⟩ := h
 exact ⟨_, _, _, rfl⟩
theorem Wb {A : Nat -> Prop} {w : World} : RdB A w (.slice none 0 0) [] := ⟨⟨none, 0, rfl, Nat.le_refl _, Nat.zero_le _, .inl rfl⟩, fun x hx => by simp at hx⟩
theorem K6 {a b : Nat} {s : Int} (h : vy a b s = false) : b <= 400 := by
 unfold vy at h
 simp at h
 omega
theorem Yu (E : Nat -> Addr) (B : Nat) (w0 : World) (mv fv : Value) (m f : List UInt8) (n : Int) (q : Par) (hE : za jB E B w0) (hS : SG w0) (hR : RG w0) (hM : Bs (fun _ => False) w0 mv m) (hF : Bs (fun _ => False) w0 fv f) (hl : vy m.length f.length q.size = true) :
  Calls Tryz.prog 5 #[Q9 mv n fv q] w0 fun e w' => e = .returned (.bool true) /\ Fr [] w0 w' := by
 obtain ⟨ma, mc, rfl, -, -, -⟩ := id hM
 obtain ⟨fa, fc, rfl, -, -, -⟩ := id hF
 obtain ⟨mn, hmn⟩ := exq (m.length)
 obtain ⟨fn, hfn⟩ := exq (f.length)
 have HFF := Hdq hF
 rw [hmn, hfn] at hl
 rw [hmn] at hM ⊢
 rw [hfn] at hF HFF ⊢
 unfold Q9
 obtain ⟨Z, hZ⟩ := exq (w0.heap.size)
 obtain ⟨w1, hw1⟩ := exq (w0.alloc (.cells #[.slice ma mn mc, .int .i64 n, .slice fa fn fc, .int .i64 q.size, .int .i64 q.sent, .int .i64 q.spots, .int .i64 q.per, .int .i64 q.pat, .int .i64 q.ret] 26))
 have F1 : Fr [] w0 w1 := by rw [<- hw1]; exact Fr.alloc _ _
 have HB := Hdq (show At w1 Z (.cells #[.slice ma mn mc, .int .i64 n, .slice fa fn fc, .int .i64 q.size, .int .i64 q.sent, .int .i64 q.spots, .int .i64 q.per, .int .i64 q.pat, .int .i64 q.ret] 26) by rw [<- hw1]; exact At.new hZ.symm)
 have HF := Hdq F1
 have HM := Hdq (fun wi (h : Fr [] w0 wi) => show Bs (fun b => wi.heap.size <= b) wi (.slice ma mn mc) m from jb (hM.keep h qg))
 have HFI := Hdq (fun wi (h : Fr [] w0 wi) => show Bs (fun _ => False) wi (.slice fa fn fc) f from hF.keep h qg)
 have HE := Hdq (fun wi (h : Fr [] w0 wi) => hE.keep0 h)
 have HS := Hdq (fun wi (h : Fr [] w0 wi) => hS.keep h)
 have HR := Hdq (fun wi (h : Fr [] w0 wi) => hR.keep h)
 have HMN := Hdq hmn
 have HFN := Hdq hfn
 have HL := Hdq hl
 clear hE hS hR hM hF F1 hmn hfn hl HFF
 go_enter Tryz.func5, Tryz.ntmps5
 go_wp2_with (go_at_call 9; fail)
 clear hw1
 refine (yT E B w1 (HE.out _ HF.out) (HS.out _ HF.out)).mono ?_
 rintro e w2 ⟨rfl, hf⟩
 replace HF := Hdq (HF.out.trans hf)
 replace HB := Hdq (HB.out.keep0 hf)
 clear hf hZ
 go_wp2_with (first | (refine qu (.tmp 1) rfl rfl Z 0 [.slice ma mn mc, .int .i64 n, .slice fa fn fc, .int .i64 q.size, .int .i64 q.sent, .int .i64 q.spots, .int .i64 q.per, .int .i64 q.pat, .int .i64 q.ret] rfl (qr HB.out) Tryz.underlying26 rfl qf ?_) | (go_at_call 10; fail))
 refine (yS w2 ma fa mn mc fn fc n q).mono ?_
 rintro e w3 ⟨rfl, hf⟩
 replace HF := Hdq (HF.out.trans hf)
 replace HB := Hdq (HB.out.keep0 hf)
 clear hf
 rw [HL.out]
 go_wp2
 exact Y82
theorem KH (E : Nat -> Addr) (B : Nat) (w0 : World) (mv fv : Value) (m f : List UInt8) (n : Int) (q : Par) (hE : za jB E B w0) (hS : SG w0) (hR : RG w0) (hM : Bs (fun _ => False) w0 mv m) (hF : Bs (fun _ => False) w0 fv f) (hl : vy m.length f.length q.size = false) (hk : zA q m n f ≠ 0) :
  Calls Tryz.prog 5 #[Q9 mv n fv q] w0 fun e w' => e = .returned (.bool true) /\ Fr [] w0 w' := by
 obtain ⟨ma, mc, rfl, -, -, -⟩ := id hM
 obtain ⟨fa, fc, rfl, -, -, -⟩ := id hF
 obtain ⟨mn, hmn⟩ := exq (m.length)
 obtain ⟨fn, hfn⟩ := exq (f.length)
 have HFF := Hdq hF
 rw [hmn, hfn] at hl
 rw [hmn] at hM ⊢
 rw [hfn] at hF HFF ⊢
 unfold Q9
 obtain ⟨Z, hZ⟩ := exq (w0.heap.size)
 obtain ⟨w1, hw1⟩ := exq (w0.alloc (.cells #[.slice ma mn mc, .int .i64 n, .slice fa fn fc, .int .i64 q.size, .int .i64 q.sent, .int .i64 q.spots, .int .i64 q.per, .int .i64 q.pat, .int .i64 q.ret] 26))
 have F1 : Fr [] w0 w1 := by rw [<- hw1]; exact Fr.alloc _ _
 have HB := Hdq (show At w1 Z (.cells #[.slice ma mn mc, .int .i64 n, .slice fa fn fc, .int .i64 q.size, .int .i64 q.sent, .int .i64 q.spots, .int .i64 q.per, .int .i64 q.pat, .int .i64 q.ret] 26) by rw [<- hw1]; exact At.new hZ.symm)
 have HF := Hdq F1
 have HM := Hdq (fun wi (h : Fr [] w0 wi) => show Bs (fun b => wi.heap.size <= b) wi (.slice ma mn mc) m from jb (hM.keep h qg))
 have HFI := Hdq (fun wi (h : Fr [] w0 wi) => show Bs (fun _ => False) wi (.slice fa fn fc) f from hF.keep h qg)
 have HE := Hdq (fun wi (h : Fr [] w0 wi) => hE.keep0 h)
 have HS := Hdq (fun wi (h : Fr [] w0 wi) => hS.keep h)
 have HR := Hdq (fun wi (h : Fr [] w0 wi) => hR.keep h)
 have HMN := Hdq hmn
 have HFN := Hdq hfn
 have HL := Hdq hl
 have HFL := Hdq (show f.length <= 400 from by rw [hfn]; exact K6 hl)
 obtain ⟨kq, hkq⟩ := exq (zA q m n f)
 have HKK := Hdq hk
 have HKL := Hdq (show kq <= 20 from by rw [<- hkq]; exact qaQ)
 have HKQ := Hdq hkq
 clear hk hkq
 clear hE hS hR hM hF F1 hmn hfn hl HFF
 go_enter Tryz.func5, Tryz.ntmps5
 go_wp2_with (go_at_call 9; fail)
 clear hw1
 refine (yT E B w1 (HE.out _ HF.out) (HS.out _ HF.out)).mono ?_
 rintro e w2 ⟨rfl, hf⟩
 replace HF := Hdq (HF.out.trans hf)
 replace HB := Hdq (HB.out.keep0 hf)
 clear hf hZ
 go_wp2_with (first | (refine qu (.tmp 1) rfl rfl Z 0 [.slice ma mn mc, .int .i64 n, .slice fa fn fc, .int .i64 q.size, .int .i64 q.sent, .int .i64 q.spots, .int .i64 q.per, .int .i64 q.pat, .int .i64 q.ret] rfl (qr HB.out) Tryz.underlying26 rfl qf ?_) | (go_at_call 10; fail))
 refine (yS w2 ma fa mn mc fn fc n q).mono ?_
 rintro e w3 ⟨rfl, hf⟩
 replace HF := Hdq (HF.out.trans hf)
 replace HB := Hdq (HB.out.keep0 hf)
 clear hf
 rw [HL.out]
 have c2 : w3.cell? ⟨Z, 2, none⟩ = some (.slice fa fn fc) := HB.out.cell 2
 go_wp2_with (go_at_call 25; fail)
 clear c2
 refine (ZT (fun _ => False) w3 (.slice fa fn fc) f (HFI.out _ HF.out) Ln).mono ?_
 rintro e w4 ⟨u, rfl, hm, hf⟩
 obtain ⟨ua, un, uc, rfl⟩ := qcF hm
 have HMK := Hdq hm
 have HIN := Hdq (hm.bs (A := fun _ => False) (fun _ h => h.elim))
 replace HF := Hdq (HF.out.trans hf)
 replace HB := Hdq (HB.out.keep0 hf)
 clear hm hf
 have c0 : w4.cell? ⟨Z, 0, none⟩ = some (.slice ma mn mc) := HB.out.cell 0
 have c1 : w4.cell? ⟨Z, 1, none⟩ = some (.int .i64 n) := HB.out.cell 1
 go_wp2_with (first | (refine qu (.tmp 21) rfl rfl Z 3 [.int .i64 q.size, .int .i64 q.sent, .int .i64 q.spots, .int .i64 q.per, .int .i64 q.pat, .int .i64 q.ret] rfl (yt HB.out rfl) Tryz.underlying24 rfl qf ?_) | (go_at_call 26; fail))
 clear c0 c1
 refine (Lt E B w4 (.slice ma mn mc) (.slice ua un uc) m f n q (HE.out _ HF.out) (HS.out _ HF.out) (HM.out _ HF.out) HIN.out HKK.out).mono ?_
 rintro e w5 ⟨ev, rfl, hv, hf⟩
 replace HF := Hdq (HF.out.trans hf)
 replace HB := Hdq (HB.out.keep0 hf)
 have HMK5 := Hdq (HMK.out.keep0 hf)
 rw [HKQ.out] at hv
 have hk9 : kq ≠ 0 := by rw [<- HKQ.out]; exact HKK.out
 obtain ⟨et, ea, rfl⟩ := hv.some_of hk9
 have HV5 := Hdq hv
 have hk0 : ¬ (kq : Int) = 0 := by omega
 clear hv hk9
 obtain ⟨sb, hsb⟩ := exq (w5.heap.size)
 obtain ⟨w6, hw6⟩ := exq (w5.alloc (.cells Tryz.zeroCells60 60))
 have F6 : Fr [] w5 w6 := by rw [<- hw6]; exact Fr.alloc _ _
 have HK6 := Hdq (show At w6 sb (.cells Tryz.zeroCells60 60) by rw [<- hw6]; exact At.new hsb.symm)
 have HSB := Hdq hsb
 have HF56 := Hdq F6
 clear F6 hf HMK
 go_wp2_with (refine ql (.tmp 4) (.tmp 24) rfl rfl (Tryz.zeroCells60) rfl rfl qf HK6.out (rfl) qf ?_)
 clear hw6 hsb
 intro w7 f9 a9 s9
 have F57 := Hdq (HF56.out.then f9 (fun z hz => .inr (by have := HSB.out; simp at hz; subst hz; omega)))
 have HSL := Hdq a9
 replace HF := Hdq (HF.out.trans F57.out)
 replace HB := Hdq (HB.out.keep0 F57.out)
 have HMK7 := Hdq (HMK5.out.keep0 F57.out)
 have HV7 := Hdq (HV5.out.keep0 F57.out)
 clear f9 a9 s9 HMK5 HV5 HF56 HK6
 have c0 : w7.cell? ⟨Z, 0, none⟩ = some (.slice ma mn mc) := HB.out.cell 0
 have c1 : w7.cell? ⟨Z, 1, none⟩ = some (.int .i64 n) := HB.out.cell 1
 have c2 : w7.cell? ⟨Z, 2, none⟩ = some (.slice fa fn fc) := HB.out.cell 2
 go_wp2_with (first | (refine qu (.tmp 33) rfl rfl Z 3 [.int .i64 q.size, .int .i64 q.sent, .int .i64 q.spots, .int .i64 q.per, .int .i64 q.pat, .int .i64 q.ret] rfl (yt HB.out rfl) Tryz.underlying24 rfl qf ?_) | (go_at_call 27; fail))
 clear c0 c1 c2
 refine (WN w7 (.slice ma mn mc) (.slice fa fn fc) m f n q (HM.out _ HF.out) (HFI.out _ HF.out) (HR.out _ HF.out) HKK.out).mono ?_
 rintro e w8 ⟨rfl, hf⟩
 replace HF := Hdq (HF.out.trans hf)
 replace HB := Hdq (HB.out.keep0 hf)
 have HSL8 := Hdq (HSL.out.keep0 hf)
 have HMK8 := Hdq (HMK7.out.keep0 hf)
 have HV8 := Hdq (HV7.out.keep0 hf)
 rw [HKQ.out]
 clear hf HV7 HMK7 HSL
 go_wp2_with (go_at_call 15; fail)
 refine (YG E B kq _ w8 (HE.out _ HF.out) HKL.out HV8.out).mono ?_
 rintro e w9 ⟨rfl, hf⟩
 have HF9 := Hdq (HF.out.trans hf)
 have HSL9 := Hdq (HSL8.out.keep0 hf)
 have HB9 := Hdq (HB.out.keep0 hf)
 have HMK9 := Hdq (HMK8.out.keep0 hf)
 have s0 : w9.cell? ⟨sb, 0, none⟩ = some (.slice none 0 0) := (HSL9.out.cell 0).trans qf
 clear hf HF HB HSL8 HMK8 HV8
 go_wp2_with (go_at_call 28; fail)
 clear s0
 refine (JN w9 (.slice none 0 0) (.slice none 0 0) [] [] Wb Wb rfl qe).mono ?_
 rintro e w10 ⟨rfl, hf⟩
 have HF10 := Hdq (HF9.out.trans hf)
 have c2 : w10.cell? ⟨Z, 2, none⟩ = some (.slice fa fn fc) := (HB9.out.keep0 hf).cell 2
 have HSL10 := Hdq (HSL9.out.keep0 hf)
 have HMK10 := Hdq (HMK9.out.keep0 hf)
 clear hf
 go_wp2_with (go_at_call 29; fail)
 clear c2
 refine (UY (fun _ => False) w3.heap.size w10 (.slice ua un uc) (.slice fa fn fc) f HMK10.out (HFI.out _ HF10.out) Ln).mono ?_
 rintro e w11 ⟨rfl, hf⟩
 have HF11 := Hdq (HF10.out.trans hf)
 have HSL11 := Hdq (HSL10.out.keep0 hf)
 clear hf HSL10 HMK10
 go_wp2_with (first | (refine Q1 (.tmp 58) rfl rfl sb 1 ((List.replicate 32 (0 : UInt8)).map u8v) rfl (uM (k := 32) HSL11.out qf) Tryz.underlying58 rfl qf ?_) | (refine YU (.tmp 59) (.tmp 60) rfl rfl Tryz.underlying58 Tryz.underlying5 qf qf (List.replicate 32 0) (List.replicate 32 0) rfl qw rfl rfl true qe ?_) | (refine Q1 (.tmp 63) rfl rfl sb 33 ((List.replicate 32 (0 : UInt8)).map u8v) rfl (uM (k := 32) HSL11.out qf) Tryz.underlying58 rfl qf ?_) | (refine YU (.tmp 64) (.tmp 65) rfl rfl Tryz.underlying58 Tryz.underlying5 qf qf (List.replicate 32 0) (List.replicate 32 0) rfl qw rfl rfl true qe ?_))
 go_ret
 exact ⟨rfl, HF11.out⟩
end Go.Proofs.YtnafknkchbfpaaaGreatDoor
