import Derived.Test.YtnafknkchbfpaaaGreatDoorHP
import Derived.Test.YtnafknkchbfpaaaGreatDoorHK
import Derived.Test.YtnafknkchbfpaaaGreatDoorHL
import Derived.Test.YtnafknkchbfpaaaGreatDoorHN
import Derived.Test.YtnafknkchbfpaaaGreatDoorHM
import Derived.Outline
import Derived.Maps.RangeWalk
set_option maxRecDepth 1000000
set_option maxHeartbeats 8000000
namespace Go.Proofs.YtnafknkchbfpaaaGreatDoor
open Go.RowKit Go.Bl
set_option linter.unusedVariables false
theorem stags_long (E : Nat -> Addr) (B : Nat) (w0 : World) (mv fv v2 : Value) (m f xs : List UInt8) (n x : Int) (q : Par) (hE : Errs all20 E B w0) (hS : SG w0) (hR : RG w0) (hM : Bs (fun _ => False) w0 mv m) (hF : Bs (fun _ => False) w0 fv f) (hV : Bs (fun _ => False) w0 v2 xs) (hl : longB m.length f.length q.size = true ∨ 60 < xs.length) :
  Calls Tryz.prog 3 #[madeV mv n fv q, .int .i64 x, v2] w0 fun e w' => e = .returned (.bool true) /\ Fr [] w0 w' := by
 obtain ⟨ma, mc, rfl, -, -, -⟩ := id hM
 obtain ⟨fa, fc, rfl, -, -, -⟩ := id hF
 obtain ⟨va, vc, rfl, hvc, -, hrow⟩ := id hV
 obtain ⟨mn, hmn⟩ : ∃ z, m.length = z := ⟨_, rfl⟩
 obtain ⟨fn, hfn⟩ : ∃ z, f.length = z := ⟨_, rfl⟩
 obtain ⟨vn, hvn⟩ : ∃ z, xs.length = z := ⟨_, rfl⟩
 rw [hmn, hfn] at hl
 rw [hvn] at hl hvc hV ⊢
 rw [hmn] at hM ⊢
 rw [hfn]
 unfold madeV
 obtain ⟨Z, hZ⟩ : ∃ Z, w0.heap.size = Z := ⟨_, rfl⟩
 obtain ⟨w1, hw1⟩ : ∃ w1, w0.alloc (.cells #[.slice ma mn mc, .int .i64 n, .slice fa fn fc, .int .i64 q.size, .int .i64 q.sent, .int .i64 q.spots, .int .i64 q.per, .int .i64 q.pat, .int .i64 q.ret] 26) = w1 := ⟨_, rfl⟩
 have F1 : Fr [] w0 w1 := by rw [<- hw1]; exact Fr.alloc _ _
 have HB := Lib.hid (show At w1 Z (.cells #[.slice ma mn mc, .int .i64 n, .slice fa fn fc, .int .i64 q.size, .int .i64 q.sent, .int .i64 q.spots, .int .i64 q.per, .int .i64 q.pat, .int .i64 q.ret] 26) by rw [<- hw1]; exact At.new hZ.symm)
 have HF := Lib.hid F1
 have HM := Lib.hid (fun wi (h : Fr [] w0 wi) => show Bs (fun b => wi.heap.size <= b) wi (.slice ma mn mc) m from bs_low (hM.keep h (by simp)))
 have HV := Lib.hid (fun wi (h : Fr [] w0 wi) => hV.keep h (by simp))
 have HE := Lib.hid (fun wi (h : Fr [] w0 wi) => hE.keep0 h)
 have HS := Lib.hid (fun wi (h : Fr [] w0 wi) => hS.keep h)
 have HR := Lib.hid (fun wi (h : Fr [] w0 wi) => hR.keep h)
 have HMN := Lib.hid hmn
 have HVN := Lib.hid hvn
 have HVC := Lib.hid hvc
 have HROW := Lib.hid hrow
 have HL := Lib.hid hl
 clear hE hS hR hM hF hV F1 hmn hfn hvn hl hrow
 go_enter Tryz.func3, Tryz.ntmps3
 go_wp2_with (go_at_call 9; fail)
 clear hw1
 refine (alive16_ok E B w1 (HE.out _ HF.out) (HS.out _ HF.out)).mono ?_
 rintro e w2 ⟨rfl, hf⟩
 replace HF := Lib.hid (HF.out.trans hf)
 replace HB := Lib.hid (HB.out.keep0 hf)
 clear hf hZ
 go_wp2_with (first | (refine wpl_load_k (.tmp 3) rfl rfl Z 0 [.slice ma mn mc, .int .i64 n, .slice fa fn fc, .int .i64 q.size, .int .i64 q.sent, .int .i64 q.spots, .int .i64 q.per, .int .i64 q.pat, .int .i64 q.ret] rfl (range_of HB.out) Tryz.underlying26 rfl (by kernel_rfl) ?_) | (go_at_call 10; fail))
 refine (long16_any w2 ma fa mn mc fn fc n q).mono ?_
 rintro e w3 ⟨rfl, hf⟩
 replace HF := Lib.hid (HF.out.trans hf)
 replace HB := Lib.hid (HB.out.keep0 hf)
 clear hf
 obtain ⟨r, hr⟩ : ∃ r, longB mn fn q.size = r := ⟨_, rfl⟩
 rw [hr] at HL ⊢
 cases r with
 | true =>
  clear hr
  go_wp2
  go_ret
  exact ⟨rfl, HF.out⟩
 | false =>
  have h6 : (60 : Int) < (vn : Int) := by have := HL.out; simp at this; omega
  clear hr
  go_wp2
  go_ret
  exact ⟨rfl, HF.out⟩
theorem stags_16 (E : Nat -> Addr) (B : Nat) (w0 : World) (mv fv v2 : Value) (m f xs : List UInt8) (n x : Int) (q : Par) (hE : Errs all20 E B w0) (hS : SG w0) (hR : RG w0) (hM : Bs (fun _ => False) w0 mv m) (hF : Bs (fun _ => False) w0 fv f) (hV : Bs (fun _ => False) w0 v2 xs) (hl : longB m.length f.length q.size = false /\ xs.length <= 60 /\ xs.length = 16) :
  Calls Tryz.prog 3 #[madeV mv n fv q, .int .i64 x, v2] w0 fun e w' => e = .returned (.bool true) /\ Fr [] w0 w' := by
 obtain ⟨ma, mc, rfl, -, -, -⟩ := id hM
 obtain ⟨fa, fc, rfl, -, -, -⟩ := id hF
 obtain ⟨va, vc, rfl, hvc, -, hrow⟩ := id hV
 obtain ⟨mn, hmn⟩ : ∃ z, m.length = z := ⟨_, rfl⟩
 obtain ⟨fn, hfn⟩ : ∃ z, f.length = z := ⟨_, rfl⟩
 obtain ⟨vn, hvn⟩ : ∃ z, xs.length = z := ⟨_, rfl⟩
 rw [hmn, hfn] at hl
 rw [hvn] at hl hvc hV ⊢
 rw [hmn] at hM ⊢
 rw [hfn]
 unfold madeV
 obtain ⟨q9, o9, rfl, -, -⟩ := hrow.some_of (by rw [List.length_map]; omega)
 obtain rfl : vn = 16 := hl.2.2
 have HVD := Lib.hid (fun wi (h : Fr [] w0 wi) => (show Bs (fun _ => False) wi (.slice (some ⟨q9, o9 + 8, none⟩) 8 (vc - 8)) (xs.drop 8) from by have h9 := (hV.keep (w' := wi) h (by simp)).cut 8 (by decide); rw [if_neg (by omega)] at h9; exact h9))
 obtain ⟨Z, hZ⟩ : ∃ Z, w0.heap.size = Z := ⟨_, rfl⟩
 obtain ⟨w1, hw1⟩ : ∃ w1, w0.alloc (.cells #[.slice ma mn mc, .int .i64 n, .slice fa fn fc, .int .i64 q.size, .int .i64 q.sent, .int .i64 q.spots, .int .i64 q.per, .int .i64 q.pat, .int .i64 q.ret] 26) = w1 := ⟨_, rfl⟩
 have F1 : Fr [] w0 w1 := by rw [<- hw1]; exact Fr.alloc _ _
 have HB := Lib.hid (show At w1 Z (.cells #[.slice ma mn mc, .int .i64 n, .slice fa fn fc, .int .i64 q.size, .int .i64 q.sent, .int .i64 q.spots, .int .i64 q.per, .int .i64 q.pat, .int .i64 q.ret] 26) by rw [<- hw1]; exact At.new hZ.symm)
 have HF := Lib.hid F1
 have HM := Lib.hid (fun wi (h : Fr [] w0 wi) => show Bs (fun b => wi.heap.size <= b) wi (.slice ma mn mc) m from bs_low (hM.keep h (by simp)))
 have HV := Lib.hid (fun wi (h : Fr [] w0 wi) => hV.keep h (by simp))
 have HE := Lib.hid (fun wi (h : Fr [] w0 wi) => hE.keep0 h)
 have HS := Lib.hid (fun wi (h : Fr [] w0 wi) => hS.keep h)
 have HR := Lib.hid (fun wi (h : Fr [] w0 wi) => hR.keep h)
 have HMN := Lib.hid hmn
 have HVN := Lib.hid hvn
 have HVC := Lib.hid hvc
 have HROW := Lib.hid hrow
 have HL16 := Lib.hid (show xs.length = 16 by omega)
 have HL := Lib.hid hl
 clear hE hS hR hM hF hV F1 hmn hfn hvn hl hrow
 go_enter Tryz.func3, Tryz.ntmps3
 go_wp2_with (go_at_call 9; fail)
 clear hw1
 refine (alive16_ok E B w1 (HE.out _ HF.out) (HS.out _ HF.out)).mono ?_
 rintro e w2 ⟨rfl, hf⟩
 replace HF := Lib.hid (HF.out.trans hf)
 replace HB := Lib.hid (HB.out.keep0 hf)
 clear hf hZ
 go_wp2_with (first | (refine wpl_load_k (.tmp 3) rfl rfl Z 0 [.slice ma mn mc, .int .i64 n, .slice fa fn fc, .int .i64 q.size, .int .i64 q.sent, .int .i64 q.spots, .int .i64 q.per, .int .i64 q.pat, .int .i64 q.ret] rfl (range_of HB.out) Tryz.underlying26 rfl (by kernel_rfl) ?_) | (go_at_call 10; fail))
 refine (long16_any w2 ma fa mn mc fn fc n q).mono ?_
 rintro e w3 ⟨rfl, hf⟩
 replace HF := Lib.hid (HF.out.trans hf)
 replace HB := Lib.hid (HB.out.keep0 hf)
 clear hf
 rw [HL.out.1]
 have h6 : ¬ (60 : Int) < (16) := by decide
 have c0 : w3.cell? ⟨Z, 0, none⟩ = some (.slice ma mn mc) := HB.out.cell 0
 have c1 : w3.cell? ⟨Z, 1, none⟩ = some (.int .i64 n) := HB.out.cell 1
 go_wp2_with (go_at_call 11; fail)
 clear c0 c1
 by_cases hk : keyBad m n = 0
 ·refine (rall_ok w3 (.slice ma mn mc) m n (HM.out _ HF.out) (HR.out _ HF.out) hk).mono ?_
  rintro e w4 ⟨u0, u1, u2, u3, u4, rfl, ⟨g0, g1, g2, g3, g4⟩, hf⟩
  replace HF := Lib.hid (HF.out.trans hf)
  replace HB := Lib.hid (HB.out.keep0 hf)
  obtain ⟨x0, n0, y0, rfl⟩ := ownB_ps g0
  obtain ⟨x1, n1, y1, rfl⟩ := ownB_ps g1
  obtain ⟨x2, n2, y2, rfl⟩ := ownB_ps g2
  obtain ⟨x3, n3, y3, rfl⟩ := ownB_ps g3
  obtain ⟨x4, n4, y4, rfl⟩ := ownB_ps g4
  have HKK := Lib.hid hk
  clear hf hk
  obtain ⟨w5, hw5⟩ : ∃ w5, w4.alloc (.cells #[.slice x0 n0 y0, .slice x1 n1 y1, .slice x2 n2 y2, .slice x3 n3 y3, .slice x4 n4 y4] 29) = w5 := ⟨_, rfl⟩
  obtain ⟨kb, hkb⟩ : ∃ kb, w4.heap.size = kb := ⟨_, rfl⟩
  have F5 : Fr [] w4 w5 := by rw [<- hw5]; exact Fr.alloc _ _
  have HK := Lib.hid (show At w5 kb (.cells #[.slice x0 n0 y0, .slice x1 n1 y1, .slice x2 n2 y2, .slice x3 n3 y3, .slice x4 n4 y4] 29) by rw [<- hw5]; exact At.new hkb.symm)
  have HKZ := Lib.hid (show Z < kb /\ w0.heap.size <= kb from ⟨by rw [<- hkb]; exact lt_of_heap HB.out, by rw [<- hkb]; exact HF.out.size⟩)
  replace HF := Lib.hid (HF.out.trans F5)
  replace HB := Lib.hid (HB.out.keep0 F5)
  have HU3 := Lib.hid ((g3.bs (A := fun _ => False) (fun _ h => h.elim)).keep F5 (by simp))
  have c0 : w5.cell? ⟨Z, 0, none⟩ = some (.slice ma mn mc) := HB.out.cell 0
  have c1 : w5.cell? ⟨Z, 1, none⟩ = some (.int .i64 n) := HB.out.cell 1
  clear F5 g0 g1 g2 g3 g4
  go_wp2_with (first | (refine wpl_store_new (.tmp 7) (.tmp 31) rfl rfl #[.slice x0 n0 y0, .slice x1 n1 y1, .slice x2 n2 y2, .slice x3 n3 y3, .slice x4 n4 y4] rfl rfl (by kernel_rfl) rfl (by kernel_rfl) ?_) | (go_at_call 12; fail))
  clear hw5 c0 c1
  refine (sdTag_any E B w5 (.slice ma mn mc) (.slice (some ⟨q9, o9, none⟩) 16 vc) m xs n x (HE.out _ HF.out) (HS.out _ HF.out) (HM.out _ HF.out) (HV.out _ HF.out)).mono ?_
  rintro e w6 ⟨t, rfl, t1, t2, hf⟩
  have HT1 := Lib.hid t1
  have HT2 := Lib.hid t2
  replace HF := Lib.hid (HF.out.trans hf)
  replace HB := Lib.hid (HB.out.keep0 hf)
  replace HK := Lib.hid (HK.out.keep0 hf)
  replace HU3 := Lib.hid (HU3.out.keep hf (by simp))
  obtain ⟨T1, hT1⟩ : ∃ k, tagE m n x xs = k := ⟨_, rfl⟩
  rw [hT1] at HT1 HT2 ⊢
  have HTE := Lib.hid hT1
  clear t1 t2 hf hT1
  by_cases hp : 0 <= x /\ x < 512
  ·have hl8 : xs.length ≠ 8 := by have := HL16.out; omega
   have hte : T1 = 8 := by rw [<- HTE.out]; unfold tagE; rw [if_neg (by rw [HKK.out]; decide), if_neg (by simpa using hp), if_pos hl8]
   obtain rfl := HT2.out (by rw [hte]; decide)
   subst hte
   have HN := Lib.hid (fun p (h : Fr [] w0 p) => num_any E B 8 p (HE.out _ h) (by decide))
   obtain ⟨e1, he1⟩ : ∃ v, errv E 8 = v := ⟨_, rfl⟩
   rw [he1] at HN ⊢
   clear he1
   have c0 : w6.cell? ⟨Z, 0, none⟩ = some (.slice ma mn mc) := HB.out.cell 0
   have c1 : w6.cell? ⟨Z, 1, none⟩ = some (.int .i64 n) := HB.out.cell 1
   go_wp2_with (go_at_call 13; fail)
   clear c0 c1
   refine (sdTagged_any E B w6 (.slice ma mn mc) (.slice (some ⟨q9, o9, none⟩) 16 vc) m xs n x (HE.out _ HF.out) (HS.out _ HF.out) (HM.out _ HF.out) (HV.out _ HF.out)).mono ?_
   rintro e w7 ⟨rfl, hf⟩
   replace HF := Lib.hid (HF.out.trans hf)
   replace HB := Lib.hid (HB.out.keep0 hf)
   replace HK := Lib.hid (HK.out.keep0 hf)
   replace HU3 := Lib.hid (HU3.out.keep hf (by simp))
   clear hf
   rw [HKK.out, errv_zero]
   have HTB := Lib.hid (show tgB2 (subL m nTag n) x xs = tagdB m n x xs from by unfold tgB2 tagdB; refine decide_eq_decide.2 ⟨fun h => ⟨HKK.out, h⟩, fun h => h.2⟩)
   obtain ⟨rb, hrb⟩ : ∃ r, tagdB m n x xs = r := ⟨_, rfl⟩
   rw [hrb] at HTB ⊢
   clear hrb
   go_wp2_with (go_at_call 14; fail)
   refine (parts_any E B w7 (.slice (some ⟨q9, o9, none⟩) 16 vc) xs (HE.out _ HF.out) (HV.out _ HF.out)).mono ?_
   rintro e w8 ⟨p1, p2, rfl, p3, p4, hf⟩
   replace HF := Lib.hid (HF.out.trans hf)
   replace HB := Lib.hid (HB.out.keep0 hf)
   replace HK := Lib.hid (HK.out.keep0 hf)
   replace HU3 := Lib.hid (HU3.out.keep hf (by simp))
   obtain ⟨o1, o2⟩ := p3 HL16.out
   obtain ⟨pa1, pn1, pc1, rfl⟩ := ownB_ps o1
   obtain ⟨pa2, pn2, pc2, rfl⟩ := ownB_ps o2
   rw [show partE xs = 0 from if_pos HL16.out, errv_zero]
   have HP1 := Lib.hid (o1.bs (A := fun _ => False) (fun _ h => h.elim))
   have HP2 := Lib.hid (o2.bs (A := fun _ => False) (fun _ h => h.elim))
   clear p3 p4 hf o1 o2
   obtain ⟨S1, hS1⟩ : ∃ S, (⟨(xs.take 8).toArray⟩ : ByteArray) = S := ⟨_, rfl⟩
   obtain ⟨S2, hS2⟩ : ∃ S, (⟨(xs.drop 8).toArray⟩ : ByteArray) = S := ⟨_, rfl⟩
   have HQ := Lib.hid (And.intro hS1 hS2)
   clear hS1 hS2
   go_wp2
   refine tg12 _ _ rfl pa1 pa2 pn1 pc1 pn2 pc2 q9 o9 vc xs S1 S2 HQ.out.1 HQ.out.2 HP1.out HP2.out ((HV.out _ HF.out).take 8 (by decide)) (HVD.out _ HF.out) (by have := HVC.out; omega) HVC.out (by have := HVC.out; omega) (by have := HVC.out; omega) (by have := HVC.out; omega) rfl rfl rfl rfl _ ?_
   intro b p hd hs ho r92 hf
   rw [frame163 b hs hd, r92]
   replace HF := Lib.hid (HF.out.trans hf)
   replace HB := Lib.hid (HB.out.keep0 hf)
   replace HK := Lib.hid (HK.out.keep0 hf)
   replace HU3 := Lib.hid (HU3.out.keep hf (by simp))
   clear hf hd hs
   rw [show slot b 1 = .int .i64 x from ho 1 (by decide), show slot b 2 = .slice (some ⟨q9, o9, none⟩) 16 vc from ho 2 (by decide), show slot b 3 = .pointer (some ⟨Z, 0, none⟩) from ho 3 (by decide), show slot b 7 = .pointer (some ⟨kb, 0, none⟩) from ho 7 (by decide), show slot b 8 = .int .i64 0 from ho 8 (by decide), show slot b 9 = .slice none 0 0 from ho 9 (by decide), show slot b 10 = e1 from ho 10 (by decide), show slot b 11 = .bool rb from ho 11 (by decide), show slot b 12 = .nilIface from ho 12 (by decide)]
   clear ho
   obtain ⟨wz, hwz⟩ : ∃ wz, p = wz := ⟨_, rfl⟩
   rw [hwz] at HF HB HK HU3 ⊢
   clear hwz
   have c3 : wz.cell? ⟨kb, 3, none⟩ = some (.slice x3 n3 y3) := HK.out.cell 3
   go_wp2_with (go_at_call 16; fail)
   refine (rtagged_any wz (.slice x3 n3 y3) (.slice (some ⟨q9, o9, none⟩) 16 vc) (subL m nTag n) xs x (bs_low HU3.out) (HV.out _ HF.out) (by rw [subL_len]; decide) (HR.out _ HF.out)).mono ?_
   rintro e wy ⟨rfl, hf⟩
   rw [HTB.out]
   replace HF := Lib.hid (HF.out.trans hf)
   replace HK := Lib.hid (HK.out.keep0 hf)
   replace HU3 := Lib.hid (HU3.out.keep hf (by simp))
   clear hf c3
   have hx0 : ¬ x < 0 := by omega
   have hx1 : ¬ 511 < x := by omega
   clear hp hl8
   go_wp2_with (go_at_call 15; fail)
   refine (HN.out wy HF.out).mono ?_
   rintro e wx ⟨rfl, hf⟩
   replace HF := Lib.hid (HF.out.trans hf)
   clear hf
   go_wp2
   go_ret
   exact ⟨rfl, HF.out⟩
  ·have hte : T1 = 1 := by rw [<- HTE.out]; unfold tagE; rw [if_neg (by rw [HKK.out]; decide), if_pos (by simpa using hp)]
   obtain rfl := HT2.out (by rw [hte]; decide)
   subst hte
   have HN := Lib.hid (fun p (h : Fr [] w0 p) => num_any E B 1 p (HE.out _ h) (by decide))
   obtain ⟨e1, he1⟩ : ∃ v, errv E 1 = v := ⟨_, rfl⟩
   rw [he1] at HN ⊢
   clear he1
   have c0 : w6.cell? ⟨Z, 0, none⟩ = some (.slice ma mn mc) := HB.out.cell 0
   have c1 : w6.cell? ⟨Z, 1, none⟩ = some (.int .i64 n) := HB.out.cell 1
   go_wp2_with (go_at_call 13; fail)
   clear c0 c1
   refine (sdTagged_any E B w6 (.slice ma mn mc) (.slice (some ⟨q9, o9, none⟩) 16 vc) m xs n x (HE.out _ HF.out) (HS.out _ HF.out) (HM.out _ HF.out) (HV.out _ HF.out)).mono ?_
   rintro e w7 ⟨rfl, hf⟩
   replace HF := Lib.hid (HF.out.trans hf)
   replace HB := Lib.hid (HB.out.keep0 hf)
   replace HK := Lib.hid (HK.out.keep0 hf)
   replace HU3 := Lib.hid (HU3.out.keep hf (by simp))
   clear hf
   rw [HKK.out, errv_zero]
   have HTB := Lib.hid (show tgB2 (subL m nTag n) x xs = tagdB m n x xs from by unfold tgB2 tagdB; refine decide_eq_decide.2 ⟨fun h => ⟨HKK.out, h⟩, fun h => h.2⟩)
   obtain ⟨rb, hrb⟩ : ∃ r, tagdB m n x xs = r := ⟨_, rfl⟩
   rw [hrb] at HTB ⊢
   clear hrb
   go_wp2_with (go_at_call 14; fail)
   refine (parts_any E B w7 (.slice (some ⟨q9, o9, none⟩) 16 vc) xs (HE.out _ HF.out) (HV.out _ HF.out)).mono ?_
   rintro e w8 ⟨p1, p2, rfl, p3, p4, hf⟩
   replace HF := Lib.hid (HF.out.trans hf)
   replace HB := Lib.hid (HB.out.keep0 hf)
   replace HK := Lib.hid (HK.out.keep0 hf)
   replace HU3 := Lib.hid (HU3.out.keep hf (by simp))
   obtain ⟨o1, o2⟩ := p3 HL16.out
   obtain ⟨pa1, pn1, pc1, rfl⟩ := ownB_ps o1
   obtain ⟨pa2, pn2, pc2, rfl⟩ := ownB_ps o2
   rw [show partE xs = 0 from if_pos HL16.out, errv_zero]
   have HP1 := Lib.hid (o1.bs (A := fun _ => False) (fun _ h => h.elim))
   have HP2 := Lib.hid (o2.bs (A := fun _ => False) (fun _ h => h.elim))
   clear p3 p4 hf o1 o2
   obtain ⟨S1, hS1⟩ : ∃ S, (⟨(xs.take 8).toArray⟩ : ByteArray) = S := ⟨_, rfl⟩
   obtain ⟨S2, hS2⟩ : ∃ S, (⟨(xs.drop 8).toArray⟩ : ByteArray) = S := ⟨_, rfl⟩
   have HQ := Lib.hid (And.intro hS1 hS2)
   clear hS1 hS2
   go_wp2
   refine tg12 _ _ rfl pa1 pa2 pn1 pc1 pn2 pc2 q9 o9 vc xs S1 S2 HQ.out.1 HQ.out.2 HP1.out HP2.out ((HV.out _ HF.out).take 8 (by decide)) (HVD.out _ HF.out) (by have := HVC.out; omega) HVC.out (by have := HVC.out; omega) (by have := HVC.out; omega) (by have := HVC.out; omega) rfl rfl rfl rfl _ ?_
   intro b p hd hs ho r92 hf
   rw [frame163 b hs hd, r92]
   replace HF := Lib.hid (HF.out.trans hf)
   replace HB := Lib.hid (HB.out.keep0 hf)
   replace HK := Lib.hid (HK.out.keep0 hf)
   replace HU3 := Lib.hid (HU3.out.keep hf (by simp))
   clear hf hd hs
   rw [show slot b 1 = .int .i64 x from ho 1 (by decide), show slot b 2 = .slice (some ⟨q9, o9, none⟩) 16 vc from ho 2 (by decide), show slot b 3 = .pointer (some ⟨Z, 0, none⟩) from ho 3 (by decide), show slot b 7 = .pointer (some ⟨kb, 0, none⟩) from ho 7 (by decide), show slot b 8 = .int .i64 0 from ho 8 (by decide), show slot b 9 = .slice none 0 0 from ho 9 (by decide), show slot b 10 = e1 from ho 10 (by decide), show slot b 11 = .bool rb from ho 11 (by decide), show slot b 12 = .nilIface from ho 12 (by decide)]
   clear ho
   obtain ⟨wz, hwz⟩ : ∃ wz, p = wz := ⟨_, rfl⟩
   rw [hwz] at HF HB HK HU3 ⊢
   clear hwz
   have c3 : wz.cell? ⟨kb, 3, none⟩ = some (.slice x3 n3 y3) := HK.out.cell 3
   go_wp2_with (go_at_call 16; fail)
   refine (rtagged_any wz (.slice x3 n3 y3) (.slice (some ⟨q9, o9, none⟩) 16 vc) (subL m nTag n) xs x (bs_low HU3.out) (HV.out _ HF.out) (by rw [subL_len]; decide) (HR.out _ HF.out)).mono ?_
   rintro e wy ⟨rfl, hf⟩
   rw [HTB.out]
   replace HF := Lib.hid (HF.out.trans hf)
   replace HK := Lib.hid (HK.out.keep0 hf)
   replace HU3 := Lib.hid (HU3.out.keep hf (by simp))
   clear hf c3
   by_cases hx0 : x < 0
   ·clear hp
    go_wp2_with (go_at_call 15; fail)
    refine (HN.out wy HF.out).mono ?_
    rintro e wx ⟨rfl, hf⟩
    replace HF := Lib.hid (HF.out.trans hf)
    clear hf
    go_wp2
    go_ret
    exact ⟨rfl, HF.out⟩
   ·have hx1 : 511 < x := by omega
    clear hp
    go_wp2_with (go_at_call 15; fail)
    refine (HN.out wy HF.out).mono ?_
    rintro e wx ⟨rfl, hf⟩
    replace HF := Lib.hid (HF.out.trans hf)
    clear hf
    go_wp2
    go_ret
    exact ⟨rfl, HF.out⟩
 ·refine (rall_bad w3 (.slice ma mn mc) m n (HM.out _ HF.out) (HR.out _ HF.out) hk).mono ?_
  rintro e w4 ⟨rfl, hf⟩
  replace HF := Lib.hid (HF.out.trans hf)
  replace HB := Lib.hid (HB.out.keep0 hf)
  have HKK := Lib.hid hk
  have HKB := Lib.hid (keyBad_le m n)
  have HTT := Lib.hid (show tagE m n x xs = keyBad m n from if_pos hk)
  have HTD := Lib.hid (show tagdB m n x xs = false from decide_eq_false (fun h => hk h.1))
  obtain ⟨kq, hkq⟩ : ∃ k, keyBad m n = k := ⟨_, rfl⟩
  rw [hkq] at HKK HKB HTT ⊢
  have HKQ := Lib.hid hkq
  have hk0 : ¬ (kq : Int) = 0 := by have := HKK.out; omega
  clear hf hk hkq
  obtain ⟨w5, hw5⟩ : ∃ w5, w4.alloc (.cells #[.slice none 0 0, .slice none 0 0, .slice none 0 0, .slice none 0 0, .slice none 0 0] 29) = w5 := ⟨_, rfl⟩
  obtain ⟨kb, hkb⟩ : ∃ kb, w4.heap.size = kb := ⟨_, rfl⟩
  have F5 : Fr [] w4 w5 := by rw [<- hw5]; exact Fr.alloc _ _
  have HK := Lib.hid (show At w5 kb (.cells #[.slice none 0 0, .slice none 0 0, .slice none 0 0, .slice none 0 0, .slice none 0 0] 29) by rw [<- hw5]; exact At.new hkb.symm)
  have HKZ := Lib.hid (show Z < kb /\ w0.heap.size <= kb from ⟨by rw [<- hkb]; exact lt_of_heap HB.out, by rw [<- hkb]; exact HF.out.size⟩)
  replace HF := Lib.hid (HF.out.trans F5)
  replace HB := Lib.hid (HB.out.keep0 F5)
  have c0 : w5.cell? ⟨Z, 0, none⟩ = some (.slice ma mn mc) := HB.out.cell 0
  have c1 : w5.cell? ⟨Z, 1, none⟩ = some (.int .i64 n) := HB.out.cell 1
  clear F5
  clear c0 c1
  go_wp2_with (refine wpl_store_all (.tmp 7) (.tmp 31) rfl rfl #[.slice none 0 0, .slice none 0 0, .slice none 0 0, .slice none 0 0, .slice none 0 0] rfl rfl (by kernel_rfl) HK.out rfl (by kernel_rfl) ?_)
  clear hw5
  intro w9 f9 a9 s9
  replace HF := Lib.hid (HF.out.then f9 (fun z hz => .inr (by simp at hz; subst hz; exact HKZ.out.2)))
  replace HB := Lib.hid (HB.out.keep f9 (by have := HKZ.out.1; simp; omega))
  replace HK := Lib.hid a9
  clear f9 a9 s9
  obtain ⟨wq, hwq⟩ : ∃ wq, w9 = wq := ⟨_, rfl⟩
  obtain rfl := hwq
  have c0 : w9.cell? ⟨Z, 0, none⟩ = some (.slice ma mn mc) := HB.out.cell 0
  have c1 : w9.cell? ⟨Z, 1, none⟩ = some (.int .i64 n) := HB.out.cell 1
  go_wp2_with (go_at_call 12; fail)
  clear c0 c1
  refine (sdTag_any E B w9 (.slice ma mn mc) (.slice (some ⟨q9, o9, none⟩) 16 vc) m xs n x (HE.out _ HF.out) (HS.out _ HF.out) (HM.out _ HF.out) (HV.out _ HF.out)).mono ?_
  rintro e w6 ⟨t, rfl, t1, t2, hf⟩
  have HT1 := Lib.hid t1
  have HT2 := Lib.hid t2
  replace HF := Lib.hid (HF.out.trans hf)
  replace HB := Lib.hid (HB.out.keep0 hf)
  replace HK := Lib.hid (HK.out.keep0 hf)
  obtain ⟨T1, hT1⟩ : ∃ k, tagE m n x xs = k := ⟨_, rfl⟩
  rw [hT1] at HT1 HT2 ⊢
  have HTE := Lib.hid hT1
  clear t1 t2 hf hT1
  obtain rfl : T1 = kq := HTE.out.symm.trans HTT.out
  obtain rfl := HT2.out HKK.out
  have HN := Lib.hid (fun p (h : Fr [] w0 p) => num_any E B T1 p (HE.out _ h) HKB.out)
  obtain ⟨e1, he1⟩ : ∃ v, errv E T1 = v := ⟨_, rfl⟩
  rw [he1] at HN ⊢
  have HE1 := Lib.hid he1
  clear he1
  have c0 : w6.cell? ⟨Z, 0, none⟩ = some (.slice ma mn mc) := HB.out.cell 0
  have c1 : w6.cell? ⟨Z, 1, none⟩ = some (.int .i64 n) := HB.out.cell 1
  go_wp2_with (go_at_call 13; fail)
  clear c0 c1
  refine (sdTagged_any E B w6 (.slice ma mn mc) (.slice (some ⟨q9, o9, none⟩) 16 vc) m xs n x (HE.out _ HF.out) (HS.out _ HF.out) (HM.out _ HF.out) (HV.out _ HF.out)).mono ?_
  rintro e w7 ⟨rfl, hf⟩
  replace HF := Lib.hid (HF.out.trans hf)
  replace HB := Lib.hid (HB.out.keep0 hf)
  replace HK := Lib.hid (HK.out.keep0 hf)
  clear hf
  rw [HTD.out, HKQ.out, HE1.out]
  go_wp2_with (go_at_call 14; fail)
  refine (parts_any E B w7 (.slice (some ⟨q9, o9, none⟩) 16 vc) xs (HE.out _ HF.out) (HV.out _ HF.out)).mono ?_
  rintro e w8 ⟨p1, p2, rfl, p3, p4, hf⟩
  replace HF := Lib.hid (HF.out.trans hf)
  replace HB := Lib.hid (HB.out.keep0 hf)
  replace HK := Lib.hid (HK.out.keep0 hf)
  obtain ⟨o1, o2⟩ := p3 HL16.out
  obtain ⟨pa1, pn1, pc1, rfl⟩ := ownB_ps o1
  obtain ⟨pa2, pn2, pc2, rfl⟩ := ownB_ps o2
  rw [show partE xs = 0 from if_pos HL16.out, errv_zero]
  have HP1 := Lib.hid (o1.bs (A := fun _ => False) (fun _ h => h.elim))
  have HP2 := Lib.hid (o2.bs (A := fun _ => False) (fun _ h => h.elim))
  clear p3 p4 hf o1 o2
  obtain ⟨S1, hS1⟩ : ∃ S, (⟨(xs.take 8).toArray⟩ : ByteArray) = S := ⟨_, rfl⟩
  obtain ⟨S2, hS2⟩ : ∃ S, (⟨(xs.drop 8).toArray⟩ : ByteArray) = S := ⟨_, rfl⟩
  have HQ := Lib.hid (And.intro hS1 hS2)
  clear hS1 hS2
  go_wp2
  refine tg12 _ _ rfl pa1 pa2 pn1 pc1 pn2 pc2 q9 o9 vc xs S1 S2 HQ.out.1 HQ.out.2 HP1.out HP2.out ((HV.out _ HF.out).take 8 (by decide)) (HVD.out _ HF.out) (by have := HVC.out; omega) HVC.out (by have := HVC.out; omega) (by have := HVC.out; omega) (by have := HVC.out; omega) rfl rfl rfl rfl _ ?_
  intro b p hd hs ho r92 hf
  rw [frame163 b hs hd, r92]
  replace HF := Lib.hid (HF.out.trans hf)
  replace HB := Lib.hid (HB.out.keep0 hf)
  replace HK := Lib.hid (HK.out.keep0 hf)
  clear hf hd hs
  rw [show slot b 1 = .int .i64 x from ho 1 (by decide), show slot b 2 = .slice (some ⟨q9, o9, none⟩) 16 vc from ho 2 (by decide), show slot b 3 = .pointer (some ⟨Z, 0, none⟩) from ho 3 (by decide), show slot b 7 = .pointer (some ⟨kb, 0, none⟩) from ho 7 (by decide), show slot b 8 = .int .i64 (T1 : Int) from ho 8 (by decide), show slot b 9 = .slice none 0 0 from ho 9 (by decide), show slot b 10 = e1 from ho 10 (by decide), show slot b 11 = .bool false from ho 11 (by decide), show slot b 12 = e1 from ho 12 (by decide)]
  clear ho
  go_wp2_with (go_at_call 15; fail)
  refine (HN.out _ HF.out).mono ?_
  rintro e wx ⟨rfl, hf⟩
  replace HF := Lib.hid (HF.out.trans hf)
  clear hf
  go_wp2_with (go_at_call 15; fail)
  refine (HN.out _ HF.out).mono ?_
  rintro e wy ⟨rfl, hf⟩
  replace HF := Lib.hid (HF.out.trans hf)
  clear hf
  go_wp2
  go_ret
  exact ⟨rfl, HF.out⟩
theorem stags_no (E : Nat -> Addr) (B : Nat) (w0 : World) (mv fv v2 : Value) (m f xs : List UInt8) (n x : Int) (q : Par) (hE : Errs all20 E B w0) (hS : SG w0) (hR : RG w0) (hM : Bs (fun _ => False) w0 mv m) (hF : Bs (fun _ => False) w0 fv f) (hV : Bs (fun _ => False) w0 v2 xs) (hl : longB m.length f.length q.size = false /\ xs.length <= 60 /\ ¬ xs.length = 16) :
  Calls Tryz.prog 3 #[madeV mv n fv q, .int .i64 x, v2] w0 fun e w' => e = .returned (.bool true) /\ Fr [] w0 w' := by
 obtain ⟨ma, mc, rfl, -, -, -⟩ := id hM
 obtain ⟨fa, fc, rfl, -, -, -⟩ := id hF
 obtain ⟨va, vc, rfl, hvc, -, hrow⟩ := id hV
 obtain ⟨mn, hmn⟩ : ∃ z, m.length = z := ⟨_, rfl⟩
 obtain ⟨fn, hfn⟩ : ∃ z, f.length = z := ⟨_, rfl⟩
 obtain ⟨vn, hvn⟩ : ∃ z, xs.length = z := ⟨_, rfl⟩
 rw [hmn, hfn] at hl
 rw [hvn] at hl hvc hV ⊢
 rw [hmn] at hM ⊢
 rw [hfn]
 unfold madeV
 obtain ⟨Z, hZ⟩ : ∃ Z, w0.heap.size = Z := ⟨_, rfl⟩
 obtain ⟨w1, hw1⟩ : ∃ w1, w0.alloc (.cells #[.slice ma mn mc, .int .i64 n, .slice fa fn fc, .int .i64 q.size, .int .i64 q.sent, .int .i64 q.spots, .int .i64 q.per, .int .i64 q.pat, .int .i64 q.ret] 26) = w1 := ⟨_, rfl⟩
 have F1 : Fr [] w0 w1 := by rw [<- hw1]; exact Fr.alloc _ _
 have HB := Lib.hid (show At w1 Z (.cells #[.slice ma mn mc, .int .i64 n, .slice fa fn fc, .int .i64 q.size, .int .i64 q.sent, .int .i64 q.spots, .int .i64 q.per, .int .i64 q.pat, .int .i64 q.ret] 26) by rw [<- hw1]; exact At.new hZ.symm)
 have HF := Lib.hid F1
 have HM := Lib.hid (fun wi (h : Fr [] w0 wi) => show Bs (fun b => wi.heap.size <= b) wi (.slice ma mn mc) m from bs_low (hM.keep h (by simp)))
 have HV := Lib.hid (fun wi (h : Fr [] w0 wi) => hV.keep h (by simp))
 have HE := Lib.hid (fun wi (h : Fr [] w0 wi) => hE.keep0 h)
 have HS := Lib.hid (fun wi (h : Fr [] w0 wi) => hS.keep h)
 have HR := Lib.hid (fun wi (h : Fr [] w0 wi) => hR.keep h)
 have HMN := Lib.hid hmn
 have HVN := Lib.hid hvn
 have HVC := Lib.hid hvc
 have HROW := Lib.hid hrow
 have HL16 := Lib.hid (show ¬ xs.length = 16 by omega)
 have HL := Lib.hid hl
 clear hE hS hR hM hF hV F1 hmn hfn hvn hl hrow
 go_enter Tryz.func3, Tryz.ntmps3
 go_wp2_with (go_at_call 9; fail)
 clear hw1
 refine (alive16_ok E B w1 (HE.out _ HF.out) (HS.out _ HF.out)).mono ?_
 rintro e w2 ⟨rfl, hf⟩
 replace HF := Lib.hid (HF.out.trans hf)
 replace HB := Lib.hid (HB.out.keep0 hf)
 clear hf hZ
 go_wp2_with (first | (refine wpl_load_k (.tmp 3) rfl rfl Z 0 [.slice ma mn mc, .int .i64 n, .slice fa fn fc, .int .i64 q.size, .int .i64 q.sent, .int .i64 q.spots, .int .i64 q.per, .int .i64 q.pat, .int .i64 q.ret] rfl (range_of HB.out) Tryz.underlying26 rfl (by kernel_rfl) ?_) | (go_at_call 10; fail))
 refine (long16_any w2 ma fa mn mc fn fc n q).mono ?_
 rintro e w3 ⟨rfl, hf⟩
 replace HF := Lib.hid (HF.out.trans hf)
 replace HB := Lib.hid (HB.out.keep0 hf)
 clear hf
 rw [HL.out.1]
 have h6 : ¬ (60 : Int) < (vn : Int) := by have := HL.out; omega
 have c0 : w3.cell? ⟨Z, 0, none⟩ = some (.slice ma mn mc) := HB.out.cell 0
 have c1 : w3.cell? ⟨Z, 1, none⟩ = some (.int .i64 n) := HB.out.cell 1
 go_wp2_with (go_at_call 11; fail)
 clear c0 c1
 by_cases hk : keyBad m n = 0
 ·refine (rall_ok w3 (.slice ma mn mc) m n (HM.out _ HF.out) (HR.out _ HF.out) hk).mono ?_
  rintro e w4 ⟨u0, u1, u2, u3, u4, rfl, ⟨g0, g1, g2, g3, g4⟩, hf⟩
  replace HF := Lib.hid (HF.out.trans hf)
  replace HB := Lib.hid (HB.out.keep0 hf)
  obtain ⟨x0, n0, y0, rfl⟩ := ownB_ps g0
  obtain ⟨x1, n1, y1, rfl⟩ := ownB_ps g1
  obtain ⟨x2, n2, y2, rfl⟩ := ownB_ps g2
  obtain ⟨x3, n3, y3, rfl⟩ := ownB_ps g3
  obtain ⟨x4, n4, y4, rfl⟩ := ownB_ps g4
  have HKK := Lib.hid hk
  clear hf hk
  obtain ⟨w5, hw5⟩ : ∃ w5, w4.alloc (.cells #[.slice x0 n0 y0, .slice x1 n1 y1, .slice x2 n2 y2, .slice x3 n3 y3, .slice x4 n4 y4] 29) = w5 := ⟨_, rfl⟩
  obtain ⟨kb, hkb⟩ : ∃ kb, w4.heap.size = kb := ⟨_, rfl⟩
  have F5 : Fr [] w4 w5 := by rw [<- hw5]; exact Fr.alloc _ _
  have HK := Lib.hid (show At w5 kb (.cells #[.slice x0 n0 y0, .slice x1 n1 y1, .slice x2 n2 y2, .slice x3 n3 y3, .slice x4 n4 y4] 29) by rw [<- hw5]; exact At.new hkb.symm)
  have HKZ := Lib.hid (show Z < kb /\ w0.heap.size <= kb from ⟨by rw [<- hkb]; exact lt_of_heap HB.out, by rw [<- hkb]; exact HF.out.size⟩)
  replace HF := Lib.hid (HF.out.trans F5)
  replace HB := Lib.hid (HB.out.keep0 F5)
  have HU3 := Lib.hid ((g3.bs (A := fun _ => False) (fun _ h => h.elim)).keep F5 (by simp))
  have c0 : w5.cell? ⟨Z, 0, none⟩ = some (.slice ma mn mc) := HB.out.cell 0
  have c1 : w5.cell? ⟨Z, 1, none⟩ = some (.int .i64 n) := HB.out.cell 1
  clear F5 g0 g1 g2 g3 g4
  go_wp2_with (first | (refine wpl_store_new (.tmp 7) (.tmp 31) rfl rfl #[.slice x0 n0 y0, .slice x1 n1 y1, .slice x2 n2 y2, .slice x3 n3 y3, .slice x4 n4 y4] rfl rfl (by kernel_rfl) rfl (by kernel_rfl) ?_) | (go_at_call 12; fail))
  clear hw5 c0 c1
  refine (sdTag_any E B w5 (.slice ma mn mc) (.slice va vn vc) m xs n x (HE.out _ HF.out) (HS.out _ HF.out) (HM.out _ HF.out) (HV.out _ HF.out)).mono ?_
  rintro e w6 ⟨t, rfl, t1, t2, hf⟩
  have HT1 := Lib.hid t1
  have HT2 := Lib.hid t2
  replace HF := Lib.hid (HF.out.trans hf)
  replace HB := Lib.hid (HB.out.keep0 hf)
  replace HK := Lib.hid (HK.out.keep0 hf)
  replace HU3 := Lib.hid (HU3.out.keep hf (by simp))
  obtain ⟨T1, hT1⟩ : ∃ k, tagE m n x xs = k := ⟨_, rfl⟩
  rw [hT1] at HT1 HT2 ⊢
  have HTE := Lib.hid hT1
  clear t1 t2 hf hT1
  by_cases hp : 0 <= x /\ x < 512
  ·by_cases hl8 : xs.length ≠ 8
   ·have hv8 : ¬ (vn : Int) = 8 := by have := HVN.out; omega
    have hte : T1 = 8 := by rw [<- HTE.out]; unfold tagE; rw [if_neg (by rw [HKK.out]; decide), if_neg (by simpa using hp), if_pos hl8]
    obtain rfl := HT2.out (by rw [hte]; decide)
    subst hte
    have HN := Lib.hid (fun p (h : Fr [] w0 p) => num_any E B 8 p (HE.out _ h) (by decide))
    obtain ⟨e1, he1⟩ : ∃ v, errv E 8 = v := ⟨_, rfl⟩
    rw [he1] at HN ⊢
    clear he1
    have HV8 := Lib.hid hv8
    clear hv8
    have c0 : w6.cell? ⟨Z, 0, none⟩ = some (.slice ma mn mc) := HB.out.cell 0
    have c1 : w6.cell? ⟨Z, 1, none⟩ = some (.int .i64 n) := HB.out.cell 1
    go_wp2_with (go_at_call 13; fail)
    clear c0 c1
    refine (sdTagged_any E B w6 (.slice ma mn mc) (.slice va vn vc) m xs n x (HE.out _ HF.out) (HS.out _ HF.out) (HM.out _ HF.out) (HV.out _ HF.out)).mono ?_
    rintro e w7 ⟨rfl, hf⟩
    replace HF := Lib.hid (HF.out.trans hf)
    replace HB := Lib.hid (HB.out.keep0 hf)
    replace HK := Lib.hid (HK.out.keep0 hf)
    replace HU3 := Lib.hid (HU3.out.keep hf (by simp))
    clear hf
    rw [HKK.out, errv_zero]
    have HTB := Lib.hid (show tgB2 (subL m nTag n) x xs = tagdB m n x xs from by unfold tgB2 tagdB; refine decide_eq_decide.2 ⟨fun h => ⟨HKK.out, h⟩, fun h => h.2⟩)
    obtain ⟨rb, hrb⟩ : ∃ r, tagdB m n x xs = r := ⟨_, rfl⟩
    rw [hrb] at HTB ⊢
    clear hrb
    go_wp2_with (go_at_call 14; fail)
    refine (parts_any E B w7 (.slice va vn vc) xs (HE.out _ HF.out) (HV.out _ HF.out)).mono ?_
    rintro e w8 ⟨p1, p2, rfl, p3, p4, hf⟩
    replace HF := Lib.hid (HF.out.trans hf)
    replace HB := Lib.hid (HB.out.keep0 hf)
    replace HK := Lib.hid (HK.out.keep0 hf)
    replace HU3 := Lib.hid (HU3.out.keep hf (by simp))
    obtain ⟨rfl, rfl⟩ := p4 HL16.out
    have HE8 := Lib.hid (show ∀ p, Fr [] w8 p -> Calls Tryz.prog 15 #[errv E 8] p fun e w' => e = .returned (.int .i64 8) /\ Fr [] p w' from fun p h => num_any E B 8 p (HE.out _ (HF.out.trans h)) (by decide))
    rw [show partE xs = 8 from if_neg HL16.out]
    obtain ⟨e8, he8⟩ : ∃ v, errv E 8 = v := ⟨_, rfl⟩
    rw [he8] at HE8 ⊢
    clear p3 p4 hf he8
    have hv16 : ¬ (vn : Int) = 16 := by have := HL16.out; have := HVN.out; omega
    go_wp2_with (go_at_call 15; fail)
    refine (HE8.out w8 (Fr.refl _ _)).mono ?_
    rintro e w9 ⟨rfl, hf⟩
    replace HF := Lib.hid (HF.out.trans hf)
    replace HB := Lib.hid (HB.out.keep0 hf)
    replace HK := Lib.hid (HK.out.keep0 hf)
    replace HU3 := Lib.hid (HU3.out.keep hf (by simp))
    clear hf
    obtain ⟨wz, hwz⟩ : ∃ wz, w9 = wz := ⟨_, rfl⟩
    rw [hwz] at HF HB HK HU3 ⊢
    clear hwz
    have c3 : wz.cell? ⟨kb, 3, none⟩ = some (.slice x3 n3 y3) := HK.out.cell 3
    go_wp2_with (go_at_call 16; fail)
    refine (rtagged_any wz (.slice x3 n3 y3) (.slice va vn vc) (subL m nTag n) xs x (bs_low HU3.out) (HV.out _ HF.out) (by rw [subL_len]; decide) (HR.out _ HF.out)).mono ?_
    rintro e wy ⟨rfl, hf⟩
    rw [HTB.out]
    replace HF := Lib.hid (HF.out.trans hf)
    replace HK := Lib.hid (HK.out.keep0 hf)
    replace HU3 := Lib.hid (HU3.out.keep hf (by simp))
    clear hf c3
    have hx0 : ¬ x < 0 := by omega
    have hx1 : ¬ 511 < x := by omega
    have hv8 := HV8.out
    clear hp hl8
    go_wp2_with (go_at_call 15; fail)
    refine (HN.out wy HF.out).mono ?_
    rintro e wx ⟨rfl, hf⟩
    replace HF := Lib.hid (HF.out.trans hf)
    clear hf
    go_wp2
    go_ret
    exact ⟨rfl, HF.out⟩
   ·obtain rfl : vn = 8 := by have := HVN.out; simp at hl8; omega
    have hte : T1 = 0 := by rw [<- HTE.out]; unfold tagE; rw [if_neg (by rw [HKK.out]; decide), if_neg (by simpa using hp), if_neg hl8]
    have ht := HT1.out hte
    obtain ⟨ta, tn, tc, rfl⟩ := ownB_ps ht
    have HT := Lib.hid (ht.bs (A := fun _ => False) (fun _ h => h.elim))
    rw [hte, errv_zero]
    clear ht hte
    have c0 : w6.cell? ⟨Z, 0, none⟩ = some (.slice ma mn mc) := HB.out.cell 0
    have c1 : w6.cell? ⟨Z, 1, none⟩ = some (.int .i64 n) := HB.out.cell 1
    go_wp2_with (go_at_call 13; fail)
    clear c0 c1
    refine (sdTagged_any E B w6 (.slice ma mn mc) (.slice va 8 vc) m xs n x (HE.out _ HF.out) (HS.out _ HF.out) (HM.out _ HF.out) (HV.out _ HF.out)).mono ?_
    rintro e w7 ⟨rfl, hf⟩
    replace HF := Lib.hid (HF.out.trans hf)
    replace HB := Lib.hid (HB.out.keep0 hf)
    replace HK := Lib.hid (HK.out.keep0 hf)
    replace HU3 := Lib.hid (HU3.out.keep hf (by simp))
    replace HT := Lib.hid (HT.out.keep hf (by simp))
    clear hf
    rw [HKK.out, errv_zero]
    have HTB := Lib.hid (show tgB2 (subL m nTag n) x xs = tagdB m n x xs from by unfold tgB2 tagdB; refine decide_eq_decide.2 ⟨fun h => ⟨HKK.out, h⟩, fun h => h.2⟩)
    obtain ⟨rb, hrb⟩ : ∃ r, tagdB m n x xs = r := ⟨_, rfl⟩
    rw [hrb] at HTB ⊢
    clear hrb
    go_wp2_with (go_at_call 14; fail)
    refine (parts_any E B w7 (.slice va 8 vc) xs (HE.out _ HF.out) (HV.out _ HF.out)).mono ?_
    rintro e w8 ⟨p1, p2, rfl, p3, p4, hf⟩
    replace HF := Lib.hid (HF.out.trans hf)
    replace HB := Lib.hid (HB.out.keep0 hf)
    replace HK := Lib.hid (HK.out.keep0 hf)
    replace HU3 := Lib.hid (HU3.out.keep hf (by simp))
    replace HT := Lib.hid (HT.out.keep hf (by simp))
    obtain ⟨rfl, rfl⟩ := p4 HL16.out
    have HE8 := Lib.hid (show ∀ p, Fr [] w8 p -> Calls Tryz.prog 15 #[errv E 8] p fun e w' => e = .returned (.int .i64 8) /\ Fr [] p w' from fun p h => num_any E B 8 p (HE.out _ (HF.out.trans h)) (by decide))
    rw [show partE xs = 8 from if_neg HL16.out]
    obtain ⟨e8, he8⟩ : ∃ v, errv E 8 = v := ⟨_, rfl⟩
    rw [he8] at HE8 ⊢
    clear p3 p4 hf he8
    have hv16 : ¬ (8 : Int) = 16 := by decide
    go_wp2_with (go_at_call 15; fail)
    refine (HE8.out w8 (Fr.refl _ _)).mono ?_
    rintro e w9 ⟨rfl, hf⟩
    replace HF := Lib.hid (HF.out.trans hf)
    replace HB := Lib.hid (HB.out.keep0 hf)
    replace HK := Lib.hid (HK.out.keep0 hf)
    replace HU3 := Lib.hid (HU3.out.keep hf (by simp))
    replace HT := Lib.hid (HT.out.keep hf (by simp))
    clear hf
    obtain ⟨wz, hwz⟩ : ∃ wz, w9 = wz := ⟨_, rfl⟩
    rw [hwz] at HF HB HK HU3 ⊢
    rw [hwz] at HT
    clear hwz
    have c3 : wz.cell? ⟨kb, 3, none⟩ = some (.slice x3 n3 y3) := HK.out.cell 3
    go_wp2_with (go_at_call 16; fail)
    refine (rtagged_any wz (.slice x3 n3 y3) (.slice va 8 vc) (subL m nTag n) xs x (bs_low HU3.out) (HV.out _ HF.out) (by rw [subL_len]; decide) (HR.out _ HF.out)).mono ?_
    rintro e wy ⟨rfl, hf⟩
    rw [HTB.out]
    replace HF := Lib.hid (HF.out.trans hf)
    replace HK := Lib.hid (HK.out.keep0 hf)
    replace HU3 := Lib.hid (HU3.out.keep hf (by simp))
    replace HT := Lib.hid (HT.out.keep hf (by simp))
    clear hf c3
    have hx0 : ¬ x < 0 := by omega
    have hx1 : ¬ 511 < x := by omega
    clear hp hl8
    obtain ⟨S, hS⟩ : ∃ S, (⟨(tgdL (subL m nTag n) x xs).toArray⟩ : ByteArray) = S := ⟨_, rfl⟩
    have HSS := Lib.hid hS
    clear hS
    go_wp2
    refine tg22 _ _ rfl ta va tn tc vc kb x (.slice x3 n3 y3) (tgdL (subL m nTag n) x xs) S HSS.out HT.out (HK.out.cell 3) (fun p hp => rtag16_any p (.slice x3 n3 y3) (.slice va 8 vc) (subL m nTag n) xs x (bs_low (HU3.out.keep hp (by simp))) (bs_low (HV.out _ (HF.out.trans hp))) (by rw [subL_len]; decide) (by rw [HVN.out]; decide) (HR.out _ (HF.out.trans hp))) rfl rfl rfl rfl rfl _ ?_
    intro b p hd hs ho r6 hf
    rw [frame163 b hs hd, r6]
    replace HF := Lib.hid (HF.out.trans hf)
    clear hf ho hs hd r6
    go_wp2
    go_ret
    exact ⟨rfl, HF.out⟩
  ·have hte : T1 = 1 := by rw [<- HTE.out]; unfold tagE; rw [if_neg (by rw [HKK.out]; decide), if_pos (by simpa using hp)]
   obtain rfl := HT2.out (by rw [hte]; decide)
   subst hte
   have HN := Lib.hid (fun p (h : Fr [] w0 p) => num_any E B 1 p (HE.out _ h) (by decide))
   obtain ⟨e1, he1⟩ : ∃ v, errv E 1 = v := ⟨_, rfl⟩
   rw [he1] at HN ⊢
   clear he1
   have c0 : w6.cell? ⟨Z, 0, none⟩ = some (.slice ma mn mc) := HB.out.cell 0
   have c1 : w6.cell? ⟨Z, 1, none⟩ = some (.int .i64 n) := HB.out.cell 1
   go_wp2_with (go_at_call 13; fail)
   clear c0 c1
   refine (sdTagged_any E B w6 (.slice ma mn mc) (.slice va vn vc) m xs n x (HE.out _ HF.out) (HS.out _ HF.out) (HM.out _ HF.out) (HV.out _ HF.out)).mono ?_
   rintro e w7 ⟨rfl, hf⟩
   replace HF := Lib.hid (HF.out.trans hf)
   replace HB := Lib.hid (HB.out.keep0 hf)
   replace HK := Lib.hid (HK.out.keep0 hf)
   replace HU3 := Lib.hid (HU3.out.keep hf (by simp))
   clear hf
   rw [HKK.out, errv_zero]
   have HTB := Lib.hid (show tgB2 (subL m nTag n) x xs = tagdB m n x xs from by unfold tgB2 tagdB; refine decide_eq_decide.2 ⟨fun h => ⟨HKK.out, h⟩, fun h => h.2⟩)
   obtain ⟨rb, hrb⟩ : ∃ r, tagdB m n x xs = r := ⟨_, rfl⟩
   rw [hrb] at HTB ⊢
   clear hrb
   go_wp2_with (go_at_call 14; fail)
   refine (parts_any E B w7 (.slice va vn vc) xs (HE.out _ HF.out) (HV.out _ HF.out)).mono ?_
   rintro e w8 ⟨p1, p2, rfl, p3, p4, hf⟩
   replace HF := Lib.hid (HF.out.trans hf)
   replace HB := Lib.hid (HB.out.keep0 hf)
   replace HK := Lib.hid (HK.out.keep0 hf)
   replace HU3 := Lib.hid (HU3.out.keep hf (by simp))
   obtain ⟨rfl, rfl⟩ := p4 HL16.out
   have HE8 := Lib.hid (show ∀ p, Fr [] w8 p -> Calls Tryz.prog 15 #[errv E 8] p fun e w' => e = .returned (.int .i64 8) /\ Fr [] p w' from fun p h => num_any E B 8 p (HE.out _ (HF.out.trans h)) (by decide))
   rw [show partE xs = 8 from if_neg HL16.out]
   obtain ⟨e8, he8⟩ : ∃ v, errv E 8 = v := ⟨_, rfl⟩
   rw [he8] at HE8 ⊢
   clear p3 p4 hf he8
   have hv16 : ¬ (vn : Int) = 16 := by have := HL16.out; have := HVN.out; omega
   go_wp2_with (go_at_call 15; fail)
   refine (HE8.out w8 (Fr.refl _ _)).mono ?_
   rintro e w9 ⟨rfl, hf⟩
   replace HF := Lib.hid (HF.out.trans hf)
   replace HB := Lib.hid (HB.out.keep0 hf)
   replace HK := Lib.hid (HK.out.keep0 hf)
   replace HU3 := Lib.hid (HU3.out.keep hf (by simp))
   clear hf
   obtain ⟨wz, hwz⟩ : ∃ wz, w9 = wz := ⟨_, rfl⟩
   rw [hwz] at HF HB HK HU3 ⊢
   clear hwz
   have c3 : wz.cell? ⟨kb, 3, none⟩ = some (.slice x3 n3 y3) := HK.out.cell 3
   go_wp2_with (go_at_call 16; fail)
   refine (rtagged_any wz (.slice x3 n3 y3) (.slice va vn vc) (subL m nTag n) xs x (bs_low HU3.out) (HV.out _ HF.out) (by rw [subL_len]; decide) (HR.out _ HF.out)).mono ?_
   rintro e wy ⟨rfl, hf⟩
   rw [HTB.out]
   replace HF := Lib.hid (HF.out.trans hf)
   replace HK := Lib.hid (HK.out.keep0 hf)
   replace HU3 := Lib.hid (HU3.out.keep hf (by simp))
   clear hf c3
   by_cases hx0 : x < 0
   ·clear hp
    go_wp2_with (go_at_call 15; fail)
    refine (HN.out wy HF.out).mono ?_
    rintro e wx ⟨rfl, hf⟩
    replace HF := Lib.hid (HF.out.trans hf)
    clear hf
    go_wp2
    go_ret
    exact ⟨rfl, HF.out⟩
   ·have hx1 : 511 < x := by omega
    clear hp
    go_wp2_with (go_at_call 15; fail)
    refine (HN.out wy HF.out).mono ?_
    rintro e wx ⟨rfl, hf⟩
    replace HF := Lib.hid (HF.out.trans hf)
    clear hf
    go_wp2
    go_ret
    exact ⟨rfl, HF.out⟩
 ·refine (rall_bad w3 (.slice ma mn mc) m n (HM.out _ HF.out) (HR.out _ HF.out) hk).mono ?_
  rintro e w4 ⟨rfl, hf⟩
  replace HF := Lib.hid (HF.out.trans hf)
  replace HB := Lib.hid (HB.out.keep0 hf)
  have HKK := Lib.hid hk
  have HKB := Lib.hid (keyBad_le m n)
  have HTT := Lib.hid (show tagE m n x xs = keyBad m n from if_pos hk)
  have HTD := Lib.hid (show tagdB m n x xs = false from decide_eq_false (fun h => hk h.1))
  obtain ⟨kq, hkq⟩ : ∃ k, keyBad m n = k := ⟨_, rfl⟩
  rw [hkq] at HKK HKB HTT ⊢
  have HKQ := Lib.hid hkq
  have hk0 : ¬ (kq : Int) = 0 := by have := HKK.out; omega
  clear hf hk hkq
  obtain ⟨w5, hw5⟩ : ∃ w5, w4.alloc (.cells #[.slice none 0 0, .slice none 0 0, .slice none 0 0, .slice none 0 0, .slice none 0 0] 29) = w5 := ⟨_, rfl⟩
  obtain ⟨kb, hkb⟩ : ∃ kb, w4.heap.size = kb := ⟨_, rfl⟩
  have F5 : Fr [] w4 w5 := by rw [<- hw5]; exact Fr.alloc _ _
  have HK := Lib.hid (show At w5 kb (.cells #[.slice none 0 0, .slice none 0 0, .slice none 0 0, .slice none 0 0, .slice none 0 0] 29) by rw [<- hw5]; exact At.new hkb.symm)
  have HKZ := Lib.hid (show Z < kb /\ w0.heap.size <= kb from ⟨by rw [<- hkb]; exact lt_of_heap HB.out, by rw [<- hkb]; exact HF.out.size⟩)
  replace HF := Lib.hid (HF.out.trans F5)
  replace HB := Lib.hid (HB.out.keep0 F5)
  have c0 : w5.cell? ⟨Z, 0, none⟩ = some (.slice ma mn mc) := HB.out.cell 0
  have c1 : w5.cell? ⟨Z, 1, none⟩ = some (.int .i64 n) := HB.out.cell 1
  clear F5
  clear c0 c1
  go_wp2_with (refine wpl_store_all (.tmp 7) (.tmp 31) rfl rfl #[.slice none 0 0, .slice none 0 0, .slice none 0 0, .slice none 0 0, .slice none 0 0] rfl rfl (by kernel_rfl) HK.out rfl (by kernel_rfl) ?_)
  clear hw5
  intro w9 f9 a9 s9
  replace HF := Lib.hid (HF.out.then f9 (fun z hz => .inr (by simp at hz; subst hz; exact HKZ.out.2)))
  replace HB := Lib.hid (HB.out.keep f9 (by have := HKZ.out.1; simp; omega))
  replace HK := Lib.hid a9
  clear f9 a9 s9
  obtain ⟨wq, hwq⟩ : ∃ wq, w9 = wq := ⟨_, rfl⟩
  obtain rfl := hwq
  have c0 : w9.cell? ⟨Z, 0, none⟩ = some (.slice ma mn mc) := HB.out.cell 0
  have c1 : w9.cell? ⟨Z, 1, none⟩ = some (.int .i64 n) := HB.out.cell 1
  go_wp2_with (go_at_call 12; fail)
  clear c0 c1
  refine (sdTag_any E B w9 (.slice ma mn mc) (.slice va vn vc) m xs n x (HE.out _ HF.out) (HS.out _ HF.out) (HM.out _ HF.out) (HV.out _ HF.out)).mono ?_
  rintro e w6 ⟨t, rfl, t1, t2, hf⟩
  have HT1 := Lib.hid t1
  have HT2 := Lib.hid t2
  replace HF := Lib.hid (HF.out.trans hf)
  replace HB := Lib.hid (HB.out.keep0 hf)
  replace HK := Lib.hid (HK.out.keep0 hf)
  obtain ⟨T1, hT1⟩ : ∃ k, tagE m n x xs = k := ⟨_, rfl⟩
  rw [hT1] at HT1 HT2 ⊢
  have HTE := Lib.hid hT1
  clear t1 t2 hf hT1
  obtain rfl : T1 = kq := HTE.out.symm.trans HTT.out
  obtain rfl := HT2.out HKK.out
  have HN := Lib.hid (fun p (h : Fr [] w0 p) => num_any E B T1 p (HE.out _ h) HKB.out)
  obtain ⟨e1, he1⟩ : ∃ v, errv E T1 = v := ⟨_, rfl⟩
  rw [he1] at HN ⊢
  have HE1 := Lib.hid he1
  clear he1
  have c0 : w6.cell? ⟨Z, 0, none⟩ = some (.slice ma mn mc) := HB.out.cell 0
  have c1 : w6.cell? ⟨Z, 1, none⟩ = some (.int .i64 n) := HB.out.cell 1
  go_wp2_with (go_at_call 13; fail)
  clear c0 c1
  refine (sdTagged_any E B w6 (.slice ma mn mc) (.slice va vn vc) m xs n x (HE.out _ HF.out) (HS.out _ HF.out) (HM.out _ HF.out) (HV.out _ HF.out)).mono ?_
  rintro e w7 ⟨rfl, hf⟩
  replace HF := Lib.hid (HF.out.trans hf)
  replace HB := Lib.hid (HB.out.keep0 hf)
  replace HK := Lib.hid (HK.out.keep0 hf)
  clear hf
  rw [HTD.out, HKQ.out, HE1.out]
  go_wp2_with (go_at_call 14; fail)
  refine (parts_any E B w7 (.slice va vn vc) xs (HE.out _ HF.out) (HV.out _ HF.out)).mono ?_
  rintro e w8 ⟨p1, p2, rfl, p3, p4, hf⟩
  replace HF := Lib.hid (HF.out.trans hf)
  replace HB := Lib.hid (HB.out.keep0 hf)
  replace HK := Lib.hid (HK.out.keep0 hf)
  obtain ⟨rfl, rfl⟩ := p4 HL16.out
  have HE8 := Lib.hid (show ∀ p, Fr [] w8 p -> Calls Tryz.prog 15 #[errv E 8] p fun e w' => e = .returned (.int .i64 8) /\ Fr [] p w' from fun p h => num_any E B 8 p (HE.out _ (HF.out.trans h)) (by decide))
  rw [show partE xs = 8 from if_neg HL16.out]
  obtain ⟨e8, he8⟩ : ∃ v, errv E 8 = v := ⟨_, rfl⟩
  rw [he8] at HE8 ⊢
  clear p3 p4 hf he8
  have hv16 : ¬ (vn : Int) = 16 := by have := HL16.out; have := HVN.out; omega
  go_wp2_with (go_at_call 15; fail)
  refine (HE8.out w8 (Fr.refl _ _)).mono ?_
  rintro e w9 ⟨rfl, hf⟩
  replace HF := Lib.hid (HF.out.trans hf)
  replace HB := Lib.hid (HB.out.keep0 hf)
  replace HK := Lib.hid (HK.out.keep0 hf)
  clear hf
  go_wp2_with (go_at_call 15; fail)
  refine (HN.out _ HF.out).mono ?_
  rintro e wx ⟨rfl, hf⟩
  replace HF := Lib.hid (HF.out.trans hf)
  clear hf
  go_wp2_with (go_at_call 15; fail)
  refine (HN.out _ HF.out).mono ?_
  rintro e wy ⟨rfl, hf⟩
  replace HF := Lib.hid (HF.out.trans hf)
  clear hf
  go_wp2
  go_ret
  exact ⟨rfl, HF.out⟩
end Go.Proofs.YtnafknkchbfpaaaGreatDoor
