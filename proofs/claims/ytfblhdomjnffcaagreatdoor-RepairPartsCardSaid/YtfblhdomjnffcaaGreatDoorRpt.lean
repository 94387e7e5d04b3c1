/-
  The law RepairParts, walked. (printed by genrpl.py)
-/
import Derived.Test.YtfblhdomjnffcaaGreatDoorRpR
import Derived.Test.YtfblhdomjnffcaaGreatDoorPts
import Derived.Test.YtfblhdomjnffcaaGreatDoorHC
import Derived.Test.YtfblhdomjnffcaaGreatDoorGQ
import Derived.Test.YtfblhdomjnffcaaGreatDoorPwr
import Derived.Test.YtfblhdomjnffcaaGreatDoorRer
import Derived.Test.YtfblhdomjnffcaaGreatDoorGB
import Derived.BigQuiet
namespace Go.Proofs.YtfblhdomjnffcaaGreatDoor
open Go.RowKit Go.Bl
set_option linter.unusedVariables false
/-- the roots below p -/
def sbel (loc : List UInt8) (n p : Nat) : List Nat := (List.range p).filter fun p => decide (pev loc (ginv (plX n p)) = 0)
theorem sbel_end (loc : List UInt8) (n : Nat) : sbel loc n n = srch loc n := rfl
theorem sbel_up (loc : List UInt8) (n p : Nat) : sbel loc n (p + 1) = sbel loc n p ++ (if pev loc (ginv (plX n p)) = 0 then [p] else []) := srch_up loc n p
theorem sbel_more (loc : List UInt8) (n p k : Nat) : ∃ t, sbel loc n (p + k) = sbel loc n p ++ t := by
  induction k with
  | zero => exact ⟨[], (List.append_nil _).symm⟩
  | succ k ih =>
    obtain ⟨t, ht⟩ := ih
    exact ⟨t ++ (if pev loc (ginv (plX n (p + k))) = 0 then [p + k] else []), by rw [← Nat.add_assoc, sbel_up, ht, List.append_assoc]⟩
theorem sbel_at {loc : List UInt8} {n p : Nat} (hp : p < n) (h : pev loc (ginv (plX n p)) = 0) : (srch loc n)[(sbel loc n p).length]? = some p := by
  obtain ⟨t, ht⟩ := sbel_more loc n (p + 1) (n - (p + 1))
  rw [show p + 1 + (n - (p + 1)) = n by omega, sbel_end, sbel_up, if_pos h] at ht
  rw [ht, List.append_assoc, List.getElem?_append_right (Nat.le_refl _)]
  simp
theorem sbel_le (loc : List UInt8) (n p : Nat) : (sbel loc n p).length ≤ p := srch_le loc n p
/-- the slope's sum behind j steps -/
def slpK (loc : List UInt8) (y : UInt8) (j : Nat) : UInt8 := pev ((slp loc).take (2 * j)) y
theorem slp_len (loc : List UInt8) : (slp loc).length = loc.length := by simp [slp]
theorem slp_get (loc : List UInt8) (j : Nat) (h : j < loc.length) : (slp loc)[j]? = some (cf (slp loc) j) := by
  unfold cf
  rw [List.getD_eq_getElem?_getD, List.getElem?_eq_getElem (by rw [slp_len]; exact h)]; rfl
theorem slpK_up (loc : List UInt8) (y : UInt8) (j : Nat) (h : 2 * j + 1 < loc.length) : slpK loc y (j + 1) = slpK loc y j ^^^ gmul (cf loc (2 * j + 1)) (gpw y (2 * j)) := by
  unfold slpK
  have h1 := pev_take (slp loc) y (2 * j + 1) _ (slp_get loc (2 * j + 1) h)
  have h2 := pev_take (slp loc) y (2 * j) _ (slp_get loc (2 * j) (by omega))
  rw [slp_cf, if_neg (by omega), zero_gmul, UInt8.xor_zero] at h1
  rw [slp_cf, if_pos (by omega)] at h2
  rw [show 2 * (j + 1) = 2 * j + 1 + 1 by omega, h1, h2]
theorem slpK_end (loc : List UInt8) (y : UInt8) (j : Nat) (h : loc.length ≤ 2 * j + 1) : slpK loc y j = pev (slp loc) y := by
  unfold slpK
  refine pev_ext (fun m => ?_) y
  rw [cf_take]
  by_cases hm : m < 2 * j
  · rw [if_pos hm]
  · rw [if_neg hm, slp_cf]
    by_cases h2 : m % 2 = 0
    · rw [if_pos h2, cf_ge (by omega)]
    · rw [if_neg h2]
set_option maxRecDepth 100000 in
set_option maxHeartbeats 16000000 in
theorem rpt_core (E : Nat → Addr) (B : Nat) (w : World) (lg n pl e t : Int) (U V EV : Value) (loc ev : List UInt8) (S : List Nat) (A : UInt8) (K : Nat) (hE : Errs all20 E B w) (hU : Bs (fun _ => False) w U loc) (hV : Bs (fun _ => False) w V ev)
    (hse : loc.length ≤ 60 → ev.length ≤ 60 → ∀ p, Fr [] w p → Calls Tryz.prog 7 #[U, .int .i64 n] p fun r w' => ∃ u, r = .returned u ∧ OwnI 3 p.heap.size w' u (intL S) ∧ Fr [] p w')
    (ham : loc.length ≤ 60 → ev.length ≤ 60 → ∀ p, Fr [] w p → Calls Tryz.prog 8 #[.agg #[.int .i64 lg, U, V], .int .i64 n, .int .i64 pl] p fun r w' => r = .returned (.tuple #[.int .u8 (A.toNat : Int), EV]) ∧ Fr [] p w')
    (hnu : ∀ p, Fr [] w p → Calls Tryz.prog 11 #[EV] p fun r w' => r = .returned (.int .i64 (K : Int)) ∧ Fr [] p w')
    (hun : ¬ (33 ≤ n ∧ n ≤ 255) → S = [] ∧ A = 0 ∧ K = 8)
    (hss : 33 ≤ n ∧ n ≤ 255 → S = srch loc n.toNat)
    (hbad : 33 ≤ n ∧ n ≤ 255 → pl < 0 ∨ n ≤ pl → A = 0 ∧ K = 1)
    (hgood : 33 ≤ n ∧ n ≤ 255 → 0 ≤ pl → pl < n → (slpV loc n.toNat pl.toNat = 0 ∧ A = 0 ∧ K = 20) ∨ (slpV loc n.toNat pl.toNat ≠ 0 ∧ A = amtV loc ev n.toNat pl.toNat ∧ EV = .nilIface)) :
    Calls Tryz.prog 3 #[.agg #[.int .i64 lg, U, V], .agg #[.int .i64 n, .int .i64 pl], .agg #[.int .i64 e, .int .i64 t]] w fun r w' => r = .returned (.bool true) ∧ Fr [] w w' := by
  have HAL := Lib.hid (fun w' (h : Fr [] w w') => alive05_any all20 E B w' (hE.keep0 h) (by decide) (by decide) (by decide) (by decide) (by decide))
  have HU := Lib.hid hU
  have HV := Lib.hid hV
  obtain ⟨ua, uc, q, -⟩ := id hU
  subst q
  obtain ⟨va, vc, q, -⟩ := id hV
  subst q
  obtain ⟨UN, hUN⟩ : ∃ x, loc.length = x := ⟨_, rfl⟩
  obtain ⟨VN, hVN⟩ : ∃ x, ev.length = x := ⟨_, rfl⟩
  have HUN0 := Lib.hid hUN
  rw [hUN] at HU hse ham ⊢
  rw [hVN] at HV hse ham ⊢
  obtain ⟨w0, hw0⟩ : ∃ w0, (((w.alloc (.cells #[.int .i64 lg, .slice ua UN uc, .slice va VN vc] 24)).alloc (.cells #[.int .i64 n, .int .i64 pl] 25)).alloc (.cells #[.int .i64 e, .int .i64 t] 25)) = w0 := ⟨_, rfl⟩
  have HF0 := Lib.hid (show Fr [] w w0 by rw [← hw0]; exact ((Fr.alloc _ _).trans (Fr.alloc _ _)).trans (Fr.alloc _ _))
  have HX0 := Lib.hid (show At w0 w.heap.size (.cells #[.int .i64 lg, .slice ua UN uc, .slice va VN vc] 24) by rw [← hw0]; exact ((At.new rfl).al).al)
  have HA0 := Lib.hid (show At w0 (w.heap.size + 1) (.cells #[.int .i64 n, .int .i64 pl] 25) by rw [← hw0]; exact (At.new (by simp)).al)
  have HL0 := Lib.hid (show At w0 (w.heap.size + 1 + 1) (.cells #[.int .i64 e, .int .i64 t] 25) by rw [← hw0]; exact At.new (by simp))
  have HSE := Lib.hid (fun k1 k2 p (h : Fr [] w0 p) => hse k1 k2 p (HF0.out.trans h))
  have HAM := Lib.hid (fun k1 k2 p (h : Fr [] w0 p) => ham k1 k2 p (HF0.out.trans h))
  have HNU := Lib.hid (fun p (h : Fr [] w0 p) => hnu p (HF0.out.trans h))
  have HUN := Lib.hid hun
  have HSS := Lib.hid hss
  have HBAD := Lib.hid hbad
  have HGOOD := Lib.hid hgood
  clear hE hU hV hse ham hnu hun hss hbad hgood hUN hVN
  by_cases hl1 : UN ≤ 60
  · have hl1i : ¬ (60 : Int) < UN := by omega
    by_cases hl2 : VN ≤ 60
    · have hl2i : ¬ (60 : Int) < VN := by omega
      go_enter Tryz.func3, Tryz.ntmps3
      go_wp2_with (go_at_call 6; fail)
      try rw [hw0]
      clear hw0
      refine (HAL.out w0 HF0.out).mono ?_
      rintro e_ w1 ⟨rfl, hf⟩
      have HF1 := Lib.hid hf
      have c1 := (HX0.out.keep0 HF1.out).cell 1
      have c2 := (HX0.out.keep0 HF1.out).cell 2
      have d0 := (HA0.out.keep0 HF1.out).cell 0
      have d1 := (HA0.out.keep0 HF1.out).cell 1
      have l0 := (HL0.out.keep0 HF1.out).cell 0
      have l1 := (HL0.out.keep0 HF1.out).cell 1
      simp only [List.getElem?_toArray, List.getElem?_cons_zero, List.getElem?_cons_succ] at c1 c2 d0 d1 l0 l1
      clear hf
      go_wp2
      go_quiet (fail)
      go_wp2_with (go_at_call 7; fail)
      refine (HSE.out hl1 hl2 (w1.drewN nq) (HF1.out.trans (Fr.of_heap rfl rfl rfl rfl))).mono ?_
      rintro e_ w2 ⟨u, rfl, ho, hf⟩
      have HF2 := Lib.hid ((HF1.out.trans (show Fr [] w1 (w1.drewN nq) from Fr.of_heap rfl rfl rfl rfl)).trans hf)
      obtain ⟨la, lc, q, -⟩ := (ho.is (A := fun _ => False) (by simp)).shape
      subst q
      rw [intL_len] at ho ⊢
      have HS2 := Lib.hid (ho.is (A := fun _ => False) (by simp))
      clear ho hf HF1 HSE
      clear c1 c2 d0 d1 l0 l1
      have c1 := (HX0.out.keep0 HF2.out).cell 1
      have c2 := (HX0.out.keep0 HF2.out).cell 2
      have d0 := (HA0.out.keep0 HF2.out).cell 0
      have d1 := (HA0.out.keep0 HF2.out).cell 1
      have l0 := (HL0.out.keep0 HF2.out).cell 0
      have l1 := (HL0.out.keep0 HF2.out).cell 1
      simp only [List.getElem?_toArray, List.getElem?_cons_zero, List.getElem?_cons_succ] at c1 c2 d0 d1 l0 l1
      go_wp2_with (first | (refine wpl_load_rowG (.tmp 3) rfl rfl w.heap.size #[.int .i64 lg, .slice ua UN uc, .slice va VN vc] rfl (HX0.out.keep0 HF2.out) Tryz.underlying24 rfl (by kernel_rfl) ?_) | (go_at_call 8; fail))
      refine (HAM.out hl1 hl2 w2 HF2.out).mono ?_
      rintro e_ w3 ⟨rfl, hf⟩
      have HF3 := Lib.hid (HF2.out.trans hf)
      have HS3 := Lib.hid (HS2.out.keep0 hf)
      clear hf HF2 HS2 HAM
      clear c1 c2 d0 d1 l0 l1
      have c1 := (HX0.out.keep0 HF3.out).cell 1
      have c2 := (HX0.out.keep0 HF3.out).cell 2
      have d0 := (HA0.out.keep0 HF3.out).cell 0
      have d1 := (HA0.out.keep0 HF3.out).cell 1
      have l0 := (HL0.out.keep0 HF3.out).cell 0
      have l1 := (HL0.out.keep0 HF3.out).cell 1
      simp only [List.getElem?_toArray, List.getElem?_cons_zero, List.getElem?_cons_succ] at c1 c2 d0 d1 l0 l1
      go_wp2
      have fz : Fr [] w3 (w3.alloc (.cells #[.int .i64 e, .int .i64 t, .int .i64 t] 3)) := Fr.alloc _ _
      have az : At (w3.alloc (.cells #[.int .i64 e, .int .i64 t, .int .i64 t] 3)) w3.heap.size (.cells #[.int .i64 e, .int .i64 t, .int .i64 t] 3) := At.new rfl
      have z0 := az.cell 0
      have z1 := az.cell 1
      have z2 := az.cell 2
      simp only [List.getElem?_toArray, List.getElem?_cons_zero, List.getElem?_cons_succ] at z0 z1 z2
      have HFz := Lib.hid (HF3.out.trans fz)
      have HSz := Lib.hid (HS3.out.keep0 fz)
      obtain ⟨wz, hwz⟩ : ∃ x, w3.alloc (.cells #[.int .i64 e, .int .i64 t, .int .i64 t] 3) = x := ⟨_, rfl⟩
      rw [hwz] at z0 z1 z2 HFz HSz ⊢
      have HCE := Lib.hid (clp_ways e)
      have HCT := Lib.hid (clp_ways t)
      have HSP := Lib.hid (fun w' => spare_any w' e t)
      have hsv : spareV e t = if 32 - clp e - clp t - clp t < 0 then 0 else 32 - clp e - clp t - clp t := rfl
      obtain ⟨c, hc⟩ : ∃ c, clp e = c := ⟨_, rfl⟩
      obtain ⟨d, hd⟩ : ∃ c, clp t = c := ⟨_, rfl⟩
      rw [hc] at HCE hsv
      rw [hd] at HCT hsv
      have cb0 : 0 ≤ c := by have := HCE.out; omega
      have cb1 : c ≤ 32 := by have := HCE.out; omega
      have db0 : 0 ≤ d := by have := HCT.out; omega
      have db1 : d ≤ 32 := by have := HCT.out; omega
      obtain ⟨SV, hSV⟩ : ∃ x, spareV e t = x := ⟨_, rfl⟩
      rw [hSV] at HSP hsv
      have HSV := Lib.hid hsv
      clear hc hd hSV hwz fz az hsv HF3 HS3
      clear c1 c2 d0 d1 l0 l1
      go_loopw [12, 57] (fun l i wr => ∃ (j : Nat) (z : Int), i = .int .i64 j ∧ l = .int .i64 z ∧ ((j = 0 ∧ z = 32) ∨ (j = 1 ∧ z = 32 - c) ∨ (j = 2 ∧ z = 32 - c - d) ∨ (j = 3 ∧ z = 32 - c - d - d)) ∧ wr = wz) (fun _ i _ => 3 - (intOf i).toNat)
      case atStart => exact ⟨0, 32, rfl, rfl, .inl ⟨rfl, rfl⟩, rfl⟩
      case round =>
        obtain ⟨j, z, rfl, rfl, hj, rfl⟩ := hrel
        rcases hj with ⟨rfl, rfl⟩ | ⟨rfl, rfl⟩ | ⟨rfl, rfl⟩ | ⟨rfl, rfl⟩
        · rcases HCE.out with ⟨h1, h2⟩ | ⟨h1, h2, h3⟩ | ⟨h1, h2⟩
          · have g1 : ¬ (32 : Int) < e := by omega
            have g2 : ¬ (0 : Int) < e := by omega
            go_wp2
            go_roundw
            case rel => exact ⟨1, 32 - c, rfl, by congr 1; omega, .inr (.inl ⟨rfl, rfl⟩), by first | rfl | trivial⟩
            case measure => simp [intOf]
          · have g1 : ¬ (32 : Int) < e := by omega
            by_cases g2 : (0 : Int) < e
            · go_wp2
              go_roundw
              case rel => exact ⟨1, 32 - c, rfl, by congr 1; omega, .inr (.inl ⟨rfl, rfl⟩), by first | rfl | trivial⟩
              case measure => simp [intOf]
            · go_wp2
              go_roundw
              case rel => exact ⟨1, 32 - c, rfl, by congr 1; omega, .inr (.inl ⟨rfl, rfl⟩), by first | rfl | trivial⟩
              case measure => simp [intOf]
          · go_wp2
            go_roundw
            case rel => exact ⟨1, 32 - c, rfl, by congr 1; omega, .inr (.inl ⟨rfl, rfl⟩), by first | rfl | trivial⟩
            case measure => simp [intOf]
        · rcases HCT.out with ⟨h1, h2⟩ | ⟨h1, h2, h3⟩ | ⟨h1, h2⟩
          · have g1 : ¬ (32 : Int) < t := by omega
            have g2 : ¬ (0 : Int) < t := by omega
            go_wp2
            go_roundw
            case rel => exact ⟨2, 32 - c - d, rfl, by congr 1; omega, .inr (.inr (.inl ⟨rfl, rfl⟩)), by first | rfl | trivial⟩
            case measure => simp [intOf]
          · have g1 : ¬ (32 : Int) < t := by omega
            by_cases g2 : (0 : Int) < t
            · go_wp2
              go_roundw
              case rel => exact ⟨2, 32 - c - d, rfl, by congr 1; omega, .inr (.inr (.inl ⟨rfl, rfl⟩)), by first | rfl | trivial⟩
              case measure => simp [intOf]
            · go_wp2
              go_roundw
              case rel => exact ⟨2, 32 - c - d, rfl, by congr 1; omega, .inr (.inr (.inl ⟨rfl, rfl⟩)), by first | rfl | trivial⟩
              case measure => simp [intOf]
          · go_wp2
            go_roundw
            case rel => exact ⟨2, 32 - c - d, rfl, by congr 1; omega, .inr (.inr (.inl ⟨rfl, rfl⟩)), by first | rfl | trivial⟩
            case measure => simp [intOf]
        · rcases HCT.out with ⟨h1, h2⟩ | ⟨h1, h2, h3⟩ | ⟨h1, h2⟩
          · have g1 : ¬ (32 : Int) < t := by omega
            have g2 : ¬ (0 : Int) < t := by omega
            go_wp2
            go_roundw
            case rel => exact ⟨3, 32 - c - d - d, rfl, by congr 1; omega, .inr (.inr (.inr ⟨rfl, rfl⟩)), by first | rfl | trivial⟩
            case measure => simp [intOf]
          · have g1 : ¬ (32 : Int) < t := by omega
            by_cases g2 : (0 : Int) < t
            · go_wp2
              go_roundw
              case rel => exact ⟨3, 32 - c - d - d, rfl, by congr 1; omega, .inr (.inr (.inr ⟨rfl, rfl⟩)), by first | rfl | trivial⟩
              case measure => simp [intOf]
            · go_wp2
              go_roundw
              case rel => exact ⟨3, 32 - c - d - d, rfl, by congr 1; omega, .inr (.inr (.inr ⟨rfl, rfl⟩)), by first | rfl | trivial⟩
              case measure => simp [intOf]
          · go_wp2
            go_roundw
            case rel => exact ⟨3, 32 - c - d - d, rfl, by congr 1; omega, .inr (.inr (.inr ⟨rfl, rfl⟩)), by first | rfl | trivial⟩
            case measure => simp [intOf]
        · clear z0 z1 z2
          have c1 := (HX0.out.keep0 HFz.out).cell 1
          have c2 := (HX0.out.keep0 HFz.out).cell 2
          have d0 := (HA0.out.keep0 HFz.out).cell 0
          have d1 := (HA0.out.keep0 HFz.out).cell 1
          have l0 := (HL0.out.keep0 HFz.out).cell 0
          have l1 := (HL0.out.keep0 HFz.out).cell 1
          simp only [List.getElem?_toArray, List.getElem?_cons_zero, List.getElem?_cons_succ] at c1 c2 d0 d1 l0 l1
          by_cases hz : (32 : Int) - c - d - d < 0
          · have HV0 := Lib.hid (show SV = 0 by rw [HSV.out, if_pos hz])
            rw [HV0.out] at HSP
            go_wp2_with (go_at_call 9; fail)
            refine (HSP.out wr).mono ?_
            rintro e_ w4 ⟨rfl, hf⟩
            have HF4 := Lib.hid (HFz.out.trans hf)
            have HS4 := Lib.hid (HSz.out.keep0 hf)
            clear hf
            have c1 := (HX0.out.keep0 HF4.out).cell 1
            have c2 := (HX0.out.keep0 HF4.out).cell 2
            have d0 := (HA0.out.keep0 HF4.out).cell 0
            have d1 := (HA0.out.keep0 HF4.out).cell 1
            have l0 := (HL0.out.keep0 HF4.out).cell 0
            have l1 := (HL0.out.keep0 HF4.out).cell 1
            simp only [List.getElem?_toArray, List.getElem?_cons_zero, List.getElem?_cons_succ] at c1 c2 d0 d1 l0 l1
            go_wp2_with (go_at_call 10; fail)
            refine (r3sized_any w4 n).mono ?_
            rintro e_ w5 ⟨rfl, rfl⟩
            by_cases hsz : 33 ≤ n ∧ n ≤ 255
            · rw [decide_eq_true hsz]
              obtain ⟨N, rfl⟩ : ∃ N : Nat, n = (N : Int) := ⟨n.toNat, by omega⟩
              have hN33 : 33 ≤ N := by omega
              have hN255 : N ≤ 255 := by omega
              have hse2 := HSS.out hsz
              rw [Int.toNat_natCast] at hse2
              subst hse2
              have HB2 := Lib.hid (HBAD.out hsz)
              have HG2 := Lib.hid (HGOOD.out hsz)
              rw [Int.toNat_natCast] at HG2
              have HSB0 := Lib.hid (show (sbel loc N 0).length = 0 from rfl)
              have HSBU := Lib.hid (sbel_up loc N)
              have HSBA := Lib.hid (fun p hp h => @sbel_at loc N p hp h)
              have HSBE := Lib.hid (show (sbel loc N N).length = (srch loc N).length from rfl)
              have HSBL := Lib.hid (sbel_le loc N)
              obtain ⟨SB, hSB⟩ : ∃ f, sbel loc N = f := ⟨_, rfl⟩
              rw [hSB] at HSB0 HSBU HSBA HSBE HSBL
              obtain ⟨SR, hSR⟩ : ∃ f, srch loc N = f := ⟨_, rfl⟩
              rw [hSR] at HS4 HSBA HSBE ⊢
              obtain ⟨SN, hSN⟩ : ∃ x, SR.length = x := ⟨_, rfl⟩
              have HSN := Lib.hid hSN
              rw [hSN] at HS4 HSBE ⊢
              clear hSB hSR hSN hsz l0 l1 d0 d1
              go_wp2
              go_loopw [15, 16] (fun kk pp wr => ∃ p : Nat, p ≤ N ∧ pp = .int .i64 p ∧ kk = .int .i64 ((SB p).length : Int) ∧ Hid (Fr [] w5 wr)) (fun _ pp _ => N - (intOf pp).toNat)
              case atStart => exact ⟨0, by omega, rfl, by rw [HSB0.out]; rfl, Fr.refl _ _⟩
              case round =>
                clear c1 c2
                obtain ⟨p, hp, rfl, rfl, HF⟩ := hrel
                obtain ⟨wl, rfl⟩ : ∃ wl, wl = wr := ⟨wr, rfl⟩
                have HFw := Lib.hid (HF4.out.trans HF.out)
                by_cases hpn : p < N
                · have hpi : (p : Int) < N := by omega
                  have c1 := (HX0.out.keep0 HFw.out).cell 1
                  simp only [List.getElem?_toArray, List.getElem?_cons_zero, List.getElem?_cons_succ] at c1
                  have HBU := Lib.hid (HU.out.keep (HF0.out.trans HFw.out) (by simp))
                  have hul := HSBU.out p
                  have hlk := HSBL.out p
                  by_cases hz : pev loc (ginv (plX N p)) = 0
                  · rw [if_pos hz] at hul
                    have hat := HSBA.out p hpn hz
                    have hulen : (SB (p + 1)).length = (SB p).length + 1 := by rw [hul, List.length_append]; rfl
                    have hlt : (SB p).length < SN := by
                      have := (List.getElem?_eq_some_iff.1 hat).1
                      rw [HSN.out] at this
                      exact this
                    have HUL := Lib.hid hulen
                    obtain ⟨sb, so, q, hsc⟩ := is_cell ((HS4.out.keep0 HF.out)) (SB p).length (p : Int) (by unfold intL; rw [List.getElem?_map, hat]; rfl)
                    subst q
                    obtain ⟨k, hk⟩ : ∃ k, (SB p).length = k := ⟨_, rfl⟩
                    rw [hk] at hlt HUL hsc hlk ⊢
                    have hki : (k : Int) < SN := by omega
                    clear hul hat hulen hk
                    go_wp2_with fail
                    refine rpt_root0 wl _ rfl w.heap.size UN uc ua (N : Int) p (plX N p) (ginv (plX N p)) c1 (fun p' hp' => r3power_any p' N p hN255 hpn) (fun p' hp' => rinv_any p' (plX N p)) (fun p' hp' => by
                      have h := reval_any (fun _ => False) p' _ loc (ginv (plX N p)) (HBU.out.keep hp' (by simp))
                      rw [hz] at h
                      exact h) rfl rfl rfl _ ?_
                    intro b pz q1 q2 q3 q105 hf
                    have hb2 := old_puts b _ [98, 99, 100, 101, 102, 103, 104, 105] q1 q2 q3
                    simp only [List.foldl_cons, List.foldl_nil] at hb2
                    rw [q105] at hb2
                    have HFp := Lib.hid (HF.out.trans hf)
                    have hsc2 := cell_mono hf hsc
                    clear q1 q2 q3 q105 hf hsc c1
                    generalize slot b 98 = s98 at hb2
                    generalize slot b 99 = s99 at hb2
                    generalize slot b 100 = s100 at hb2
                    generalize slot b 101 = s101 at hb2
                    generalize slot b 102 = s102 at hb2
                    generalize slot b 103 = s103 at hb2
                    generalize slot b 104 = s104 at hb2
                    subst hb2
                    simp only [Go.Act.put, List.setIfInBounds_toArray, List.set_cons_succ, List.set_cons_zero]
                    go_wp2
                    go_roundw
                    case rel => exact ⟨p + 1, by omega, by go_num, by rw [HUL.out]; go_num, HFp⟩
                    case measure => simp [intOf]; omega
                  · rw [if_neg hz, List.append_nil] at hul
                    have HUL := Lib.hid hul
                    have hzn : (pev loc (ginv (plX N p))).toNat ≠ 0 := fun h => hz (UInt8.toNat_inj.1 h)
                    clear hul
                    go_wp2_with fail
                    refine rpt_root1 wl _ rfl w.heap.size UN uc ua (N : Int) p (plX N p) (ginv (plX N p)) (pev loc (ginv (plX N p))) hzn c1 (fun p' hp' => r3power_any p' N p hN255 hpn) (fun p' hp' => rinv_any p' (plX N p)) (fun p' hp' => reval_any (fun _ => False) p' _ loc (ginv (plX N p)) (HBU.out.keep hp' (by simp))) rfl rfl rfl _ ?_
                    intro b pz q1 q2 q3 q105 hf
                    have hb2 := old_puts b _ [98, 99, 100, 101, 102, 103, 104, 105] q1 q2 q3
                    simp only [List.foldl_cons, List.foldl_nil] at hb2
                    rw [q105] at hb2
                    have HFp := Lib.hid (HF.out.trans hf)
                    clear q1 q2 q3 q105 hf c1
                    generalize slot b 98 = s98 at hb2
                    generalize slot b 99 = s99 at hb2
                    generalize slot b 100 = s100 at hb2
                    generalize slot b 101 = s101 at hb2
                    generalize slot b 102 = s102 at hb2
                    generalize slot b 103 = s103 at hb2
                    generalize slot b 104 = s104 at hb2
                    subst hb2
                    simp only [Go.Act.put, List.setIfInBounds_toArray, List.set_cons_succ, List.set_cons_zero]
                    go_wp2
                    go_roundw
                    case rel => exact ⟨p + 1, by omega, by go_num, by rw [HUL.out], HFp⟩
                    case measure => simp [intOf]; omega
                · have hpi : ¬ (p : Int) < N := by omega
                  obtain rfl : p = N := by omega
                  rw [HSBE.out]
                  by_cases hb : pl < 0 ∨ (p : Int) ≤ pl
                  · obtain ⟨k1, k2⟩ := HB2.out hb
                    subst k1
                    subst k2
                    by_cases hb0 : pl < 0
                    · clear hb
                      go_wp2_with (go_at_call 11; fail)
                      refine (HNU.out _ HFw.out).mono ?_
                      rintro e_ w6 ⟨rfl, hf⟩
                      have HF6 := Lib.hid ((HF0.out.trans HFw.out).trans hf)
                      clear hf
                      go_wp2
                      go_ret
                      exact ⟨rfl, HF6.out⟩
                    · have hb1 : (p : Int) ≤ pl := by omega
                      clear hb
                      go_wp2_with (go_at_call 11; fail)
                      refine (HNU.out _ HFw.out).mono ?_
                      rintro e_ w6 ⟨rfl, hf⟩
                      have HF6 := Lib.hid ((HF0.out.trans HFw.out).trans hf)
                      clear hf
                      go_wp2
                      go_ret
                      exact ⟨rfl, HF6.out⟩
                  · obtain ⟨P, rfl⟩ : ∃ P : Nat, pl = (P : Int) := ⟨pl.toNat, by omega⟩
                    have hPN : P < p := by omega
                    have hP0 : ¬ (P : Int) < 0 := by omega
                    have hP1 : ¬ (p : Int) ≤ P := by omega
                    have HG3 := Lib.hid (HG2.out (by omega) (by omega))
                    rw [Int.toNat_natCast] at HG3
                    have HPW := Lib.hid (fun w' => r3power_any w' p P hN255 hPN)
                    have HX := Lib.hid (show amtV loc ev p P = gmul (plX p P) (gmul (pev ev (ginv (plX p P))) (ginv (slpV loc p P))) from rfl)
                    have HY := Lib.hid (show slpV loc p P = pev (slp loc) (ginv (plX p P)) from rfl)
                    obtain ⟨x, hx⟩ : ∃ x, plX p P = x := ⟨_, rfl⟩
                    rw [hx] at HPW HX HY
                    obtain ⟨y, hy⟩ : ∃ y, ginv x = y := ⟨_, rfl⟩
                    have HIN := Lib.hid (fun w' => rinv_any w' x)
                    rw [hy] at HX HY HIN
                    clear hb hx hy
                    go_wp2_with (go_at_call 14; fail)
                    refine (HPW.out _).mono ?_
                    rintro e_ w6 ⟨rfl, hf⟩
                    have HF6 := Lib.hid (HFw.out.trans hf)
                    clear hf HPW
                    go_wp2_with (go_at_call 13; fail)
                    refine (HIN.out _).mono ?_
                    rintro e_ w7 ⟨rfl, hf⟩
                    have HF7 := Lib.hid (HF6.out.trans hf)
                    clear hf HIN HF6
                    have c1 := (HX0.out.keep0 HF7.out).cell 1
                    simp only [List.getElem?_toArray, List.getElem?_cons_zero, List.getElem?_cons_succ] at c1
                    have HK0 := Lib.hid (show slpK loc y 0 = 0 from rfl)
                    have HKU := Lib.hid (slpK_up loc y)
                    have HKE := Lib.hid (slpK_end loc y)
                    rw [HUN0.out] at HKU HKE
                    obtain ⟨SK, hSK⟩ : ∃ f, slpK loc y = f := ⟨_, rfl⟩
                    rw [hSK] at HK0 HKU HKE
                    clear hSK
                    go_wp2
                    go_loopw [19, 20] (fun aa ii wr => ∃ j : Nat, 2 * j ≤ UN + 1 ∧ ii = .int .i64 ((2 * j + 1 : Nat) : Int) ∧ aa = .int .u8 ((SK j).toNat : Int) ∧ Hid (Fr [] w7 wr)) (fun _ ii _ => UN + 4 - (intOf ii).toNat)
                    case atStart => exact ⟨0, by omega, rfl, by rw [HK0.out]; rfl, Fr.refl _ _⟩
                    case round =>
                      clear c1
                      obtain ⟨j, hj, rfl, rfl, HF8⟩ := hrel
                      obtain ⟨wm, rfl⟩ : ∃ wl, wl = wr := ⟨wr, rfl⟩
                      have HFm := Lib.hid (HF7.out.trans HF8.out)
                      have c1 := (HX0.out.keep0 HFm.out).cell 1
                      simp only [List.getElem?_toArray, List.getElem?_cons_zero, List.getElem?_cons_succ] at c1
                      obtain ⟨i, hi⟩ : ∃ i, 2 * j + 1 = i := ⟨_, rfl⟩
                      have HII := Lib.hid hi
                      rw [hi]
                      by_cases hiu : i < UN
                      · have hii : (i : Int) < UN := by omega
                        obtain ⟨cc, hcc⟩ : ∃ x, loc[i]? = some x := ⟨_, List.getElem?_eq_getElem (by have := HUN0.out; omega)⟩
                        obtain ⟨ub, uo, q, hlc⟩ := bs_cell (HU.out.keep (HF0.out.trans HFm.out) (by simp)) i cc hcc
                        subst q
                        have hup := HKU.out j (by omega)
                        rw [hi, cf_get hcc] at hup
                        have HUP2 := Lib.hid hup
                        obtain ⟨a0, ha0⟩ : ∃ a, SK j = a := ⟨_, rfl⟩
                        rw [ha0] at HUP2 ⊢
                        have hij : i = 2 * j + 1 := hi.symm
                        clear hcc hup ha0 hi
                        go_wp2_with fail
                        refine rpt_acc wm _ rfl w.heap.size UN uc ub uo i (2 * j) a0 y cc (gpw y (2 * j)) (gmul cc (gpw y (2 * j))) hiu hij (by omega) c1 hlc (fun p' hp' => rpow_any p' y (2 * j) (by omega)) (fun p' hp' => rmul_i p' cc (gpw y (2 * j))) rfl rfl rfl rfl _ ?_
                        intro b pz q1 q2 q3 q19 hf
                        have hb2 := old_puts b _ [150, 151, 152, 153, 154, 155, 156, 157, 158, 159, 160, 161, 19] q1 q2 q3
                        simp only [List.foldl_cons, List.foldl_nil] at hb2
                        rw [q19] at hb2
                        have HFp := Lib.hid (HF8.out.trans hf)
                        clear q1 q2 q3 q19 hf hlc c1
                        generalize slot b 150 = s150 at hb2
                        generalize slot b 151 = s151 at hb2
                        generalize slot b 152 = s152 at hb2
                        generalize slot b 153 = s153 at hb2
                        generalize slot b 154 = s154 at hb2
                        generalize slot b 155 = s155 at hb2
                        generalize slot b 156 = s156 at hb2
                        generalize slot b 157 = s157 at hb2
                        generalize slot b 158 = s158 at hb2
                        generalize slot b 159 = s159 at hb2
                        generalize slot b 160 = s160 at hb2
                        generalize slot b 161 = s161 at hb2
                        subst hb2
                        simp only [Go.Act.put, List.setIfInBounds_toArray, List.set_cons_succ, List.set_cons_zero]
                        clear hij
                        go_wp2
                        go_roundw
                        case rel => exact ⟨j + 1, by have := HII.out; omega, by have := HII.out; go_num, by rw [HUP2.out], HFp⟩
                        case measure => simp [intOf]; have := HII.out; omega
                      · have hii : ¬ (i : Int) < UN := by omega
                        have hend := HKE.out j (by have := HII.out; omega)
                        rw [hend, ← HY.out]
                        have HF9 := Lib.hid (HF0.out.trans HFm.out)
                        have c2 := (HX0.out.keep0 HFm.out).cell 2
                        simp only [List.getElem?_toArray, List.getElem?_cons_zero, List.getElem?_cons_succ] at c2
                        rcases HG3.out with ⟨g1, g2, g3⟩ | ⟨g1, g2, g3⟩
                        · rw [g1]
                          subst g2
                          subst g3
                          clear g1 hend hi
                          go_wp2_with (go_at_call 11; fail)
                          refine (HNU.out _ HFm.out).mono ?_
                          rintro e_ w8 ⟨rfl, hf⟩
                          have HFe := Lib.hid (HF9.out.trans hf)
                          clear hf
                          go_wp2
                          go_ret
                          exact ⟨rfl, HFe.out⟩
                        · subst g3
                          rw [HX.out] at g2
                          obtain ⟨sv, hsv⟩ : ∃ s, slpV loc p P = s := ⟨_, rfl⟩
                          rw [hsv] at g1 g2 ⊢
                          have hsn : sv.toNat ≠ 0 := fun h => g1 (UInt8.toNat_inj.1 h)
                          have HEV := Lib.hid (reval_any (fun _ => False) wm _ ev y (HV.out.keep HF9.out (by simp)))
                          obtain ⟨av, hav⟩ : ∃ s, pev ev y = s := ⟨_, rfl⟩
                          rw [hav] at g2 HEV
                          have HA := Lib.hid g2
                          clear g1 g2 hsv hav hend hi
                          go_wp2_with (go_at_call 12; fail)
                          refine HEV.out.mono ?_
                          rintro e_ w8 ⟨rfl, hf⟩
                          have HF10 := Lib.hid (HF9.out.trans hf)
                          clear hf HEV c1 c2
                          go_wp2_with (go_at_call 13; fail)
                          refine (rinv_any w8 sv).mono ?_
                          rintro e_ w9 ⟨rfl, hf⟩
                          have HF11 := Lib.hid (HF10.out.trans hf)
                          clear hf HF10
                          go_wp2_with (go_at_call 15; fail)
                          refine (rmul_i w9 av (ginv sv)).mono ?_
                          rintro e_ w10 ⟨rfl, hf⟩
                          have HF12 := Lib.hid (HF11.out.trans hf)
                          clear hf HF11
                          go_wp2_with (go_at_call 15; fail)
                          refine (rmul_i w10 x (gmul av (ginv sv))).mono ?_
                          rintro e_ w11 ⟨rfl, hf⟩
                          have HF13 := Lib.hid (HF12.out.trans hf)
                          clear hf HF12
                          rw [← HA.out]
                          go_wp2
                          go_ret
                          exact ⟨rfl, HF13.out⟩
            · rw [decide_eq_false hsz]
              obtain ⟨k1, k2, k3⟩ := HUN.out hsz
              subst k1
              subst k2
              subst k3
              clear hsz
              go_wp2_with (go_at_call 11; fail)
              refine (HNU.out _ HF4.out).mono ?_
              rintro e_ w6 ⟨rfl, hf⟩
              have HF6 := Lib.hid ((HF0.out.trans HF4.out).trans hf)
              clear hf
              go_wp2
              go_ret
              exact ⟨rfl, HF6.out⟩
          · have HV0 := Lib.hid (show SV = 32 - c - d - d by rw [HSV.out, if_neg hz])
            rw [HV0.out] at HSP
            go_wp2_with (go_at_call 9; fail)
            refine (HSP.out wr).mono ?_
            rintro e_ w4 ⟨rfl, hf⟩
            have HF4 := Lib.hid (HFz.out.trans hf)
            have HS4 := Lib.hid (HSz.out.keep0 hf)
            clear hf
            have c1 := (HX0.out.keep0 HF4.out).cell 1
            have c2 := (HX0.out.keep0 HF4.out).cell 2
            have d0 := (HA0.out.keep0 HF4.out).cell 0
            have d1 := (HA0.out.keep0 HF4.out).cell 1
            have l0 := (HL0.out.keep0 HF4.out).cell 0
            have l1 := (HL0.out.keep0 HF4.out).cell 1
            simp only [List.getElem?_toArray, List.getElem?_cons_zero, List.getElem?_cons_succ] at c1 c2 d0 d1 l0 l1
            go_wp2_with (go_at_call 10; fail)
            refine (r3sized_any w4 n).mono ?_
            rintro e_ w5 ⟨rfl, rfl⟩
            by_cases hsz : 33 ≤ n ∧ n ≤ 255
            · rw [decide_eq_true hsz]
              obtain ⟨N, rfl⟩ : ∃ N : Nat, n = (N : Int) := ⟨n.toNat, by omega⟩
              have hN33 : 33 ≤ N := by omega
              have hN255 : N ≤ 255 := by omega
              have hse2 := HSS.out hsz
              rw [Int.toNat_natCast] at hse2
              subst hse2
              have HB2 := Lib.hid (HBAD.out hsz)
              have HG2 := Lib.hid (HGOOD.out hsz)
              rw [Int.toNat_natCast] at HG2
              have HSB0 := Lib.hid (show (sbel loc N 0).length = 0 from rfl)
              have HSBU := Lib.hid (sbel_up loc N)
              have HSBA := Lib.hid (fun p hp h => @sbel_at loc N p hp h)
              have HSBE := Lib.hid (show (sbel loc N N).length = (srch loc N).length from rfl)
              have HSBL := Lib.hid (sbel_le loc N)
              obtain ⟨SB, hSB⟩ : ∃ f, sbel loc N = f := ⟨_, rfl⟩
              rw [hSB] at HSB0 HSBU HSBA HSBE HSBL
              obtain ⟨SR, hSR⟩ : ∃ f, srch loc N = f := ⟨_, rfl⟩
              rw [hSR] at HS4 HSBA HSBE ⊢
              obtain ⟨SN, hSN⟩ : ∃ x, SR.length = x := ⟨_, rfl⟩
              have HSN := Lib.hid hSN
              rw [hSN] at HS4 HSBE ⊢
              clear hSB hSR hSN hsz l0 l1 d0 d1
              go_wp2
              go_loopw [15, 16] (fun kk pp wr => ∃ p : Nat, p ≤ N ∧ pp = .int .i64 p ∧ kk = .int .i64 ((SB p).length : Int) ∧ Hid (Fr [] w5 wr)) (fun _ pp _ => N - (intOf pp).toNat)
              case atStart => exact ⟨0, by omega, rfl, by rw [HSB0.out]; rfl, Fr.refl _ _⟩
              case round =>
                clear c1 c2
                obtain ⟨p, hp, rfl, rfl, HF⟩ := hrel
                obtain ⟨wl, rfl⟩ : ∃ wl, wl = wr := ⟨wr, rfl⟩
                have HFw := Lib.hid (HF4.out.trans HF.out)
                by_cases hpn : p < N
                · have hpi : (p : Int) < N := by omega
                  have c1 := (HX0.out.keep0 HFw.out).cell 1
                  simp only [List.getElem?_toArray, List.getElem?_cons_zero, List.getElem?_cons_succ] at c1
                  have HBU := Lib.hid (HU.out.keep (HF0.out.trans HFw.out) (by simp))
                  have hul := HSBU.out p
                  have hlk := HSBL.out p
                  by_cases hz : pev loc (ginv (plX N p)) = 0
                  · rw [if_pos hz] at hul
                    have hat := HSBA.out p hpn hz
                    have hulen : (SB (p + 1)).length = (SB p).length + 1 := by rw [hul, List.length_append]; rfl
                    have hlt : (SB p).length < SN := by
                      have := (List.getElem?_eq_some_iff.1 hat).1
                      rw [HSN.out] at this
                      exact this
                    have HUL := Lib.hid hulen
                    obtain ⟨sb, so, q, hsc⟩ := is_cell ((HS4.out.keep0 HF.out)) (SB p).length (p : Int) (by unfold intL; rw [List.getElem?_map, hat]; rfl)
                    subst q
                    obtain ⟨k, hk⟩ : ∃ k, (SB p).length = k := ⟨_, rfl⟩
                    rw [hk] at hlt HUL hsc hlk ⊢
                    have hki : (k : Int) < SN := by omega
                    clear hul hat hulen hk
                    go_wp2_with fail
                    refine rpt_root0 wl _ rfl w.heap.size UN uc ua (N : Int) p (plX N p) (ginv (plX N p)) c1 (fun p' hp' => r3power_any p' N p hN255 hpn) (fun p' hp' => rinv_any p' (plX N p)) (fun p' hp' => by
                      have h := reval_any (fun _ => False) p' _ loc (ginv (plX N p)) (HBU.out.keep hp' (by simp))
                      rw [hz] at h
                      exact h) rfl rfl rfl _ ?_
                    intro b pz q1 q2 q3 q105 hf
                    have hb2 := old_puts b _ [98, 99, 100, 101, 102, 103, 104, 105] q1 q2 q3
                    simp only [List.foldl_cons, List.foldl_nil] at hb2
                    rw [q105] at hb2
                    have HFp := Lib.hid (HF.out.trans hf)
                    have hsc2 := cell_mono hf hsc
                    clear q1 q2 q3 q105 hf hsc c1
                    generalize slot b 98 = s98 at hb2
                    generalize slot b 99 = s99 at hb2
                    generalize slot b 100 = s100 at hb2
                    generalize slot b 101 = s101 at hb2
                    generalize slot b 102 = s102 at hb2
                    generalize slot b 103 = s103 at hb2
                    generalize slot b 104 = s104 at hb2
                    subst hb2
                    simp only [Go.Act.put, List.setIfInBounds_toArray, List.set_cons_succ, List.set_cons_zero]
                    go_wp2
                    go_roundw
                    case rel => exact ⟨p + 1, by omega, by go_num, by rw [HUL.out]; go_num, HFp⟩
                    case measure => simp [intOf]; omega
                  · rw [if_neg hz, List.append_nil] at hul
                    have HUL := Lib.hid hul
                    have hzn : (pev loc (ginv (plX N p))).toNat ≠ 0 := fun h => hz (UInt8.toNat_inj.1 h)
                    clear hul
                    go_wp2_with fail
                    refine rpt_root1 wl _ rfl w.heap.size UN uc ua (N : Int) p (plX N p) (ginv (plX N p)) (pev loc (ginv (plX N p))) hzn c1 (fun p' hp' => r3power_any p' N p hN255 hpn) (fun p' hp' => rinv_any p' (plX N p)) (fun p' hp' => reval_any (fun _ => False) p' _ loc (ginv (plX N p)) (HBU.out.keep hp' (by simp))) rfl rfl rfl _ ?_
                    intro b pz q1 q2 q3 q105 hf
                    have hb2 := old_puts b _ [98, 99, 100, 101, 102, 103, 104, 105] q1 q2 q3
                    simp only [List.foldl_cons, List.foldl_nil] at hb2
                    rw [q105] at hb2
                    have HFp := Lib.hid (HF.out.trans hf)
                    clear q1 q2 q3 q105 hf c1
                    generalize slot b 98 = s98 at hb2
                    generalize slot b 99 = s99 at hb2
                    generalize slot b 100 = s100 at hb2
                    generalize slot b 101 = s101 at hb2
                    generalize slot b 102 = s102 at hb2
                    generalize slot b 103 = s103 at hb2
                    generalize slot b 104 = s104 at hb2
                    subst hb2
                    simp only [Go.Act.put, List.setIfInBounds_toArray, List.set_cons_succ, List.set_cons_zero]
                    go_wp2
                    go_roundw
                    case rel => exact ⟨p + 1, by omega, by go_num, by rw [HUL.out], HFp⟩
                    case measure => simp [intOf]; omega
                · have hpi : ¬ (p : Int) < N := by omega
                  obtain rfl : p = N := by omega
                  rw [HSBE.out]
                  by_cases hb : pl < 0 ∨ (p : Int) ≤ pl
                  · obtain ⟨k1, k2⟩ := HB2.out hb
                    subst k1
                    subst k2
                    by_cases hb0 : pl < 0
                    · clear hb
                      go_wp2_with (go_at_call 11; fail)
                      refine (HNU.out _ HFw.out).mono ?_
                      rintro e_ w6 ⟨rfl, hf⟩
                      have HF6 := Lib.hid ((HF0.out.trans HFw.out).trans hf)
                      clear hf
                      go_wp2
                      go_ret
                      exact ⟨rfl, HF6.out⟩
                    · have hb1 : (p : Int) ≤ pl := by omega
                      clear hb
                      go_wp2_with (go_at_call 11; fail)
                      refine (HNU.out _ HFw.out).mono ?_
                      rintro e_ w6 ⟨rfl, hf⟩
                      have HF6 := Lib.hid ((HF0.out.trans HFw.out).trans hf)
                      clear hf
                      go_wp2
                      go_ret
                      exact ⟨rfl, HF6.out⟩
                  · obtain ⟨P, rfl⟩ : ∃ P : Nat, pl = (P : Int) := ⟨pl.toNat, by omega⟩
                    have hPN : P < p := by omega
                    have hP0 : ¬ (P : Int) < 0 := by omega
                    have hP1 : ¬ (p : Int) ≤ P := by omega
                    have HG3 := Lib.hid (HG2.out (by omega) (by omega))
                    rw [Int.toNat_natCast] at HG3
                    have HPW := Lib.hid (fun w' => r3power_any w' p P hN255 hPN)
                    have HX := Lib.hid (show amtV loc ev p P = gmul (plX p P) (gmul (pev ev (ginv (plX p P))) (ginv (slpV loc p P))) from rfl)
                    have HY := Lib.hid (show slpV loc p P = pev (slp loc) (ginv (plX p P)) from rfl)
                    obtain ⟨x, hx⟩ : ∃ x, plX p P = x := ⟨_, rfl⟩
                    rw [hx] at HPW HX HY
                    obtain ⟨y, hy⟩ : ∃ y, ginv x = y := ⟨_, rfl⟩
                    have HIN := Lib.hid (fun w' => rinv_any w' x)
                    rw [hy] at HX HY HIN
                    clear hb hx hy
                    go_wp2_with (go_at_call 14; fail)
                    refine (HPW.out _).mono ?_
                    rintro e_ w6 ⟨rfl, hf⟩
                    have HF6 := Lib.hid (HFw.out.trans hf)
                    clear hf HPW
                    go_wp2_with (go_at_call 13; fail)
                    refine (HIN.out _).mono ?_
                    rintro e_ w7 ⟨rfl, hf⟩
                    have HF7 := Lib.hid (HF6.out.trans hf)
                    clear hf HIN HF6
                    have c1 := (HX0.out.keep0 HF7.out).cell 1
                    simp only [List.getElem?_toArray, List.getElem?_cons_zero, List.getElem?_cons_succ] at c1
                    have HK0 := Lib.hid (show slpK loc y 0 = 0 from rfl)
                    have HKU := Lib.hid (slpK_up loc y)
                    have HKE := Lib.hid (slpK_end loc y)
                    rw [HUN0.out] at HKU HKE
                    obtain ⟨SK, hSK⟩ : ∃ f, slpK loc y = f := ⟨_, rfl⟩
                    rw [hSK] at HK0 HKU HKE
                    clear hSK
                    go_wp2
                    go_loopw [19, 20] (fun aa ii wr => ∃ j : Nat, 2 * j ≤ UN + 1 ∧ ii = .int .i64 ((2 * j + 1 : Nat) : Int) ∧ aa = .int .u8 ((SK j).toNat : Int) ∧ Hid (Fr [] w7 wr)) (fun _ ii _ => UN + 4 - (intOf ii).toNat)
                    case atStart => exact ⟨0, by omega, rfl, by rw [HK0.out]; rfl, Fr.refl _ _⟩
                    case round =>
                      clear c1
                      obtain ⟨j, hj, rfl, rfl, HF8⟩ := hrel
                      obtain ⟨wm, rfl⟩ : ∃ wl, wl = wr := ⟨wr, rfl⟩
                      have HFm := Lib.hid (HF7.out.trans HF8.out)
                      have c1 := (HX0.out.keep0 HFm.out).cell 1
                      simp only [List.getElem?_toArray, List.getElem?_cons_zero, List.getElem?_cons_succ] at c1
                      obtain ⟨i, hi⟩ : ∃ i, 2 * j + 1 = i := ⟨_, rfl⟩
                      have HII := Lib.hid hi
                      rw [hi]
                      by_cases hiu : i < UN
                      · have hii : (i : Int) < UN := by omega
                        obtain ⟨cc, hcc⟩ : ∃ x, loc[i]? = some x := ⟨_, List.getElem?_eq_getElem (by have := HUN0.out; omega)⟩
                        obtain ⟨ub, uo, q, hlc⟩ := bs_cell (HU.out.keep (HF0.out.trans HFm.out) (by simp)) i cc hcc
                        subst q
                        have hup := HKU.out j (by omega)
                        rw [hi, cf_get hcc] at hup
                        have HUP2 := Lib.hid hup
                        obtain ⟨a0, ha0⟩ : ∃ a, SK j = a := ⟨_, rfl⟩
                        rw [ha0] at HUP2 ⊢
                        have hij : i = 2 * j + 1 := hi.symm
                        clear hcc hup ha0 hi
                        go_wp2_with fail
                        refine rpt_acc wm _ rfl w.heap.size UN uc ub uo i (2 * j) a0 y cc (gpw y (2 * j)) (gmul cc (gpw y (2 * j))) hiu hij (by omega) c1 hlc (fun p' hp' => rpow_any p' y (2 * j) (by omega)) (fun p' hp' => rmul_i p' cc (gpw y (2 * j))) rfl rfl rfl rfl _ ?_
                        intro b pz q1 q2 q3 q19 hf
                        have hb2 := old_puts b _ [150, 151, 152, 153, 154, 155, 156, 157, 158, 159, 160, 161, 19] q1 q2 q3
                        simp only [List.foldl_cons, List.foldl_nil] at hb2
                        rw [q19] at hb2
                        have HFp := Lib.hid (HF8.out.trans hf)
                        clear q1 q2 q3 q19 hf hlc c1
                        generalize slot b 150 = s150 at hb2
                        generalize slot b 151 = s151 at hb2
                        generalize slot b 152 = s152 at hb2
                        generalize slot b 153 = s153 at hb2
                        generalize slot b 154 = s154 at hb2
                        generalize slot b 155 = s155 at hb2
                        generalize slot b 156 = s156 at hb2
                        generalize slot b 157 = s157 at hb2
                        generalize slot b 158 = s158 at hb2
                        generalize slot b 159 = s159 at hb2
                        generalize slot b 160 = s160 at hb2
                        generalize slot b 161 = s161 at hb2
                        subst hb2
                        simp only [Go.Act.put, List.setIfInBounds_toArray, List.set_cons_succ, List.set_cons_zero]
                        clear hij
                        go_wp2
                        go_roundw
                        case rel => exact ⟨j + 1, by have := HII.out; omega, by have := HII.out; go_num, by rw [HUP2.out], HFp⟩
                        case measure => simp [intOf]; have := HII.out; omega
                      · have hii : ¬ (i : Int) < UN := by omega
                        have hend := HKE.out j (by have := HII.out; omega)
                        rw [hend, ← HY.out]
                        have HF9 := Lib.hid (HF0.out.trans HFm.out)
                        have c2 := (HX0.out.keep0 HFm.out).cell 2
                        simp only [List.getElem?_toArray, List.getElem?_cons_zero, List.getElem?_cons_succ] at c2
                        rcases HG3.out with ⟨g1, g2, g3⟩ | ⟨g1, g2, g3⟩
                        · rw [g1]
                          subst g2
                          subst g3
                          clear g1 hend hi
                          go_wp2_with (go_at_call 11; fail)
                          refine (HNU.out _ HFm.out).mono ?_
                          rintro e_ w8 ⟨rfl, hf⟩
                          have HFe := Lib.hid (HF9.out.trans hf)
                          clear hf
                          go_wp2
                          go_ret
                          exact ⟨rfl, HFe.out⟩
                        · subst g3
                          rw [HX.out] at g2
                          obtain ⟨sv, hsv⟩ : ∃ s, slpV loc p P = s := ⟨_, rfl⟩
                          rw [hsv] at g1 g2 ⊢
                          have hsn : sv.toNat ≠ 0 := fun h => g1 (UInt8.toNat_inj.1 h)
                          have HEV := Lib.hid (reval_any (fun _ => False) wm _ ev y (HV.out.keep HF9.out (by simp)))
                          obtain ⟨av, hav⟩ : ∃ s, pev ev y = s := ⟨_, rfl⟩
                          rw [hav] at g2 HEV
                          have HA := Lib.hid g2
                          clear g1 g2 hsv hav hend hi
                          go_wp2_with (go_at_call 12; fail)
                          refine HEV.out.mono ?_
                          rintro e_ w8 ⟨rfl, hf⟩
                          have HF10 := Lib.hid (HF9.out.trans hf)
                          clear hf HEV c1 c2
                          go_wp2_with (go_at_call 13; fail)
                          refine (rinv_any w8 sv).mono ?_
                          rintro e_ w9 ⟨rfl, hf⟩
                          have HF11 := Lib.hid (HF10.out.trans hf)
                          clear hf HF10
                          go_wp2_with (go_at_call 15; fail)
                          refine (rmul_i w9 av (ginv sv)).mono ?_
                          rintro e_ w10 ⟨rfl, hf⟩
                          have HF12 := Lib.hid (HF11.out.trans hf)
                          clear hf HF11
                          go_wp2_with (go_at_call 15; fail)
                          refine (rmul_i w10 x (gmul av (ginv sv))).mono ?_
                          rintro e_ w11 ⟨rfl, hf⟩
                          have HF13 := Lib.hid (HF12.out.trans hf)
                          clear hf HF12
                          rw [← HA.out]
                          go_wp2
                          go_ret
                          exact ⟨rfl, HF13.out⟩
            · rw [decide_eq_false hsz]
              obtain ⟨k1, k2, k3⟩ := HUN.out hsz
              subst k1
              subst k2
              subst k3
              clear hsz
              go_wp2_with (go_at_call 11; fail)
              refine (HNU.out _ HF4.out).mono ?_
              rintro e_ w6 ⟨rfl, hf⟩
              have HF6 := Lib.hid ((HF0.out.trans HF4.out).trans hf)
              clear hf
              go_wp2
              go_ret
              exact ⟨rfl, HF6.out⟩
    · have hl2i : (60 : Int) < VN := by omega
      go_enter Tryz.func3, Tryz.ntmps3
      go_wp2_with (go_at_call 6; fail)
      try rw [hw0]
      clear hw0
      refine (HAL.out w0 HF0.out).mono ?_
      rintro e_ w1 ⟨rfl, hf⟩
      have HF1 := Lib.hid (HF0.out.trans hf)
      have c1 := (HX0.out.keep0 hf).cell 1
      have c2 := (HX0.out.keep0 hf).cell 2
      simp only [List.getElem?_toArray, List.getElem?_cons_zero, List.getElem?_cons_succ] at c1 c2
      clear hf
      go_wp2
      go_ret
      exact ⟨rfl, HF1.out⟩
  · have hl1i : (60 : Int) < UN := by omega
    go_enter Tryz.func3, Tryz.ntmps3
    go_wp2_with (go_at_call 6; fail)
    try rw [hw0]
    clear hw0
    refine (HAL.out w0 HF0.out).mono ?_
    rintro e_ w1 ⟨rfl, hf⟩
    have HF1 := Lib.hid (HF0.out.trans hf)
    have c1 := (HX0.out.keep0 hf).cell 1
    have c2 := (HX0.out.keep0 hf).cell 2
    simp only [List.getElem?_toArray, List.getElem?_cons_zero, List.getElem?_cons_succ] at c1 c2
    clear hf
    go_wp2
    go_ret
    exact ⟨rfl, HF1.out⟩
end Go.Proofs.YtfblhdomjnffcaaGreatDoor
