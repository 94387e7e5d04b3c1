/-
  Layer 4: locate.Erasures of any places: the locator, or the error.
-/
import Derived.Test.YtfblhdomjnffcaaDoorEra
import Derived.BigQuiet
namespace Go.Proofs.YtfblhdomjnffcaaDoor
open Go.RowKit Go.Bl
set_option linter.unusedVariables false
theorem cpower_i (w : World) (n p : Int) (h1 : 33 ≤ n) (h2 : n ≤ 255) (h0 : 0 ≤ p) (hp : p < n) : Calls Tryd.prog 55 #[.int .i64 n, .int .i64 p] w fun e w' => e = .returned (.int .u8 ((plX n.toNat p.toNat).toNat : Int)) ∧ Fr [] w w' := by
  have h := cpower_any w n.toNat p.toNat (by omega) (by omega) (by omega)
  rwa [Int.toNat_of_nonneg (by omega), Int.toNat_of_nonneg h0] at h
set_option maxRecDepth 100000 in
set_option maxHeartbeats 4000000 in
theorem lera_any (L : List Nat) (E : Nat → Addr) (B : Nat) (w : World) (v : Value) (n : Int) (l : List Int) (hE : Errs L E B w) (m1 : 1 ∈ L) (m8 : 8 ∈ L) (m10 : 10 ∈ L) (m16 : 16 ∈ L) (hv : Is (fun _ => False) w v l) (hl : l.length ≤ 100) :
    Calls Tryd.prog 19 #[.int .i64 n, v] w fun e w' => ∃ (u : Value) (k : Nat), e = .returned (.tuple #[u, errv E k]) ∧ k = eraBad n l ∧ OwnB 5 w.heap.size w' u (if k = 0 then pinvs (eraV n l) else []) ∧ Fr [] w w' := by
  have hf0 : Fr [] w (w.alloc (.cells #[.int .i64 n] 3)) := Fr.alloc _ _
  have HF0 := Lib.hid hf0
  have HV0 := Lib.hid (hv.keep hf0 (by simp))
  have HA0 := Lib.hid (show At (w.alloc (.cells #[.int .i64 n] 3)) w.heap.size (.cells #[.int .i64 n] 3) from At.new rfl)
  have HX0 := Lib.hid (hE.keep0 hf0)
  have x1 : errv E 1 = .iface 189 (.pointer (some (E 1))) := errv_pos E 1 (by decide)
  have x8 : errv E 8 = .iface 189 (.pointer (some (E 8))) := errv_pos E 8 (by decide)
  have x10 : errv E 10 = .iface 189 (.pointer (some (E 10))) := errv_pos E 10 (by decide)
  have x16 : errv E 16 = .iface 189 (.pointer (some (E 16))) := errv_pos E 16 (by decide)
  have X1 := Lib.hid x1
  have X8 := Lib.hid x8
  have X10 := Lib.hid x10
  have X16 := Lib.hid x16
  have HM := Lib.hid (And.intro m1 (And.intro m8 (And.intro m10 m16)))
  obtain ⟨a, cap, rfl, h2, h3, -⟩ := hv.shape
  unfold maxLen at h3
  have HSZ := Lib.hid (lsized_any (w.alloc (.cells #[.int .i64 n] 3)) n)
  have HCF := Lib.hid (fun w' (hf : Fr [] (w.alloc (.cells #[.int .i64 n] 3)) w') => cfun_any w' (.slice a l.length cap) l (HV0.out.keep hf (by simp)) (by omega) w.heap.size n (((HA0.out.keep0 hf).cell 0).trans rfl))
  have HTW := Lib.hid (fun w' (hf : Fr [] (w.alloc (.cells #[.int .i64 n] 3)) w') => twice_any w' (.slice a l.length cap) l (HV0.out.keep hf (by simp)) (by omega))
  have HNIL := Lib.hid (fun w' => OwnB.nil 5 w.heap.size w')
  obtain ⟨N, hN⟩ : ∃ N, l.length = N := ⟨_, rfl⟩
  have HN := Lib.hid hN
  have HE8 := Lib.hid (@era_8 n l)
  have HE1 := Lib.hid (show 33 ≤ n ∧ n ≤ 255 → ¬ plOk n l → eraBad n l = 1 from fun h1 h2 => by unfold eraBad; rw [if_pos h1]; exact if_neg h2)
  have HE10 := Lib.hid (@era_10 n l)
  have HE16 := Lib.hid (@era_16 n l)
  have HE0 := Lib.hid (@era_0 n l)
  rw [hN] at HV0 h2 hl HE16 HE0 HCF HTW ⊢
  obtain ⟨K, hK⟩ : ∃ K, eraBad n l = K := ⟨_, rfl⟩
  rw [hK] at HE8 HE1 HE10 HE16 HE0 ⊢
  clear hN hv hf0 hE m1 m8 m10 m16 x1 x8 x10 x16 hK
  by_cases hsz : 33 ≤ n ∧ n ≤ 255
  · rw [decide_eq_true hsz] at HSZ
    have HS := Lib.hid hsz
    obtain ⟨hn1, hn2⟩ := hsz
    by_cases hok : plOk n l
    · have HOK := Lib.hid hok
      rw [show decide (¬ ∀ p ∈ l, 0 ≤ p ∧ p < n) = false from decide_eq_false (fun h => h hok)] at HCF
      by_cases hnd : l.Nodup
      · have HND := Lib.hid hnd
        rw [show decide (¬ l.Nodup) = false from decide_eq_false (fun h => h hnd)] at HTW
        by_cases hl32 : N ≤ 32
        · have hli : ¬ (32 : Int) < N := by omega
          have HK := Lib.hid (HE0.out HS.out HOK.out HND.out hl32)
          clear hok hnd
          go_enter Tryd.func19, Tryd.ntmps19
          go_wp2_with (go_at_call 52; fail)
          refine HSZ.out.mono ?_
          rintro e w1 ⟨rfl, rfl⟩
          go_wp2_with (go_at_call 53; fail)
          refine (HCF.out _ (Fr.refl _ _)).mono ?_
          rintro e w2 ⟨rfl, hf2⟩
          have HF2 := Lib.hid hf2
          clear hf2
          go_wp2_with (go_at_call 54; fail)
          refine (HTW.out w2 HF2.out).mono ?_
          rintro e w3 ⟨rfl, hf3⟩
          have HF3 := Lib.hid (HF2.out.trans hf3)
          clear hf3
          go_wp2
          go_loopw [7, 32] (fun o x wz => ∃ i : Nat, i ≤ N ∧ x = .int .i64 i ∧ Hid (OwnB 5 (w.heap.size + 1) wz o (eraV n (l.take i))) ∧ Hid (Fr [] (w.alloc (.cells #[.int .i64 n] 3)) wz)) (fun _ x _ => N - (intOf x).toNat)
          case atStart => exact ⟨0, Nat.zero_le _, rfl, Lib.hid (OwnB.nil _ _ _), HF3⟩
          case round =>
            obtain ⟨i, hi, rfl, HO, HF⟩ := hrel
            obtain ⟨wl, rfl⟩ : ∃ wl, wl = wr := ⟨wr, rfl⟩
            by_cases hin : i < N
            · have hini : (i : Int) < N := by omega
              obtain ⟨p, hp⟩ : ∃ p, l[i]? = some p := ⟨_, List.getElem?_eq_getElem (by have := HN.out; omega)⟩
              obtain ⟨b, off, rfl, hc⟩ := is_cell (HV0.out.keep HF.out (by simp)) i p hp
              have hcb := ((HA0.out.keep0 HF.out).cell 0)
              simp only [List.getElem?_toArray, List.getElem?_cons_zero] at hcb
              have hpp := HOK.out p (List.mem_of_getElem? hp)
              have HPW := Lib.hid (fun w => cpower_i w n p HS.out.1 HS.out.2 hpp.1 hpp.2)
              have HTK := Lib.hid (eraV_take n l i p hp)
              have HLN := Lib.hid (show (eraV n (l.take i)).length ≤ 100 by unfold eraV; rw [List.length_map, List.length_take]; omega)
              obtain ⟨c, hc2⟩ : ∃ c, plX n.toNat p.toNat = c := ⟨_, rfl⟩
              rw [hc2] at HPW HTK
              clear hp hpp hc2
              go_wp2_with (go_at_call 55; fail)
              refine (HPW.out wl).mono ?_
              rintro e w4 ⟨rfl, hf4⟩
              have HF4 := Lib.hid (HF.out.trans hf4)
              have HO4 := Lib.hid ((HO.out.keep hf4 (by simp)).keep (Fr.alloc (S := []) w4 (.cells #[.int .u8 (c.toNat : Int)] 5)) (by simp))
              have HBS := Lib.hid (show w.heap.size + 1 ≤ (w4.alloc (.cells #[.int .u8 (c.toNat : Int)] 5)).heap.size by have := HF4.out.size; simp at *; omega)
              clear hf4 hc hcb HPW HF HO
              go_wp2_with (at_builtin; refine wpl_append_b Tryd.underlying22 Tryd.infoByte rfl (.tmp 36) (.tmp 40) rfl rfl rfl (At.new rfl) HO4.out (by have := HLN.out; omega) HBS.out ?_)
              intro v5 w5 h5 g5
              rw [← HTK.out] at h5
              have HO5 := Lib.hid h5
              have HF5 := Lib.hid (show Fr [] (w.alloc (.cells #[.int .i64 n] 3)) w5 from OwnB.fr HO4.out (HF4.out.trans (Fr.alloc _ _)) g5 (by simp))
              clear h5 g5 HO4 HF4 HBS HTK HLN
              go_wp2
              go_roundw
              case rel => exact ⟨i + 1, by omega, by go_num, HO5, HF5⟩
              case measure => simp [intOf]; omega
            · have hini : ¬ (i : Int) < N := by omega
              have HOE := Lib.hid (show OwnB 5 (w.heap.size + 1) wl _ (eraV n l) by have h := HO.out; rwa [List.take_of_length_le (by have := HN.out; omega)] at h)
              have HPI := Lib.hid (pinvs_any (fun _ => False) wl _ (eraV n l) (HOE.out.bs (by simp)) (by unfold eraV; rw [List.length_map]; have := HN.out; omega))
              have hsz1 : w.heap.size ≤ wl.heap.size := by have := HF.out.size; simp at this; omega
              have HSZ1 := Lib.hid hsz1
              clear HO hsz1
              go_wp2_with (go_at_call 56; fail)
              refine HPI.out.mono ?_
              rintro e w4 ⟨u, rfl, ho4, hf4⟩
              have HO4 := Lib.hid (ho4.base HSZ1.out)
              have HF4 := Lib.hid ((HF0.out.trans HF.out).trans hf4)
              clear ho4 hf4 HPI HOE
              go_wp2
              go_ret2
              exact ⟨_, 0, by rw [errv_zero]; rfl, HK.out.symm, by rw [if_pos rfl]; exact HO4.out, HF4.out⟩
        · have hli : (32 : Int) < N := by omega
          have HK := Lib.hid (HE16.out HS.out HOK.out HND.out hl32)
          clear hok hnd
          go_enter Tryd.func19, Tryd.ntmps19
          go_wp2_with (go_at_call 52; fail)
          refine HSZ.out.mono ?_
          rintro e w1 ⟨rfl, rfl⟩
          go_wp2_with (go_at_call 53; fail)
          refine (HCF.out _ (Fr.refl _ _)).mono ?_
          rintro e w2 ⟨rfl, hf2⟩
          have HF2 := Lib.hid hf2
          clear hf2
          go_wp2_with (go_at_call 54; fail)
          refine (HTW.out w2 HF2.out).mono ?_
          rintro e w3 ⟨rfl, hf3⟩
          have HF3 := Lib.hid (HF2.out.trans hf3)
          clear hf3
          have hcc := (HX0.out.keep0 HF3.out).cell 16 HM.out.2.2.2
          simp only [gOf, List.getD_eq_getElem?_getD, List.getElem?_cons_zero, List.getElem?_cons_succ, Option.getD_some] at hcc
          go_wp2
          go_quiet (fail)
          go_wp2
          go_ret2
          exact ⟨_, 16, by rw [X16.out]; rfl, HK.out.symm, HNIL.out _, (HF0.out.trans HF3.out).trans (Fr.of_heap rfl rfl rfl rfl)⟩
      · have HK := Lib.hid (HE10.out HS.out HOK.out hnd)
        rw [show decide (¬ l.Nodup) = true from decide_eq_true hnd] at HTW
        clear hok hnd
        go_enter Tryd.func19, Tryd.ntmps19
        go_wp2_with (go_at_call 52; fail)
        refine HSZ.out.mono ?_
        rintro e w1 ⟨rfl, rfl⟩
        go_wp2_with (go_at_call 53; fail)
        refine (HCF.out _ (Fr.refl _ _)).mono ?_
        rintro e w2 ⟨rfl, hf2⟩
        have HF2 := Lib.hid hf2
        clear hf2
        go_wp2_with (go_at_call 54; fail)
        refine (HTW.out w2 HF2.out).mono ?_
        rintro e w3 ⟨rfl, hf3⟩
        have HF3 := Lib.hid (HF2.out.trans hf3)
        clear hf3
        have hcc := (HX0.out.keep0 HF3.out).cell 10 HM.out.2.2.1
        simp only [gOf, List.getD_eq_getElem?_getD, List.getElem?_cons_zero, List.getElem?_cons_succ, Option.getD_some] at hcc
        go_wp2
        go_quiet (fail)
        go_wp2
        go_ret2
        exact ⟨_, 10, by rw [X10.out]; rfl, HK.out.symm, HNIL.out _, (HF0.out.trans HF3.out).trans (Fr.of_heap rfl rfl rfl rfl)⟩
    · rw [show decide (¬ ∀ p ∈ l, 0 ≤ p ∧ p < n) = true from decide_eq_true hok] at HCF
      have HK := Lib.hid (HE1.out HS.out hok)
      clear hok
      go_enter Tryd.func19, Tryd.ntmps19
      go_wp2_with (go_at_call 52; fail)
      refine HSZ.out.mono ?_
      rintro e w1 ⟨rfl, rfl⟩
      go_wp2_with (go_at_call 53; fail)
      refine (HCF.out _ (Fr.refl _ _)).mono ?_
      rintro e w2 ⟨rfl, hf2⟩
      have HF2 := Lib.hid hf2
      clear hf2
      have hcc := (HX0.out.keep0 HF2.out).cell 1 HM.out.1
      simp only [gOf, List.getD_eq_getElem?_getD, List.getElem?_cons_zero, List.getElem?_cons_succ, Option.getD_some] at hcc
      go_wp2
      go_quiet (fail)
      go_wp2
      go_ret2
      exact ⟨_, 1, by rw [X1.out]; rfl, HK.out.symm, HNIL.out _, (HF0.out.trans HF2.out).trans (Fr.of_heap rfl rfl rfl rfl)⟩
  · rw [decide_eq_false hsz] at HSZ
    have HK := Lib.hid (HE8.out hsz)
    have hcc := HX0.out.cell 8 HM.out.2.1
    simp only [gOf, List.getD_eq_getElem?_getD, List.getElem?_cons_zero, List.getElem?_cons_succ, Option.getD_some] at hcc
    clear hsz
    go_enter Tryd.func19, Tryd.ntmps19
    go_wp2_with (go_at_call 52; fail)
    refine HSZ.out.mono ?_
    rintro e w1 ⟨rfl, rfl⟩
    go_wp2
    go_quiet (fail)
    go_wp2
    go_ret2
    exact ⟨_, 8, by rw [X8.out]; rfl, HK.out.symm, HNIL.out _, HF0.out.trans (Fr.of_heap rfl rfl rfl rfl)⟩
end Go.Proofs.YtfblhdomjnffcaaDoor
