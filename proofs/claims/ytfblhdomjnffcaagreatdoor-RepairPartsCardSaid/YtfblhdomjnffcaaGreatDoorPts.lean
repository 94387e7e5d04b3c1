/-
  Layer 5: repair.Search of a wrong length, repair.Amount of a wrong length or place, repair.Spare of any numbers.
-/
import Derived.Test.YtfblhdomjnffcaaGreatDoorHA
import Derived.Test.YtfblhdomjnffcaaGreatDoorHB
namespace Go.Proofs.YtfblhdomjnffcaaGreatDoor
open Go.RowKit Go.Bl
set_option linter.unusedVariables false
set_option maxHeartbeats 1000000 in
theorem search_bad (w : World) (a : Option Addr) (len cap : Nat) (n : Int) (h : ¬ (33 ≤ n ∧ n ≤ 255)) :
    Calls Tryz.prog 7 #[.slice a len cap, .int .i64 n] w fun e w' => e = .returned (.slice none 0 0) ∧ Fr [] w w' := by
  have HPS := Lib.hid (psized_any w n)
  rw [decide_eq_false h] at HPS
  clear h
  go_enter Tryz.func7, Tryz.ntmps7
  go_wp2_with (go_at_call 30; fail)
  refine HPS.out.mono ?_
  rintro e w' ⟨rfl, rfl⟩
  go_wp2
  go_ret
  exact ⟨rfl, Fr.refl _ _⟩
set_option maxRecDepth 100000 in
set_option maxHeartbeats 2000000 in
theorem amount_bad (L : List Nat) (E : Nat → Addr) (B : Nat) (w : World) (lg : Int) (ua va : Option Addr) (un uc vn vc : Nat) (n p : Int) (hE : Errs L E B w) (m1 : 1 ∈ L) (m8 : 8 ∈ L) (h : ¬ (33 ≤ n ∧ n ≤ 255) ∨ p < 0 ∨ n ≤ p) :
    Calls Tryz.prog 8 #[.agg #[.int .i64 lg, .slice ua un uc, .slice va vn vc], .int .i64 n, .int .i64 p] w fun e w' => e = .returned (.tuple #[.int .u8 0, errv E (if 33 ≤ n ∧ n ≤ 255 then 1 else 8)]) ∧ Fr [] w w' := by
  have fa : Fr [] w (w.alloc (.cells #[.int .i64 lg, .slice ua un uc, .slice va vn vc] 24)) := Fr.alloc _ _
  have HF := Lib.hid fa
  have HE := Lib.hid (hE.keep0 fa)
  have HPS := Lib.hid (fun w => psized_any w n)
  by_cases hn : 33 ≤ n ∧ n ≤ 255
  · rw [if_pos hn]
    rw [decide_eq_true hn] at HPS
    have hp : p < 0 ∨ n ≤ p := by omega
    have x1 : errv E 1 = .iface 172 (.pointer (some (E 1))) := errv_pos E 1 (by decide)
    have X1 := Lib.hid x1
    have hcc := HE.out.cell 1 m1
    simp only [gOf, List.getD_eq_getElem?_getD, List.getElem?_cons_zero, List.getElem?_cons_succ, Option.getD_some] at hcc
    clear h hn x1 fa hE HE
    by_cases hp0 : p < 0
    · clear hp
      go_enter Tryz.func8, Tryz.ntmps8
      go_wp2_with (go_at_call 30; fail)
      refine (HPS.out _).mono ?_
      rintro e w' ⟨rfl, rfl⟩
      go_wp2
      go_quiet (fail)
      go_wp2
      go_ret2
      exact ⟨by rw [X1.out]; rfl, HF.out.trans (Fr.of_heap rfl rfl rfl rfl)⟩
    · have hp1 : n ≤ p := by omega
      have hp2 : ¬ p < n := by omega
      clear hp
      go_enter Tryz.func8, Tryz.ntmps8
      go_wp2_with (go_at_call 30; fail)
      refine (HPS.out _).mono ?_
      rintro e w' ⟨rfl, rfl⟩
      go_wp2
      go_quiet (fail)
      go_wp2
      go_ret2
      exact ⟨by rw [X1.out]; rfl, HF.out.trans (Fr.of_heap rfl rfl rfl rfl)⟩
  · rw [if_neg hn]
    rw [decide_eq_false hn] at HPS
    have x8 : errv E 8 = .iface 172 (.pointer (some (E 8))) := errv_pos E 8 (by decide)
    have X8 := Lib.hid x8
    have hcc := HE.out.cell 8 m8
    simp only [gOf, List.getD_eq_getElem?_getD, List.getElem?_cons_zero, List.getElem?_cons_succ, Option.getD_some] at hcc
    clear h hn x8 fa hE HE
    go_enter Tryz.func8, Tryz.ntmps8
    go_wp2_with (go_at_call 30; fail)
    refine (HPS.out _).mono ?_
    rintro e w' ⟨rfl, rfl⟩
    go_wp2
    go_quiet (fail)
    go_wp2
    go_ret2
    exact ⟨by rw [X8.out]; rfl, HF.out.trans (Fr.of_heap rfl rfl rfl rfl)⟩
/-- a number, brought between 0 and 32 -/
def clp (x : Int) : Int := if x < 0 then 0 else if 32 < x then 32 else x
theorem clp_ways (x : Int) : (x < 0 ∧ clp x = 0) ∨ (0 ≤ x ∧ x ≤ 32 ∧ clp x = x) ∨ (32 < x ∧ clp x = 32) := by
  unfold clp
  by_cases h : x < 0
  · rw [if_pos h]; exact .inl ⟨h, rfl⟩
  · rw [if_neg h]
    by_cases h2 : 32 < x
    · rw [if_pos h2]; exact .inr (.inr ⟨h2, rfl⟩)
    · rw [if_neg h2]; exact .inr (.inl ⟨by omega, by omega, rfl⟩)
def spareV (e t : Int) : Int := if 32 - clp e - clp t - clp t < 0 then 0 else 32 - clp e - clp t - clp t
set_option maxRecDepth 100000 in
set_option maxHeartbeats 4000000 in
theorem spare_any (w : World) (e t : Int) : Calls Tryz.prog 9 #[.int .i64 e, .int .i64 t] w fun r w' => r = .returned (.int .i64 (spareV e t)) ∧ Fr [] w w' := by
  have i0 := fun w => index_arr3 w e t t 0 e (by decide) rfl
  have i1 := fun w => index_arr3 w e t t 1 t (by decide) rfl
  have i2 := fun w => index_arr3 w e t t 2 t (by decide) rfl
  simp only [Int.ofNat_zero, Int.natCast_zero, Int.natCast_one] at i0 i1 i2
  have i2' := fun w => (show (Instr.index 66 (.agg #[.int .i64 e, .int .i64 t, .int .i64 t]) (.int .i64 2)).run Tryz.prog w = .ok (.int .i64 t) w from i2 w)
  clear i2
  have HE := Lib.hid (clp_ways e)
  have HT := Lib.hid (clp_ways t)
  unfold spareV
  obtain ⟨c, hc⟩ : ∃ c, clp e = c := ⟨_, rfl⟩
  obtain ⟨d, hd⟩ : ∃ c, clp t = c := ⟨_, rfl⟩
  rw [hc] at HE ⊢
  rw [hd] at HT ⊢
  have c0 : 0 ≤ c := by have := HE.out; omega
  have c1 : c ≤ 32 := by have := HE.out; omega
  have d0 : 0 ≤ d := by have := HT.out; omega
  have d1 : d ≤ 32 := by have := HT.out; omega
  obtain ⟨R, hR⟩ : ∃ r, (if 32 - c - d - d < 0 then 0 else 32 - c - d - d) = r := ⟨_, rfl⟩
  have HR := Lib.hid hR
  rw [hR]
  clear hc hd hR
  go_enter Tryz.func9, Tryz.ntmps9
  go_wp2
  go_loopw [5, 12] (fun l i wr => ∃ (j : Nat) (z : Int), i = .int .i64 j ∧ l = .int .i64 z ∧ ((j = 0 ∧ z = 32) ∨ (j = 1 ∧ z = 32 - c) ∨ (j = 2 ∧ z = 32 - c - d) ∨ (j = 3 ∧ z = 32 - c - d - d)) ∧ wr = w) (fun _ i _ => 3 - (intOf i).toNat)
  case atStart => exact ⟨0, 32, rfl, rfl, .inl ⟨rfl, rfl⟩, rfl⟩
  case round =>
    obtain ⟨j, z, rfl, rfl, hj, rfl⟩ := hrel
    rcases hj with ⟨rfl, rfl⟩ | ⟨rfl, rfl⟩ | ⟨rfl, rfl⟩ | ⟨rfl, rfl⟩
    · rcases HE.out with ⟨h1, rfl⟩ | ⟨h1, h2, rfl⟩ | ⟨h1, rfl⟩
      · go_wp2
        go_roundw
        case rel => exact ⟨1, 32, rfl, by congr 1; omega, .inr (.inl ⟨rfl, by omega⟩), by first | rfl | trivial⟩
        case measure => simp [intOf]
      · have e1 : ¬ c < 0 := by omega
        have e2 : ¬ (32 : Int) < c := by omega
        go_wp2
        go_roundw
        case rel => exact ⟨1, 32 - c, rfl, by congr 1; omega, .inr (.inl ⟨rfl, by omega⟩), by first | rfl | trivial⟩
        case measure => simp [intOf]
      · have e1 : ¬ e < 0 := by omega
        go_wp2
        go_roundw
        case rel => exact ⟨1, 0, rfl, by congr 1; omega, .inr (.inl ⟨rfl, by omega⟩), by first | rfl | trivial⟩
        case measure => simp [intOf]
    · rcases HT.out with ⟨h1, rfl⟩ | ⟨h1, h2, rfl⟩ | ⟨h1, rfl⟩
      · go_wp2
        go_roundw
        case rel => exact ⟨2, 32 - c - 0, rfl, by congr 1; omega, .inr (.inr (.inl ⟨rfl, by omega⟩)), by first | rfl | trivial⟩
        case measure => simp [intOf]
      · have e1 : ¬ d < 0 := by omega
        have e2 : ¬ (32 : Int) < d := by omega
        go_wp2
        go_roundw
        case rel => exact ⟨2, 32 - c - d, rfl, by congr 1; omega, .inr (.inr (.inl ⟨rfl, by omega⟩)), by first | rfl | trivial⟩
        case measure => simp [intOf]
      · have e1 : ¬ t < 0 := by omega
        go_wp2
        go_roundw
        case rel => exact ⟨2, 32 - c - 32, rfl, by congr 1; omega, .inr (.inr (.inl ⟨rfl, by omega⟩)), by first | rfl | trivial⟩
        case measure => simp [intOf]
    · rcases HT.out with ⟨h1, rfl⟩ | ⟨h1, h2, rfl⟩ | ⟨h1, rfl⟩
      · go_wp2
        go_roundw
        case rel => exact ⟨3, 32 - c - 0 - 0, rfl, by congr 1; omega, .inr (.inr (.inr ⟨rfl, by omega⟩)), by first | rfl | trivial⟩
        case measure => simp [intOf]
      · have e1 : ¬ d < 0 := by omega
        have e2 : ¬ (32 : Int) < d := by omega
        go_wp2
        go_roundw
        case rel => exact ⟨3, 32 - c - d - d, rfl, by congr 1; omega, .inr (.inr (.inr ⟨rfl, by omega⟩)), by first | rfl | trivial⟩
        case measure => simp [intOf]
      · have e1 : ¬ t < 0 := by omega
        go_wp2
        go_roundw
        case rel => exact ⟨3, 32 - c - 32 - 32, rfl, by congr 1; omega, .inr (.inr (.inr ⟨rfl, by omega⟩)), by first | rfl | trivial⟩
        case measure => simp [intOf]
    · go_wp2
      go_ret
      refine ⟨?_, Fr.refl _ _⟩
      show Ending.returned (.int .i64 (max (32 - c - d - d) 0)) = _
      rw [← HR.out, show max (32 - c - d - d) 0 = if 32 - c - d - d < 0 then 0 else 32 - c - d - d by split <;> omega]
end Go.Proofs.YtfblhdomjnffcaaGreatDoor
