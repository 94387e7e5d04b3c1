/-
  The shape of a file that is too long: an error.
-/
import Derived.Test.YtenjpnhccnmnpaaDoorErr
import Derived.Test.YtenjpnhccnmnpaaDoorShp
namespace Go.Proofs.YtenjpnhccnmnpaaDoor
open Go.RowKit Go.Bl
set_option linter.unusedVariables false

set_option maxHeartbeats 400000 in
theorem shape_bad (L : List Nat) (E : Nat → Addr) (B : Nat) (w : World) (hE : Errs L E B w) (h8 : 8 ∈ L) (size : Int) (h : size < 0 ∨ 2000 < size) :
    Calls Tryd.prog 6 #[.int .i64 size] w fun e w' => e = .returned (.tuple #[.slice none 0 0, errv E 8]) ∧ Fr [] w w' := by
  have hc := hE.cell 8 h8
  simp only [gOf, List.getD_eq_getElem?_getD, List.getElem?_cons_zero, List.getElem?_cons_succ, Option.getD_some] at hc
  rw [errv_pos E 8 (by decide)]
  clear hE
  rcases h with h | h
  all_goals
    go_enter Tryd.func6, Tryd.ntmps6
    go_wp2
    go_quiet (fail)
    go_wp2
    go_ret2
    exact ⟨rfl, Fr.of_heap rfl rfl rfl rfl⟩


set_option maxHeartbeats 400000 in
theorem total_bad (L : List Nat) (E : Nat → Addr) (B : Nat) (w : World) (hE : Errs L E B w) (h8 : 8 ∈ L) (size : Int) (h : size < 0 ∨ 2000 < size) :
    Calls Tryd.prog 11 #[.int .i64 size] w fun e w' => e = .returned (.tuple #[.int .i64 0, errv E 8]) ∧ Fr [] w w' := by
  have he := errv_pos E 8 (by decide)
  have HS := Lib.hid (shape_bad L E B w hE h8 size h)
  rw [he] at HS ⊢
  go_enter Tryd.func11, Tryd.ntmps11
  go_wp2_with fail
  refine HS.out.mono ?_
  rintro e w1 ⟨rfl, hf⟩
  have HF := Lib.hid hf
  clear hf
  go_wp2
  go_loop [6, 16] (fun t i => t = .int .i64 0 ∧ i = .int .i64 0) (fun _ _ => 0)
  case atStart => exact ⟨rfl, rfl⟩
  case round =>
    obtain ⟨rfl, rfl⟩ := hrel
    go_wp2
    go_ret2
    exact ⟨rfl, HF.out⟩
set_option maxHeartbeats 400000 in
theorem blocks_bad (L : List Nat) (E : Nat → Addr) (B : Nat) (w : World) (hE : Errs L E B w) (h8 : 8 ∈ L) (a : Option Addr) (n cap : Nat) (h : 2000 < n) (hc : n ≤ cap) (hm : cap ≤ maxLen) :
    Calls Tryd.prog 7 #[.slice a n cap] w fun e w' => e = .returned (.tuple #[.slice none 0 0, errv E 8]) ∧ Fr [] w w' := by
  have he := errv_pos E 8 (by decide)
  have HS := Lib.hid (shape_bad L E B w hE h8 (n : Int) (by omega))
  rw [he] at HS ⊢
  go_enter Tryd.func7, Tryd.ntmps7
  go_wp2_with fail
  refine HS.out.mono ?_
  rintro e w1 ⟨rfl, hf⟩
  have HF := Lib.hid hf
  clear hf
  go_wp2
  go_ret2
  exact ⟨rfl, HF.out⟩
end Go.Proofs.YtenjpnhccnmnpaaDoor
