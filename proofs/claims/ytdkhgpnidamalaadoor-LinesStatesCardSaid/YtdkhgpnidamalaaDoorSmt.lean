/-
  baileenum.SameTexts, of texts that are the same. (printed by genlst.py)
-/
import Derived.Test.YtdkhgpnidamalaaDoorGA
import Derived.Test.YtdkhgpnidamalaaDoorProg
import Derived.OwnWalk
import Derived.BigQuiet
namespace Go.Proofs.YtdkhgpnidamalaaDoor
open Go.RowKit Go.Bl
set_option linter.unusedVariables false
set_option maxRecDepth 100000 in
set_option maxHeartbeats 8000000 in
theorem sameTexts_any (w : World) (u v : Value) (ss : List ByteArray) (hu : Vs (fun _ => False) w u (ss.map Value.string)) (hv : Vs (fun _ => False) w v (ss.map Value.string)) (hn : ss.length ≤ 100000) :
    Calls Tryd.prog 11 #[u, v] w fun e w' => e = .returned (.bool true) ∧ Fr [] w w' := by
  obtain ⟨a, ca, rfl, h1, h2, ha⟩ := hu
  obtain ⟨b, cb, rfl, h3, h4, hb⟩ := hv
  unfold maxLen at h2 h4
  rw [List.length_map] at h1 h3 ⊢
  obtain ⟨n, hN⟩ : ∃ n, ss.length = n := ⟨_, rfl⟩
  have HN := Lib.hid hN
  rw [hN] at h1 h3 hn ⊢
  have HA := Lib.hid ha
  have HB := Lib.hid hb
  have hne : ((n : Int) != (n : Int)) = false := by simp
  clear hN ha hb
  go_enter Tryd.func11, Tryd.ntmps11
  go_wp2
  go_loopw [13] (fun i wr => ∃ j : Nat, j ≤ n ∧ i = .int .i64 j ∧ Dr w wr) (fun i _ => n - (intOf i).toNat)
  case atStart => exact ⟨0, Nat.zero_le _, rfl, Dr.refl _⟩
  case round =>
    obtain ⟨j, hj, rfl, hd⟩ := hrel
    by_cases hjn : j < n
    · obtain ⟨S, hS⟩ : ∃ S, ss[j]? = some S := ⟨_, List.getElem?_eq_getElem (by have := HN.out; omega)⟩
      obtain ⟨b1, o1, rfl, -, hc1⟩ := HA.out.some_of (by rw [List.length_map, HN.out]; omega)
      obtain ⟨b2, o2, rfl, -, hc2⟩ := HB.out.some_of (by rw [List.length_map, HN.out]; omega)
      have g1 := (hd.cell _).trans (hc1 j (by rw [List.length_map, HN.out]; omega))
      have g2 := (hd.cell _).trans (hc2 j (by rw [List.length_map, HN.out]; omega))
      rw [List.getElem?_map, hS] at g1 g2
      simp only [Option.map_some] at g1 g2
      have HD := Lib.hid hd
      clear hc1 hc2 hS hd
      have hj0 : (0 : Int) ≤ (j : Int) ∧ (j : Int) < (n : Int) := by omega
      have hb : ∀ w, (Op.stringOp .neq S S).run Tryd.prog w = .ok (.bool false) w := fun w => by simp [Op.stringOp]
      go_wp2
      go_quiet (fail)
      go_wp2
      go_roundw
      case rel => exact ⟨j + 1, by omega, by go_num, HD.out.drewN _⟩
      case measure => simp [intOf]; omega
    · obtain rfl : j = n := by omega
      have hd' := Lib.hid hd
      clear hd
      go_wp2
      go_ret
      exact ⟨rfl, hd'.out.fr⟩
end Go.Proofs.YtdkhgpnidamalaaDoor
