/-
  baileenum.SameLists of two lists of the same rows: true.
-/
import Derived.Test.YtenjpnhccnmnpaaDoorRsl
import Derived.Test.YtenjpnhccnmnpaaDoorCol
import Derived.Test.YtenjpnhccnmnpaaDoorGB
namespace Go.Proofs.YtenjpnhccnmnpaaDoor
open Go.RowKit Go.Bl
set_option linter.unusedVariables false

set_option maxRecDepth 100000 in
set_option maxHeartbeats 2000000 in
theorem slists_any (w : World) (u v : Value) (ls1 ls2 : List (Value × List UInt8)) (h1 : RdB (fun _ => False) w u ls1) (h2 : RdB (fun _ => False) w v ls2) (he : ls1.map (·.2) = ls2.map (·.2)) (hl : ls1.length ≤ 100000) :
    Calls Tryd.prog 13 #[u, v] w fun e w' => e = .returned (.bool true) ∧ Fr [] w w' := by
  have HL := Lib.hid (show ls1.length = ls2.length by have h := congrArg List.length he; simpa using h)
  have HE := Lib.hid he
  have H1 := Lib.hid h1
  have H2 := Lib.hid h2
  obtain ⟨a1, c1, rfl, p1, p2⟩ := rdb_shape h1
  obtain ⟨a2, c2, rfl, q1, q2⟩ := rdb_shape h2
  unfold maxLen at p2 q2
  rw [← HL.out] at H2 q1 ⊢
  obtain ⟨n, hn⟩ : ∃ n, ls1.length = n := ⟨_, rfl⟩
  rw [hn] at H1 H2 p1 q1 hl ⊢
  have HN := Lib.hid hn
  clear h1 h2 he hn
  go_enter Tryd.func13, Tryd.ntmps13
  go_wp2
  go_loopw [13] (fun i wr => ∃ k, k ≤ n ∧ i = .int .i64 k ∧ Hid (Fr [] w wr)) (fun i _ => n - (intOf i).toNat)
  case atStart => exact ⟨0, by omega, rfl, Lib.hid (Fr.refl _ _)⟩
  case round =>
    obtain ⟨k, hk, rfl, HF⟩ := hrel
    by_cases hkn : k < n
    · obtain ⟨x, hx⟩ : ∃ x, ls1[k]? = some x := ⟨_, List.getElem?_eq_getElem (by have := HN.out; omega)⟩
      obtain ⟨y, hy⟩ : ∃ y, ls2[k]? = some y := ⟨_, List.getElem?_eq_getElem (by have := HN.out; have := HL.out; omega)⟩
      have hxy : x.2 = y.2 := by
        have h := congrArg (fun l : List (List UInt8) => l[k]?) HE.out
        simp only [List.getElem?_map, hx, hy, Option.map_some, Option.some.injEq] at h
        exact h
      obtain ⟨b1, o1, rfl, d1, d2⟩ := rdb_cell (H1.out.keep HF.out (by simp)) k x hx
      obtain ⟨b2, o2, rfl, d3, d4⟩ := rdb_cell (H2.out.keep HF.out (by simp)) k y hy
      rw [← hxy] at d4
      obtain ⟨x, xs⟩ := x
      obtain ⟨y, ys⟩ := y
      simp only at d1 d2 d3 d4
      have D1 := Lib.hid d1
      have D2 := Lib.hid d2
      have D3 := Lib.hid d3
      have D4 := Lib.hid d4
      clear hx hy hxy d1 d2 d3 d4
      go_wp2_with fail
      refine same_reg _ _ rfl b1 o1 c1 b2 o2 c2 n k x y xs _ rfl hkn (by omega) rfl rfl rfl D1.out D3.out D2.out D4.out _ ?_
      intro b' p e1 e2 e3 e4 hf
      have HF2 := Lib.hid (HF.out.trans hf)
      obtain ⟨f, hb⟩ := putsX b' _ _ e1 e2 e3
      have hf26 : f 26 = .bool false := by
        rw [hb] at e4
        simpa [slot, Go.Act.put] using e4
      clear e1 e2 e3 e4 hf HF D1 D2 D3 D4
      subst hb
      simp only [List.foldl_cons, List.foldl_nil, Go.Act.put, List.setIfInBounds_toArray, List.set_cons_succ, List.set_cons_zero, hf26]
      go_wp2
      go_roundw
      case rel => exact ⟨k + 1, by omega, by go_num, HF2⟩
      case measure => simp [intOf]; omega
    · obtain rfl : k = n := by omega
      go_wp2
      go_ret
      exact ⟨rfl, HF.out⟩
end Go.Proofs.YtenjpnhccnmnpaaDoor
