/-
  Opening arguments: what was found (a number and two rows of bytes), two numbers.
-/
import Derived.Test.YtfblhdomjnffcaaGreatDoorGN
import Derived.Test.YtfblhdomjnffcaaGreatDoorTrz
import Derived.Lib.SmallJoins
namespace Go.Proofs.YtfblhdomjnffcaaGreatDoor
open Go.Joins Go.ChangeShapes Go.WideShapes Go.ChangeAt Go.RowKit Go.Bl
set_option linter.unusedVariables false
set_option maxRecDepth 100000 in
/-- a row of bytes that lies in the world, even where it is empty -/
theorem bwI_open {W : World} {base : Nat} {v : Value} {xs : List UInt8} (hc : Cell.okWide Tryz.prog W .any base 22 v) (hb : Bs (fun _ => False) W v xs) : BwI W.heap.size W v xs := by
  by_cases hne : xs = []
  · subst hne
    obtain ⟨a, cap, rfl, -, -, -⟩ := hb
    cases a with
    | none =>
      have hcap : cap = 0 := by
        cases cap with
        | zero => rfl
        | succ c => simp [Cell.okWide, Cell.ok, Tryz.underlying22] at hc
      subst hcap
      exact .inl ⟨rfl, rfl⟩
    | some ad =>
      have hh : W.has Tryz.prog .any base ad 5 cap := by
        simp only [Cell.okWide, Cell.ok, Tryz.underlying22] at hc
        exact hc.2.2
      obtain ⟨-, hsp, row, cells, hs, -⟩ := hh
      obtain ⟨b, off, sp⟩ := ad
      simp only at hsp hs
      subst hsp
      refine .inr ⟨b, off, cap, rfl, ?_, fun j hj => (by simp at hj)⟩
      unfold World.shape? at hs
      rcases Nat.lt_or_ge b W.heap.size with h | h
      · exact h
      · rw [Array.getElem?_eq_none h] at hs
        simp at hs
  · exact bwI_of_bs hb hne
set_option maxRecDepth 100000 in
theorem open_found {H : Type} {enc : TypeId × Value → H} {W : World} {base : Nat} {v : Value} {d : DataW H} {p : List MemPlace} (hv : Value.okWide Tryz.prog W .any base 24 v) (h : DataW.Trod enc Tryz.prog W 0 (fun _ => true) true 24 v d p) :
    ∃ (lg : Int) (U V : Value) (loc ev : List UInt8), v = .agg #[.int .i64 lg, U, V] ∧ Bs (fun _ => False) W U loc ∧ BwI W.heap.size W U loc ∧ Bs (fun _ => False) W V ev ∧ BwI W.heap.size W V ev := by
  obtain ⟨v0, v1, v2, y0, y1, y2, n, rfl, hd, hp, h0, h1, h2⟩ := open_agg3 Tryz.underlying24 (by kernel_rfl) (by kernel_rfl) hv h
  obtain ⟨n0, e0, -, -⟩ := DataW.trod_int Tryz.underlying3 h0
  cases e0
  unfold Value.okWide at hv
  rw [Tryz.underlying24] at hv
  obtain ⟨cs, e, hsz, ts, hts, -, hcell⟩ := hv
  cases e
  have hts2 : Tryz.prog.cellTypes Tryz.prog.depth 24 = some [3, 22, 22] := by kernel_rfl
  rw [hts2] at hts
  cases hts
  have c1 : Cell.okWide Tryz.prog W .any base 22 v1 := by
    obtain ⟨u, hu, hc⟩ := hcell 1 v1 rfl
    cases hu
    exact hc
  have c2 : Cell.okWide Tryz.prog W .any base 22 v2 := by
    obtain ⟨u, hu, hc⟩ := hcell 2 v2 rfl
    cases hu
    exact hc
  have o1 : Value.okWide Tryz.prog W .any base 22 v1 := by unfold Value.okWide; rw [Tryz.underlying22]; exact c1
  have o2 : Value.okWide Tryz.prog W .any base 22 v2 := by unfold Value.okWide; rw [Tryz.underlying22]; exact c2
  obtain ⟨a1, l1, k1, rfl⟩ := okWide_slice Tryz.underlying22 o1
  obtain ⟨a2, l2, k2, rfl⟩ := okWide_slice Tryz.underlying22 o2
  obtain ⟨loc, b1, -⟩ := open_bs o1 (d := y1.1) (p := y1.2) ⟨n, h1⟩
  obtain ⟨ev, b2, -⟩ := open_bs o2 (d := y2.1) (p := y2.2) ⟨n, h2⟩
  exact ⟨n0, _, _, loc, ev, rfl, b1, bwI_open c1 b1, b2, bwI_open c2 b2⟩
set_option maxRecDepth 100000 in
theorem open_arr2 {W : World} {base : Nat} {v : Value} (hval : Value.okWide Tryz.prog W .any base 25 v) : ∃ a b : Int, v = .agg #[.int .i64 a, .int .i64 b] := by
  unfold Value.okWide at hval
  rw [Tryz.underlying25] at hval
  obtain ⟨cs, rfl, hsz, ts, hts, -, hcell⟩ := hval
  have h2 : cs.size = 2 := hsz.trans (by kernel_rfl)
  have hts2 : Tryz.prog.cellTypes Tryz.prog.depth 25 = some [3, 3] := by kernel_rfl
  rw [hts2] at hts
  cases hts
  obtain ⟨x, y, rfl⟩ : ∃ x y, cs = #[x, y] := ⟨cs[0], cs[1], by
    apply Array.ext
    · simp [h2]
    · intro i h1 h3
      match i, h3 with
      | 0, _ => rfl
      | 1, _ => rfl⟩
  have hi : ∀ i v, (#[x, y] : Array Value)[i]? = some v → i < 2 → ∃ n : Int, v = .int .i64 n := fun i v hv hi => by
    obtain ⟨u, hu, hc⟩ := hcell i v hv
    have hui : u = 3 := by
      match i, hi with
      | 0, _ => cases hu; rfl
      | 1, _ => cases hu; rfl
    subst hui
    have o : Value.okWide Tryz.prog W .any base 3 v := by unfold Value.okWide; rw [Tryz.underlying3]; exact hc
    obtain ⟨n, hn⟩ := okWide_int Tryz.underlying3 o
    exact ⟨n, hn⟩
  obtain ⟨a, rfl⟩ := hi 0 x rfl (by omega)
  obtain ⟨b, rfl⟩ := hi 1 y rfl (by omega)
  exact ⟨a, b, rfl⟩
end Go.Proofs.YtfblhdomjnffcaaGreatDoor
