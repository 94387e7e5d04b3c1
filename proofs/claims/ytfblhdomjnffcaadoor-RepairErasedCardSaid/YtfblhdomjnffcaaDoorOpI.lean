/-
  Opening arguments: integers, an array of 32 bytes.
-/
import Derived.Test.YtfblhdomjnffcaaDoorGN
namespace Go.Proofs.YtfblhdomjnffcaaDoor
open Go.ChangeShapes Go.WideShapes Go.ChangeAt Go.RowKit Go.Bl
set_option linter.unusedVariables false
set_option maxRecDepth 100000 in
theorem open_isl {H : Type} {enc : TypeId × Value → H} {W : World} {base : Nat} {v : Value} {d : DataW H} {p : List MemPlace} (hval : Value.okWide Tryd.prog W .any base 31 v) (h : DataW.Trod enc Tryd.prog W 0 (fun _ => true) true 31 v d p) :
    ∃ xs : List Int, Is (fun _ => False) W v xs := by
  obtain ⟨a1, len, cap, rfl⟩ := okWide_slice Tryd.underlying31 hval
  obtain ⟨fuel, hf⟩ := h
  rcases open_ints Tryd.underlying31 Tryd.underlying3 (show Tryd.prog.cellsOf 3 = 1 by kernel_rfl) hf with ⟨hcs, hx⟩ | ⟨a, len', cap', zs, hcs, _, hl, hm, hz, hx, hcell, hwz⟩
  · simp [Value.cells] at hcs
    obtain ⟨rfl, rfl, rfl⟩ := hcs
    exact ⟨[], Vs.nil _ _ _ _ (Nat.zero_le _)⟩
  · simp [Value.cells] at hcs
    obtain ⟨rfl, rfl, rfl⟩ := hcs
    simp only [if_true] at hz
    have hlen : ((zs.take len).map iv).length = len := by simp; omega
    refine ⟨zs.take len, ⟨some a, cap, by rw [hlen], by rw [hlen]; exact hl, hm, row_of_cells fun i hi => ?_⟩⟩
    have hi' : i < len := by simp at hi; omega
    rw [hcell i (by omega)]
    have hg : (zs.take len)[i]? = some (zs.getD i 0) := by
      rw [List.getElem?_take, if_pos hi', List.getD_eq_getElem?_getD, List.getElem?_eq_getElem (by omega)]
      rfl
    simp only [List.getElem?_map, hg, Option.map_some, iv]
def byteOf : Value → UInt8
  | .int _ n => UInt8.ofNat n.toNat
  | _ => 0
set_option maxRecDepth 100000 in
theorem open_arr {W : World} {base : Nat} {v : Value} (hval : Value.okWide Tryd.prog W .any base 32 v) : ∃ s : List UInt8, s.length = 32 ∧ v = .agg (s.map u8v).toArray := by
  unfold Value.okWide at hval
  rw [Tryd.underlying32] at hval
  obtain ⟨cs, rfl, hsz, ts, hts, -, hcell⟩ := hval
  have h32 : cs.size = 32 := hsz.trans (by kernel_rfl)
  have hts2 : Tryd.prog.cellTypes Tryd.prog.depth 32 = some (List.replicate 32 5) := by kernel_rfl
  rw [hts2] at hts
  cases hts
  refine ⟨cs.toList.map byteOf, by simp [h32], ?_⟩
  congr 1
  apply Array.ext
  · simp
  · intro i h1 h2
    obtain ⟨u, hu, hc⟩ := hcell i cs[i] (Array.getElem?_eq_getElem h1)
    have hub : u = 5 := by
      have := List.mem_of_getElem? hu
      exact (List.mem_replicate.1 this).2
    subst hub
    have hx : ∃ n : Int, cs[i] = .int .u8 n ∧ 0 ≤ n ∧ n ≤ 255 := by
      have hv : Value.okWide Tryd.prog W .any base 5 cs[i] := by
        unfold Value.okWide
        rw [Tryd.underlying5]
        exact hc
      obtain ⟨n, hn⟩ := okWide_int Tryd.underlying5 hv
      rw [hn] at hc
      have hk : IntKind.has .u8 n := by
        simp only [Cell.okWide, Cell.ok, Tryd.underlying5] at hc
        exact hc.2
      exact ⟨n, hn, by simpa [IntKind.has, IntKind.min, IntKind.max, IntKind.signed, IntKind.bits] using hk⟩
    obtain ⟨n, hn, hn0, hn1⟩ := hx
    simp only [List.getElem_toArray, List.getElem_map, Array.getElem_toList, hn, byteOf, u8v]
    congr 1
    rw [UInt8.toNat_ofNat']
    omega
end Go.Proofs.YtfblhdomjnffcaaDoor
