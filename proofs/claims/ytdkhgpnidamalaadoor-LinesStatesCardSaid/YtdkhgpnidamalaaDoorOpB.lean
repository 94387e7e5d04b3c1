/-
  Opening an argument: bytes.
-/
import Derived.Test.YtdkhgpnidamalaaDoorRows
import Derived.Test.YtdkhgpnidamalaaDoorGA
import Derived.ProofKit
import Derived.OpenShut
namespace Go.Proofs.YtdkhgpnidamalaaDoor
open Go.ChangeShapes Go.WideShapes Go.ChangeAt Go.RowKit Go.Bl
set_option linter.unusedVariables false

theorem row_of_cells {W : World} {a : Addr} {cs : List Value} (h : ∀ i, i < cs.length → W.cell? (a.add i) = cs[i]?) : Row (fun _ => False) W (some a) cs := by
  rcases Nat.eq_zero_or_pos cs.length with h0 | h0
  · exact .inl (List.length_eq_zero_iff.1 h0)
  · have hc := h 0 h0
    obtain ⟨b, off, sp⟩ := a
    have hb : ∃ c e fz, W.heap[b]? = some (.cells c e fz) ∧ sp = none := by
      have hne : (W.cell? ((⟨b, off, sp⟩ : Addr).add 0)) ≠ none := by rw [hc]; simp [h0]
      have hbl : ((⟨b, off, sp⟩ : Addr).add 0).block = b := by unfold Addr.add; split <;> rfl
      unfold World.cell? at hne
      rw [hbl] at hne
      cases hh : W.heap[b]? with
      | none => rw [hh] at hne; exact absurd rfl hne
      | some o =>
        rw [hh] at hne
        cases o with
        | cells c e fz =>
          refine ⟨c, e, fz, rfl, ?_⟩
          cases sp with
          | none => rfl
          | some s => exact absurd (by simp [Addr.add]) hne
        | _ => exact absurd rfl hne
    obtain ⟨c, e, fz, hh, rfl⟩ := hb
    refine .inr ⟨b, off, c, e, fz, rfl, fun h => h, hh, fun i hi => ?_⟩
    have := h i hi
    have he : (⟨b, off, none⟩ : Addr).add i = ⟨b, off + i, none⟩ := by unfold Addr.add; split <;> simp_all
    rw [he, cell_of hh] at this
    exact this

set_option maxRecDepth 100000 in
theorem open_bs {H : Type} {enc : TypeId × Value → H} {W : World} {base : Nat} {v : Value} {d : DataW H} {p : List MemPlace} (hval : Value.okWide Tryd.prog W .any base 61 v) (h : DataW.Trod enc Tryd.prog W 0 (fun _ => true) true 61 v d p) :
    ∃ xs : List UInt8, Bs (fun _ => False) W v xs ∧ xs.length ≤ maxLen := by
  obtain ⟨a1, len, cap, rfl⟩ := okWide_slice Tryd.underlying61 hval
  obtain ⟨fuel, hf⟩ := h
  rcases open_ints Tryd.underlying61 Tryd.underlying5 (show Tryd.prog.cellsOf 5 = 1 by kernel_rfl) hf with ⟨hcs, hx⟩ | ⟨a, len', cap', zs, hcs, _, hl, hm, hz, hx, hcell, hwz⟩
  · simp [Value.cells] at hcs
    obtain ⟨rfl, rfl, rfl⟩ := hcs
    exact ⟨[], Bs.nil _ _ _ _ (Nat.zero_le _), Nat.zero_le _⟩
  · simp [Value.cells] at hcs
    obtain ⟨rfl, rfl, rfl⟩ := hcs
    simp only [if_true] at hz
    have hlen : ((zs.take len).map fun n => UInt8.ofNat n.toNat).length = len := by simp; omega
    refine ⟨(zs.take len).map fun n => UInt8.ofNat n.toNat, ⟨some a, cap, by rw [hlen], by rw [hlen]; exact hl, hm, row_of_cells fun i hi => ?_⟩, by rw [hlen]; omega⟩
    have hi' : i < len := by simp at hi; omega
    rw [hcell i (by omega)]
    have hwf := hwz (zs.getD i 0) (by
      rw [List.getD_eq_getElem?_getD, List.getElem?_eq_getElem (by omega)]
      exact List.getElem_mem _)
    have hr : 0 ≤ zs.getD i 0 ∧ zs.getD i 0 ≤ 255 := by simpa [Lit.wf, IntKind.min, IntKind.max, IntKind.signed, IntKind.bits] using hwf
    have hg : (zs.take len)[i]? = some (zs.getD i 0) := by
      rw [List.getElem?_take, if_pos hi', List.getD_eq_getElem?_getD, List.getElem?_eq_getElem (by omega)]
      rfl
    simp only [List.getElem?_map, hg, Option.map_some, u8v, Option.some.injEq, Value.int.injEq, true_and]
    have : (UInt8.ofNat (zs.getD i 0).toNat).toNat = (zs.getD i 0).toNat := by
      rw [UInt8.toNat_ofNat']
      omega
    rw [this]
    omega

end Go.Proofs.YtdkhgpnidamalaaDoor
