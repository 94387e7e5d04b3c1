/-
  Places of numbers, rows of truth values, for the laws of layers 4 and 5.
  Opening an argument: bytes.
-/
import Derived.Test.YtmohiblgfmdkjaaDoorGF
import Derived.Test.YtmohiblgfmdkjaaDoorJO
import Derived.Test.YtmohiblgfmdkjaaDoorGA
import Derived.Test.YtmohiblgfmdkjaaDoorRows
import Derived.ProofKit
import Derived.OpenShut
namespace Go.Proofs.YtmohiblgfmdkjaaDoor
open Go.RowKit Go.Bl
set_option linter.unusedVariables false
theorem Tryd.infoBool : (Tryd.prog.info? 4).map (fun i => (i.zero, i.size, i.bytes)) = some (some (.bool false), 1, 1) := by kernel_rfl
def boolC (bs : List Bool) : Array Value := (bs.map Value.bool).toArray
theorem boolC_len (bs : List Bool) : (boolC bs).size = bs.length := by simp [boolC]
theorem made_bools (n : Nat) : madeCells #[.bool false] n = boolC (inL n []) := by
  rw [inL_nil]
  unfold boolC
  apply Array.ext
  · simp [madeCells]
  · intro i h1 h2
    simp [madeCells, Nat.mod_one]
theorem boolC_set (bs : List Bool) (p : Nat) : (boolC bs).setIfInBounds p (.bool true) = boolC (bs.set p true) := by
  unfold boolC; rw [List.map_set]; simp
theorem bool_cell {w : World} {b n p : Nat} {t : TypeId} {ps : List Nat} (h : At w b (.cells (boolC (inL n ps)) t)) (hp : p < n) : w.cell? ⟨b, p, none⟩ = some (.bool (decide (p ∈ ps))) := by
  rw [cell_of h]
  unfold boolC
  simp [inL_get n ps p hp]
theorem bool_set {w : World} {b n p : Nat} {t : TypeId} {ps : List Nat} (h : At w b (.cells ((boolC (inL n ps)).setIfInBounds p (.bool true)) t)) (hp : p < n) : At w b (.cells (boolC (inL n (ps ++ [p]))) t) := by
  rwa [boolC_set, inL_set n ps p hp] at h
theorem OwnB_keep_at {e : TypeId} {base : Nat} {w w' : World} {g n cp : Nat} {xs : List UInt8} {S : List Nat} (h : OwnB e base w (.slice (some ⟨g, 0, none⟩) n cp) xs) (hf : Fr S w w') (hg : g ∉ S) : OwnB e base w' (.slice (some ⟨g, 0, none⟩) n cp) xs :=
  own_keep h hf (by
    intro b hb hm
    simp [Value.ownBlock] at hb
    subst hb
    exact hg hm)
theorem own_ne_tyB {e te : TypeId} {base size n : Nat} {w : World} {v : Value} {xs : List Value} (h : w.ownsRow base e size v n xs) {b : Nat} {c : Array Value} {fz : Nat × Nat} (hb : At w b (.cells c te fz)) (hne : te ≠ e) : v.ownBlock ≠ some b := by
  intro hg
  rcases h.2 with ⟨rfl, -⟩ | ⟨g, cap, cur, rfl, hbg, hh, -⟩
  · simp [Value.ownBlock] at hg
  · simp [Value.ownBlock] at hg
    subst hg
    have := hh.symm.trans hb
    simp at this
    exact hne this.2.1.symm
theorem grown_fr {w w' : World} {r : Option Nat} (h : w.grownBy w' r) : Fr r.toList w w' := Fr.grown h (by intro k hk; simp [hk])
theorem pl_at (pl : Int) (n : Nat) (h0 : 0 < n) (hn : n ≤ 255) : ∃ p : Nat, p < n ∧ wrap64 ((IntKind.u64.wrap pl).tmod n) = p := by
  have h := wrap_u64_nonneg pl
  rw [Int.tmod_eq_emod_of_nonneg h]
  have h1 := Int.emod_nonneg (IntKind.u64.wrap pl) (show (n : Int) ≠ 0 by omega)
  have h2 := Int.emod_lt_of_pos (IntKind.u64.wrap pl) (show (0 : Int) < n by omega)
  refine ⟨((IntKind.u64.wrap pl) % (n : Int)).toNat, by omega, ?_⟩
  unfold wrap64
  omega
end Go.Proofs.YtmohiblgfmdkjaaDoor
namespace Go.Proofs.YtmohiblgfmdkjaaDoor
open Go.ChangeShapes Go.WideShapes Go.ChangeAt Go.RowKit Go.Bl
set_option linter.unusedVariables false

theorem row_of_cells {W : World} {a : Addr} {cs : List Value} (h : ∀ i, i < cs.length → W.cell? (a.add i) = cs[i]?) : Row (fun _ => False) W (some a) cs := by
  rcases Nat.eq_zero_or_pos cs.length with h0 | h0
  · exact .inl (List.length_eq_zero_iff.1 h0)
  · have hc := h 0 h0
    obtain ⟨b, off, sp⟩ := a
    have hb : ∃ c e fz, W.heap[b]? = some (.cells c e fz) ∧ sp = none := by
      have hne : (W.cell? ((⟨b, off, sp⟩ : Addr).add 0)) ≠ none := by rw [hc]; simp [h0]
      have hbl : ((⟨b, off, sp⟩ : Addr).add 0).block = b := by unfold Addr.add; split <;> rfl
      unfold World.cell? at hne
      rw [hbl] at hne
      cases hh : W.heap[b]? with
      | none => rw [hh] at hne; exact absurd rfl hne
      | some o =>
        rw [hh] at hne
        cases o with
        | cells c e fz =>
          refine ⟨c, e, fz, rfl, ?_⟩
          cases sp with
          | none => rfl
          | some s => exact absurd (by simp [Addr.add]) hne
        | _ => exact absurd rfl hne
    obtain ⟨c, e, fz, hh, rfl⟩ := hb
    refine .inr ⟨b, off, c, e, fz, rfl, fun h => h, hh, fun i hi => ?_⟩
    have := h i hi
    have he : (⟨b, off, none⟩ : Addr).add i = ⟨b, off + i, none⟩ := by unfold Addr.add; split <;> simp_all
    rw [he, cell_of hh] at this
    exact this

set_option maxRecDepth 100000 in
theorem open_bs {H : Type} {enc : TypeId × Value → H} {W : World} {base : Nat} {v : Value} {d : DataW H} {p : List MemPlace} (hval : Value.okWide Tryd.prog W .any base 22 v) (h : DataW.Trod enc Tryd.prog W 0 (fun _ => true) true 22 v d p) :
    ∃ xs : List UInt8, Bs (fun _ => False) W v xs ∧ xs.length ≤ maxLen := by
  obtain ⟨a1, len, cap, rfl⟩ := okWide_slice Tryd.underlying22 hval
  obtain ⟨fuel, hf⟩ := h
  rcases open_ints Tryd.underlying22 Tryd.underlying5 (show Tryd.prog.cellsOf 5 = 1 by kernel_rfl) hf with ⟨hcs, hx⟩ | ⟨a, len', cap', zs, hcs, _, hl, hm, hz, hx, hcell, hwz⟩
  · simp [Value.cells] at hcs
    obtain ⟨rfl, rfl, rfl⟩ := hcs
    exact ⟨[], Bs.nil _ _ _ _ (Nat.zero_le _), Nat.zero_le _⟩
  · simp [Value.cells] at hcs
    obtain ⟨rfl, rfl, rfl⟩ := hcs
    simp only [if_true] at hz
    have hlen : ((zs.take len).map fun n => UInt8.ofNat n.toNat).length = len := by simp; omega
    refine ⟨(zs.take len).map fun n => UInt8.ofNat n.toNat, ⟨some a, cap, by rw [hlen], by rw [hlen]; exact hl, hm, row_of_cells fun i hi => ?_⟩, by rw [hlen]; omega⟩
    have hi' : i < len := by simp at hi; omega
    rw [hcell i (by omega)]
    have hwf := hwz (zs.getD i 0) (by
      rw [List.getD_eq_getElem?_getD, List.getElem?_eq_getElem (by omega)]
      exact List.getElem_mem _)
    have hr : 0 ≤ zs.getD i 0 ∧ zs.getD i 0 ≤ 255 := by simpa [Lit.wf, IntKind.min, IntKind.max, IntKind.signed, IntKind.bits] using hwf
    have hg : (zs.take len)[i]? = some (zs.getD i 0) := by
      rw [List.getElem?_take, if_pos hi', List.getD_eq_getElem?_getD, List.getElem?_eq_getElem (by omega)]
      rfl
    simp only [List.getElem?_map, hg, Option.map_some, u8v, Option.some.injEq, Value.int.injEq, true_and]
    have : (UInt8.ofNat (zs.getD i 0).toNat).toNat = (zs.getD i 0).toNat := by
      rw [UInt8.toNat_ofNat']
      omega
    rw [this]
    omega

end Go.Proofs.YtmohiblgfmdkjaaDoor
