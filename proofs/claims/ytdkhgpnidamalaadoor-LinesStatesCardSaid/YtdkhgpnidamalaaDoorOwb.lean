/-
  A row of bytes of one's own: its block, and one byte of it set.
-/
import Derived.Test.YtdkhgpnidamalaaDoorGA
namespace Go.Proofs.YtdkhgpnidamalaaDoor
open Go.RowKit Go.Bl
set_option linter.unusedVariables false

theorem own_blk {w : World} {base g n cp : Nat} {xs : List UInt8} (h : OwnB 5 base w (.slice (some ⟨g, 0, none⟩) n cp) xs) :
    ∃ cur, At w g (.cells cur 5) ∧ xs.length ≤ cur.size ∧ (∀ i, i < xs.length → cur[i]? = some (.int .u8 ((xs.getD i 0).toNat : Int))) ∧
      ∀ (w' : World) (i : Nat) (c : UInt8), At w' g (.cells (cur.setIfInBounds i (u8v c)) 5) → OwnB 5 base w' (.slice (some ⟨g, 0, none⟩) n cp) (xs.set i c) := by
  obtain ⟨h1, h2⟩ := h
  rcases h2 with ⟨h2, -⟩ | ⟨g', cap', cur, he, hg, hh, hn, hm, hs, ht⟩
  · cases h2
  · cases he
    rw [Nat.mul_one] at ht hs
    refine ⟨cur, hh, by omega, fun i hi => ?_, fun w' i c hA => ⟨by simp, .inr ⟨g, cp, cur.setIfInBounds i (u8v c), by rw [List.length_set], hg, hA, by rw [List.length_set]; exact hn, hm, by simpa using hs, ?_⟩⟩⟩
    · have e : (cur.toList.take xs.length)[i]? = (xs.map u8v)[i]? := by rw [ht]
      rw [List.getElem?_take, if_pos hi, Array.getElem?_toList] at e
      rw [e]
      simp [List.getD_eq_getElem?_getD, hi, u8v]
    · rw [Array.toList_setIfInBounds, List.length_set, Nat.mul_one, List.take_set, ht, List.map_set]
theorem cell_keep {w w' : World} {S : List Nat} {b i : Nat} {v : Value} (h : Fr S w w') (hb : b ∉ S) (hc : w.cell? ⟨b, i, none⟩ = some v) : w'.cell? ⟨b, i, none⟩ = some v := by
  unfold World.cell? at hc ⊢
  rcases Nat.lt_or_ge b w.heap.size with hl | hl
  · rw [h.block b hl hb]; exact hc
  · rw [Array.getElem?_eq_none hl] at hc; simp at hc

theorem own_cellB {w : World} {base g n cp : Nat} {xs : List UInt8} (h : OwnB 5 base w (.slice (some ⟨g, 0, none⟩) n cp) xs) {i : Nat} (hi : i < xs.length) : w.cell? ⟨g, i, none⟩ = some (.int .u8 ((xs.getD i 0).toNat : Int)) := by
  obtain ⟨cur, h1, -, h3, -⟩ := own_blk h
  rw [cell_of h1]
  exact h3 i hi
theorem own_blkV {w : World} {e : TypeId} {base g n cp : Nat} {us : List Value} (h : OwnV e base w (.slice (some ⟨g, 0, none⟩) n cp) us) :
    ∃ cur, At w g (.cells cur e) ∧ us.length ≤ cur.size ∧ (∀ (i : Nat) (u : Value), us[i]? = some u → cur[i]? = some u) ∧
      ∀ (w' : World) (i : Nat) (c : Value), At w' g (.cells (cur.setIfInBounds i c) e) → OwnV e base w' (.slice (some ⟨g, 0, none⟩) n cp) (us.set i c) := by
  obtain ⟨h1, h2⟩ := h
  rcases h2 with ⟨h2, -⟩ | ⟨g', cap', cur, he, hg, hh, hn, hm, hs, ht⟩
  · cases h2
  · simp only [Value.slice.injEq, Option.some.injEq, Addr.mk.injEq, and_true] at he
    obtain ⟨rfl, hnn, rfl⟩ := he
    rw [Nat.mul_one] at ht hs
    refine ⟨cur, hh, by omega, fun i u hi => ?_, fun w' i c hA => ⟨by simp, .inr ⟨g, cp, cur.setIfInBounds i c, by rw [List.length_set, hnn], hg, hA, by rw [List.length_set]; exact hn, hm, by simpa using hs, ?_⟩⟩⟩
    · have hlt := (List.getElem?_eq_some_iff.1 hi).1
      have e : (cur.toList.take us.length)[i]? = us[i]? := by rw [ht]
      rw [List.getElem?_take, if_pos hlt, Array.getElem?_toList] at e
      rw [e, hi]
    · rw [Array.toList_setIfInBounds, List.length_set, Nat.mul_one, List.take_set, ht]
theorem own_cellV {w : World} {e : TypeId} {base g n cp : Nat} {us : List Value} (h : OwnV e base w (.slice (some ⟨g, 0, none⟩) n cp) us) {i : Nat} {u : Value} (hi : us[i]? = some u) : w.cell? ⟨g, i, none⟩ = some u := by
  obtain ⟨cur, h1, -, h3, -⟩ := own_blkV h
  rw [cell_of h1]
  exact h3 i u hi
end Go.Proofs.YtdkhgpnidamalaaDoor
