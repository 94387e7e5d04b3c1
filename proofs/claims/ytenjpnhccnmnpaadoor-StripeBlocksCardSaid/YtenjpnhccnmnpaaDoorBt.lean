/-
  Layer 6: rows of bytes in blocks of bytes: they stand when a row of rows grows.
-/
import Derived.Test.YtenjpnhccnmnpaaDoorBls
namespace Go.Proofs.YtenjpnhccnmnpaaDoor
open Go.RowKit Go.Bl
set_option linter.unusedVariables false

theorem own_neT {e te : TypeId} {base size n : Nat} {w : World} {v : Value} {xs : List Value} (h : w.ownsRow base e size v n xs) {b : Nat} {c : Array Value} {fz : Nat × Nat} (hb : w.heap[b]? = some (.cells c te fz)) (hne : te ≠ e) : v.ownBlock ≠ some b := by
  intro hg
  rcases h.2 with ⟨rfl, -⟩ | ⟨g, cap, cur, rfl, hbg, hh, -⟩
  · simp [Value.ownBlock] at hg
  · simp [Value.ownBlock] at hg
    subst hg
    have := hh.symm.trans hb
    simp at this
    exact hne this.2.1.symm
/-- bytes that lie in a block of bytes -/
def BsT (w : World) (v : Value) (xs : List UInt8) : Prop :=
  ∃ b off cap c, v = .slice (some ⟨b, off, none⟩) xs.length cap ∧ xs.length ≤ cap ∧ cap ≤ maxLen ∧ At w b (.cells c 5) ∧ ∀ i, i < (xs.map u8v).length → c[off + i]? = (xs.map u8v)[i]?
theorem BsT.bs {A : Nat → Prop} {w : World} {v : Value} {xs : List UInt8} (h : BsT w v xs) (hA : ∀ b, ¬ A b) : Bs A w v xs := by
  obtain ⟨b, off, cap, c, rfl, h1, h2, h3, h4⟩ := h
  exact ⟨_, cap, rfl, h1, h2, .inr ⟨b, off, c, 5, (0, 0), rfl, hA b, h3, h4⟩⟩
theorem BsT.keep0 {w w' : World} {v : Value} {xs : List UInt8} (h : BsT w v xs) (hf : Fr [] w w') : BsT w' v xs := by
  obtain ⟨b, off, cap, c, rfl, h1, h2, h3, h4⟩ := h
  exact ⟨b, off, cap, c, rfl, h1, h2, h3.keep0 hf, h4⟩
theorem BsT.grown {w w' : World} {v o : Value} {xs : List UInt8} {base : Nat} {us : List Value} (h : BsT w v xs) (ho : OwnV 22 base w o us) (hg : w.grownBy w' o.ownBlock) : BsT w' v xs := by
  obtain ⟨b, off, cap, c, rfl, h1, h2, h3, h4⟩ := h
  exact ⟨b, off, cap, c, rfl, h1, h2, h3.grown hg (own_neT ho h3 (by decide)), h4⟩
theorem BsT.shape {w : World} {v : Value} {xs : List UInt8} (h : BsT w v xs) : ∃ b off cap, v = .slice (some ⟨b, off, none⟩) xs.length cap := by
  obtain ⟨b, off, cap, c, rfl, -⟩ := h
  exact ⟨b, off, cap, rfl⟩
/-- out of a row of one's own -/
theorem ck_bst {w : World} {base b L cap : Nat} {xs : List UInt8} (h : OwnB 5 base w (.slice (some ⟨b, 0, none⟩) L cap) xs) (k : Nat) (hk : 8 * k + 8 ≤ xs.length) : BsT w (ckV b k) ((xs.drop (8 * k)).take 8) := by
  obtain ⟨h1, h2⟩ := h
  rcases h2 with ⟨h2, -⟩ | ⟨g, cap', cur, he, hg, hh, hn, hm, hs, ht⟩
  · cases h2
  · cases he
    have hl : ((xs.drop (8 * k)).take 8).length = 8 := by rw [List.length_take, List.length_drop]; omega
    refine ⟨b, 8 * k, 8, cur, by unfold ckV; rw [hl], by rw [hl]; exact Nat.le_refl _, by simp [maxLen], hh, fun i hi => ?_⟩
    rw [List.length_map, hl] at hi
    have e : (cur.toList.take (xs.length * 1))[8 * k + i]? = (xs.map u8v)[8 * k + i]? := by rw [ht]
    rw [List.getElem?_take, if_pos (by omega), Array.getElem?_toList] at e
    rw [e, List.map_take, List.map_drop, List.getElem?_take, if_pos hi, List.getElem?_drop]
theorem rws_bst {base : Nat} {w : World} {bs : List Nat} {rows : List (List UInt8)} (h : Rws base w bs rows) (h8 : ∀ r ∈ rows, r.length = 8) (i b : Nat) (r : List UInt8) (hb : bs[i]? = some b) (hr : rows[i]? = some r) : BsT w (sl8 b) r := by
  have h3 := h.at_ i b r hb hr
  have hl := h8 r (List.mem_of_getElem? hr)
  exact ⟨b, 0, 8, _, by unfold sl8; rw [hl], by omega, by simp [maxLen], h3, fun i hi => by simp⟩
/-- a list of rows, typed -/
def RdT (A : Nat → Prop) (w : World) (v : Value) (ls : List (Value × List UInt8)) : Prop := Vs A w v (ls.map (·.1)) ∧ ∀ x ∈ ls, BsT w x.1 x.2
theorem RdT.rdb {w : World} {v : Value} {ls : List (Value × List UInt8)} (h : RdT (fun _ => False) w v ls) : RdB (fun _ => False) w v ls := ⟨h.1, fun x hx => (h.2 x hx).bs (fun _ h => h)⟩
end Go.Proofs.YtenjpnhccnmnpaaDoor
