/-
  Layer 3: code.Parity's drawn region. (printed by genpar.py)
  Layer 3: code.Parity: the register.
-/
import Derived.Test.YtdkhgpnidamalaaDoorHE
import Derived.Laws.CopyOwn
namespace Go.Proofs.YtdkhgpnidamalaaDoor
open Go.RowKit Go.Bl
set_option linter.unusedVariables false

theorem cell_fr {S : List Nat} {w p : World} {b i : Nat} {v : Value} (h : Fr S w p) (hb : b ∉ S) (hc : w.cell? ⟨b, i, none⟩ = some v) : p.cell? ⟨b, i, none⟩ = some v := by
  unfold World.cell? at hc ⊢
  rcases Nat.lt_or_ge b w.heap.size with hl | hl
  · rw [h.block b hl hb]; exact hc
  · rw [Array.getElem?_eq_none hl] at hc; simp at hc
/-- k rounds of the inner loop -/
def parRow (y : UInt8) : Nat → List UInt8 → List UInt8
  | 0, r => r
  | k + 1, r => updX (parRow y k r) k (gmul y (genL.getD (31 - k) 0))
theorem parRow_len (y : UInt8) : ∀ (k : Nat) (r : List UInt8), (parRow y k r).length = r.length
  | 0, _ => rfl
  | k + 1, r => by simp only [parRow]; rw [updX_len, parRow_len y k r]
theorem updX_at (l : List UInt8) (i m : Nat) (x : UInt8) (hi : i < l.length) : (updX l i x).getD m 0 = if m = i then l.getD m 0 ^^^ x else l.getD m 0 := by
  unfold updX
  by_cases h : m = i
  · subst h
    simp [List.getD_eq_getElem?_getD, hi]
  · simp [List.getD_eq_getElem?_getD, List.getElem?_set_ne (Ne.symm h), h]
theorem parRow_get (y : UInt8) (m : Nat) : ∀ (k : Nat) (r : List UInt8), k ≤ r.length → (parRow y k r).getD m 0 = if m < k then r.getD m 0 ^^^ gmul y (genL.getD (31 - m) 0) else r.getD m 0
  | 0, r, _ => by rw [if_neg (by omega)]; rfl
  | k + 1, r, h => by
    simp only [parRow]
    rw [updX_at _ _ _ _ (by rw [parRow_len]; omega), parRow_get y m k r (by omega)]
    by_cases hm : m = k
    · subst hm
      rw [if_pos rfl, if_neg (by omega), if_pos (by omega)]
    · rw [if_neg hm]
      by_cases h2 : m < k
      · rw [if_pos h2, if_pos (by omega)]
      · rw [if_neg h2, if_neg (by omega)]
theorem parRow_step (R : List UInt8) (c : UInt8) (hR : R.length = 32) : parRow (c ^^^ R.getD 0 0) 32 (R.tail ++ [0]) = parStep R c := by
  have hl : (R.tail ++ [0]).length = 32 := by simp [hR]
  have h0 : R.headD 0 = R.getD 0 0 := by cases R <;> rfl
  apply List.ext_getElem
  · rw [parRow_len, hl, parStep_len R c hR]
  · intro m h1 h2
    rw [parRow_len, hl] at h1
    have := parRow_get (c ^^^ R.getD 0 0) m 32 (R.tail ++ [0]) (by omega)
    rw [if_pos h1, List.getD_eq_getElem?_getD, List.getElem?_eq_getElem (by rw [parRow_len]; omega), Option.getD_some] at this
    rw [this]
    simp only [parStep, List.getElem_mapIdx, h0]
    rw [List.getD_eq_getElem?_getD, List.getElem?_eq_getElem (by omega), Option.getD_some]

end Go.Proofs.YtdkhgpnidamalaaDoor
namespace Go.Proofs.YtdkhgpnidamalaaDoor
open Go.RowKit Go.Bl
set_option linter.unusedVariables false

theorem cell_lt {w : World} {b i : Nat} {v : Value} (h : w.cell? ⟨b, i, none⟩ = some v) : b < w.heap.size := by
  unfold World.cell? at h
  rcases Nat.lt_or_ge b w.heap.size with hb | hb
  · exact hb
  · rw [Array.getElem?_eq_none hb] at h; simp at h
theorem made_zeros (n : Nat) : madeCells #[.int .u8 0] n = ((List.replicate n (0 : UInt8)).map u8v).toArray := by
  apply Array.ext
  · simp [madeCells]
  · intro i h1 h2
    simp [madeCells, u8v, Nat.mod_one]
theorem bs_apart {A : Nat → Prop} {w : World} {b0 o n c : Nat} {xs : List UInt8} (S : List Nat) (h : Bs A w (.slice (some ⟨b0, o, none⟩) n c) xs) (hn : b0 ∉ S) : Bs (fun b => b ∈ S) w (.slice (some ⟨b0, o, none⟩) n c) xs := by
  obtain ⟨a, cap, e, h1, h2, h3⟩ := h
  cases e
  refine ⟨_, _, rfl, h1, h2, ?_⟩
  rcases h3 with h | ⟨b, off, cc, e, fz, he, hA, hb, hc⟩
  · exact .inl h
  · cases he
    exact .inr ⟨b0, o, cc, e, fz, rfl, hn, hb, hc⟩
theorem reg_shift (R : List UInt8) (h : R.length = 32) : ((R.tail ++ R.drop 31).set 31 0) = R.tail ++ [0] := by
  have h1 : R.tail.length = 31 := by simp [h]
  rw [List.set_append_right _ _ (by omega), h1]
  congr 1
  obtain ⟨x, hx⟩ : ∃ x, R.drop 31 = [x] := by
    have : (R.drop 31).length = 1 := by simp [h]
    match hR : R.drop 31, this with
    | [x], _ => exact ⟨x, rfl⟩
  rw [hx]; rfl

theorem copy_shift (wr : World) (g : Nat) (R : List UInt8) (hR : R.length = 32) (hA : At wr g (.cells (R.map u8v).toArray 5)) :
    ∃ w5, (Builtin.copy_ #[61, 61] 3 #[.slice (some ⟨g, 0, none⟩) 32 32, .slice (some ⟨g, 1, none⟩) 31 31]).run Tryd.prog wr = .ok (.int .i64 31) w5 ∧ At w5 g (.cells ((R.tail ++ R.drop 31).map u8v).toArray 5) ∧ Fr [g] wr w5 := by
  have hcl : (R.tail.map u8v).length = 31 := by simp [hR]
  have hrun := run_copy_row (P := Tryd.prog) wr 61 61 3 5 g 0 32 32 ⟨g, 1, none⟩ 31 31 (R.map u8v).toArray 5 (R.tail.map u8v) Tryd.underlying61 (by kernel_rfl) hA (by rw [hcl]; rfl) (fun i v hv => by
    have ha : (⟨g, 1, none⟩ : Addr).add i = ⟨g, 1 + i, none⟩ := by unfold Addr.add; split <;> simp_all
    rw [ha, cell_of hA, ← hv]
    simp [List.getElem?_tail, Nat.add_comm]) (by simp [hR]) (fun v hv => u8v_one R.tail v hv)
  refine ⟨wr.setRow g ((R.map u8v).toArray.toList.take 0 ++ R.tail.map u8v ++ (R.map u8v).toArray.toList.drop (0 + (R.tail.map u8v).length)).toArray, hrun.trans (by rw [hcl]; rfl), ?_, ⟨rfl, rfl, rfl, by simp [World.setRow], fun k hk hn => setRow_other wr g k _ (by simpa using hn)⟩⟩
  have h := setRow_heap wr g (R.map u8v).toArray ((R.map u8v).toArray.toList.take 0 ++ R.tail.map u8v ++ (R.map u8v).toArray.toList.drop (0 + (R.tail.map u8v).length)).toArray 5 (0, 0) hA
  have e : ((R.map u8v).toArray.toList.take 0 ++ R.tail.map u8v ++ (R.map u8v).toArray.toList.drop (0 + (R.tail.map u8v).length)) = (R.tail ++ R.drop 31).map u8v := by
    rw [hcl]; simp [List.map_drop]
  rw [e] at h ⊢
  exact h

end Go.Proofs.YtdkhgpnidamalaaDoor
