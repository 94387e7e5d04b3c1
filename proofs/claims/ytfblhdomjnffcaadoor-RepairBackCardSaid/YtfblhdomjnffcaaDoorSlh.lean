/-
  Layer 4: helpers of the document's Solve: powers and inverses, a matrix in memory.
-/
import Derived.Test.YtfblhdomjnffcaaDoorSlr
import Derived.Test.YtfblhdomjnffcaaDoorGJ
import Derived.Test.YtfblhdomjnffcaaDoorGF
namespace Go.Proofs.YtfblhdomjnffcaaDoor
open Go.RowKit Go.Bl
set_option linter.unusedVariables false

set_option maxRecDepth 100000 in
set_option maxHeartbeats 1000000 in
theorem rpow_any (w : World) (a : UInt8) (n : Nat) (hn : n ≤ 1000000) : Calls Tryd.prog 67 #[.int .u8 (a.toNat : Int), .int .i64 n] w fun e w' => e = .returned (.int .u8 ((gpw a n).toNat : Int)) ∧ Fr [] w w' := by
  go_enter Tryd.func67, Tryd.ntmps67
  go_wp2
  go_loopw [1, 5] (fun i x wr => ∃ k m : Nat, k + m = n ∧ i = .int .i64 m ∧ x = .int .u8 ((gpw a k).toNat : Int) ∧ Hid (Fr [] w wr)) (fun i _ _ => (intOf i).toNat)
  case atStart => exact ⟨0, n, by omega, rfl, rfl, Fr.refl _ _⟩
  case round =>
    obtain ⟨k, m, hk, rfl, rfl, HF⟩ := hrel
    by_cases hm : 0 < m
    · have hmi : (0 : Int) < m := by omega
      have HS := Lib.hid (show gmul (gpw a k) a = gpw a (k + 1) from rfl)
      obtain ⟨g, hg⟩ : ∃ g, gpw a k = g := ⟨_, rfl⟩
      rw [hg] at HS ⊢
      have hk2 := hk
      clear hk hg
      go_wp2_with fail
      refine (rmul_any wr g a).mono ?_
      rintro e w2 ⟨rfl, hf⟩
      have HF2 := Lib.hid (HF.out.trans hf)
      clear hf HF
      go_wp2
      go_roundw
      case rel => exact ⟨k + 1, m - 1, by omega, by go_num, by rw [← HS.out]; rfl, HF2⟩
      case measure => simp [intOf]; omega
    · obtain rfl : m = 0 := by omega
      obtain rfl : k = n := by omega
      go_wp2
      go_ret
      exact ⟨rfl, HF.out⟩
theorem gpw_inv (a : UInt8) : gpw a 254 = ginv a := by
  by_cases h : a = 0
  · subst h
    rw [ginv_zero]
    exact gmul_zero _
  · obtain ⟨k, hk, rfl⟩ := gexp_onto a h
    rw [gpw_gexp, ginv_gexp k hk, ← gexp_rest (k * 254), ← gexp_rest (255 - k)]
    congr 1
    omega
set_option maxHeartbeats 400000 in
theorem rinv_any (w : World) (a : UInt8) : Calls Tryd.prog 94 #[.int .u8 (a.toNat : Int)] w fun e w' => e = .returned (.int .u8 ((ginv a).toNat : Int)) ∧ Fr [] w w' := by
  have HP := Lib.hid (rpow_any w a 254 (by omega))
  rw [gpw_inv] at HP
  go_enter Tryd.func94, Tryd.ntmps94
  go_wp2_with fail
  refine HP.out.mono ?_
  rintro e w2 ⟨rfl, hf⟩
  have HF := Lib.hid hf
  clear hf
  go_wp2
  go_ret
  exact ⟨rfl, HF.out⟩

theorem own_keepT {e te : TypeId} {base base' : Nat} {w w' : World} {v o : Value} {xs : List UInt8} {us : List Value} (h : OwnB e base w v xs) (ho : OwnV te base' w o us) (hne : te ≠ e) (hg : w.grownBy w' o.ownBlock) : OwnB e base w' v xs := by
  refine own_keep (S := o.ownBlock.toList) h (Fr.grown hg (by intro k hk; simp [hk])) ?_
  intro g hg2 hg3
  rcases h.2 with ⟨rfl, -⟩ | ⟨g', cap, cur, rfl, hbg, hh, -⟩
  · simp [Value.ownBlock] at hg2
  · simp only [Value.ownBlock, Option.some.injEq] at hg2
    subst hg2
    exact own_neT ho hh (Ne.symm hne) (by simpa using hg3)
def slW (g W c : Nat) : Value := .slice (some ⟨g, 0, none⟩) W c
/-- a matrix in memory: a row of rows, each of W bytes in a block of its own -/
structure Mat (B : Nat) (w : World) (lb n lc W : Nat) (us : List Value) (m : List (List UInt8)) : Prop where
  list : OwnV 22 B w (slW lb n lc) us
  ln : us.length = n
  lm : m.length = n
  rows : ∀ i, i < n → ∃ g c, us[i]? = some (slW g W c) ∧ OwnB 5 B w (slW g W c) (rw_ m i) ∧ (rw_ m i).length = W
  apart : ∀ (i k g c g' c' : Nat), us[i]? = some (slW g W c) → us[k]? = some (slW g' W c') → i ≠ k → g ≠ g'
theorem Mat.row {B : Nat} {w : World} {lb n lc W : Nat} {us : List Value} {m : List (List UInt8)} (h : Mat B w lb n lc W us m) (hW : 0 < W) (i : Nat) (hi : i < n) :
    ∃ g c, us[i]? = some (slW g W c) ∧ w.cell? ⟨lb, i, none⟩ = some (slW g W c) ∧ OwnB 5 B w (slW g W c) (rw_ m i) ∧ (rw_ m i).length = W ∧ lb ≠ g ∧ B ≤ g ∧ g < w.heap.size ∧ W ≤ c ∧ c ≤ 2 ^ 63 - 1 := by
  obtain ⟨g, c, h1, h2, h3⟩ := h.rows i hi
  obtain ⟨cur, k1, -, -, -⟩ := own_blkV h.list
  obtain ⟨cur2, k2, -, -, -⟩ := own_blk h2
  refine ⟨g, c, h1, own_cellV h.list h1, h2, h3, ?_, ?_, k2.lt, ?_⟩
  · rintro rfl
    have := k1.symm.trans k2
    simp at this
  · exact (h2.lt g (by simp [slW, Value.ownBlock])).1
  · obtain ⟨a, c', e, e1, e2, -⟩ := h2.bs (A := fun _ => False) (by simp)
    unfold slW at e
    cases e
    unfold maxLen at e2
    omega
theorem Mat.keep0 {B : Nat} {w w' : World} {lb n lc W : Nat} {us : List Value} {m : List (List UInt8)} (h : Mat B w lb n lc W us m) (hf : Fr [] w w') : Mat B w' lb n lc W us m :=
  ⟨h.list.keep0 hf, h.ln, h.lm, fun i hi => by obtain ⟨g, c, h1, h2, h3⟩ := h.rows i hi; exact ⟨g, c, h1, h2.keep hf (by simp), h3⟩, h.apart⟩
theorem own_keep1 {e : TypeId} {base : Nat} {w w' : World} {g W c : Nat} {xs : List UInt8} {b : Nat} (h : OwnB e base w (slW g W c) xs) (hf : Fr [b] w w') (hne : g ≠ b) : OwnB e base w' (slW g W c) xs := by
  refine own_keep h hf ?_
  intro k hk
  simp only [slW, Value.ownBlock, Option.some.injEq] at hk
  subst hk
  simpa using hne
/-- a row is turned -/
theorem Mat.set {B : Nat} {w w' : World} {lb n lc W : Nat} {us : List Value} {m : List (List UInt8)} (h : Mat B w lb n lc W us m) (hW : 0 < W) {i g c : Nat} {r : List UInt8} (hi : i < n) (hu : us[i]? = some (slW g W c)) (hf : Fr [g] w w') (ho : OwnB 5 B w' (slW g W c) r) (hr : r.length = W) : Mat B w' lb n lc W us (m.set i r) := by
  obtain ⟨g', c', h1, -, -, -, h4, -⟩ := h.row hW i hi
  rw [hu] at h1
  unfold slW at h1
  cases h1
  refine ⟨own_keep h.list hf ?_, h.ln, by rw [List.length_set, h.lm], fun k hk => ?_, h.apart⟩
  · intro k hk
    simp only [slW, Value.ownBlock, Option.some.injEq] at hk
    subst hk
    simpa using h4
  · rw [rw_set _ _ _ _ (by rw [h.lm]; exact hi)]
    by_cases hki : k = i
    · subst hki
      rw [if_pos rfl]
      exact ⟨g, c, hu, ho, hr⟩
    · rw [if_neg hki]
      obtain ⟨g', c', k1, k2, k3⟩ := h.rows k hk
      exact ⟨g', c', k1, own_keep1 k2 hf (h.apart k i g' c' g c k1 hu hki), k3⟩
/-- two rows change places -/
theorem Mat.swap {B : Nat} {w w' : World} {lb n lc W : Nat} {us : List Value} {m : List (List UInt8)} (h : Mat B w lb n lc W us m) (hW : 0 < W) {i k : Nat} {ui uk : Value} (hi : i < n) (hk : k < n) (hui : us[i]? = some ui) (huk : us[k]? = some uk) (hf : Fr [lb] w w')
    (ho : OwnV 22 B w' (slW lb n lc) ((us.set i uk).set k ui)) : Mat B w' lb n lc W ((us.set i uk).set k ui) (swapR m i k) := by
  have hget : ∀ j, ((us.set i uk).set k ui)[j]? = if j = k then some ui else if j = i then some uk else us[j]? := fun j => by
    rw [List.getElem?_set, List.getElem?_set]
    have := h.ln
    by_cases h1 : k = j
    · subst h1; simp [this, hk]
    · rw [if_neg h1, if_neg (Ne.symm h1)]
      by_cases h2 : i = j
      · subst h2; simp [this, hi]
      · rw [if_neg h2, if_neg (Ne.symm h2)]
  -- where the row at place j stood
  have hsrc : ∀ j, j < n → ∃ s, s < n ∧ ((us.set i uk).set k ui)[j]? = us[s]? ∧ rw_ (swapR m i k) j = rw_ m s ∧ (s = if j = k then i else if j = i then k else j) := fun j hj => by
    rw [hget, swapR_rw m i k (by rw [h.lm]; exact hi) (by rw [h.lm]; exact hk)]
    by_cases h1 : j = k
    · rw [if_pos h1, if_pos h1]; exact ⟨i, hi, hui.symm, rfl, by rw [if_pos h1]⟩
    · rw [if_neg h1, if_neg h1]
      by_cases h2 : j = i
      · rw [if_pos h2, if_pos h2]; exact ⟨k, hk, huk.symm, rfl, by rw [if_neg h1, if_pos h2]⟩
      · rw [if_neg h2, if_neg h2]; exact ⟨j, hj, rfl, rfl, by rw [if_neg h1, if_neg h2]⟩
  refine ⟨ho, by simp [h.ln], by rw [swapR_len, h.lm], fun j hj => ?_, fun a b g c g' c' ha hb hne => ?_⟩
  · obtain ⟨s, hs, e1, e2, -⟩ := hsrc j hj
    obtain ⟨g, c, k1, -, k2, k3, k4, -⟩ := h.row hW s hs
    exact ⟨g, c, by rw [e1, k1], by rw [e2]; exact own_keep1 k2 hf (Ne.symm k4), by rw [e2]; exact k3⟩
  · have hla : a < n := by have := (List.getElem?_eq_some_iff.1 ha).1; simp [h.ln] at this; exact this
    have hlb : b < n := by have := (List.getElem?_eq_some_iff.1 hb).1; simp [h.ln] at this; exact this
    obtain ⟨s, hs, e1, -, e3⟩ := hsrc a hla
    obtain ⟨t, ht, f1, -, f3⟩ := hsrc b hlb
    rw [e1] at ha
    rw [f1] at hb
    refine h.apart s t g c g' c' ha hb ?_
    rw [e3, f3]
    intro e
    (repeat' split at e) <;> omega
/-- one row more -/
theorem Mat.snoc {B : Nat} {w w1 w2 : World} {lb k lc W g c : Nat} {us : List Value} {m : List (List UInt8)} {r : List UInt8} {v' : Value} (h : Mat B w lb k lc W us m) (hW : 0 < W) (hf : Fr [] w w1) (hg : w.heap.size ≤ g) (ho : OwnB 5 B w1 (slW g W c) r) (hr : r.length = W)
    (hv : OwnV 22 B w2 v' (us ++ [slW g W c])) (hgr : w1.grownBy w2 (slW lb k lc).ownBlock) : ∃ lb' lc', v' = slW lb' (k + 1) lc' ∧ Mat B w2 lb' (k + 1) lc' W (us ++ [slW g W c]) (m ++ [r]) := by
  have hl1 : OwnV 22 B w1 (slW lb k lc) us := h.list.keep0 hf
  have hl := h.ln
  obtain ⟨lb', lc', rfl⟩ : ∃ lb' lc', v' = slW lb' (k + 1) lc' := by
    rcases hv.2 with ⟨-, h2⟩ | ⟨g', cap, cur, rfl, -⟩
    · simp at h2
    · exact ⟨g', cap, by unfold slW; rw [List.length_append, hl]; rfl⟩
  refine ⟨lb', lc', rfl, hv, by simp [hl], by simp [h.lm], fun i hi => ?_, fun a b ga ca gb cb ha hb hne => ?_⟩
  · rcases Nat.lt_or_ge i k with hik | hik
    · obtain ⟨g1, c1, k1, k2, k3⟩ := h.rows i hik
      refine ⟨g1, c1, by rw [List.getElem?_append_left (by omega)]; exact k1, ?_, ?_⟩
      · have e : rw_ (m ++ [r]) i = rw_ m i := by
          unfold rw_
          rw [List.getD_eq_getElem?_getD, List.getElem?_append_left (by rw [h.lm]; exact hik)]; rfl
        rw [e]
        exact own_keepT (k2.keep hf (by simp)) hl1 (by decide) hgr
      · have e : rw_ (m ++ [r]) i = rw_ m i := by
          unfold rw_
          rw [List.getD_eq_getElem?_getD, List.getElem?_append_left (by rw [h.lm]; exact hik)]; rfl
        rw [e]; exact k3
    · obtain rfl : i = k := by omega
      have e : rw_ (m ++ [r]) i = r := by
        unfold rw_
        rw [List.getD_eq_getElem?_getD, List.getElem?_append_right (by rw [h.lm]; exact Nat.le_refl _), h.lm, Nat.sub_self]; rfl
      refine ⟨g, c, by rw [List.getElem?_append_right (by omega), hl, Nat.sub_self]; rfl, ?_, by rw [e]; exact hr⟩
      rw [e]
      exact own_keepT ho hl1 (by decide) hgr
  · have hold : ∀ j gj cj, (us ++ [slW g W c])[j]? = some (slW gj W cj) → (j < k ∧ us[j]? = some (slW gj W cj) ∧ gj < w.heap.size) ∨ (j = k ∧ gj = g) := fun j gj cj hj => by
      rcases Nat.lt_or_ge j k with hjk | hjk
      · rw [List.getElem?_append_left (by omega)] at hj
        refine .inl ⟨hjk, hj, ?_⟩
        obtain ⟨g1, c1, k1, -, -, -, -, -, k2, -⟩ := h.row hW j hjk
        rw [hj] at k1
        unfold slW at k1
        cases k1
        exact k2
      · rw [List.getElem?_append_right (by omega)] at hj
        have h0 : j - us.length = 0 := by have := (List.getElem?_eq_some_iff.1 hj).1; simp at this; omega
        rw [h0] at hj
        simp only [List.getElem?_cons_zero, Option.some.injEq] at hj
        unfold slW at hj
        cases hj
        exact .inr ⟨by omega, rfl⟩
    rcases hold a ga ca ha with ⟨a1, a2, a3⟩ | ⟨a1, a2⟩ <;> rcases hold b gb cb hb with ⟨b1, b2, b3⟩ | ⟨b1, b2⟩
    · exact h.apart a b ga ca gb cb a2 b2 hne
    · omega
    · omega
    · omega
/-- a row of integers grows beside it -/
theorem Mat.grownI {B : Nat} {w w' : World} {lb n lc W : Nat} {us : List Value} {m : List (List UInt8)} (h : Mat B w lb n lc W us m) {base : Nat} {v : Value} {xs : List Int} (ho : OwnI 3 base w v xs) (hg : w.grownBy w' v.ownBlock) : Mat B w' lb n lc W us m := by
  have hf : Fr v.ownBlock.toList w w' := Fr.grown hg (by intro k hk; simp [hk])
  refine ⟨own_keep h.list hf ?_, h.ln, h.lm, fun i hi => ?_, h.apart⟩
  · intro g hg1 hg2
    simp only [slW, Value.ownBlock, Option.some.injEq] at hg1
    subst hg1
    obtain ⟨cur, k1, -, -, -⟩ := own_blkV h.list
    exact own_neT ho k1 (by decide) (by simpa using hg2)
  · obtain ⟨g, c, k1, k2, k3⟩ := h.rows i hi
    refine ⟨g, c, k1, own_keep k2 hf ?_, k3⟩
    intro g' hg1 hg2
    simp only [slW, Value.ownBlock, Option.some.injEq] at hg1
    subst hg1
    obtain ⟨cur, q1, -, -, -⟩ := own_blk k2
    exact own_neT ho q1 (by decide) (by simpa using hg2)
end Go.Proofs.YtfblhdomjnffcaaDoor
