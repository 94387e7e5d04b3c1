/-
  Layer 5 in plain Lean: a word that was changed at few places is repaired to itself.
  Layer 6 in plain Lean: blocks of which few are gone and few are changed in each group are rebuilt to the file.
-/
import Derived.Test.YtmohiblgfmdkjaaDoorHC
import Derived.Test.YtmohiblgfmdkjaaDoorJE
import Derived.Test.YtmohiblgfmdkjaaDoorKD
import Derived.Test.YtmohiblgfmdkjaaDoorJM
namespace Go.Proofs.YtmohiblgfmdkjaaDoor
open Go.RowKit Go.Bl
set_option linter.unusedVariables false
theorem back_good {n : Nat} {ds ws : List UInt8} {ps hs : List Nat} (h1 : 1 ≤ ds.length) (h2 : ds.length ≤ 223) (hn : n = ds.length + 32) (h : Hit n (encL ds) ps hs ws) (hg : ps.Nodup) (hp : ∀ p ∈ ps, p < n) (hs2 : 2 * hs.length + ps.length ≤ 32) :
    eraBad (ws.length : Int) (intL ps) = 0 ∧ mGood ws (intL ps) ∧ mOut ws (intL ps) = encL ds ∧ regL (fRow (synL ws) (ws.length : Int) (intL ps)) = hs.length := by
  have hl : (encL ds).length = n := by rw [encL_len, hn]
  have hw := h.wl
  have hB := h.bent hg hp (by omega) hl (enc_synd ds)
  have hh := hits_len h
  have h33 : 33 ≤ n := by omega
  have hF := finds hB h33 (by rw [hh]; exact hs2)
  obtain ⟨k1, k2⟩ := mend_back h33 hl hw hB (by rw [hh]; exact hs2) (zero_syn (enc_synd ds))
  unfold mGood mOut mLoc mEv
  rw [hw]
  exact ⟨hF.bad, ⟨hF.lost, k1⟩, k2, by rw [hF.long, hh]⟩
end Go.Proofs.YtmohiblgfmdkjaaDoor
namespace Go.Proofs.YtmohiblgfmdkjaaDoor
open Go.RowKit Go.Bl
set_option linter.unusedVariables false
/-- a group of blocks, changed at few places: its columns are repaired to the code word -/
theorem bk_col {k : Nat} {d W : List (List UInt8)} {hs : List Nat} (hk : d.length = k) (h1 : 1 ≤ k) (h2 : k ≤ 223) (hW : W.length = k + 32)
    (hnd : hs.Nodup) (hlt : ∀ p ∈ hs, p < k + 32) (hap : ∀ p ∈ hs, p ∉ gon W) (hsame : ∀ i, i < k + 32 → i ∉ gon W → i ∉ hs → W.getD i [] = (grpB d).getD i []) (h32 : 2 * hs.length + (gon W).length ≤ 32) (j : Nat) (hj : j < 8) :
    fixOk W j ∧ fixW W j = encL (d.map fun b => b.getD j 0) := by
  have hdl : (d.map fun b => b.getD j 0).length = k := by rw [List.length_map, hk]
  have hgl : (grpB d).length = k + 32 := by simp [grpB, parB_len, hk]
  obtain ⟨hs', hhs⟩ : ∃ hs', hs.filter (fun p => decide (cf (colW W j) p ≠ cf (encL (d.map fun b => b.getD j 0)) p)) = hs' := ⟨_, rfl⟩
  have hmem : ∀ p, p ∈ hs' ↔ p ∈ hs ∧ cf (colW W j) p ≠ cf (encL (d.map fun b => b.getD j 0)) p := fun p => by rw [← hhs, List.mem_filter]; simp
  have hle : hs'.length ≤ hs.length := by rw [← hhs]; exact List.length_filter_le _ _
  have hH : Hit (k + 32) (encL (d.map fun b => b.getD j 0)) (gon W) hs' (colW W j) := by
    refine ⟨by rw [← hhs]; exact hnd.sublist List.filter_sublist, fun p hp => hlt p ((hmem p).1 hp).1, fun p hp => hap p ((hmem p).1 hp).1, by rw [colW_len, hW], fun i hi hi2 => ?_, fun p hp => ((hmem p).1 hp).2⟩
    by_cases hne : cf (colW W j) i = cf (encL (d.map fun b => b.getD j 0)) i
    · exact hne
    have hi2 : i ∉ hs := fun h => hi2 ((hmem i).2 ⟨h, hne⟩)
    rcases Nat.lt_or_ge i (k + 32) with hik | hik
    · have h8 : (W.getD i []).length = 8 := by
        rcases Nat.decEq (W.getD i []).length 8 with h | h
        · exact absurd (mem_gon.2 ⟨by omega, h⟩) hi
        · exact h
      have hs := hsame i hik hi hi2
      have e1 : cf (colW W j) i = (W.getD i []).getD j 0 := by
        unfold colW
        refine cf_get ?_
        rw [List.getElem?_map, List.getElem?_eq_getElem (by omega), Option.map_some]
        have e2 : W.getD i [] = W[i] := by rw [List.getD_eq_getElem?_getD, List.getElem?_eq_getElem (by omega)]; rfl
        rw [e2] at h8 ⊢
        unfold col8
        rw [if_pos h8]
      rw [e1, hs]
      unfold encL
      rw [cf_append, hdl]
      by_cases hlk : i < k
      · rw [if_pos hlk]
        unfold grpB cf
        rw [List.getD_eq_getElem?_getD (l := d ++ parB d), List.getElem?_append_left (by omega), List.getElem?_eq_getElem (by omega), List.getD_eq_getElem?_getD (l := d.map fun b => b.getD j 0), List.getElem?_map, List.getElem?_eq_getElem (by omega)]
        rfl
      · rw [if_neg hlk]
        unfold grpB parB cf
        rw [List.getD_eq_getElem?_getD (l := d ++ _), List.getElem?_append_right (by omega), hk, List.getElem?_map, List.getElem?_range (by omega), Option.map_some, Option.getD_some, List.getD_eq_getElem?_getD (l := List.map _ _), List.getElem?_map, List.getElem?_range hj, Option.map_some, Option.getD_some]
    · rw [cf_ge (by rw [colW_len, hW]; exact hik), cf_ge (by rw [encL_len, hdl]; exact hik)]
  obtain ⟨k1, k2, k3, -⟩ := back_good (by rw [hdl]; exact h1) (by rw [hdl]; exact h2) (by rw [hdl]) hH (gon_nodup W) (fun p hp => by have := (mem_gon.1 hp).1; omega) (by omega)
  rw [colW_len] at k1
  exact ⟨⟨k1, k2⟩, k3⟩
theorem bk_row (b : List UInt8) (h : b.length = 8) : (List.range 8).map (fun j => b.getD j 0) = b := by
  apply List.ext_getElem?
  intro j
  rcases Nat.lt_or_ge j 8 with hj | hj
  · rw [List.getElem?_map, List.getElem?_range hj, Option.map_some, List.getD_eq_getElem?_getD, List.getElem?_eq_getElem (by omega)]
    rfl
  · rw [List.getElem?_eq_none (by simp; omega), List.getElem?_eq_none (by omega)]
/-- and its part of the file is the data -/
theorem bk_part {k : Nat} {d W : List (List UInt8)} (hk : d.length = k) (h8 : ∀ b ∈ d, b.length = 8) (hf : ∀ j, j < 8 → fixW W j = encL (d.map fun b => b.getD j 0)) : gPart W k = d.flatten := by
  have h : ∀ i, i < k → ((List.range 8).map fun j => fixB W j i) = d.getD i [] := fun i hi => by
    have hb : d.getD i [] = d[i] := by rw [List.getD_eq_getElem?_getD, List.getElem?_eq_getElem (by omega)]; rfl
    rw [← bk_row (d.getD i []) (by rw [hb]; exact h8 _ (List.getElem_mem _))]
    refine List.map_congr_left fun j hj => ?_
    unfold fixB
    rw [hf j (List.mem_range.1 hj)]
    unfold encL
    rw [cf_append, if_pos (by rw [List.length_map]; omega), hb]
    refine cf_get ?_
    rw [List.getElem?_map, List.getElem?_eq_getElem (by omega)]
    rfl
  unfold gPart
  rw [List.flatMap_def]
  congr 1
  apply List.ext_getElem?
  intro i
  rcases Nat.lt_or_ge i k with hi | hi
  · rw [List.getElem?_map, List.getElem?_range hi, Option.map_some, h i hi, List.getD_eq_getElem?_getD, List.getElem?_eq_getElem (by omega)]
    rfl
  · rw [List.getElem?_eq_none (by simp; omega), List.getElem?_eq_none (by omega)]
/-- a group out of all blocks -/
theorem bk_grp : ∀ (sh : List Nat) (data : List (List UInt8)) (q k : Nat), sh[q]? = some k → sh.sum ≤ data.length → ((blkGo data sh).drop (offN sh q)).take (k + 32) = grpB ((data.drop (sh.take q).sum).take k)
  | [], _, q, k, h, _ => by simp at h
  | k0 :: sh, data, 0, k, h, hs => by
    simp only [List.getElem?_cons_zero, Option.some.injEq] at h
    subst h
    simp only [List.sum_cons] at hs
    have hl : (data.take k0).length = k0 := by rw [List.length_take]; omega
    have hg : (grpB (data.take k0)).length = k0 + 32 := by simp [grpB, parB_len, hl]
    show ((grpB (data.take k0) ++ blkGo (data.drop k0) sh).drop 0).take (k0 + 32) = grpB ((data.drop 0).take k0)
    rw [List.drop_zero, List.drop_zero, List.take_append_of_le_length (by omega), List.take_of_length_le (by omega)]
  | k0 :: sh, data, q + 1, k, h, hs => by
    rw [List.getElem?_cons_succ] at h
    simp only [List.sum_cons] at hs
    have hl : (data.take k0).length = k0 := by rw [List.length_take]; omega
    have hg : (grpB (data.take k0)).length = k0 + 32 := by simp [grpB, parB_len, hl]
    have ih := bk_grp sh (data.drop k0) q k h (by rw [List.length_drop]; omega)
    have ho : offN (k0 :: sh) (q + 1) = k0 + 32 + offN sh q := by unfold offN; simp
    have e : blkGo data (k0 :: sh) = grpB (data.take k0) ++ blkGo (data.drop k0) sh := by simp only [blkGo]
    rw [ho, e, ← List.drop_drop, List.drop_append_of_le_length (by omega), List.drop_of_length_le (l := grpB (data.take k0)) (by omega), List.nil_append, ih, List.drop_drop, List.take_succ_cons, List.sum_cons]
theorem bk_shZ (n : Nat) (h : n ≤ 2000) : shZ (n : Int) = shN (nB n) := by
  have e : nblk (n : Int) = nB n := by unfold nblk nB; simp
  unfold shZ
  rw [e]
  unfold shapeOf shN
  split
  · simp
  · simp; omega
/-- what the law's Bent keeps: which blocks are gone, which were changed -/
structure BentI (bs out : List (List UInt8)) (sh : List Nat) (seen : List Bool) (load : List Nat) (gs hs : List Nat) : Prop where
  nd : (gs ++ hs).Nodup
  lt : ∀ p ∈ gs ++ hs, p < bs.length
  ol : out.length = bs.length
  sl : seen.length = bs.length
  ll : load.length = sh.length
  sn : ∀ p b, seen[p]? = some b → (b = true ↔ p ∈ gs ++ hs)
  gone : ∀ p ∈ gs, out[p]? = some []
  len : ∀ p, p ∉ gs → ∀ x, out[p]? = some x → x.length = 8
  same : ∀ p, p ∉ gs → p ∉ hs → out[p]? = bs[p]?
  ld : ∀ g v, load[g]? = some v → v = (gs.filter fun p => decide (offN sh g ≤ p) && decide (p < offN sh (g + 1))).length + 2 * (hs.filter fun p => decide (offN sh g ≤ p) && decide (p < offN sh (g + 1))).length
theorem offN_all (sh : List Nat) : offN sh sh.length = sh.sum + 32 * sh.length := by
  unfold offN
  rw [List.take_length]
  induction sh with
  | nil => rfl
  | cons a l ih => simp only [List.map_cons, List.sum_cons, List.length_cons, ih]; omega
theorem offN_mono (sh : List Nat) (i j : Nat) (h : i ≤ j) : offN sh i ≤ offN sh j := by
  induction j with
  | zero => obtain rfl : i = 0 := by omega
            exact Nat.le_refl _
  | succ j ih =>
    rcases Nat.lt_or_ge i (j + 1) with h1 | h1
    · refine Nat.le_trans (ih (by omega)) ?_
      cases hj : sh[j]? with
      | none =>
        have hl : sh.length ≤ j := by
          rcases Nat.lt_or_ge j sh.length with h2 | h2
          · rw [List.getElem?_eq_getElem h2] at hj; cases hj
          · exact h2
        unfold offN
        rw [List.take_of_length_le hl, List.take_of_length_le (by omega)]
        exact Nat.le_refl _
      | some k =>
        rw [offN_up sh j k hj]
        omega
    · obtain rfl : i = j + 1 := by omega
      exact Nat.le_refl _
theorem BentI.start {bs : List (List UInt8)} {sh : List Nat} (h8 : ∀ b ∈ bs, b.length = 8) : BentI bs bs sh (List.replicate bs.length false) (List.replicate sh.length 0) [] [] where
  nd := by simp
  lt := by simp
  ol := rfl
  sl := by simp
  ll := by simp
  sn := fun p b h => by
    rw [List.getElem?_replicate] at h
    split at h
    · cases h; simp
    · cases h
  gone := by simp
  len := fun p _ x hx => h8 x (List.mem_of_getElem? hx)
  same := fun _ _ _ => rfl
  ld := fun g v h => by
    rw [List.getElem?_replicate] at h
    split at h
    · cases h; simp
    · cases h
theorem bk_in {sh : List Nat} {p g g' : Nat} (h1 : offN sh g ≤ p) (h2 : p < offN sh (g + 1)) : (decide (offN sh g' ≤ p) && decide (p < offN sh (g' + 1))) = decide (g' = g) := by
  rcases Nat.lt_trichotomy g' g with h | h | h
  · have := offN_mono sh (g' + 1) g (by omega)
    rw [decide_eq_false (p := p < offN sh (g' + 1)) (by omega), decide_eq_false (p := g' = g) (by omega)]
    simp
  · subst h
    rw [decide_eq_true h1, decide_eq_true h2, decide_eq_true rfl]
    rfl
  · have := offN_mono sh (g + 1) g' (by omega)
    rw [decide_eq_false (p := offN sh g' ≤ p) (by omega), decide_eq_false (p := g' = g) (by omega)]
    simp
theorem BentI.fresh {bs out : List (List UInt8)} {sh : List Nat} {seen : List Bool} {load gs hs : List Nat} (h : BentI bs out sh seen load gs hs) {p : Nat} (hp : seen[p]? = some false) : p ∉ gs ++ hs := fun hm => by
  have := (h.sn p false hp).2 hm
  cases this
theorem BentI.gone' {bs out : List (List UInt8)} {sh : List Nat} {seen : List Bool} {load gs hs : List Nat} (h : BentI bs out sh seen load gs hs) {p g v : Nat} (hp : seen[p]? = some false) (h1 : offN sh g ≤ p) (h2 : p < offN sh (g + 1)) (hv : load[g]? = some v) :
    BentI bs (out.set p []) sh (seen.set p true) (load.set g (v + 1)) (p :: gs) hs := by
  have hf := h.fresh hp
  have hpl : p < bs.length := by
    have := (List.getElem?_eq_some_iff.1 hp).1
    have := h.sl
    omega
  refine ⟨?_, ?_, by rw [List.length_set]; exact h.ol, by rw [List.length_set]; exact h.sl, by rw [List.length_set]; exact h.ll, ?_, ?_, ?_, ?_, ?_⟩
  · rw [List.cons_append]
    exact List.nodup_cons.2 ⟨hf, h.nd⟩
  · intro q hq
    rw [List.cons_append, List.mem_cons] at hq
    rcases hq with rfl | hq
    · exact hpl
    · exact h.lt q hq
  · intro q b hb
    rw [List.cons_append, List.mem_cons]
    rw [List.getElem?_set] at hb
    split at hb
    · rename_i e
      subst e
      split at hb
      · cases hb; simp
      · cases hb
    · rename_i e
      rw [h.sn q b hb]
      exact ⟨fun x => .inr x, fun x => x.resolve_left (fun y => e y.symm)⟩
  · intro q hq
    rw [List.mem_cons] at hq
    rcases hq with rfl | hq
    · rw [List.getElem?_set_self (by have := h.ol; omega)]
    · have hne : p ≠ q := fun e => hf (by rw [e]; exact List.mem_append_left _ hq)
      rw [List.getElem?_set_ne hne]
      exact h.gone q hq
  · intro q hq x hx
    rw [List.mem_cons] at hq
    have hne : p ≠ q := fun e => hq (.inl e.symm)
    rw [List.getElem?_set_ne hne] at hx
    exact h.len q (fun y => hq (.inr y)) x hx
  · intro q hq hq2
    rw [List.mem_cons] at hq
    have hne : p ≠ q := fun e => hq (.inl e.symm)
    rw [List.getElem?_set_ne hne]
    exact h.same q (fun y => hq (.inr y)) hq2
  · intro g' v' hv'
    rw [List.filter_cons, bk_in h1 h2]
    rw [List.getElem?_set] at hv'
    split at hv'
    · rename_i e
      subst e
      split at hv'
      · cases hv'
        rw [if_pos (by simp), h.ld g v hv, List.length_cons]
        omega
      · cases hv'
    · rename_i e
      rw [if_neg (by simpa using fun y => e y.symm)]
      exact h.ld g' v' hv'
theorem BentI.hit' {bs out : List (List UInt8)} {sh : List Nat} {seen : List Bool} {load gs hs : List Nat} (h : BentI bs out sh seen load gs hs) {p g v : Nat} {y : List UInt8} (hy : y.length = 8) (hp : seen[p]? = some false) (h1 : offN sh g ≤ p) (h2 : p < offN sh (g + 1)) (hv : load[g]? = some v) :
    BentI bs (out.set p y) sh (seen.set p true) (load.set g (v + 2)) gs (p :: hs) := by
  have hf := h.fresh hp
  have hpl : p < bs.length := by
    have := (List.getElem?_eq_some_iff.1 hp).1
    have := h.sl
    omega
  have hm : ∀ q, q ∈ gs ++ p :: hs ↔ q = p ∨ q ∈ gs ++ hs := fun q => by
    simp only [List.mem_append, List.mem_cons]
    constructor
    · rintro (h | h | h)
      · exact .inr (.inl h)
      · exact .inl h
      · exact .inr (.inr h)
    · rintro (h | h | h)
      · exact .inr (.inl h)
      · exact .inl h
      · exact .inr (.inr h)
  refine ⟨?_, ?_, by rw [List.length_set]; exact h.ol, by rw [List.length_set]; exact h.sl, by rw [List.length_set]; exact h.ll, ?_, ?_, ?_, ?_, ?_⟩
  · exact List.perm_middle.nodup_iff.2 (List.nodup_cons.2 ⟨hf, h.nd⟩)
  · intro q hq
    rcases (hm q).1 hq with rfl | hq
    · exact hpl
    · exact h.lt q hq
  · intro q b hb
    rw [hm]
    rw [List.getElem?_set] at hb
    split at hb
    · rename_i e
      subst e
      split at hb
      · cases hb; simp
      · cases hb
    · rename_i e
      rw [h.sn q b hb]
      exact ⟨fun x => .inr x, fun x => x.resolve_left (fun y => e y.symm)⟩
  · intro q hq
    have hne : p ≠ q := fun e => hf (by rw [e]; exact List.mem_append_left _ hq)
    rw [List.getElem?_set_ne hne]
    exact h.gone q hq
  · intro q hq x hx
    rw [List.getElem?_set] at hx
    split at hx
    · split at hx
      · cases hx; exact hy
      · cases hx
    · exact h.len q hq x hx
  · intro q hq hq2
    rw [List.mem_cons] at hq2
    have hne : p ≠ q := fun e => hq2 (.inl e.symm)
    rw [List.getElem?_set_ne hne]
    exact h.same q hq (fun y => hq2 (.inr y))
  · intro g' v' hv'
    rw [List.filter_cons (xs := hs), bk_in h1 h2]
    rw [List.getElem?_set] at hv'
    split at hv'
    · rename_i e
      subst e
      split at hv'
      · cases hv'
        rw [if_pos (by simp), h.ld g v hv, List.length_cons]
        omega
      · cases hv'
    · rename_i e
      rw [if_neg (by simpa using fun y => e y.symm)]
      exact h.ld g' v' hv'
theorem bk_count {off m : Nat} {L gs : List Nat} (hL : L.Nodup) (hg : gs.Nodup) (h : ∀ i, i ∈ L ↔ i < m ∧ off + i ∈ gs) : L.length = (gs.filter fun p => decide (off ≤ p) && decide (p < off + m)).length := by
  have e : (L.map (off + ·)).length = L.length := List.length_map _
  rw [← e]
  refine ((List.perm_ext_iff_of_nodup ?_ (hg.sublist List.filter_sublist)).2 fun p => ?_).length_eq
  · exact List.pairwise_map.2 (hL.imp fun hne e => hne (by omega))
  · rw [List.mem_map, List.mem_filter]
    constructor
    · rintro ⟨i, hi, rfl⟩
      obtain ⟨h1, h2⟩ := (h i).1 hi
      exact ⟨h2, by simp; omega⟩
    · rintro ⟨h1, h2⟩
      simp only [Bool.and_eq_true, decide_eq_true_eq] at h2
      exact ⟨p - off, (h _).2 ⟨by omega, by rwa [show off + (p - off) = p by omega]⟩, by omega⟩
theorem drop_take_getD {α : Type} (l : List α) (o n i : Nat) (d : α) (h : i < n) : ((l.drop o).take n).getD i d = l.getD (o + i) d := by
  rw [List.getD_eq_getElem?_getD, List.getD_eq_getElem?_getD, List.getElem?_take, if_pos h, List.getElem?_drop]
/-- a group behind the law's Bent -/
theorem bk_group {data out : List (List UInt8)} {sh : List Nat} {seen : List Bool} {load gs hs : List Nat} (hsum : sh.sum ≤ data.length) (h : BentI (blkGo data sh) out sh seen load gs hs) (h32 : ∀ g v : Nat, load[g]? = some v → v ≤ 32) (q k : Nat) (hq : sh[q]? = some k) (h1 : 1 ≤ k) (h2 : k ≤ 223) (j : Nat) (hj : j < 8) :
    fixOk (gB out sh q) j ∧ fixW (gB out sh q) j = encL (((data.drop (sh.take q).sum).take k).map fun b => b.getD j 0) := by
  have hqs : q < sh.length := (List.getElem?_eq_some_iff.1 hq).1
  obtain ⟨t1, t2, -⟩ := sys_step data sh q k hq hsum
  have hoff := offN_up sh q k hq
  have hon := offN_mono sh (q + 1) sh.length (by omega)
  have hbl := blkGo_len data sh data hsum
  have htot : offN sh sh.length = sh.sum + 32 * sh.length := offN_all sh
  have hgrp := bk_grp sh data q k hq hsum
  obtain ⟨off, ho⟩ : ∃ o, offN sh q = o := ⟨_, rfl⟩
  rw [ho] at hoff hgrp
  have hkd : sh.getD q 0 = k := by rw [List.getD_eq_getElem?_getD, hq]; rfl
  have hW : gB out sh q = (out.drop off).take (k + 32) := by unfold gB; rw [hkd, ho]
  have hWl : (gB out sh q).length = k + 32 := by rw [hW, List.length_take, List.length_drop, h.ol, hbl]; omega
  have hWg : ∀ i, i < k + 32 → (gB out sh q).getD i [] = out.getD (off + i) [] := fun i hi => by rw [hW, drop_take_getD _ _ _ _ _ hi]
  have hnd := List.nodup_append.1 h.nd
  have hdis : ∀ p, p ∈ gs → p ∈ hs → False := fun p h3 h4 => hnd.2.2 p h3 p h4 rfl
  have hgon : ∀ i, i ∈ gon (gB out sh q) ↔ i < k + 32 ∧ off + i ∈ gs := fun i => by
    rw [mem_gon, hWl]
    constructor
    · rintro ⟨h3, h4⟩
      refine ⟨h3, ?_⟩
      rw [hWg i h3] at h4
      apply Classical.byContradiction
      intro hno
      obtain ⟨x, hx⟩ : ∃ x, out[off + i]? = some x := ⟨_, List.getElem?_eq_getElem (by rw [h.ol, hbl]; omega)⟩
      rw [List.getD_eq_getElem?_getD, hx] at h4
      exact h4 (h.len _ hno x hx)
    · rintro ⟨h3, h4⟩
      refine ⟨h3, ?_⟩
      rw [hWg i h3, List.getD_eq_getElem?_getD, h.gone _ h4]
      simp
  obtain ⟨L, hL⟩ : ∃ L, (List.range (k + 32)).filter (fun i => decide (off + i ∈ hs)) = L := ⟨_, rfl⟩
  have hLm : ∀ i, i ∈ L ↔ i < k + 32 ∧ off + i ∈ hs := fun i => by rw [← hL, List.mem_filter, List.mem_range]; simp
  have hLn : L.Nodup := by rw [← hL]; exact List.nodup_range.sublist List.filter_sublist
  obtain ⟨v, hv⟩ : ∃ v, load[q]? = some v := ⟨_, List.getElem?_eq_getElem (by rw [h.ll]; omega)⟩
  have hcnt := h.ld q v hv
  have hv32 := h32 q v hv
  rw [ho, hoff] at hcnt
  rw [← bk_count (gon_nodup _) hnd.1 hgon, ← bk_count hLn hnd.2.1 hLm] at hcnt
  refine bk_col (hs := L) (by rw [List.length_take, List.length_drop]; omega) h1 h2 hWl hLn (fun p hp => ((hLm p).1 hp).1) (fun p hp hp2 => hdis _ ((hgon p).1 hp2).2 ((hLm p).1 hp).2) (fun i hi hg hh => ?_) (by omega) j hj
  rw [hWg i hi, ← hgrp, drop_take_getD _ _ _ _ _ hi, List.getD_eq_getElem?_getD, List.getD_eq_getElem?_getD, h.same _ (fun y => hg ((hgon i).2 ⟨hi, y⟩)) (fun y => hh ((hLm i).2 ⟨hi, y⟩))]
/-- **what few hits leave is rebuilt to the file** -/
theorem bk_all {xs : List UInt8} {out : List (List UInt8)} {seen : List Bool} {load gs hs : List Nat} (hl : xs.length ≤ 2000) (h : BentI (blocksL xs) out (shZ (xs.length : Int)) seen load gs hs) (h32 : ∀ g v : Nat, load[g]? = some v → v ≤ 32) :
    offN (shZ (xs.length : Int)) (shZ (xs.length : Int)).length = out.length ∧ gAll out (shZ (xs.length : Int)) (shZ (xs.length : Int)).length ∧ fileK out (shZ (xs.length : Int)) (shZ (xs.length : Int)).length = padL xs := by
  obtain ⟨sh, hsh⟩ : ∃ sh, shZ (xs.length : Int) = sh := ⟨_, rfl⟩
  have hsN := bk_shZ xs.length hl
  rw [hsh] at hsN h ⊢
  have hbl : blocksL xs = blkGo (dataL xs) sh := by unfold blocksL; rw [hsN]
  have hsum : sh.sum ≤ (dataL xs).length := by rw [hsN, shN_sum, dataL_len]; exact Nat.le_refl _
  have hbd : ∀ q k, sh[q]? = some k → 1 ≤ k ∧ k ≤ 223 := fun q k hk => shZ_at (size := (xs.length : Int)) (by omega) (by rw [hsh]; exact hk)
  rw [hbl] at h
  have key := fun q k hq j hj => bk_group hsum h h32 q k hq (hbd q k hq).1 (hbd q k hq).2 j hj
  refine ⟨?_, ?_, ?_⟩
  · rw [h.ol, blkGo_len (dataL xs) sh (dataL xs) hsum]
    exact offN_all sh
  · intro q hq j hj
    obtain ⟨k, hk⟩ : ∃ k, sh[q]? = some k := ⟨_, List.getElem?_eq_getElem hq⟩
    exact (key q k hk j hj).1
  · have hk : ∀ i, i ≤ sh.length → fileK out sh i = ((dataL xs).take (sh.take i).sum).flatten := fun i => by
      induction i with
      | zero => intro _; rfl
      | succ i ih =>
        intro hi
        obtain ⟨k, hk⟩ : ∃ k, sh[i]? = some k := ⟨_, List.getElem?_eq_getElem (by omega)⟩
        obtain ⟨t1, t2, -, -, t5⟩ := sys_step (dataL xs) sh i k hk hsum
        have hkd : sh.getD i 0 = k := by rw [List.getD_eq_getElem?_getD, hk]; rfl
        rw [fileK_up, ih (by omega), t1, t5, hkd]
        congr 1
        exact bk_part (by rw [List.length_take, List.length_drop]; omega) (fun b hb => dataL_eight xs b (List.mem_of_mem_drop (List.mem_of_mem_take hb))) (fun j hj => (key i k hk j hj).2)
    rw [hk _ (Nat.le_refl _), hsN]
    exact sys_end xs
theorem bk_zero (xs : List UInt8) : zeroAll ((padL xs).drop xs.length) ∧ (padL xs).take xs.length = xs := by
  refine ⟨?_, pad_take xs⟩
  unfold padL
  rw [List.drop_left]
  intro c hc
  exact (List.mem_replicate.1 hc).2
end Go.Proofs.YtmohiblgfmdkjaaDoor
