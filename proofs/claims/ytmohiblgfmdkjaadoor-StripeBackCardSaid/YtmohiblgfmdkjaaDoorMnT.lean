/-
  Layer 5 in plain Lean: what a word is mended to.
-/
import Derived.Test.YtmohiblgfmdkjaaDoorHB
import Derived.Test.YtmohiblgfmdkjaaDoorGM
namespace Go.Proofs.YtmohiblgfmdkjaaDoor
open Go.RowKit Go.Bl
set_option linter.unusedVariables false
theorem mendL_cf (loc ev : List UInt8) (n : Nat) : ∀ (ps : List Nat) (ws : List UInt8), ps.Nodup → (∀ p ∈ ps, p < ws.length) → ∀ j, cf (mendL loc ev n ps ws) j = if j ∈ ps then cf ws j ^^^ amtV loc ev n j else cf ws j
  | [], ws, _, _, j => by simp [mendL]
  | p :: ps, ws, hd, hl, j => by
    rw [List.nodup_cons] at hd
    show cf (mendL loc ev n ps (ws.set p (cf ws p ^^^ amtV loc ev n p))) j = _
    rw [mendL_cf loc ev n ps _ hd.2 (fun q hq => by rw [List.length_set]; exact hl q (by simp [hq])) j, cf_set _ _ _ _ (hl p (by simp))]
    by_cases e : j = p
    · subst e; rw [if_neg hd.1, if_pos rfl, if_pos (by simp)]
    · rw [if_neg e]; by_cases m : j ∈ ps <;> simp [m, e]
theorem srch_nodup (loc : List UInt8) (n : Nat) : (srch loc n).Nodup := List.nodup_range.sublist List.filter_sublist
theorem mem_srch {loc : List UInt8} {n p : Nat} : p ∈ srch loc n ↔ p < n ∧ pev loc (ginv (plX n p)) = 0 := by
  unfold srch; rw [List.mem_filter, List.mem_range]; simp
theorem cf_same {a b : List UInt8} (h : a.length = b.length) (hc : ∀ j, j < a.length → cf a j = cf b j) : a = b := by
  apply List.ext_getElem h
  intro j h1 h2
  have := hc j h1
  unfold cf at this
  rwa [List.getD_eq_getElem?_getD, List.getD_eq_getElem?_getD, List.getElem?_eq_getElem h1, List.getElem?_eq_getElem h2] at this
theorem syn_zero {c : List UInt8} (h : synL c = zero32) (j : Nat) (hj : j < 32) : hval c (gexp j) = 0 := by
  rw [← synL_cf c j hj, h]
  unfold zero32 cf
  rw [List.getD_eq_getElem?_getD, List.getElem?_replicate, if_pos hj]; rfl
theorem zero_syn {c : List UInt8} (h : ∀ j, j < 32 → hval c (gexp j) = 0) : synL c = zero32 := by
  unfold zero32
  refine cf_same (by rw [synL_len]; simp) fun j hj => ?_
  rw [synL_len] at hj
  rw [synL_cf c j hj, h j hj]
  unfold cf
  rw [List.getD_eq_getElem?_getD, List.getElem?_replicate, if_pos hj]; rfl
/-- a code word that is changed at few places is mended to itself -/
theorem mend_back {n : Nat} {c ws : List UInt8} {ps : List Nat} (h33 : 33 ≤ n) (hl : c.length = n) (hw : ws.length = n) (hB : Bent n (errW c ws) ps (synL ws)) (h2 : 2 * (hits n (errW c ws) ps).length + ps.length ≤ 32) (h0 : synL c = zero32) :
    mendOk (fLoc (synL ws) n (intL ps)) (fEv (synL ws) n (intL ps)) ws = true ∧ mendL (fLoc (synL ws) n (intL ps)) (fEv (synL ws) n (intL ps)) n (srch (fLoc (synL ws) n (intL ps)) n) ws = c := by
  have hF := finds hB h33 h2
  obtain ⟨loc, hloc⟩ : ∃ loc, fLoc (synL ws) n (intL ps) = loc := ⟨_, rfl⟩
  have hev := hF.ev
  have hR := hF.er
  rw [hloc] at hev hR ⊢
  obtain ⟨ev, he⟩ : ∃ ev, fEv (synL ws) n (intL ps) = ev := ⟨_, rfl⟩
  rw [he] at hev ⊢
  have hmem : ∀ p, p ∈ srch loc n ↔ p ∈ allP n (errW c ws) ps := fun p => by
    rw [mem_srch]
    constructor
    · rintro ⟨h1, h2⟩; exact (hR.root hB p h1).1 h2
    · intro hm
      have hp : p < n := by
        rcases mem_allP.1 hm with h | h
        · exact h.1
        · exact hB.pn p h
      exact ⟨hp, (hR.root hB p hp).2 hm⟩
  have hlen : (srch loc n).length = (allP n (errW c ws) ps).length := ((List.perm_ext_iff_of_nodup (srch_nodup _ _) (allP_nodup hB.pd)).2 hmem).length_eq
  have hm : mendL loc ev n (srch loc n) ws = c := by
    refine cf_same (by rw [mendL_len, hw, hl]) fun j hj => ?_
    rw [mendL_len, hw] at hj
    rw [mendL_cf _ _ _ _ _ (srch_nodup _ _) (fun p hp => by rw [hw]; exact (mem_srch.1 hp).1)]
    by_cases hm : j ∈ srch loc n
    · rw [if_pos hm]
      have := (hR.amount hB hev j ((hmem j).1 hm)).2
      unfold amtV slpV
      rw [this]
      unfold errW
      rw [← UInt8.xor_assoc, UInt8.xor_self, UInt8.zero_xor]
    · rw [if_neg hm]
      refine Classical.byContradiction fun hne => hm ((hmem j).2 (mem_allP.2 ?_))
      by_cases hp : j ∈ ps
      · exact .inr hp
      · exact .inl ⟨hj, fun e => hne (xor_eq_zero.1 e), hp⟩
  refine ⟨?_, hm⟩
  have hy := @mend_yes loc ev ws (by rw [hw, hlen]; exact hR.plen.symm) (fun p hp => by
    rw [hw] at hp ⊢
    exact (hR.amount hB hev p ((hmem p).1 hp)).1)
  rw [hy, hw, hm, h0, decide_eq_true rfl]
theorem plen_prod {p q : List UInt8} {a b : Nat} (hp : ∀ j, a < j → cf p j = 0) (hq : ∀ j, b < j → cf q j = 0) : plen (pmul p q) ≤ a + b + 1 := by
  refine plen_least fun m hm => ?_
  rw [cf_mul]
  unfold conv
  refine xsum_zero _ fun i hi => ?_
  by_cases h : a < i
  · rw [hp i h, zero_gmul]
  · rw [hq (m - i) (by omega), gmul_zero]
/-- told places in range, as numbers -/
theorem era_ps {n : Nat} {l : List Int} (h : eraBad (n : Int) l = 0) : ∃ ps : List Nat, l = intL ps ∧ ps.Nodup ∧ (∀ p ∈ ps, p < n) ∧ ps.length ≤ 32 ∧ 33 ≤ n ∧ n ≤ 255 := by
  unfold eraBad at h
  split at h
  · rename_i h1
    split at h
    · rename_i h2
      split at h
      · rename_i h3
        split at h
        · rename_i h4
          have e : l = intL (l.map Int.toNat) := by
            unfold intL
            rw [List.map_map]
            refine (List.map_id l).symm.trans (List.map_congr_left fun p hp => ?_)
            have := h2 p hp
            show p = ((p.toNat : Nat) : Int)
            omega
          refine ⟨l.map Int.toNat, e, ?_, ?_, by rw [List.length_map]; exact h4, by omega, by omega⟩
          · refine nodup_map_on (fun a ha b hb e => ?_) h3
            have := h2 a ha; have := h2 b hb; omega
          · intro p hp
            obtain ⟨q, hq, rfl⟩ := List.mem_map.1 hp
            have := h2 q hq; omega
        · cases h
      · cases h
    · cases h
  · cases h
/-- how many places of a word were changed and not told -/
def othK (c ws : List UInt8) (l : List Int) (k : Nat) : List Nat := (List.range k).filter fun p => decide (cf c p ≠ cf ws p) && decide (¬ (p : Int) ∈ l)
theorem othK_up (c ws : List UInt8) (l : List Int) (k : Nat) : othK c ws l (k + 1) = othK c ws l k ++ (if cf c k ≠ cf ws k ∧ ¬ (k : Int) ∈ l then [k] else []) := by
  unfold othK
  rw [List.range_succ, List.filter_append]
  congr 1
  rw [List.filter_cons, List.filter_nil]
  by_cases h1 : cf c k = cf ws k <;> by_cases h2 : (k : Int) ∈ l <;> simp [h1, h2]
theorem othK_le (c ws : List UInt8) (l : List Int) (k : Nat) : (othK c ws l k).length ≤ k := by
  unfold othK
  refine Nat.le_trans (List.length_filter_le _ _) (by simp)
theorem oth_hits (c ws : List UInt8) (ps : List Nat) (n : Nat) : othK c ws (intL ps) n = hits n (errW c ws) ps := by
  unfold othK hits
  refine List.filter_congr fun p _ => ?_
  have e : (p : Int) ∈ intL ps ↔ p ∈ ps := by
    unfold intL
    rw [List.mem_map]
    constructor
    · rintro ⟨q, hq, e⟩
      have : q = p := by omega
      rwa [this] at hq
    · exact fun h => ⟨p, h, rfl⟩
  have e2 : errW c ws p = 0 ↔ cf c p = cf ws p := by
    unfold errW
    rw [xor_eq_zero]
    exact ⟨fun h => h.symm, fun h => h.symm⟩
  rw [Bool.eq_iff_iff]
  simp [e, e2]
theorem sub_len {a b : List Nat} (ha : a.Nodup) (hb : b.Nodup) (h : ∀ p ∈ a, p ∈ b) : a.length ≤ b.length := by
  have : a.length = (b.filter fun p => decide (p ∈ a)).length := ((List.perm_ext_iff_of_nodup ha (hb.sublist List.filter_sublist)).2 fun p => by
    rw [List.mem_filter, decide_eq_true_eq]
    exact ⟨fun hm => ⟨h p hm, hm⟩, fun hm => hm.2⟩).length_eq
  rw [this]
  exact List.length_filter_le _ _
/-- what is mended is right, and differs in no more than it may -/
theorem mend_right {n : Nat} {ws : List UInt8} {l : List Int} (hw : ws.length = n) (hbad : eraBad (n : Int) l = 0) (hlost : ¬ fLost (synL ws) n l)
    (hok : mendOk (fLoc (synL ws) n l) (fEv (synL ws) n l) ws = true) :
    synL (mendL (fLoc (synL ws) n l) (fEv (synL ws) n l) n (srch (fLoc (synL ws) n l) n) ws) = zero32 ∧
    (othK (mendL (fLoc (synL ws) n l) (fEv (synL ws) n l) n (srch (fLoc (synL ws) n l) n) ws) ws l n).length = regL (fRow (synL ws) n l) ∧ 2 * regL (fRow (synL ws) n l) + l.length ≤ 32 := by
  obtain ⟨ps, rfl, hd, hp, hl32, h33, h255⟩ := era_ps hbad
  rw [oth_hits, intL_len]
  have hfl : 2 * regL (fRow (synL ws) n (intL ps)) + ps.length ≤ 32 := by
    unfold fLost at hlost
    rw [intL_len] at hlost
    omega
  have hpl : plen (fLoc (synL ws) n (intL ps)) ≤ regL (fRow (synL ws) n (intL ps)) + ps.length + 1 := by
    unfold fLoc
    rw [eraV_nat]
    exact plen_prod (fun j hj => reg_cz _ j hj) (fun j hj => pinvs_cz _ j (by rw [List.length_map]; exact hj))
  have hroot : ∀ p ∈ ps, pev (fLoc (synL ws) n (intL ps)) (ginv (plX n p)) = 0 := fun p hm => by
    unfold fLoc
    rw [eraV_nat, pev_mul, pev_pinvs, prodf_root (List.mem_map.2 ⟨p, hm, rfl⟩) (plX_ne n p), gmul_zero]
  obtain ⟨loc, hloc⟩ : ∃ loc, fLoc (synL ws) n (intL ps) = loc := ⟨_, rfl⟩
  obtain ⟨ev, he⟩ : ∃ ev, fEv (synL ws) n (intL ps) = ev := ⟨_, rfl⟩
  obtain ⟨c, hc⟩ : ∃ c, mendL loc ev n (srch loc n) ws = c := ⟨_, rfl⟩
  rw [hloc] at hpl hroot
  rw [hloc, he] at hok ⊢
  rw [hc]
  unfold mendOk at hok
  rw [hw, hc] at hok
  simp only [Bool.and_eq_true, decide_eq_true_eq] at hok
  obtain ⟨⟨k1, -⟩, k3⟩ := hok
  refine ⟨k3, ?_, hfl⟩
  have hB : Bent n (errW c ws) ps (synL ws) := bent_of h255 (by rw [← hc, mendL_len, hw]) hw (fun j hj => syn_zero k3 j hj) hd hp
  have hcf : ∀ j, cf c j = if j ∈ srch loc n then cf ws j ^^^ amtV loc ev n j else cf ws j := fun j => by
    rw [← hc]
    exact mendL_cf _ _ _ _ _ (srch_nodup _ _) (fun p hp => by rw [hw]; exact (mem_srch.1 hp).1) j
  have hsub : ∀ p ∈ allP n (errW c ws) ps, p ∈ srch loc n := fun p hm => by
    rcases mem_allP.1 hm with ⟨h1, h2, h3⟩ | h
    · refine Classical.byContradiction fun hn => h2 ?_
      unfold errW
      rw [hcf, if_neg hn, UInt8.xor_self]
    · exact mem_srch.2 ⟨hp p h, hroot p h⟩
  have hle : (allP n (errW c ws) ps).length ≤ (srch loc n).length := sub_len (allP_nodup hd) (srch_nodup _ _) hsub
  have hal : (allP n (errW c ws) ps).length = (hits n (errW c ws) ps).length + ps.length := by unfold allP; rw [List.length_append]
  have hh : (hits n (errW c ws) ps).length ≤ regL (fRow (synL ws) n (intL ps)) := by omega
  exact (finds hB h33 (by omega)).long.symm
end Go.Proofs.YtmohiblgfmdkjaaDoor
