/-
  Layer 5 in plain Lean: the document's repair (places by a register, amounts by linear equations) and the program's (Forney's amounts) agree.
  Layer 5 in plain Lean: the word that the document's tried hands back.
-/
import Derived.Test.YtmohiblgfmdkjaaDoorHC
import Derived.Test.YtmohiblgfmdkjaaDoorGF
namespace Go.Proofs.YtmohiblgfmdkjaaDoor
open Go.RowKit Go.Bl
set_option linter.unusedVariables false
/-- amounts as a function of the place -/
def errOf : List Nat → (Nat → UInt8) → Nat → UInt8
  | [], _, _ => 0
  | a :: l, x, p => if p = a then x 0 else errOf l (fun i => x (i + 1)) p
theorem errOf_off : ∀ (l : List Nat) (x : Nat → UInt8) (p : Nat), p ∉ l → errOf l x p = 0
  | [], _, _, _ => rfl
  | a :: l, x, p, h => by
    simp only [List.mem_cons, not_or] at h
    unfold errOf
    rw [if_neg h.1]
    exact errOf_off l _ p h.2
theorem errOf_at : ∀ (l : List Nat) (x : Nat → UInt8) (i p : Nat), l.Nodup → l[i]? = some p → errOf l x p = x i
  | [], _, i, p, _, h => by simp at h
  | a :: l, x, 0, p, _, h => by
    simp at h
    unfold errOf
    rw [if_pos h.symm]
  | a :: l, x, i + 1, p, hd, h => by
    rw [List.nodup_cons] at hd
    rw [List.getElem?_cons_succ] at h
    have hm := List.mem_of_getElem? h
    unfold errOf
    rw [if_neg (fun e => hd.1 (by rw [← e]; exact hm))]
    exact errOf_at l _ i p hd.2 h
theorem idx_psum (n k : Nat) (e : Nat → UInt8) : ∀ (l : List Nat) (h : Nat → UInt8), (∀ i p, l[i]? = some p → e p = h i) → xsum l.length (fun i => gmul (gpw (plX n (l.getD i 0)) k) (h i)) = psum (pairs n e l) k
  | [], _, _ => rfl
  | a :: l, h, hh => by
    have ih := idx_psum n k e l (fun i => h (i + 1)) (fun i p hp => hh (i + 1) p (by rw [List.getElem?_cons_succ]; exact hp))
    rw [List.length_cons, xsum_first]
    unfold pairs at ih ⊢
    rw [List.map_cons]
    show _ = gmul (e a) (gpw (plX n a) k) ^^^ psum (l.map fun p => (e p, plX n p)) k
    rw [← ih, hh 0 a rfl, gmul_comm]
    rfl
theorem all_psum {n : Nat} {e : Nat → UInt8} {all : List Nat} (k : Nat) (hd : all.Nodup) (hl : ∀ p ∈ all, p < n) (h0 : ∀ p, p < n → p ∉ all → e p = 0) : xsum n (fun p => gmul (e p) (gpw (plX n p) k)) = psum (pairs n e all) k := by
  rw [← psum_pairs]
  unfold pairs
  rw [← psum_filt (fun p => (e p, plX n p)) (fun p => decide (p ∈ all)) k (List.range n) (fun p hm hp => h0 p (List.mem_range.1 hm) (by simpa using hp))]
  refine psum_perm (List.Perm.map _ ?_) k
  refine (List.perm_ext_iff_of_nodup (List.nodup_range.sublist List.filter_sublist) hd).2 fun p => ?_
  rw [List.mem_filter, List.mem_range, decide_eq_true_eq]
  exact ⟨fun h => h.2, fun h => ⟨hl p h, h⟩⟩
/-- the places that the register finds, and that were not told -/
def fndL (n : Nat) (reg : List UInt8) (ps : List Nat) : List Nat := (List.range n).filter fun p => decide (p ∉ ps) && decide (pev reg (ginv (plX n p)) = 0)
theorem mem_fndL {n : Nat} {reg : List UInt8} {ps : List Nat} {p : Nat} : p ∈ fndL n reg ps ↔ p < n ∧ p ∉ ps ∧ pev reg (ginv (plX n p)) = 0 := by
  unfold fndL
  rw [List.mem_filter, List.mem_range]
  simp
theorem fndL_nodup (n : Nat) (reg : List UInt8) (ps : List Nat) : (fndL n reg ps).Nodup := List.nodup_range.sublist List.filter_sublist
theorem fall_nodup {n : Nat} {reg : List UInt8} {ps : List Nat} (hd : ps.Nodup) : (ps ++ fndL n reg ps).Nodup := List.nodup_append.2 ⟨hd, fndL_nodup _ _ _, fun a ha b hb e => (mem_fndL.1 hb).2.1 (by rw [← e]; exact ha)⟩
/-- the equations -/
def solA (n : Nat) (all : List Nat) (s : List UInt8) (x : Nat → UInt8) : Prop := ∀ j, j < 32 → xsum all.length (fun i => gmul (gpw (plX n (all.getD i 0)) j) (x i)) = cf s j
/-- what the document finds is what the program finds -/
theorem tried_yes {n : Nat} {ws : List UInt8} {ps : List Nat} {x : Nat → UInt8} (h33 : 33 ≤ n) (h255 : n ≤ 255) (hw : ws.length = n) (hd : ps.Nodup) (hp : ∀ p ∈ ps, p < n) {t : Nat} {reg : List UInt8} (ht : regL (fRow (synL ws) (n : Int) (intL ps)) = t) (hlen : 2 * t + ps.length ≤ 32)
    (hF : (fndL n reg ps).length = t) (hx : solA n (ps ++ fndL n reg ps) (synL ws) x) :
    mGood ws (intL ps) ∧ (∀ j, j < n → cf (mOut ws (intL ps)) j = cf ws j ^^^ errOf (ps ++ fndL n reg ps) x j) ∧ ∀ p ∈ fndL n reg ps, errOf (ps ++ fndL n reg ps) x p ≠ 0 := by
  have hnd := fall_nodup (n := n) (reg := reg) hd
  obtain ⟨FD, hFF⟩ : ∃ FD, fndL n reg ps = FD := ⟨_, rfl⟩
  have hFn : FD.Nodup := by rw [← hFF]; exact fndL_nodup _ _ _
  have hFl : ∀ p ∈ FD, p < n := fun p h => by rw [← hFF] at h; exact (mem_fndL.1 h).1
  rw [hFF] at hF hx hnd ⊢
  obtain ⟨e, he⟩ : ∃ e, errOf (ps ++ FD) x = e := ⟨_, rfl⟩
  have hal : ∀ p ∈ ps ++ FD, p < n := fun p h => by
    rcases List.mem_append.1 h with h | h
    · exact hp p h
    · exact hFl p h
  have hoff : ∀ p, p ∉ ps ++ FD → e p = 0 := fun p h => by rw [← he]; exact errOf_off _ _ _ h
  have hsum : ∀ j, j < 32 → xsum n (fun p => gmul (e p) (gpw (plX n p) j)) = cf (synL ws) j := fun j hj => by
    rw [all_psum j hnd hal (fun p _ h => hoff p h), ← hx j hj]
    exact (idx_psum n j e (ps ++ FD) x (fun i p h => by rw [← he]; exact errOf_at _ _ _ _ hnd h)).symm
  obtain ⟨c, hc⟩ : ∃ c, (List.range n).map (fun p => cf ws p ^^^ e p) = c := ⟨_, rfl⟩
  have hcl : c.length = n := by rw [← hc]; simp
  have hcf : ∀ j, j < n → cf c j = cf ws j ^^^ e j := fun j hj => by rw [← hc, cf_map_range, if_pos hj]
  have hW : ∀ p, p < n → errW c ws p = e p := fun p h => by
    unfold errW
    rw [hcf p h, ← UInt8.xor_assoc, UInt8.xor_self, UInt8.zero_xor]
  have h0 : ∀ j, j < 32 → hval c (gexp j) = 0 := fun j hj => by
    rw [hval_pow, hcl, xsum_congr (g := fun p => gmul (cf ws p) (gpw (plX n p) j) ^^^ gmul (e p) (gpw (plX n p) j)) n (fun p hp => by rw [hcf p hp, xor_gmul]), xsum_xor, hsum j hj, synL_cf ws j hj, hval_pow, hw, UInt8.xor_self]
  have hB : Bent n (errW c ws) ps (synL ws) := bent_of h255 hcl hw h0 hd hp
  have hsub : ∀ p ∈ hits n (errW c ws) ps, p ∈ FD := fun p hm => by
    obtain ⟨h1, h2, h3⟩ := mem_hits.1 hm
    rw [hW p h1] at h2
    refine Classical.byContradiction fun hn => h2 (hoff p (fun h => ?_))
    rcases List.mem_append.1 h with h | h
    · exact h3 h
    · exact hn h
  have hle := sub_len (hits_nodup n (errW c ws) ps) hFn hsub
  have hf := finds hB h33 (by omega)
  have hlong := hf.long
  rw [ht] at hlong
  obtain ⟨k1, k2⟩ := mend_back h33 hcl hw hB (by omega) (zero_syn h0)
  refine ⟨?_, ?_, ?_⟩
  · unfold mGood mLoc mEv
    rw [hw]
    exact ⟨hf.lost, k1⟩
  · intro j hj
    have : mOut ws (intL ps) = c := by unfold mOut mLoc mEv; rw [hw]; exact k2
    rw [this, hcf j hj, he]
  · intro p hm hz
    have h1 : ∀ q ∈ hits n (errW c ws) ps, q ∈ FD.erase p := fun q hq => by
      refine (hFn.mem_erase_iff).2 ⟨fun e2 => ?_, hsub q hq⟩
      subst e2
      obtain ⟨g1, g2, -⟩ := mem_hits.1 hq
      rw [hW q g1] at g2
      exact g2 (by rw [← he]; exact hz)
    have h2 := sub_len (hits_nodup n (errW c ws) ps) (hFn.erase p) h1
    rw [List.length_erase_of_mem hm] at h2
    have := List.length_pos_of_mem hm
    omega
/-- and the other way round -/
theorem tried_no {n : Nat} {ws : List UInt8} {ps : List Nat} (hw : ws.length = n) (hbad : eraBad (n : Int) (intL ps) = 0) (hd : ps.Nodup) (hp : ∀ p ∈ ps, p < n) (hg : mGood ws (intL ps)) :
    (fndL n (regP (fRow (synL ws) (n : Int) (intL ps))) ps).length = regL (fRow (synL ws) (n : Int) (intL ps)) ∧ ∃ x, solA n (ps ++ fndL n (regP (fRow (synL ws) (n : Int) (intL ps))) ps) (synL ws) x := by
  obtain ⟨hlost, hok⟩ := hg
  unfold mLoc mEv at hok
  rw [hw] at hlost hok
  obtain ⟨r1, r2, r3⟩ := mend_right hw hbad hlost hok
  rw [oth_hits] at r2
  have hpl : plen (fLoc (synL ws) n (intL ps)) ≤ regL (fRow (synL ws) n (intL ps)) + ps.length + 1 := by
    unfold fLoc
    rw [eraV_nat]
    exact plen_prod (fun j hj => reg_cz _ j hj) (fun j hj => pinvs_cz _ j (by rw [List.length_map]; exact hj))
  have hroot : ∀ p, p < n → (pev (fLoc (synL ws) n (intL ps)) (ginv (plX n p)) = 0 ↔ (p ∈ ps ∨ pev (regP (fRow (synL ws) (n : Int) (intL ps))) (ginv (plX n p)) = 0)) := fun p hpn => by
    unfold fLoc
    rw [eraV_nat, pev_mul, pev_pinvs]
    constructor
    · intro h
      by_cases hm : p ∈ ps
      · exact .inl hm
      · refine .inr (Classical.byContradiction fun hne => ?_)
        have h2 : prodf (ps.map (plX n)) (ginv (plX n p)) ≠ 0 := prodf_ne (plX_ne n p) (fun hx => by
          obtain ⟨q, hq, e⟩ := List.mem_map.1 hx
          obtain ⟨-, -, -, -, -, -, h255⟩ := era_ps hbad
          exact hm (by rw [← plX_inj h255 (hp q hq) hpn e]; exact hq))
        exact gmul_ne hne h2 h
    · rintro (h | h)
      · rw [prodf_root (List.mem_map.2 ⟨p, h, rfl⟩) (plX_ne n p), gmul_zero]
      · rw [h, zero_gmul]
  obtain ⟨reg, hreg⟩ : ∃ x, regP (fRow (synL ws) (n : Int) (intL ps)) = x := ⟨_, rfl⟩
  obtain ⟨t, ht⟩ : ∃ x, regL (fRow (synL ws) (n : Int) (intL ps)) = x := ⟨_, rfl⟩
  obtain ⟨loc, hloc⟩ : ∃ x, fLoc (synL ws) (n : Int) (intL ps) = x := ⟨_, rfl⟩
  obtain ⟨ev, hev⟩ : ∃ x, fEv (synL ws) (n : Int) (intL ps) = x := ⟨_, rfl⟩
  rw [hloc] at hpl hroot hok r1 r2
  rw [hev] at hok r1 r2
  rw [hreg] at hroot ⊢
  rw [ht] at hpl r2 ⊢
  have hnd := fall_nodup (n := n) (reg := reg) hd
  have hsm : ∀ p, p ∈ srch loc n ↔ p ∈ ps ++ fndL n reg ps := fun p => by
    rw [mem_srch, List.mem_append, mem_fndL]
    constructor
    · rintro ⟨h1, h2⟩
      by_cases hm : p ∈ ps
      · exact .inl hm
      · exact .inr ⟨h1, hm, ((hroot p h1).1 h2).resolve_left hm⟩
    · rintro (h | ⟨h1, h2, h3⟩)
      · exact ⟨hp p h, (hroot p (hp p h)).2 (.inl h)⟩
      · exact ⟨h1, (hroot p h1).2 (.inr h3)⟩
  have hsl : (srch loc n).length = ps.length + (fndL n reg ps).length := by
    rw [← List.length_append]
    exact ((List.perm_ext_iff_of_nodup (srch_nodup _ _) hnd).2 hsm).length_eq
  obtain ⟨c, hc⟩ : ∃ c, mendL loc ev n (srch loc n) ws = c := ⟨_, rfl⟩
  rw [hc] at r1 r2
  have hcf : ∀ j, cf c j = if j ∈ srch loc n then cf ws j ^^^ amtV loc ev n j else cf ws j := fun j => by
    rw [← hc]
    exact mendL_cf _ _ _ _ _ (srch_nodup _ _) (fun p hp => by rw [hw]; exact (mem_srch.1 hp).1) j
  have hoff : ∀ p, p ∉ ps ++ fndL n reg ps → errW c ws p = 0 := fun p h => by
    unfold errW
    rw [hcf, if_neg (fun hm => h ((hsm p).1 hm)), UInt8.xor_self]
  have hsub : ∀ p ∈ hits n (errW c ws) ps, p ∈ fndL n reg ps := fun p hm => by
    obtain ⟨h1, h2, h3⟩ := mem_hits.1 hm
    refine Classical.byContradiction fun hn => h2 (hoff p (fun h => ?_))
    rcases List.mem_append.1 h with h | h
    · exact h3 h
    · exact hn h
  have hle := sub_len (hits_nodup n (errW c ws) ps) (fndL_nodup n reg ps) hsub
  have k1 : (srch loc n).length + 1 = plen loc := by
    unfold mendOk at hok
    rw [hw] at hok
    simp only [Bool.and_eq_true, decide_eq_true_eq] at hok
    exact hok.1.1
  refine ⟨by omega, fun i => errW c ws ((ps ++ fndL n reg ps).getD i 0), fun j hj => ?_⟩
  obtain ⟨-, -, -, -, -, -, h255⟩ := era_ps hbad
  have hB : Bent n (errW c ws) ps (synL ws) := bent_of h255 (by rw [← hc, mendL_len, hw]) hw (fun j hj => syn_zero r1 j hj) hd hp
  rw [hB.sc j hj, all_psum j hnd (fun p h => by
    rcases List.mem_append.1 h with h | h
    · exact hp p h
    · exact (mem_fndL.1 h).1) (fun p _ h => hoff p h)]
  exact idx_psum n j (errW c ws) _ _ (fun i p h => by rw [List.getD_eq_getElem?_getD, h]; rfl)
end Go.Proofs.YtmohiblgfmdkjaaDoor
namespace Go.Proofs.YtmohiblgfmdkjaaDoor
open Go.RowKit Go.Bl
set_option linter.unusedVariables false
theorem errOf_snoc : ∀ (l : List Nat) (x : Nat → UInt8) (a p : Nat), a ∉ l → errOf (l ++ [a]) x p = if p = a then x l.length else errOf l x p
  | [], x, a, p, _ => rfl
  | b :: l, x, a, p, h => by
    simp only [List.mem_cons, not_or] at h
    have ih := errOf_snoc l (fun i => x (i + 1)) a p h.2
    rw [List.cons_append]
    show (if p = b then x 0 else errOf (l ++ [a]) (fun i => x (i + 1)) p) = if p = a then x (l.length + 1) else (if p = b then x 0 else errOf l (fun i => x (i + 1)) p)
    rw [ih]
    by_cases h1 : p = b
    · subst h1
      rw [if_pos rfl, if_neg (fun e => h.1 e.symm), if_pos rfl]
    · rw [if_neg h1, if_neg h1]
/-- the word after k rounds of amounts -/
def trO (ws : List UInt8) (all : List Nat) (x : List UInt8) : Nat → List UInt8
  | 0 => ws
  | k + 1 => (trO ws all x k).set (all.getD k 0) (cf (trO ws all x k) (all.getD k 0) ^^^ cf x k)
theorem trO_len (ws : List UInt8) (all : List Nat) (x : List UInt8) : ∀ k, (trO ws all x k).length = ws.length
  | 0 => rfl
  | k + 1 => by
    show ((trO ws all x k).set _ _).length = _
    rw [List.length_set]
    exact trO_len ws all x k
theorem trO_cf (ws : List UInt8) (all : List Nat) (x : List UInt8) (hd : all.Nodup) (hl : ∀ p ∈ all, p < ws.length) : ∀ k, k ≤ all.length → ∀ p, cf (trO ws all x k) p = cf ws p ^^^ errOf (all.take k) (cf x) p
  | 0, _, p => by
    rw [List.take_zero]
    show cf ws p = cf ws p ^^^ 0
    rw [UInt8.xor_zero]
  | k + 1, hk, p => by
    have ih := trO_cf ws all x hd hl k (by omega)
    obtain ⟨a, ha⟩ : ∃ a, all[k]? = some a := ⟨_, List.getElem?_eq_getElem (by omega)⟩
    have hg : all.getD k 0 = a := by rw [List.getD_eq_getElem?_getD, ha]; rfl
    have ht : all.take (k + 1) = all.take k ++ [a] := by rw [List.take_add_one, ha]; rfl
    have hna : a ∉ all.take k := fun hm => by
      have h2 : (all.take (k + 1)).Nodup := hd.sublist (List.take_sublist _ _)
      rw [ht, List.nodup_append] at h2
      exact h2.2.2 a hm a (List.mem_singleton.2 rfl) rfl
    show cf ((trO ws all x k).set (all.getD k 0) (cf (trO ws all x k) (all.getD k 0) ^^^ cf x k)) p = _
    rw [hg, cf_set _ _ _ _ (by rw [trO_len]; exact hl a (List.mem_of_getElem? ha)), ih a, ih p, ht, errOf_snoc _ _ _ _ hna, List.length_take, Nat.min_eq_left (by omega), errOf_off _ _ _ hna, UInt8.xor_zero]
    by_cases h : p = a
    · subst h
      rw [if_pos rfl, if_pos rfl]
    · rw [if_neg h, if_neg h]
/-- what is handed back where the document finds -/
def trYes (n : Nat) (ws reg : List UInt8) (ps : List Nat) (t : Nat) (s x : List UInt8) : Prop :=
  (fndL n reg ps).length = t ∧ solA n (ps ++ fndL n reg ps) s (cf x)
/-- and where it does not -/
def trNo (n : Nat) (reg : List UInt8) (ps : List Nat) (t : Nat) (s : List UInt8) : Prop :=
  (fndL n reg ps).length ≠ t ∨ (∀ x, ¬ solA n (ps ++ fndL n reg ps) s x) ∨ ∃ x, (fndL n reg ps).length = t ∧ solA n (ps ++ fndL n reg ps) s x ∧ ∃ p ∈ fndL n reg ps, errOf (ps ++ fndL n reg ps) x p = 0
/-- the rows of the equations -/
def trRows (n : Nat) (all : List Nat) (s : List UInt8) (j : Nat) : List UInt8 := (all.map fun p => gpw (plX n p) j) ++ [cf s j]
theorem trRows_sol (n : Nat) (all : List Nat) (s : List UInt8) (x : Nat → UInt8) : sol all.length ((List.range 32).map (trRows n all s)) x ↔ solA n all s x := by
  unfold sol solA
  have hr : ∀ j, j < 32 → rw_ ((List.range 32).map (trRows n all s)) j = trRows n all s j := fun j hj => by
    unfold rw_
    rw [List.getD_eq_getElem?_getD, List.getElem?_map, List.getElem?_range hj]; rfl
  have he : ∀ j, eqn all.length (trRows n all s j) x ↔ xsum all.length (fun i => gmul (gpw (plX n (all.getD i 0)) j) (x i)) = cf s j := fun j => by
    unfold eqn
    have h1 : cf (trRows n all s j) all.length = cf s j := by
      unfold trRows
      rw [cf_append, List.length_map, if_neg (by omega), Nat.sub_self]; rfl
    have h2 : xsum all.length (fun i => gmul (cf (trRows n all s j) i) (x i)) = xsum all.length (fun i => gmul (gpw (plX n (all.getD i 0)) j) (x i)) := xsum_congr _ fun i hi => by
      have : cf (trRows n all s j) i = gpw (plX n (all.getD i 0)) j := by
        unfold trRows
        rw [cf_append, List.length_map, if_pos hi]
        unfold cf
        rw [List.getD_eq_getElem?_getD, List.getElem?_map, List.getD_eq_getElem?_getD, List.getElem?_eq_getElem hi]; rfl
      rw [this]
    rw [h1, h2]
  rw [List.length_map, List.length_range]
  exact ⟨fun h j hj => (he j).1 (by have := h j hj; rwa [hr j hj] at this), fun h j hj => by rw [hr j hj]; exact (he j).2 (h j hj)⟩
theorem dfrK_comm (xs ys : List UInt8) (k : Nat) : dfrK xs ys k = dfrK ys xs k := by
  unfold dfrK
  congr 1
  funext p
  exact decide_eq_decide.2 ⟨fun h e => h e.symm, fun h e => h e.symm⟩
/-- the document's answer is the program's -/
theorem trO_good {n : Nat} {ws : List UInt8} {ps : List Nat} {x : List UInt8} (h33 : 33 ≤ n) (h255 : n ≤ 255) (hw : ws.length = n) (hd : ps.Nodup) (hp : ∀ p ∈ ps, p < n) {t : Nat} {reg : List UInt8} (ht : regL (fRow (synL ws) (n : Int) (intL ps)) = t) (hlen : 2 * t + ps.length ≤ 32)
    (hy : trYes n ws reg ps t (synL ws) x) : mGood ws (intL ps) ∧ trO ws (ps ++ fndL n reg ps) x (ps ++ fndL n reg ps).length = mOut ws (intL ps) := by
  obtain ⟨hF, hx⟩ := hy
  obtain ⟨k1, k2, -⟩ := tried_yes h33 h255 hw hd hp ht hlen hF hx
  refine ⟨k1, ?_⟩
  have hal : ∀ p ∈ ps ++ fndL n reg ps, p < n := fun p h => by
    rcases List.mem_append.1 h with h | h
    · exact hp p h
    · exact (mem_fndL.1 h).1
  refine cf_same (by rw [trO_len, mOut_len]) fun j hj => ?_
  rw [trO_len, hw] at hj
  rw [trO_cf _ _ _ (fall_nodup hd) (fun p h => by rw [hw]; exact hal p h) _ (Nat.le_refl _), List.take_length, k2 j hj]
theorem trNo_bad {n : Nat} {ws : List UInt8} {ps : List Nat} (h33 : 33 ≤ n) (h255 : n ≤ 255) (hw : ws.length = n) (hd : ps.Nodup) (hp : ∀ p ∈ ps, p < n) {t : Nat} {reg : List UInt8} (hr : ∀ j, cf reg j = cf (regP (fRow (synL ws) (n : Int) (intL ps))) j) (hbad : eraBad (n : Int) (intL ps) = 0) (ht : regL (fRow (synL ws) (n : Int) (intL ps)) = t) (hlen : 2 * t + ps.length ≤ 32)
    (hy : trNo n reg ps t (synL ws)) : ¬ mGood ws (intL ps) := fun hg => by
  have hpe : ∀ y, pev reg y = pev (regP (fRow (synL ws) (n : Int) (intL ps))) y := fun y => pev_ext hr y
  have hfe : fndL n reg ps = fndL n (regP (fRow (synL ws) (n : Int) (intL ps))) ps := by
    unfold fndL
    congr 1
    funext p
    rw [hpe]
  obtain ⟨g1, x, g2⟩ := tried_no hw hbad hd hp hg
  rw [ht] at g1
  rw [← hfe] at g1 g2
  rcases hy with h | h | ⟨x, h1, h2, p, h3, h4⟩
  · exact h g1
  · exact h x g2
  · exact (tried_yes h33 h255 hw hd hp ht hlen h1 h2).2.2 p h3 h4
end Go.Proofs.YtmohiblgfmdkjaaDoor
