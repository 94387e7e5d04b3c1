/-
  Layer 31: the document's cursor.
-/
import Derived.Test.YtbohmnblegljkaaAct2
namespace Go.Proofs.Ytbohmnblegljkaa
open Go.RowKit Go.Bl
set_option linter.unusedVariables false

/-- a cursor over bytes, at a place -/
def Cu (A : Nat → Prop) (w : World) (rb : Nat) (v : Value) (xs : List UInt8) (K : Nat) : Prop := A rb ∧ At w rb (.cells #[v, .int .i64 K] 52) ∧ Bs A w v xs ∧ K ≤ xs.length
theorem Cu.keep {A : Nat → Prop} {w w' : World} {rb K : Nat} {v : Value} {xs : List UInt8} {S : List Nat} (h : Cu A w rb v xs K) (hf : Fr S w w') (hS : ∀ b ∈ S, A b) (hn : rb ∉ S) : Cu A w' rb v xs K :=
  ⟨h.1, h.2.1.keep hf hn, h.2.2.1.keep hf hS, h.2.2.2⟩
theorem Cu.mono {A A' : Nat → Prop} {w : World} {rb K : Nat} {v : Value} {xs : List UInt8} (h : Cu A w rb v xs K) (hA : ∀ b, A' b → A b ∨ w.heap.size ≤ b) (hr : A' rb) : Cu A' w rb v xs K :=
  ⟨hr, h.2.1, h.2.2.1.mono (Fr.refl [] w) (by simp) hA, h.2.2.2⟩

theorem wpList_one_assign {P : Program} {w : World} {ops : Array Oper} {rest : List Oper} {o : Oper} {a : Act} {Q : Exit → Act → World → Prop} (x : Operand) (ho : o.op = .assign x) (hgd : o.guard = none) (h : wpList P ops Q rest (a.put o.dst (a.eval x)) w) : wpList P ops Q (o :: rest) a w := by
  refine wpl_val _ ho hgd (a.eval x) ?_ h
  unfold execOp
  simp only [ho, Sem.run_pure]

/-- as many as there are -/
def most (xs : List UInt8) (K n : Nat) : Nat := min n (xs.length - K)
theorem take_most (xs : List UInt8) (K n : Nat) : (xs.drop K).take (most xs K n) = (xs.drop K).take n := by
  unfold most
  rcases Nat.le_total n (xs.length - K) with h | h
  · rw [Nat.min_eq_left h]
  · rw [Nat.min_eq_right h, List.take_of_length_le (by simp), List.take_of_length_le (by simp; omega)]

set_option maxRecDepth 100000 in
set_option maxHeartbeats 4000000 in
theorem ctake_any (A : Nat → Prop) (w : World) (rb : Nat) (v : Value) (xs : List UInt8) (K n : Nat) (hc : Cu A w rb v xs K) (hn : n ≤ 65536) (hx : xs.length ≤ 1000000) :
    Calls Try.prog 17 #[.pointer (some ⟨rb, 0, none⟩), .int .i64 n] w fun e w' => ∃ u, e = .returned u ∧ OwnB 5 w.heap.size w' u ((xs.drop K).take n) ∧ Cu A w' rb v xs (K + most xs K n) ∧ Fr [rb] w w' := by
  obtain ⟨hA, hat, hb, hK⟩ := hc
  obtain ⟨a, cap, rfl, h2, h3, h4⟩ := id hb
  unfold maxLen at h3
  obtain ⟨N, hN⟩ : ∃ N, xs.length = N := ⟨_, rfl⟩
  obtain ⟨m, hm⟩ : ∃ m, most xs K n = m := ⟨_, rfl⟩
  have hmm : (n ≤ N - K ∧ m = n) ∨ (N - K < n ∧ m = N - K) := by unfold most at hm; omega
  have HTK := Lib.hid (take_most xs K n)
  rw [hm] at HTK ⊢
  rw [← HTK.out]
  rw [hN] at hat hb h2 hx hK ⊢
  have HB := Lib.hid hb
  have HN := Lib.hid hN
  have hlt := hat.lt
  have HAT := Lib.hid hat
  clear hb hm hN h4
  have k0 := HAT.out.cell 0
  have k1 := HAT.out.cell 1
  have kf := HAT.out.free 1
  simp only [List.getElem?_toArray, List.getElem?_cons_zero, List.getElem?_cons_succ] at k0 k1
  clear hat
  rcases hmm with ⟨g1, rfl⟩ | ⟨g1, rfl⟩
  · have hg : ¬ ((N : Int) - K < m) := by omega
    go_enter Try.func17, Try.ntmps17
    go_wp2
    go_quiet (fail)
    go_wp2
    have hset : At ((w.drewN nq).setCell ⟨rb, 1, none⟩ (.int .i64 (K + m))) rb (.cells #[.slice a N cap, .int .i64 (K + m)] 52) := At.set (show At (w.drewN nq) rb _ from HAT.out) 1 _
    have HS := Lib.hid hset
    have HF := Lib.hid (show Fr [rb] w ((w.drewN nq).setCell ⟨rb, 1, none⟩ (.int .i64 (K + m))) from Fr.sc (Fr.dn (Fr.refl [rb] w)) (.inr (by simp)))
    clear hset k0 k1 kf
    generalize (w.drewN nq).setCell ⟨rb, 1, none⟩ (.int .i64 (K + m)) = w2 at HS HF ⊢
    refine wp_region_pf [(.mem, 0), (.val, 1), (.val, 2), (.val, 3), (.val, 4), (.val, 5), (.val, 6), (.val, 7), (.val, 8), (.val, 9), (.val, 10), (.val, 11), (.val, 12), (.val, 13), (.val, 14), (.val, 15), (.tail, 16), (.tail, 17)] (by kernel_rfl) (by kernel_rfl) ?_
    intro wa ha
    have HS := Lib.hid (HS.out.keep0 ha)
    have HF := Lib.hid (HF.out.trans ha.weak)
    have j0 := fun x : Kin wa => (HS.out.keep0 x.fr).cell 0
    have j1 := fun x : Kin wa => (HS.out.keep0 x.fr).cell 1
    simp only [List.getElem?_toArray, List.getElem?_cons_zero, List.getElem?_cons_succ] at j0 j1
    refine poF_new _ (by simp only [List.getElem?_toArray, List.getElem?_cons_succ, List.getElem?_cons_zero]; rfl) rfl (.cells #[] 5) (fun b => .slice (some ⟨b, 0, none⟩) 0 0) (fun _ => by kernel_rfl) ?_
    intro b wb hbs hwb hAt
    go_frame
    have i1 : (0 : Int) ≤ K := by omega
    have i2 : (K : Int) + m - m = K := by omega
    have i3 : (K : Int) ≤ K + m := by omega
    have i4 : (K : Int) + m ≤ cap := by omega
    refine poF_vals 15 _ _ _ (by kernel_rfl) ?_
    simp only [opersOf, List.take_succ_cons, List.take_zero, List.filterMap_cons, List.filterMap_nil, List.getElem?_toArray, List.getElem?_cons_succ, List.getElem?_cons_zero, List.drop_succ_cons, List.drop_zero]
    show wpQuiet _ _ _ _ [_, _, _, _, _, _, _, _, _, _, _, _, _, _, _] _
    iterate 15 go_big_quiet_step (fail)
    refine wpQuiet_nil ?_
    have hbl := hAt.lt
    refine poF_tail _ (by simp only [List.getElem?_toArray, List.getElem?_cons_succ, List.getElem?_cons_zero]; rfl) ?_
    intro uc huc
    have hfa : Fr [] wa uc := hwb.trans huc
    have HAu := Lib.hid (hAt.keep0 huc)
    have hown : OwnB 5 wa.heap.size uc (.slice (some ⟨b, 0, none⟩) 0 0) [] := by
      refine ⟨by simp, .inr ⟨b, 0, #[], rfl, hbs, HAu.out, Nat.le_refl _, by simp [maxLen], rfl, rfl⟩⟩
    have hcut := (((HB.out.keep HF.out (by simp [hA])).keep hfa (by simp)).cut K hK).take m (by omega)
    have hszu := huc.size
    have hcut : Bs A uc (.slice (if cap = K then a else a.map (·.add K)) (K + m - K) (cap - K)) ((xs.drop K).take m) := by rw [Nat.add_sub_cancel_left]; exact hcut
    generalize (if cap = K then a else a.map (·.add K)) = sa at hcut ⊢
    have hlen : ((xs.drop K).take m).length ≤ 65536 := by simp; omega
    refine wpl_append_bs (base := wa.heap.size) (ys := (xs.drop K).take m) Try.underlying22 Try.infoByte rfl (.tmp 35) (.tmp 50) rfl rfl rfl hown hcut (by simp only [List.length_nil]; omega) (by omega) ?_
    intro v' wd ho hg
    refine ⟨rfl, rfl, ?_⟩
    have HO := Lib.hid ho
    have HFd := Lib.hid (show Fr [rb] w wd from OwnB.fr hown (HF.out.trans hfa.weak) hg (HF.out.size))
    have hgf : Fr v'.ownBlock.toList wd wd := Fr.refl _ _
    have HCd := Lib.hid (show Cu A wd rb (.slice a N cap) xs (K + m) from ⟨hA, (by
      have := (HS.out.keep0 hfa).grown hg (show (Value.slice (some ⟨b, 0, none⟩) 0 0).ownBlock ≠ some rb from fun hh => by
        have h5 := HS.out.lt
        have h6 : b = rb := by simpa [Value.ownBlock] using hh
        omega)
      simpa using this), HB.out.keep HFd.out (by simp [hA]), by have := HN.out; omega⟩)
    clear ho hg hown hcut HAu hlen hgf
    go_frame
    refine poF_tail _ (by simp only [List.getElem?_toArray, List.getElem?_cons_succ, List.getElem?_cons_zero]; rfl) ?_
    intro ue hue
    refine wpList_one_assign (.tmp 51) rfl rfl ?_
    refine ⟨rfl, rfl, ?_⟩
    go_frame
    refine poF_end ?_
    intro we hwe
    go_wp2
    go_ret
    exact ⟨_, rfl, (HO.out.base HF.out.size).keep (hue.trans hwe) (by simp), HCd.out.keep (hue.trans hwe) (by simp) (by simp), HFd.out.trans (hue.trans hwe).weak⟩
  · have hg : (N : Int) - K < n := by omega
    have hsub : (N : Int) - K = ((N - K : Nat) : Int) := by omega
    obtain ⟨m, hm2⟩ : ∃ m, N - K = m := ⟨_, rfl⟩
    rw [hm2] at hsub ⊢
    have g1 : m ≤ N - K := by omega
    clear hm2
    go_enter Try.func17, Try.ntmps17
    go_wp2
    go_quiet (fail)
    revert nq
    intro n1
    go_wp2
    go_quiet (fail)
    go_wp2
    clear hsub hg
    have hset : At ((w.drewN (n1 + nq)).setCell ⟨rb, 1, none⟩ (.int .i64 (K + m))) rb (.cells #[.slice a N cap, .int .i64 (K + m)] 52) := At.set (show At (w.drewN (n1 + nq)) rb _ from HAT.out) 1 _
    have HS := Lib.hid hset
    have HF := Lib.hid (show Fr [rb] w ((w.drewN (n1 + nq)).setCell ⟨rb, 1, none⟩ (.int .i64 (K + m))) from Fr.sc (Fr.dn (Fr.refl [rb] w)) (.inr (by simp)))
    clear hset k0 k1 kf
    generalize (w.drewN (n1 + nq)).setCell ⟨rb, 1, none⟩ (.int .i64 (K + m)) = w2 at HS HF ⊢
    refine wp_region_pf [(.mem, 0), (.val, 1), (.val, 2), (.val, 3), (.val, 4), (.val, 5), (.val, 6), (.val, 7), (.val, 8), (.val, 9), (.val, 10), (.val, 11), (.val, 12), (.val, 13), (.val, 14), (.val, 15), (.tail, 16), (.tail, 17)] (by kernel_rfl) (by kernel_rfl) ?_
    intro wa ha
    have HS := Lib.hid (HS.out.keep0 ha)
    have HF := Lib.hid (HF.out.trans ha.weak)
    have j0 := fun x : Kin wa => (HS.out.keep0 x.fr).cell 0
    have j1 := fun x : Kin wa => (HS.out.keep0 x.fr).cell 1
    simp only [List.getElem?_toArray, List.getElem?_cons_zero, List.getElem?_cons_succ] at j0 j1
    refine poF_new _ (by simp only [List.getElem?_toArray, List.getElem?_cons_succ, List.getElem?_cons_zero]; rfl) rfl (.cells #[] 5) (fun b => .slice (some ⟨b, 0, none⟩) 0 0) (fun _ => by kernel_rfl) ?_
    intro b wb hbs hwb hAt
    go_frame
    have i1 : (0 : Int) ≤ K := by omega
    have i2 : (K : Int) + m - m = K := by omega
    have i3 : (K : Int) ≤ K + m := by omega
    have i4 : (K : Int) + m ≤ cap := by omega
    refine poF_vals 15 _ _ _ (by kernel_rfl) ?_
    simp only [opersOf, List.take_succ_cons, List.take_zero, List.filterMap_cons, List.filterMap_nil, List.getElem?_toArray, List.getElem?_cons_succ, List.getElem?_cons_zero, List.drop_succ_cons, List.drop_zero]
    show wpQuiet _ _ _ _ [_, _, _, _, _, _, _, _, _, _, _, _, _, _, _] _
    iterate 15 go_big_quiet_step (fail)
    refine wpQuiet_nil ?_
    have hbl := hAt.lt
    refine poF_tail _ (by simp only [List.getElem?_toArray, List.getElem?_cons_succ, List.getElem?_cons_zero]; rfl) ?_
    intro uc huc
    have hfa : Fr [] wa uc := hwb.trans huc
    have HAu := Lib.hid (hAt.keep0 huc)
    have hown : OwnB 5 wa.heap.size uc (.slice (some ⟨b, 0, none⟩) 0 0) [] := by
      refine ⟨by simp, .inr ⟨b, 0, #[], rfl, hbs, HAu.out, Nat.le_refl _, by simp [maxLen], rfl, rfl⟩⟩
    have hcut := (((HB.out.keep HF.out (by simp [hA])).keep hfa (by simp)).cut K hK).take m (by omega)
    have hszu := huc.size
    have hcut : Bs A uc (.slice (if cap = K then a else a.map (·.add K)) (K + m - K) (cap - K)) ((xs.drop K).take m) := by rw [Nat.add_sub_cancel_left]; exact hcut
    generalize (if cap = K then a else a.map (·.add K)) = sa at hcut ⊢
    have hlen : ((xs.drop K).take m).length ≤ 65536 := by simp; omega
    refine wpl_append_bs (base := wa.heap.size) (ys := (xs.drop K).take m) Try.underlying22 Try.infoByte rfl (.tmp 35) (.tmp 50) rfl rfl rfl hown hcut (by simp only [List.length_nil]; omega) (by omega) ?_
    intro v' wd ho hg
    refine ⟨rfl, rfl, ?_⟩
    have HO := Lib.hid ho
    have HFd := Lib.hid (show Fr [rb] w wd from OwnB.fr hown (HF.out.trans hfa.weak) hg (HF.out.size))
    have hgf : Fr v'.ownBlock.toList wd wd := Fr.refl _ _
    have HCd := Lib.hid (show Cu A wd rb (.slice a N cap) xs (K + m) from ⟨hA, (by
      have := (HS.out.keep0 hfa).grown hg (show (Value.slice (some ⟨b, 0, none⟩) 0 0).ownBlock ≠ some rb from fun hh => by
        have h5 := HS.out.lt
        have h6 : b = rb := by simpa [Value.ownBlock] using hh
        omega)
      simpa using this), HB.out.keep HFd.out (by simp [hA]), by have := HN.out; omega⟩)
    clear ho hg hown hcut HAu hlen hgf
    go_frame
    refine poF_tail _ (by simp only [List.getElem?_toArray, List.getElem?_cons_succ, List.getElem?_cons_zero]; rfl) ?_
    intro ue hue
    refine wpList_one_assign (.tmp 51) rfl rfl ?_
    refine ⟨rfl, rfl, ?_⟩
    go_frame
    refine poF_end ?_
    intro we hwe
    go_wp2
    go_ret
    exact ⟨_, rfl, (HO.out.base HF.out.size).keep (hue.trans hwe) (by simp), HCd.out.keep (hue.trans hwe) (by simp) (by simp), HFd.out.trans (hue.trans hwe).weak⟩

theorem padTo_get (k : Nat) (xs : List UInt8) (j : Nat) (hj : j < k) : (padTo k xs).getD j 0 = (xs.take k).getD j 0 := by
  unfold padTo
  rw [List.getD_eq_getElem?_getD, List.getD_eq_getElem?_getD, List.getElem?_take, if_pos hj]
  by_cases h : j < (xs.take k).length
  · rw [List.getElem?_append_left h]
  · rw [List.getElem?_append_right (by omega), List.getElem?_eq_none (show (xs.take k).length ≤ j by omega), List.getElem?_replicate]
    split <;> rfl
theorem padTo_over (k : Nat) (xs : List UInt8) (j : Nat) (hj : j < k) (h : xs.length ≤ j) : (padTo k xs).getD j 0 = 0 := by
  rw [padTo_get k xs j hj]
  simp [List.getD_eq_getElem?_getD, List.getElem?_take, hj, List.getElem?_eq_none h]
theorem num8_get (l : List UInt8) (j : Nat) (h : j < l.length) : num8 (l.take (j + 1)) = num8 (l.take j) * 256 + (l.getD j 0).toNat := by
  rw [num8_take_succ l j h]
  simp [List.getD_eq_getElem?_getD, h]

set_option maxRecDepth 100000 in
set_option maxHeartbeats 4000000 in
theorem cnum_any (A : Nat → Prop) (w : World) (rb : Nat) (v : Value) (xs : List UInt8) (K k : Nat) (hc : Cu A w rb v xs K) (hk : 1 ≤ k) (hk' : k ≤ 8) (hx : xs.length ≤ 1000000) :
    Calls Try.prog 16 #[.pointer (some ⟨rb, 0, none⟩), .int .i64 k] w fun e w' => e = .returned (.int .i64 (wrap64 (nb k (xs.drop K)))) ∧ Cu A w' rb v xs (K + most xs K k) ∧ Fr [rb] w w' := by
  have HT := Lib.hid (ctake_any A w rb v xs K k hc (by omega) hx)
  obtain ⟨r, hr⟩ : ∃ r, xs.drop K = r := ⟨_, rfl⟩
  rw [hr] at HT ⊢
  have HPL := Lib.hid (padTo_length k r)
  have HPG := Lib.hid (padTo_get k r)
  have HPO := Lib.hid (padTo_over k r)
  have HNG := Lib.hid (num8_get (padTo k r))
  have hnl : ∀ j, j < k → num8 ((padTo k r).take j) < 72057594037927936 := by
    intro j hj
    have h1 := num8_lt j ((padTo k r).take j) (by simp [padTo_length]; omega)
    have h2 : 256 ^ j ≤ 256 ^ 7 := Nat.pow_le_pow_right (by decide) (by omega)
    have h3 : (256 : Nat) ^ 7 = 72057594037927936 := by decide
    omega
  have HNL := Lib.hid hnl
  have HNB := Lib.hid (show nb k r = num8 (padTo k r) from rfl)
  rw [HNB.out]
  obtain ⟨l, hl⟩ : ∃ l, padTo k r = l := ⟨_, rfl⟩
  rw [hl] at HPL HPG HPO HNG HNL ⊢
  have hlen : (r.take k).length ≤ k ∧ (r.take k).length = min k r.length := by simp; omega
  clear hc hr hnl hl hx
  go_enter Try.func16, Try.ntmps16
  go_wp2_with fail
  refine HT.out.mono ?_; rintro e w1 ⟨u, rfl, ho, hcu, hf⟩
  have HCU := Lib.hid hcu
  have HF := Lib.hid hf
  obtain ⟨n, hn⟩ : ∃ n, (r.take k).length = n := ⟨_, rfl⟩
  have hsh := fun h => OwnB.shape ho (h : 0 < (r.take k).length)
  obtain ⟨a, cap, rfl, h2, h3, -⟩ := ho.bs (A := fun _ => False) (by simp)
  rw [hn] at hsh hlen h2 ⊢
  unfold maxLen at h3
  have HSH := Lib.hid hsh
  have HN := Lib.hid hn
  obtain ⟨hl1, hl2⟩ := hlen
  have HL2 := Lib.hid hl2
  clear ho hcu hf hn hsh hl2
  go_wp2
  go_loop [6, 7] (fun n i => ∃ j : Nat, j ≤ k ∧ i = .int .i64 j ∧ n = .int .u64 (num8 (l.take j))) (fun _ i => k - (intOf i).toNat)
  case atStart => exact ⟨0, by omega, rfl, rfl⟩
  case round =>
    obtain ⟨j, hj, rfl, rfl⟩ := hrel
    by_cases hjk : j < k
    · have hnl := HNL.out j hjk
      have hst := HNG.out j (by rw [HPL.out]; exact hjk)
      by_cases hjn : j < n
      · obtain ⟨g, cap', hs1, -, -, -, hcell⟩ := HSH.out (by omega)
        simp only [Value.slice.injEq] at hs1
        obtain ⟨rfl, -, rfl⟩ := hs1
        have hcj := hcell j hjn
        rw [← HPG.out j hjk] at hcj
        generalize num8 (l.take j) = x at hnl hst ⊢
        have hb := (l.getD j 0).toNat_lt
        generalize (l.getD j 0).toNat = b at hcj hst hb
        have HST := Lib.hid hst
        clear hst hcell
        go_wp2
        go_round
        case rel => exact ⟨j + 1, by omega, by go_num, by rw [HST.out]; go_num⟩
        case measure => simp [intOf]; omega
      · have hz := HPO.out j hjk (by have := HL2.out; omega)
        rw [hz] at hst
        generalize num8 (l.take j) = x at hnl hst ⊢
        have HST := Lib.hid hst
        clear hst hz
        go_wp2
        go_round
        case rel => exact ⟨j + 1, by omega, by go_num, by rw [HST.out]; go_num⟩
        case measure => simp [intOf]; omega
    · obtain rfl : j = k := by omega
      have HTK := Lib.hid (show l.take j = l from List.take_of_length_le (by rw [HPL.out]; exact Nat.le_refl _))
      rw [HTK.out]
      clear HSH
      go_wp2
      go_ret
      exact ⟨rfl, HCU.out, HF.out⟩
end Go.Proofs.Ytbohmnblegljkaa
