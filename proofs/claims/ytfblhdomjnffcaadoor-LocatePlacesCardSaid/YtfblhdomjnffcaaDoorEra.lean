/-
  Layer 4: locate.Erasures of any places.
-/
import Derived.Test.YtfblhdomjnffcaaDoorFnd
import Derived.Test.YtfblhdomjnffcaaDoorRer
import Derived.Test.YtfblhdomjnffcaaDoorErr
import Derived.Lib.OwnBridge
namespace Go.Proofs.YtfblhdomjnffcaaDoor
open Go.RowKit Go.Bl
set_option linter.unusedVariables false
def plOk (n : Int) (l : List Int) : Prop := ∀ p ∈ l, 0 ≤ p ∧ p < n
theorem ers1_any (w : World) (bx : Nat) (n p : Int) (hc : w.cell? ⟨bx, 0, none⟩ = some (.int .i64 n)) : Calls Tryd.prog 51 #[.int .i64 p, .pointer (some ⟨bx, 0, none⟩)] w fun e w' => e = .returned (.bool (decide (¬ (0 ≤ p ∧ p < n)))) ∧ w' = w := by
  go_enter Tryd.func51, Tryd.ntmps51
  by_cases h1 : p < 0
  · go_wp2
    go_ret
    exact ⟨by first | (simp; done) | (simp; omega), rfl⟩
  · by_cases h2 : n ≤ p
    · go_wp2
      go_ret
      exact ⟨by first | (simp; done) | (simp; omega), rfl⟩
    · go_wp2
      go_ret
      exact ⟨by first | (simp; done) | (simp; omega), rfl⟩
set_option maxHeartbeats 400000 in
theorem ifun_any (w : World) (a : Option Addr) (N cap : Nat) (l : List Int) (hv : Is (fun _ => False) w (.slice a N cap) l) (hN : l.length = N) (hl : N ≤ 1000) (bx : Nat) (n : Int) (hc : w.cell? ⟨bx, 0, none⟩ = some (.int .i64 n)) :
    Calls Tryd.prog 87 #[.slice a N cap, .func (.func 51) #[] #[.pointer (some ⟨bx, 0, none⟩)]] w fun e w' => ∃ k : Int, e = .returned (.int .i64 k) ∧ Hid (0 ≤ k ↔ ¬ plOk n l) ∧ Fr [] w w' := by
  have HV := Lib.hid hv
  have HN := Lib.hid hN
  go_enter Tryd.func87, Tryd.ntmps87
  go_wp2
  go_loopw [8] (fun i wr => ∃ k : Nat, k ≤ N ∧ i = .int .i64 k ∧ Hid (∀ j, j < k → ∀ p, l[j]? = some p → 0 ≤ p ∧ p < n) ∧ Hid (Fr [] w wr)) (fun i _ => N - (intOf i).toNat)
  case atStart => exact ⟨0, Nat.zero_le _, rfl, Lib.hid (by intro j hj; omega), Lib.hid (Fr.refl _ _)⟩
  case round =>
    obtain ⟨k, hk, rfl, HI, HF⟩ := hrel
    by_cases hkn : k < N
    · have hki : (k : Int) < N := by omega
      obtain ⟨p, hp⟩ : ∃ p, l[k]? = some p := ⟨_, List.getElem?_eq_getElem (by have := HN.out; omega)⟩
      obtain ⟨b, off, rfl, hcc⟩ := is_cell (HV.out.keep HF.out (by simp)) k p hp
      have hcb := cell_mono HF.out hc
      go_wp2_with (go_at_call 51; fail)
      refine (ers1_any wr bx n p hcb).mono ?_
      rintro e w1 ⟨rfl, rfl⟩
      by_cases hok : 0 ≤ p ∧ p < n
      · rw [decide_eq_false (fun h => h hok)]
        have HOKP := Lib.hid hok
        have HPI := Lib.hid hp
        clear hok hp
        go_wp2
        go_roundw
        case rel => exact ⟨k + 1, by omega, by go_num, Lib.hid (fun j hj q hq => by
          rcases Nat.lt_or_ge j k with h | h
          · exact HI.out j h q hq
          · obtain rfl : j = k := by omega
            rw [HPI.out] at hq
            cases hq
            exact HOKP.out), HF⟩
        case measure => simp [intOf]; omega
      · rw [decide_eq_true hok]
        have HK := Lib.hid (show (0 : Int) ≤ (k : Int) ↔ ¬ plOk n l from ⟨fun _ h => hok (h p (List.mem_of_getElem? hp)), fun _ => by omega⟩)
        clear hok hp
        go_wp2
        go_ret
        exact ⟨_, rfl, HK, HF.out⟩
    · have hki : ¬ (k : Int) < N := by omega
      have HALL := Lib.hid (show plOk n l from era_ok (n := n) (l := l) (fun j hj => HI.out j (by have := HN.out; omega)))
      go_wp2
      go_ret
      exact ⟨_, rfl, Lib.hid ⟨fun h => by simp at h, fun h => absurd HALL.out h⟩, HF.out⟩
set_option maxHeartbeats 400000 in
theorem cfun_any (w : World) (v : Value) (l : List Int) (hv : Is (fun _ => False) w v l) (hl : l.length ≤ 1000) (bx : Nat) (n : Int) (hc : w.cell? ⟨bx, 0, none⟩ = some (.int .i64 n)) :
    Calls Tryd.prog 53 #[v, .func (.func 51) #[] #[.pointer (some ⟨bx, 0, none⟩)]] w fun e w' => e = .returned (.bool (decide (¬ ∀ p ∈ l, 0 ≤ p ∧ p < n))) ∧ Fr [] w w' := by
  have HV := Lib.hid hv
  obtain ⟨a, cap, rfl, -, -, -⟩ := hv.shape
  have HI := Lib.hid (ifun_any w a l.length cap l HV.out rfl hl bx n hc)
  obtain ⟨N, hN⟩ : ∃ N, l.length = N := ⟨_, rfl⟩
  rw [hN] at HI ⊢
  clear hN hl
  go_enter Tryd.func53, Tryd.ntmps53
  go_wp2_with fail
  refine HI.out.mono ?_
  rintro e w1 ⟨k, rfl, hk, hf⟩
  have HF := Lib.hid hf
  have HK := hk
  clear hf hk
  go_wp2
  go_ret
  exact ⟨by rw [show decide (¬ ∀ p ∈ l, 0 ≤ p ∧ p < n) = decide (0 ≤ k) from decide_eq_decide.2 HK.out.symm]; rfl, HF.out⟩

theorem compact_lt {zs : List Int} {j : Nat} (hj : j < zs.length) (h : Lib.keeps zs.toArray j = false) : (Lib.compact zs).length < zs.length := by
  unfold Lib.compact Lib.compactUpTo
  rw [List.length_map]
  have h1 : ∀ (q : Nat → Bool) (m : Nat), j < m → q j = false → ((List.range m).filter q).length < m := by
    intro q m
    induction m with
    | zero => intro h; omega
    | succ m ih =>
      intro hm hq
      rw [List.range_succ, List.filter_append, List.length_append]
      rcases Nat.lt_or_ge j m with h | h
      · have := ih h hq
        have h2 : ([m].filter q).length ≤ 1 := by simpa using List.length_filter_le q [m]
        omega
      · obtain rfl : j = m := by omega
        have h2 : ([j].filter q) = [] := by simp [hq]
        have h3 := List.length_filter_le q (List.range j)
        rw [List.length_range] at h3
        rw [h2]
        simp
        omega
  exact h1 _ _ hj h
theorem compact_sorted {zs : List Int} (hs : zs.Pairwise (· ≤ ·)) : (Lib.compact zs).length < zs.length ↔ ¬ zs.Nodup := by
  have hg : ∀ {j : Nat} (h : j < zs.length), zs.toArray[j]! = zs[j] := fun {j} h => by
    rw [getElem!_pos zs.toArray j (by simpa using h)]; simp
  constructor
  · intro h hd
    rw [Lib.compact_all zs] at h
    · omega
    · intro j hj
      rcases Nat.eq_zero_or_pos j with h0 | h0
      · subst h0
        exact Lib.keeps_lt_one _ 0 (by omega)
      · refine Lib.keeps_pos ?_
        rw [hg hj, hg (show j - 1 < zs.length by omega)]
        exact fun e => (List.pairwise_iff_getElem.1 hd (j - 1) j (by omega) hj (by omega)) e.symm
  · intro hd
    by_cases hk : ∃ j, j < zs.length ∧ Lib.keeps zs.toArray j = false
    · obtain ⟨j, hj, h⟩ := hk
      exact compact_lt hj h
    · exfalso
      apply hd
      refine List.pairwise_iff_getElem.2 fun i j hi hj hij e => ?_
      have h1 := List.pairwise_iff_getElem.1 hs
      have h2 : Lib.keeps zs.toArray (i + 1) = true := by
        cases h : Lib.keeps zs.toArray (i + 1) with
        | true => rfl
        | false => exact absurd ⟨i + 1, by omega, h⟩ hk
      have h3 : zs[i + 1]'(by omega) ≠ zs[i] := by
        intro e2
        rw [Lib.keeps_neg (by omega) (by rw [hg (show i + 1 < zs.length by omega), show i + 1 - 1 = i by omega, hg hi]; exact e2)] at h2
        cases h2
      have h4 := h1 i (i + 1) hi (by omega) (by omega)
      have h5 : zs[i + 1]'(by omega) ≤ zs[j] := by
        rcases Nat.lt_or_ge (i + 1) j with h | h
        · exact h1 (i + 1) j (by omega) hj h
        · have : i + 1 = j := by omega
          subst this
          exact Int.le_refl _
      omega
theorem twice_sorted (l : List Int) : (Lib.compact (l.mergeSort fun x y => decide (x ≤ y))).length < l.length ↔ ¬ l.Nodup := by
  have hp := List.mergeSort_perm l (fun x y => decide (x ≤ y))
  have hs : (l.mergeSort fun x y => decide (x ≤ y)).Pairwise (· ≤ ·) := (List.pairwise_mergeSort (le := fun x y : Int => decide (x ≤ y)) (by intro a b c h1 h2; simp at *; omega) (by intro a b; simp; omega) l).imp (by intro a b h; simpa using h)
  rw [← hp.nodup_iff, ← hp.length_eq]
  exact compact_sorted hs
open Go.Sort Go.Lib in
set_option maxHeartbeats 1000000 in
theorem twice_any (w : World) (v : Value) (l : List Int) (hv : Is (fun _ => False) w v l) (hl : l.length ≤ 1000) :
    Calls Tryd.prog 54 #[v] w fun e w' => e = .returned (.bool (decide (¬ l.Nodup))) ∧ Fr [] w w' := by
  obtain ⟨a, cap, rfl, h2, h3, hc⟩ := hv.shape
  unfold maxLen at h3
  rcases Nat.eq_zero_or_pos l.length with h0 | h0
  · obtain rfl := List.eq_nil_of_length_eq_zero h0
    rw [decide_eq_false (by simp)]
    cases a with
    | none =>
      go_enter Tryd.func54, Tryd.ntmps54
      go_wp2_with fail
      refine (Tryd.slices_Clone_int_nil _ _ w).mono ?_
      rintro e w1 ⟨rfl, rfl⟩
      go_wp2_with fail
      refine (Tryd.slices_Sort_int_none none 0 w1).mono ?_
      rintro e w2 ⟨rfl, rfl⟩
      go_wp2_with fail
      refine (Tryd.slices_Compact_int_empty none 0 w2).mono ?_
      rintro e w3 ⟨rfl, rfl⟩
      go_wp2
      go_ret
      exact ⟨rfl, Fr.refl _ _⟩
    | some ad =>
      go_enter Tryd.func54, Tryd.ntmps54
      go_wp2_with fail
      refine (Tryd.slices_Clone_int_zero ad _ w).mono ?_
      rintro e w1 ⟨v', rfl, ho, -, hb⟩
      obtain ⟨a', cap', rfl, -, -, -⟩ := (show OwnI 3 w.heap.size w1 v' [] from ho).is (A := fun _ => False) (by simp) |>.shape
      have HF := Lib.hid (Fr.of_below hb)
      clear ho hb
      go_wp2_with fail
      refine (Tryd.slices_Sort_int_none _ _ w1).mono ?_
      rintro e w2 ⟨rfl, rfl⟩
      go_wp2_with fail
      refine (Tryd.slices_Compact_int_empty _ _ w2).mono ?_
      rintro e w3 ⟨rfl, rfl⟩
      go_wp2
      go_ret
      exact ⟨rfl, HF.out⟩
  · obtain ⟨b, off, rfl, -, hcc⟩ := hc h0
    have HCL := Lib.hid (Tryd.slices_Clone_int b off l.length cap l w (Nat.le_refl _) (by omega) (fun j hj => hcc j hj))
    rw [List.take_length] at HCL
    have HTW := Lib.hid (twice_sorted l)
    obtain ⟨N, hN⟩ : ∃ N, l.length = N := ⟨_, rfl⟩
    have HN := Lib.hid hN
    rw [hN] at HCL HTW h2 h0 ⊢
    clear hN hcc hc hv
    go_enter Tryd.func54, Tryd.ntmps54
    go_wp2_with fail
    refine HCL.out.mono ?_
    rintro e w1 ⟨v', rfl, ho, hne, hb⟩
    obtain ⟨g, cap', rfl, hg0, hg1, hn', hm', -, hH⟩ := holds_of_ownsRow ho hne
    unfold maxLen at hm'
    have HSO := Lib.hid (Tryd.slices_Sort_int g 0 cap' l w1 hH hg1 (by have := HN.out; omega))
    rw [HN.out] at HSO
    have HB := Lib.hid hb
    have HH := Lib.hid hH
    have HG0 := Lib.hid hg0
    have HG1 := Lib.hid hg1
    clear ho hne hb hH hg0 hg1 HCL
    go_wp2_with fail
    refine HSO.out.mono ?_
    rintro e w2 ⟨rfl, q, os, hw2⟩
    obtain ⟨zs, hzs⟩ : ∃ zs, (l.mergeSort fun x y => decide (x ≤ y)) = zs := ⟨_, rfl⟩
    have hzl : zs.length = N := by rw [← hzs, List.length_mergeSort]; exact HN.out
    rw [hzs] at hw2 HTW
    have hg1 : g < w1.heap.size := HG1.out
    have hp1 : Below w.heap.size w (putRow (Value.int .i64) (Sort.ahead w1 q) g 0 zs.toArray) := below_putRow HB.out HG0.out
    have hsz : (putRow (Value.int .i64) (Sort.ahead w1 q) g 0 zs.toArray).heap.size = w1.heap.size := by simp [putRow, mapBlock, Sort.ahead]
    have HH2 := Lib.hid (show Holds (Value.int .i64) w2 g 0 zs.toArray by
      rw [hw2]
      refine holds_grow _ _ _ _ _ _ (by rw [hsz]; exact hg1) (holds_putRow _ _ _ _ l.toArray _ ?_ (by simp; rw [hzl, HN.out]))
      exact HH.out)
    have HB2 := Lib.hid (show Below w.heap.size w w2 by
      rw [hw2]
      exact ⟨hp1.os, hp1.tape, hp1.output, by have := hp1.size; show _ ≤ ((putRow (Value.int .i64) (Sort.ahead w1 q) g 0 zs.toArray).heap ++ os).size; rw [Array.size_append]; omega, fun k hk => by
        rw [← hp1.block k hk]
        exact heap_grow_old _ os (by have := hp1.size; omega)⟩)
    have HCO := Lib.hid (Tryd.slices_Compact_int g 0 cap' zs w2 HH2.out (by rw [hzl]; omega) (by rw [hzl]; omega))
    rw [hzl] at HCO
    clear hzs hw2 hg1 hp1 hsz HSO HH HB HG1
    go_wp2_with fail
    refine HCO.out.mono ?_
    rintro e w3 ⟨rfl, q3, hw3⟩
    have HB3 := Lib.hid (show Below w.heap.size w w3 by rw [hw3]; exact below_putRow HB2.out HG0.out)
    obtain ⟨M, hM⟩ : ∃ M, (Lib.compact zs).length = M := ⟨_, rfl⟩
    rw [hM] at HTW ⊢
    clear hM hw3 HCO hzl HH2
    go_wp2
    go_ret
    exact ⟨by rw [show decide (¬ l.Nodup) = decide (M < N) from decide_eq_decide.2 HTW.out.symm]; simp, Fr.of_below HB3.out⟩
end Go.Proofs.YtfblhdomjnffcaaDoor
