/-
  Layer 4: locate.Erasures of any places.
  Layer 4: locate.Erasures of any places: the locator, or the error.
-/
import Derived.Test.YtmohiblgfmdkjaaDoorJQ
import Derived.Test.YtmohiblgfmdkjaaDoorRer
import Derived.Test.YtmohiblgfmdkjaaDoorJP
import Derived.Lib.OwnBridge
import Derived.BigQuiet
namespace Go.Proofs.YtmohiblgfmdkjaaDoor
open Go.RowKit Go.Bl
set_option linter.unusedVariables false
def plOk (n : Int) (l : List Int) : Prop := ∀ p ∈ l, 0 ≤ p ∧ p < n
theorem ers1_any (w : World) (bx : Nat) (n p : Int) (hc : w.cell? ⟨bx, 0, none⟩ = some (.int .i64 n)) : Calls Tryd.prog 101 #[.int .i64 p, .pointer (some ⟨bx, 0, none⟩)] w fun e w' => e = .returned (.bool (decide (¬ (0 ≤ p ∧ p < n)))) ∧ w' = w := by
  go_enter Tryd.func101, Tryd.ntmps101
  by_cases h1 : p < 0
  · go_wp2
    go_ret
    exact ⟨by first | (simp; done) | (simp; omega), rfl⟩
  · by_cases h2 : n ≤ p
    · go_wp2
      go_ret
      exact ⟨by first | (simp; done) | (simp; omega), rfl⟩
    · go_wp2
      go_ret
      exact ⟨by first | (simp; done) | (simp; omega), rfl⟩
set_option maxHeartbeats 400000 in
theorem ifun_any (w : World) (a : Option Addr) (N cap : Nat) (l : List Int) (hv : Is (fun _ => False) w (.slice a N cap) l) (hN : l.length = N) (hl : N ≤ 1000) (bx : Nat) (n : Int) (hc : w.cell? ⟨bx, 0, none⟩ = some (.int .i64 n)) :
    Calls Tryd.prog 126 #[.slice a N cap, .func (.func 101) #[] #[.pointer (some ⟨bx, 0, none⟩)]] w fun e w' => ∃ k : Int, e = .returned (.int .i64 k) ∧ Hid (0 ≤ k ↔ ¬ plOk n l) ∧ Fr [] w w' := by
  have HV := Lib.hid hv
  have HN := Lib.hid hN
  go_enter Tryd.func126, Tryd.ntmps126
  go_wp2
  go_loopw [8] (fun i wr => ∃ k : Nat, k ≤ N ∧ i = .int .i64 k ∧ Hid (∀ j, j < k → ∀ p, l[j]? = some p → 0 ≤ p ∧ p < n) ∧ Hid (Fr [] w wr)) (fun i _ => N - (intOf i).toNat)
  case atStart => exact ⟨0, Nat.zero_le _, rfl, Lib.hid (by intro j hj; omega), Lib.hid (Fr.refl _ _)⟩
  case round =>
    obtain ⟨k, hk, rfl, HI, HF⟩ := hrel
    by_cases hkn : k < N
    · have hki : (k : Int) < N := by omega
      obtain ⟨p, hp⟩ : ∃ p, l[k]? = some p := ⟨_, List.getElem?_eq_getElem (by have := HN.out; omega)⟩
      obtain ⟨b, off, rfl, hcc⟩ := is_cell (HV.out.keep HF.out (by simp)) k p hp
      have hcb := cell_mono HF.out hc
      go_wp2_with (go_at_call 101; fail)
      refine (ers1_any wr bx n p hcb).mono ?_
      rintro e w1 ⟨rfl, rfl⟩
      by_cases hok : 0 ≤ p ∧ p < n
      · rw [decide_eq_false (fun h => h hok)]
        have HOKP := Lib.hid hok
        have HPI := Lib.hid hp
        clear hok hp
        go_wp2
        go_roundw
        case rel => exact ⟨k + 1, by omega, by go_num, Lib.hid (fun j hj q hq => by
          rcases Nat.lt_or_ge j k with h | h
          · exact HI.out j h q hq
          · obtain rfl : j = k := by omega
            rw [HPI.out] at hq
            cases hq
            exact HOKP.out), HF⟩
        case measure => simp [intOf]; omega
      · rw [decide_eq_true hok]
        have HK := Lib.hid (show (0 : Int) ≤ (k : Int) ↔ ¬ plOk n l from ⟨fun _ h => hok (h p (List.mem_of_getElem? hp)), fun _ => by omega⟩)
        clear hok hp
        go_wp2
        go_ret
        exact ⟨_, rfl, HK, HF.out⟩
    · have hki : ¬ (k : Int) < N := by omega
      have HALL := Lib.hid (show plOk n l from era_ok (n := n) (l := l) (fun j hj => HI.out j (by have := HN.out; omega)))
      go_wp2
      go_ret
      exact ⟨_, rfl, Lib.hid ⟨fun h => by simp at h, fun h => absurd HALL.out h⟩, HF.out⟩
set_option maxHeartbeats 400000 in
theorem cfun_any (w : World) (v : Value) (l : List Int) (hv : Is (fun _ => False) w v l) (hl : l.length ≤ 1000) (bx : Nat) (n : Int) (hc : w.cell? ⟨bx, 0, none⟩ = some (.int .i64 n)) :
    Calls Tryd.prog 103 #[v, .func (.func 101) #[] #[.pointer (some ⟨bx, 0, none⟩)]] w fun e w' => e = .returned (.bool (decide (¬ ∀ p ∈ l, 0 ≤ p ∧ p < n))) ∧ Fr [] w w' := by
  have HV := Lib.hid hv
  obtain ⟨a, cap, rfl, -, -, -⟩ := hv.shape
  have HI := Lib.hid (ifun_any w a l.length cap l HV.out rfl hl bx n hc)
  obtain ⟨N, hN⟩ : ∃ N, l.length = N := ⟨_, rfl⟩
  rw [hN] at HI ⊢
  clear hN hl
  go_enter Tryd.func103, Tryd.ntmps103
  go_wp2_with fail
  refine HI.out.mono ?_
  rintro e w1 ⟨k, rfl, hk, hf⟩
  have HF := Lib.hid hf
  have HK := hk
  clear hf hk
  go_wp2
  go_ret
  exact ⟨by rw [show decide (¬ ∀ p ∈ l, 0 ≤ p ∧ p < n) = decide (0 ≤ k) from decide_eq_decide.2 HK.out.symm]; rfl, HF.out⟩

theorem compact_lt {zs : List Int} {j : Nat} (hj : j < zs.length) (h : Lib.keeps zs.toArray j = false) : (Lib.compact zs).length < zs.length := by
  unfold Lib.compact Lib.compactUpTo
  rw [List.length_map]
  have h1 : ∀ (q : Nat → Bool) (m : Nat), j < m → q j = false → ((List.range m).filter q).length < m := by
    intro q m
    induction m with
    | zero => intro h; omega
    | succ m ih =>
      intro hm hq
      rw [List.range_succ, List.filter_append, List.length_append]
      rcases Nat.lt_or_ge j m with h | h
      · have := ih h hq
        have h2 : ([m].filter q).length ≤ 1 := by simpa using List.length_filter_le q [m]
        omega
      · obtain rfl : j = m := by omega
        have h2 : ([j].filter q) = [] := by simp [hq]
        have h3 := List.length_filter_le q (List.range j)
        rw [List.length_range] at h3
        rw [h2]
        simp
        omega
  exact h1 _ _ hj h
theorem compact_sorted {zs : List Int} (hs : zs.Pairwise (· ≤ ·)) : (Lib.compact zs).length < zs.length ↔ ¬ zs.Nodup := by
  have hg : ∀ {j : Nat} (h : j < zs.length), zs.toArray[j]! = zs[j] := fun {j} h => by
    rw [getElem!_pos zs.toArray j (by simpa using h)]; simp
  constructor
  · intro h hd
    rw [Lib.compact_all zs] at h
    · omega
    · intro j hj
      rcases Nat.eq_zero_or_pos j with h0 | h0
      · subst h0
        exact Lib.keeps_lt_one _ 0 (by omega)
      · refine Lib.keeps_pos ?_
        rw [hg hj, hg (show j - 1 < zs.length by omega)]
        exact fun e => (List.pairwise_iff_getElem.1 hd (j - 1) j (by omega) hj (by omega)) e.symm
  · intro hd
    by_cases hk : ∃ j, j < zs.length ∧ Lib.keeps zs.toArray j = false
    · obtain ⟨j, hj, h⟩ := hk
      exact compact_lt hj h
    · exfalso
      apply hd
      refine List.pairwise_iff_getElem.2 fun i j hi hj hij e => ?_
      have h1 := List.pairwise_iff_getElem.1 hs
      have h2 : Lib.keeps zs.toArray (i + 1) = true := by
        cases h : Lib.keeps zs.toArray (i + 1) with
        | true => rfl
        | false => exact absurd ⟨i + 1, by omega, h⟩ hk
      have h3 : zs[i + 1]'(by omega) ≠ zs[i] := by
        intro e2
        rw [Lib.keeps_neg (by omega) (by rw [hg (show i + 1 < zs.length by omega), show i + 1 - 1 = i by omega, hg hi]; exact e2)] at h2
        cases h2
      have h4 := h1 i (i + 1) hi (by omega) (by omega)
      have h5 : zs[i + 1]'(by omega) ≤ zs[j] := by
        rcases Nat.lt_or_ge (i + 1) j with h | h
        · exact h1 (i + 1) j (by omega) hj h
        · have : i + 1 = j := by omega
          subst this
          exact Int.le_refl _
      omega
theorem twice_sorted (l : List Int) : (Lib.compact (l.mergeSort fun x y => decide (x ≤ y))).length < l.length ↔ ¬ l.Nodup := by
  have hp := List.mergeSort_perm l (fun x y => decide (x ≤ y))
  have hs : (l.mergeSort fun x y => decide (x ≤ y)).Pairwise (· ≤ ·) := (List.pairwise_mergeSort (le := fun x y : Int => decide (x ≤ y)) (by intro a b c h1 h2; simp at *; omega) (by intro a b; simp; omega) l).imp (by intro a b h; simpa using h)
  rw [← hp.nodup_iff, ← hp.length_eq]
  exact compact_sorted hs
open Go.Sort Go.Lib in
set_option maxHeartbeats 1000000 in
theorem twice_any (w : World) (v : Value) (l : List Int) (hv : Is (fun _ => False) w v l) (hl : l.length ≤ 1000) :
    Calls Tryd.prog 104 #[v] w fun e w' => e = .returned (.bool (decide (¬ l.Nodup))) ∧ Fr [] w w' := by
  obtain ⟨a, cap, rfl, h2, h3, hc⟩ := hv.shape
  unfold maxLen at h3
  rcases Nat.eq_zero_or_pos l.length with h0 | h0
  · obtain rfl := List.eq_nil_of_length_eq_zero h0
    rw [decide_eq_false (by simp)]
    cases a with
    | none =>
      go_enter Tryd.func104, Tryd.ntmps104
      go_wp2_with fail
      refine (Tryd.slices_Clone_int_nil _ _ w).mono ?_
      rintro e w1 ⟨rfl, rfl⟩
      go_wp2_with fail
      refine (Tryd.slices_Sort_int_none none 0 w1).mono ?_
      rintro e w2 ⟨rfl, rfl⟩
      go_wp2_with fail
      refine (Tryd.slices_Compact_int_empty none 0 w2).mono ?_
      rintro e w3 ⟨rfl, rfl⟩
      go_wp2
      go_ret
      exact ⟨rfl, Fr.refl _ _⟩
    | some ad =>
      go_enter Tryd.func104, Tryd.ntmps104
      go_wp2_with fail
      refine (Tryd.slices_Clone_int_zero ad _ w).mono ?_
      rintro e w1 ⟨v', rfl, ho, -, hb⟩
      obtain ⟨a', cap', rfl, -, -, -⟩ := (show OwnI 3 w.heap.size w1 v' [] from ho).is (A := fun _ => False) (by simp) |>.shape
      have HF := Lib.hid (Fr.of_below hb)
      clear ho hb
      go_wp2_with fail
      refine (Tryd.slices_Sort_int_none _ _ w1).mono ?_
      rintro e w2 ⟨rfl, rfl⟩
      go_wp2_with fail
      refine (Tryd.slices_Compact_int_empty _ _ w2).mono ?_
      rintro e w3 ⟨rfl, rfl⟩
      go_wp2
      go_ret
      exact ⟨rfl, HF.out⟩
  · obtain ⟨b, off, rfl, -, hcc⟩ := hc h0
    have HCL := Lib.hid (Tryd.slices_Clone_int b off l.length cap l w (Nat.le_refl _) (by omega) (fun j hj => hcc j hj))
    rw [List.take_length] at HCL
    have HTW := Lib.hid (twice_sorted l)
    obtain ⟨N, hN⟩ : ∃ N, l.length = N := ⟨_, rfl⟩
    have HN := Lib.hid hN
    rw [hN] at HCL HTW h2 h0 ⊢
    clear hN hcc hc hv
    go_enter Tryd.func104, Tryd.ntmps104
    go_wp2_with fail
    refine HCL.out.mono ?_
    rintro e w1 ⟨v', rfl, ho, hne, hb⟩
    obtain ⟨g, cap', rfl, hg0, hg1, hn', hm', -, hH⟩ := holds_of_ownsRow ho hne
    unfold maxLen at hm'
    have HSO := Lib.hid (Tryd.slices_Sort_int g 0 cap' l w1 hH hg1 (by have := HN.out; omega))
    rw [HN.out] at HSO
    have HB := Lib.hid hb
    have HH := Lib.hid hH
    have HG0 := Lib.hid hg0
    have HG1 := Lib.hid hg1
    clear ho hne hb hH hg0 hg1 HCL
    go_wp2_with fail
    refine HSO.out.mono ?_
    rintro e w2 ⟨rfl, q, os, hw2⟩
    obtain ⟨zs, hzs⟩ : ∃ zs, (l.mergeSort fun x y => decide (x ≤ y)) = zs := ⟨_, rfl⟩
    have hzl : zs.length = N := by rw [← hzs, List.length_mergeSort]; exact HN.out
    rw [hzs] at hw2 HTW
    have hg1 : g < w1.heap.size := HG1.out
    have hp1 : Below w.heap.size w (putRow (Value.int .i64) (Sort.ahead w1 q) g 0 zs.toArray) := below_putRow HB.out HG0.out
    have hsz : (putRow (Value.int .i64) (Sort.ahead w1 q) g 0 zs.toArray).heap.size = w1.heap.size := by simp [putRow, mapBlock, Sort.ahead]
    have HH2 := Lib.hid (show Holds (Value.int .i64) w2 g 0 zs.toArray by
      rw [hw2]
      refine holds_grow _ _ _ _ _ _ (by rw [hsz]; exact hg1) (holds_putRow _ _ _ _ l.toArray _ ?_ (by simp; rw [hzl, HN.out]))
      exact HH.out)
    have HB2 := Lib.hid (show Below w.heap.size w w2 by
      rw [hw2]
      exact ⟨hp1.os, hp1.tape, hp1.output, by have := hp1.size; show _ ≤ ((putRow (Value.int .i64) (Sort.ahead w1 q) g 0 zs.toArray).heap ++ os).size; rw [Array.size_append]; omega, fun k hk => by
        rw [← hp1.block k hk]
        exact heap_grow_old _ os (by have := hp1.size; omega)⟩)
    have HCO := Lib.hid (Tryd.slices_Compact_int g 0 cap' zs w2 HH2.out (by rw [hzl]; omega) (by rw [hzl]; omega))
    rw [hzl] at HCO
    clear hzs hw2 hg1 hp1 hsz HSO HH HB HG1
    go_wp2_with fail
    refine HCO.out.mono ?_
    rintro e w3 ⟨rfl, q3, hw3⟩
    have HB3 := Lib.hid (show Below w.heap.size w w3 by rw [hw3]; exact below_putRow HB2.out HG0.out)
    obtain ⟨M, hM⟩ : ∃ M, (Lib.compact zs).length = M := ⟨_, rfl⟩
    rw [hM] at HTW ⊢
    clear hM hw3 HCO hzl HH2
    go_wp2
    go_ret
    exact ⟨by rw [show decide (¬ l.Nodup) = decide (M < N) from decide_eq_decide.2 HTW.out.symm]; simp, Fr.of_below HB3.out⟩
end Go.Proofs.YtmohiblgfmdkjaaDoor
namespace Go.Proofs.YtmohiblgfmdkjaaDoor
open Go.RowKit Go.Bl
set_option linter.unusedVariables false
theorem cpower_i (w : World) (n p : Int) (h1 : 33 ≤ n) (h2 : n ≤ 255) (h0 : 0 ≤ p) (hp : p < n) : Calls Tryd.prog 105 #[.int .i64 n, .int .i64 p] w fun e w' => e = .returned (.int .u8 ((plX n.toNat p.toNat).toNat : Int)) ∧ Fr [] w w' := by
  have h := cpower_any w n.toNat p.toNat (by omega) (by omega) (by omega)
  rwa [Int.toNat_of_nonneg (by omega), Int.toNat_of_nonneg h0] at h
set_option maxRecDepth 100000 in
set_option maxHeartbeats 4000000 in
theorem lera_any (L : List Nat) (E : Nat → Addr) (B : Nat) (w : World) (v : Value) (n : Int) (l : List Int) (hE : Errs L E B w) (m1 : 1 ∈ L) (m8 : 8 ∈ L) (m10 : 10 ∈ L) (m16 : 16 ∈ L) (hv : Is (fun _ => False) w v l) (hl : l.length ≤ 1000) :
    Calls Tryd.prog 83 #[.int .i64 n, v] w fun e w' => ∃ (u : Value) (k : Nat), e = .returned (.tuple #[u, errv E k]) ∧ k = eraBad n l ∧ OwnB 5 w.heap.size w' u (if k = 0 then pinvs (eraV n l) else []) ∧ Fr [] w w' := by
  have hf0 : Fr [] w (w.alloc (.cells #[.int .i64 n] 3)) := Fr.alloc _ _
  have HF0 := Lib.hid hf0
  have HV0 := Lib.hid (hv.keep hf0 (by simp))
  have HA0 := Lib.hid (show At (w.alloc (.cells #[.int .i64 n] 3)) w.heap.size (.cells #[.int .i64 n] 3) from At.new rfl)
  have HX0 := Lib.hid (hE.keep0 hf0)
  have x1 : errv E 1 = .iface 261 (.pointer (some (E 1))) := errv_pos E 1 (by decide)
  have x8 : errv E 8 = .iface 261 (.pointer (some (E 8))) := errv_pos E 8 (by decide)
  have x10 : errv E 10 = .iface 261 (.pointer (some (E 10))) := errv_pos E 10 (by decide)
  have x16 : errv E 16 = .iface 261 (.pointer (some (E 16))) := errv_pos E 16 (by decide)
  have X1 := Lib.hid x1
  have X8 := Lib.hid x8
  have X10 := Lib.hid x10
  have X16 := Lib.hid x16
  have HM := Lib.hid (And.intro m1 (And.intro m8 (And.intro m10 m16)))
  obtain ⟨a, cap, rfl, h2, h3, -⟩ := hv.shape
  unfold maxLen at h3
  have HSZ := Lib.hid (lsized_any (w.alloc (.cells #[.int .i64 n] 3)) n)
  have HCF := Lib.hid (fun w' (hf : Fr [] (w.alloc (.cells #[.int .i64 n] 3)) w') => cfun_any w' (.slice a l.length cap) l (HV0.out.keep hf (by simp)) (by omega) w.heap.size n (((HA0.out.keep0 hf).cell 0).trans rfl))
  have HTW := Lib.hid (fun w' (hf : Fr [] (w.alloc (.cells #[.int .i64 n] 3)) w') => twice_any w' (.slice a l.length cap) l (HV0.out.keep hf (by simp)) (by omega))
  have HNIL := Lib.hid (fun w' => OwnB.nil 5 w.heap.size w')
  obtain ⟨N, hN⟩ : ∃ N, l.length = N := ⟨_, rfl⟩
  have HN := Lib.hid hN
  have HE8 := Lib.hid (@era_8 n l)
  have HE1 := Lib.hid (show 33 ≤ n ∧ n ≤ 255 → ¬ plOk n l → eraBad n l = 1 from fun h1 h2 => by unfold eraBad; rw [if_pos h1]; exact if_neg h2)
  have HE10 := Lib.hid (@era_10 n l)
  have HE16 := Lib.hid (@era_16 n l)
  have HE0 := Lib.hid (@era_0 n l)
  rw [hN] at HV0 h2 hl HE16 HE0 HCF HTW ⊢
  obtain ⟨K, hK⟩ : ∃ K, eraBad n l = K := ⟨_, rfl⟩
  rw [hK] at HE8 HE1 HE10 HE16 HE0 ⊢
  clear hN hv hf0 hE m1 m8 m10 m16 x1 x8 x10 x16 hK
  by_cases hsz : 33 ≤ n ∧ n ≤ 255
  · rw [decide_eq_true hsz] at HSZ
    have HS := Lib.hid hsz
    obtain ⟨hn1, hn2⟩ := hsz
    by_cases hok : plOk n l
    · have HOK := Lib.hid hok
      rw [show decide (¬ ∀ p ∈ l, 0 ≤ p ∧ p < n) = false from decide_eq_false (fun h => h hok)] at HCF
      by_cases hnd : l.Nodup
      · have HND := Lib.hid hnd
        rw [show decide (¬ l.Nodup) = false from decide_eq_false (fun h => h hnd)] at HTW
        by_cases hl32 : N ≤ 32
        · have hli : ¬ (32 : Int) < N := by omega
          have HK := Lib.hid (HE0.out HS.out HOK.out HND.out hl32)
          clear hok hnd
          go_enter Tryd.func83, Tryd.ntmps83
          go_wp2_with (go_at_call 102; fail)
          refine HSZ.out.mono ?_
          rintro e w1 ⟨rfl, rfl⟩
          go_wp2_with (go_at_call 103; fail)
          refine (HCF.out _ (Fr.refl _ _)).mono ?_
          rintro e w2 ⟨rfl, hf2⟩
          have HF2 := Lib.hid hf2
          clear hf2
          go_wp2_with (go_at_call 104; fail)
          refine (HTW.out w2 HF2.out).mono ?_
          rintro e w3 ⟨rfl, hf3⟩
          have HF3 := Lib.hid (HF2.out.trans hf3)
          clear hf3
          go_wp2
          go_loopw [7, 32] (fun o x wz => ∃ i : Nat, i ≤ N ∧ x = .int .i64 i ∧ Hid (OwnB 5 (w.heap.size + 1) wz o (eraV n (l.take i))) ∧ Hid (Fr [] (w.alloc (.cells #[.int .i64 n] 3)) wz)) (fun _ x _ => N - (intOf x).toNat)
          case atStart => exact ⟨0, Nat.zero_le _, rfl, Lib.hid (OwnB.nil _ _ _), HF3⟩
          case round =>
            obtain ⟨i, hi, rfl, HO, HF⟩ := hrel
            obtain ⟨wl, rfl⟩ : ∃ wl, wl = wr := ⟨wr, rfl⟩
            by_cases hin : i < N
            · have hini : (i : Int) < N := by omega
              obtain ⟨p, hp⟩ : ∃ p, l[i]? = some p := ⟨_, List.getElem?_eq_getElem (by have := HN.out; omega)⟩
              obtain ⟨b, off, rfl, hc⟩ := is_cell (HV0.out.keep HF.out (by simp)) i p hp
              have hcb := ((HA0.out.keep0 HF.out).cell 0)
              simp only [List.getElem?_toArray, List.getElem?_cons_zero] at hcb
              have hpp := HOK.out p (List.mem_of_getElem? hp)
              have HPW := Lib.hid (fun w => cpower_i w n p HS.out.1 HS.out.2 hpp.1 hpp.2)
              have HTK := Lib.hid (eraV_take n l i p hp)
              have HLN := Lib.hid (show (eraV n (l.take i)).length ≤ 100 by unfold eraV; rw [List.length_map, List.length_take]; omega)
              obtain ⟨c, hc2⟩ : ∃ c, plX n.toNat p.toNat = c := ⟨_, rfl⟩
              rw [hc2] at HPW HTK
              clear hp hpp hc2
              go_wp2_with (go_at_call 105; fail)
              refine (HPW.out wl).mono ?_
              rintro e w4 ⟨rfl, hf4⟩
              have HF4 := Lib.hid (HF.out.trans hf4)
              have HO4 := Lib.hid ((HO.out.keep hf4 (by simp)).keep (Fr.alloc (S := []) w4 (.cells #[.int .u8 (c.toNat : Int)] 5)) (by simp))
              have HBS := Lib.hid (show w.heap.size + 1 ≤ (w4.alloc (.cells #[.int .u8 (c.toNat : Int)] 5)).heap.size by have := HF4.out.size; simp at *; omega)
              clear hf4 hc hcb HPW HF HO
              go_wp2_with (at_builtin; refine wpl_append_b Tryd.underlying22 Tryd.infoByte rfl (.tmp 36) (.tmp 40) rfl rfl rfl (At.new rfl) HO4.out (by have := HLN.out; omega) HBS.out ?_)
              intro v5 w5 h5 g5
              rw [← HTK.out] at h5
              have HO5 := Lib.hid h5
              have HF5 := Lib.hid (show Fr [] (w.alloc (.cells #[.int .i64 n] 3)) w5 from OwnB.fr HO4.out (HF4.out.trans (Fr.alloc _ _)) g5 (by simp))
              clear h5 g5 HO4 HF4 HBS HTK HLN
              go_wp2
              go_roundw
              case rel => exact ⟨i + 1, by omega, by go_num, HO5, HF5⟩
              case measure => simp [intOf]; omega
            · have hini : ¬ (i : Int) < N := by omega
              have HOE := Lib.hid (show OwnB 5 (w.heap.size + 1) wl _ (eraV n l) by have h := HO.out; rwa [List.take_of_length_le (by have := HN.out; omega)] at h)
              have HPI := Lib.hid (pinvs_any (fun _ => False) wl _ (eraV n l) (HOE.out.bs (by simp)) (by unfold eraV; rw [List.length_map]; have := HN.out; omega))
              have hsz1 : w.heap.size ≤ wl.heap.size := by have := HF.out.size; simp at this; omega
              have HSZ1 := Lib.hid hsz1
              clear HO hsz1
              go_wp2_with (go_at_call 106; fail)
              refine HPI.out.mono ?_
              rintro e w4 ⟨u, rfl, ho4, hf4⟩
              have HO4 := Lib.hid (ho4.base HSZ1.out)
              have HF4 := Lib.hid ((HF0.out.trans HF.out).trans hf4)
              clear ho4 hf4 HPI HOE
              go_wp2
              go_ret2
              exact ⟨_, 0, by rw [errv_zero]; rfl, HK.out.symm, by rw [if_pos rfl]; exact HO4.out, HF4.out⟩
        · have hli : (32 : Int) < N := by omega
          have HK := Lib.hid (HE16.out HS.out HOK.out HND.out hl32)
          clear hok hnd
          go_enter Tryd.func83, Tryd.ntmps83
          go_wp2_with (go_at_call 102; fail)
          refine HSZ.out.mono ?_
          rintro e w1 ⟨rfl, rfl⟩
          go_wp2_with (go_at_call 103; fail)
          refine (HCF.out _ (Fr.refl _ _)).mono ?_
          rintro e w2 ⟨rfl, hf2⟩
          have HF2 := Lib.hid hf2
          clear hf2
          go_wp2_with (go_at_call 104; fail)
          refine (HTW.out w2 HF2.out).mono ?_
          rintro e w3 ⟨rfl, hf3⟩
          have HF3 := Lib.hid (HF2.out.trans hf3)
          clear hf3
          have hcc := (HX0.out.keep0 HF3.out).cell 16 HM.out.2.2.2
          simp only [gOf, List.getD_eq_getElem?_getD, List.getElem?_cons_zero, List.getElem?_cons_succ, Option.getD_some] at hcc
          go_wp2
          go_quiet (fail)
          go_wp2
          go_ret2
          exact ⟨_, 16, by rw [X16.out]; rfl, HK.out.symm, HNIL.out _, (HF0.out.trans HF3.out).trans (Fr.of_heap rfl rfl rfl rfl)⟩
      · have HK := Lib.hid (HE10.out HS.out HOK.out hnd)
        rw [show decide (¬ l.Nodup) = true from decide_eq_true hnd] at HTW
        clear hok hnd
        go_enter Tryd.func83, Tryd.ntmps83
        go_wp2_with (go_at_call 102; fail)
        refine HSZ.out.mono ?_
        rintro e w1 ⟨rfl, rfl⟩
        go_wp2_with (go_at_call 103; fail)
        refine (HCF.out _ (Fr.refl _ _)).mono ?_
        rintro e w2 ⟨rfl, hf2⟩
        have HF2 := Lib.hid hf2
        clear hf2
        go_wp2_with (go_at_call 104; fail)
        refine (HTW.out w2 HF2.out).mono ?_
        rintro e w3 ⟨rfl, hf3⟩
        have HF3 := Lib.hid (HF2.out.trans hf3)
        clear hf3
        have hcc := (HX0.out.keep0 HF3.out).cell 10 HM.out.2.2.1
        simp only [gOf, List.getD_eq_getElem?_getD, List.getElem?_cons_zero, List.getElem?_cons_succ, Option.getD_some] at hcc
        go_wp2
        go_quiet (fail)
        go_wp2
        go_ret2
        exact ⟨_, 10, by rw [X10.out]; rfl, HK.out.symm, HNIL.out _, (HF0.out.trans HF3.out).trans (Fr.of_heap rfl rfl rfl rfl)⟩
    · rw [show decide (¬ ∀ p ∈ l, 0 ≤ p ∧ p < n) = true from decide_eq_true hok] at HCF
      have HK := Lib.hid (HE1.out HS.out hok)
      clear hok
      go_enter Tryd.func83, Tryd.ntmps83
      go_wp2_with (go_at_call 102; fail)
      refine HSZ.out.mono ?_
      rintro e w1 ⟨rfl, rfl⟩
      go_wp2_with (go_at_call 103; fail)
      refine (HCF.out _ (Fr.refl _ _)).mono ?_
      rintro e w2 ⟨rfl, hf2⟩
      have HF2 := Lib.hid hf2
      clear hf2
      have hcc := (HX0.out.keep0 HF2.out).cell 1 HM.out.1
      simp only [gOf, List.getD_eq_getElem?_getD, List.getElem?_cons_zero, List.getElem?_cons_succ, Option.getD_some] at hcc
      go_wp2
      go_quiet (fail)
      go_wp2
      go_ret2
      exact ⟨_, 1, by rw [X1.out]; rfl, HK.out.symm, HNIL.out _, (HF0.out.trans HF2.out).trans (Fr.of_heap rfl rfl rfl rfl)⟩
  · rw [decide_eq_false hsz] at HSZ
    have HK := Lib.hid (HE8.out hsz)
    have hcc := HX0.out.cell 8 HM.out.2.1
    simp only [gOf, List.getD_eq_getElem?_getD, List.getElem?_cons_zero, List.getElem?_cons_succ, Option.getD_some] at hcc
    clear hsz
    go_enter Tryd.func83, Tryd.ntmps83
    go_wp2_with (go_at_call 102; fail)
    refine HSZ.out.mono ?_
    rintro e w1 ⟨rfl, rfl⟩
    go_wp2
    go_quiet (fail)
    go_wp2
    go_ret2
    exact ⟨_, 8, by rw [X8.out]; rfl, HK.out.symm, HNIL.out _, HF0.out.trans (Fr.of_heap rfl rfl rfl rfl)⟩
end Go.Proofs.YtmohiblgfmdkjaaDoor
