/-
  baileenum's copies of integers: with marked room behind, and whether they stand as they stood.
-/
import Derived.Test.YtmohiblgfmdkjaaGreatDoorStr
import Derived.Test.YtmohiblgfmdkjaaGreatDoorHR
import Derived.Test.YtmohiblgfmdkjaaGreatDoorRer
import Derived.OwnWalk
import Derived.BigQuiet
namespace Go.Proofs.YtmohiblgfmdkjaaGreatDoor
open Go.RowKit Go.Bl
set_option linter.unusedVariables false
theorem Tryz.infoIntI : (Tryz.prog.info? 3).map (fun i => (i.zero, i.size, i.bytes)) = some (some (.int .i64 0), 1, 8) := by kernel_rfl
theorem info_ints {P : Program} {e : TypeId} (h : (P.info? e).map (fun i => (i.zero, i.size, i.bytes)) = some (some (.int .i64 0), 1, 8)) : ∃ i, P.info? e = some i ∧ i.zero = some (.int .i64 0) ∧ i.size = 1 ∧ i.bytes = 8 := by
  cases hi : P.info? e with
  | none => simp [hi] at h
  | some i => simp [hi] at h; exact ⟨i, rfl, h.1, h.2.1, h.2.2⟩
theorem wpl_append_isI {P : Program} {w : World} {ops : Array Oper} {rest : List Oper} {o : Oper} {a : Go.Act} {Q : Exit → Go.Act → World → Prop} {A : Nat → Prop} {t e : TypeId}
    (ht : P.underlying t = some (.slice e)) (hinfo : (P.info? e).map (fun i => (i.zero, i.size, i.bytes)) = some (some (.int .i64 0), 1, 8)) (hgd : o.guard = none) (s x : Operand)
    (ho : o.op = .call { callee := .builtin .append, args := #[s, x], argTypes := #[t, t] })
    {base : Nat} {v u : Value} {xs ys : List Int} (hs : a.eval s = v) (hx : a.eval x = u) (hown : OwnI e base w v xs) (hb : Is A w u ys)
    (hlen : xs.length + ys.length ≤ 17592186044415) (hbase : base ≤ w.heap.size)
    (h : ∀ v' w', OwnI e base w' v' (xs ++ ys) → w.grownBy w' v.ownBlock → wpList P ops Q rest (a.put o.dst v') w') : wpList P ops Q (o :: rest) a w := by
  refine wpl_append_vs ht hinfo rfl hgd s x ho hs hx hown hb (by intro u hu; simp at hu; obtain ⟨y, -, rfl⟩ := hu; rfl) (by simp [maxLen]; omega) (by simp; omega) hbase fun v' w' h1 h2 => ?_
  refine h v' w' ?_ h2
  unfold OwnI
  rw [List.map_append]
  exact h1
theorem getD_eq_of_map (xs : List Int) (j : Nat) : xs.getD j 0 = xs[j]?.getD 0 := by simp [List.getD_eq_getElem?_getD]

set_option maxHeartbeats 1000000 in
theorem sameInts_any (A : Nat → Prop) (w : World) (u v : Value) (xs ys : List Int) (hu : Is A w u xs) (hv : Is A w v ys) :
    Calls Tryz.prog 11 #[u, v] w fun e w' => e = .returned (.bool (xs == ys)) ∧ Fr [] w w' := by
  obtain ⟨a, ca, rfl, h1, h2, ha⟩ := hu.shape
  obtain ⟨b, cb, rfl, h3, h4, hb⟩ := hv.shape
  clear hu hv
  unfold maxLen at h2 h4
  by_cases hl : xs.length = ys.length
  · obtain ⟨n, hn⟩ : ∃ n, xs.length = n := ⟨_, rfl⟩
    have hy : ys.length = n := by omega
    rw [hy] at h3 hb
    rw [hn] at h1 ha
    rw [hn, hy]
    have hne : ((n : Int) != (n : Int)) = false := by simp
    have hend : (∀ i, i < n → xs.getD i 0 = ys.getD i 0) → (xs == ys) = true := by
      intro h
      rw [beq_iff_eq]
      apply List.ext_getElem (by omega)
      intro i hi hi'
      have := h i (by omega)
      simpa [List.getD_eq_getElem?_getD, hi, hi'] using this
    have hno : ∀ i, i < n → xs.getD i 0 ≠ ys.getD i 0 → (xs == ys) = false := by
      intro i hi h
      rw [beq_eq_false_iff_ne]
      intro e; exact h (by rw [e])
    have HE := Lib.hid hend
    have HN := Lib.hid hno
    clear hend hno hn hl hy
    go_enter Tryz.func11, Tryz.ntmps11
    go_wp2
    go_loopw [13] (fun i wr => ∃ j : Nat, j ≤ n ∧ i = .int .i64 j ∧ Hid (∀ i, i < j → xs.getD i 0 = ys.getD i 0) ∧ Dr w wr) (fun i _ => n - (intOf i).toNat)
    case atStart => exact ⟨0, Nat.zero_le _, rfl, fun i hi => by omega, Dr.refl _⟩
    case round =>
      obtain ⟨j, hj, rfl, hall, hd⟩ := hrel
      by_cases hjn : j < n
      · obtain ⟨b1, o1, rfl, -, hc1⟩ := ha (by omega)
        obtain ⟨b2, o2, rfl, -, hc2⟩ := hb (by omega)
        have g1 := (hd.cell _).trans (hc1 j hjn)
        have g2 := (hd.cell _).trans (hc2 j hjn)
        obtain ⟨x, hx⟩ : ∃ x, xs.getD j 0 = x := ⟨_, rfl⟩
        obtain ⟨y, hy⟩ : ∃ y, ys.getD j 0 = y := ⟨_, rfl⟩
        rw [hx] at g1
        rw [hy] at g2
        have HX := Lib.hid hx
        have HY := Lib.hid hy
        have HD := Lib.hid hd
        clear hc1 hc2 hx hy ha hb hd
        have hj0 : (0 : Int) ≤ (j : Int) ∧ (j : Int) < (n : Int) := by omega
        by_cases hxy : x = y
        · subst hxy
          have hb : (x != x) = false := by simp
          go_wp2
          go_quiet (fail)
          go_wp2
          go_roundw
          case rel =>
            refine ⟨j + 1, by omega, by go_num, fun i hi => ?_, HD.out.drewN _⟩
            rcases Nat.lt_or_ge i j with h | h
            · exact hall i h
            · have : i = j := by omega
              subst this
              rw [HX.out, HY.out]
          case measure => simp [intOf]; omega
        · have hb : (x != y) = true := by simpa using hxy
          have hf := HN.out j hjn (by rw [HX.out, HY.out]; exact hxy)
          have HF := Lib.hid hf
          clear hf
          go_wp2
          go_quiet (fail)
          go_wp2
          go_ret
          exact ⟨by rw [HF.out]; rfl, (HD.out.drewN _).fr⟩
      · obtain rfl : j = n := by omega
        have hd' := Lib.hid hd
        clear hd ha hb
        go_wp2
        go_ret
        exact ⟨by rw [HE.out hall]; rfl, hd'.out.fr⟩
  · have he : (xs == ys) = false := by
      rw [beq_eq_false_iff_ne]
      intro h; exact hl (by rw [h])
    rw [he]
    have hne : ((xs.length : Int) != (ys.length : Int)) = true := by rw [bne_iff_ne]; omega
    go_enter Tryz.func11, Tryz.ntmps11
    go_wp2
    go_ret
    exact ⟨rfl, Fr.refl _ _⟩

def marksI : List Int := [-91, -92, -93, -94]
/-- integers with marked room behind -/
def MkI (base : Nat) (w : World) (u : Value) (xs : List Int) : Prop :=
  ∃ g cap cur, u = .slice (some ⟨g, 0, none⟩) xs.length cap ∧ base ≤ g ∧ At w g (.cells cur 3 (0, 0)) ∧ xs.length + 4 ≤ cap ∧ cap ≤ maxLen ∧ cur.size = cap ∧ cur.toList.take (xs.length + 4) = (xs ++ marksI).map iv
theorem MkI.keep {base : Nat} {w w' : World} {u : Value} {xs : List Int} {S : List Nat} (h : MkI base w u xs) (hf : Fr S w w') (hS : ∀ g ∈ S, g < base) : MkI base w' u xs := by
  obtain ⟨g, cap, cur, h1, h2, h3, h4⟩ := h
  exact ⟨g, cap, cur, h1, h2, h3.keep hf (fun hm => by have := hS g hm; omega), h4⟩
theorem MkI.keep0 {base : Nat} {w w' : World} {u : Value} {xs : List Int} (h : MkI base w u xs) (hf : Fr [] w w') : MkI base w' u xs := h.keep hf (by simp)
theorem MkI.is {A : Nat → Prop} {base : Nat} {w : World} {u : Value} {xs : List Int} (h : MkI base w u xs) (hA : ∀ b, A b → b < base) : Is A w u xs := by
  obtain ⟨g, cap, cur, h1, h2, h3, h4, h5, h6, h7⟩ := h
  refine ⟨_, cap, by rw [h1, List.length_map], by rw [List.length_map]; omega, h5, .inr ⟨g, 0, cur, 3, (0, 0), rfl, fun h => by have := hA g h; omega, h3, fun i hi => ?_⟩⟩
  simp only [List.length_map] at hi
  have : (cur.toList.take (xs.length + 4))[i]? = ((xs ++ marksI).map iv)[i]? := by rw [h7]
  rw [List.getElem?_take, if_pos (by omega), List.map_append, List.getElem?_append_left (by simpa using hi)] at this
  simpa using this

set_option maxRecDepth 100000 in
set_option maxHeartbeats 2000000 in
theorem ints_any (w : World) (v : Value) (xs : List Int) (hb : Is (fun _ => False) w v xs) (hx : xs.length ≤ 4000000) :
    Calls Tryz.prog 7 #[v] w fun e w' => ∃ u, e = .returned u ∧ MkI w.heap.size w' u xs ∧ Fr [] w w' := by
  obtain ⟨a, cap, rfl, h2, h3, -⟩ := hb.shape
  obtain ⟨i, hi, hz, hsz, hby⟩ := info_ints Tryz.infoIntI
  have HB := Lib.hid ((show Is (fun _ => False) w (.slice a xs.length cap) xs from hb))
  obtain ⟨N, hN⟩ : ∃ N, xs.length = N := ⟨_, rfl⟩
  rw [hN] at HB hx h2 ⊢
  have HN := Lib.hid hN
  unfold maxLen at h3
  clear hb hN
  go_enter Tryz.func7, Tryz.ntmps7
  go_wp2_with (refine wpList_make_own _ rfl (.const (.int .i64 0)) (.tmp 6) 23 rfl w.heap.size 3 i (.int .i64 0) 1 Tryz.underlying23 hi hz hsz .i64 .i64 _ (N + 4) rfl rfl (by simp) (by rw [hby]; omega) (by simp only [maxLen]; omega) (Nat.le_refl _) ?_)
  intro w1 r1 g1
  have o1 : OwnI 3 w.heap.size w1 (.slice (some ⟨w.heap.size, 0, none⟩) 0 (N + 4)) [] := r1
  have f1 : Fr [] w w1 := Fr.grown g1 (by simp)
  have B1 : Is (fun _ => False) w1 (.slice a N cap) xs := HB.keep f1 (by simp)
  replace f1 := Lib.hid f1
  replace g1 := Lib.hid g1
  replace r1 := Lib.hid o1
  replace B1 := Lib.hid B1
  clear o1
  obtain ⟨v1, hv1⟩ : ∃ v, Value.slice (some ⟨w.heap.size, 0, none⟩) 0 (N + 4) = v := ⟨_, rfl⟩
  rw [hv1] at r1 ⊢
  replace hv1 := Lib.hid hv1
  go_wp2_with (at_builtin; refine wpl_append_isI (A := fun _ => False) (ys := xs) (base := w.heap.size) Tryz.underlying23 Tryz.infoIntI rfl (.tmp 7) (.tmp 8) rfl rfl rfl r1 B1 ?hl ?hb ?_)
  case hl => have : xs.length = N := HN; simp; omega
  case hb => exact Fr.size f1
  intro v2 w2 r2 g2
  have f2 : Fr [] w w2 := r1.fr f1 g2 (Nat.le_refl _)
  replace f2 := Lib.hid f2
  replace g2 := Lib.hid g2
  replace r2 := Lib.hid r2
  have B2 : Hid (Is (fun _ => False) (w2.alloc (.cells #[.int .i64 (-91), .int .i64 (-92), .int .i64 (-93), .int .i64 (-94)] 3)) (.slice (some ⟨w2.heap.size, 0, none⟩) 4 4) marksI) :=
    Lib.hid (OwnI.is (e := 3) (base := w2.heap.size) (World.ownsRow_lit (size := 1) w2 #[.int .i64 (-91), .int .i64 (-92), .int .i64 (-93), .int .i64 (-94)] 4 (Nat.le_refl _) (by decide) rfl) (fun b h => h.elim))
  have R2 : Hid (OwnI 3 w.heap.size (w2.alloc (.cells #[.int .i64 (-91), .int .i64 (-92), .int .i64 (-93), .int .i64 (-94)] 3)) v2 xs) := Lib.hid (r2.keep (S := []) (Fr.alloc _ _) (by simp))
  have F2 : Hid (Fr [] w (w2.alloc (.cells #[.int .i64 (-91), .int .i64 (-92), .int .i64 (-93), .int .i64 (-94)] 3))) := Lib.hid (f2.trans (Fr.alloc _ _))
  go_wp2_with (at_builtin; refine wpl_append_isI (A := fun _ => False) (ys := marksI) (base := w.heap.size) Tryz.underlying23 Tryz.infoIntI rfl (.tmp 9) (.tmp 10) rfl rfl rfl R2 B2 ?hl ?hb ?_)
  case hl => have : xs.length = N := HN; simp [marksI]; omega
  case hb => exact Fr.size F2
  intro v3 w3 r3 g3
  have f3 : Fr [] w w3 := R2.fr F2 g3 (Nat.le_refl _)
  have hl3 : ((xs ++ marksI).map iv).length = N + 4 := by rw [List.length_map, List.length_append, HN]; rfl
  obtain ⟨q1, ⟨q2, q3⟩ | ⟨g, cp, cur, rfl, q2, q3, q4, q5, q6, q7⟩⟩ := id r3
  · rw [hl3] at q3; omega
  rw [hl3] at q1 q4 q7 ⊢
  rw [Nat.mul_one] at q6 q7
  have M : Hid (MkI w.heap.size w3 (.slice (some ⟨g, 0, none⟩) N cp) xs) := Lib.hid ⟨g, cp, cur, by rw [HN], q2, q3, by rw [HN]; exact q4, q5, q6, by rw [HN]; exact q7⟩
  replace f3 := Lib.hid f3
  replace q4 : N ≤ cp := by omega
  unfold maxLen at q5
  clear q1 q2 q3 q6 q7 r3 g3 hl3 F2 R2 B2
  go_wp2
  go_ret
  exact ⟨_, rfl, M, f3⟩

set_option maxRecDepth 100000 in
set_option maxHeartbeats 2000000 in
theorem keptInts_any (base : Nat) (w : World) (u v : Value) (xs : List Int) (hm : MkI base w u xs) (hb : Is (fun _ => False) w v xs) (hx : xs.length ≤ 4000000) :
    Calls Tryz.prog 13 #[u, v] w fun e w' => e = .returned (.bool true) ∧ Fr [] w w' := by
  have HU := Lib.hid (hm.is (A := fun _ => False) (fun _ h => h.elim))
  have HV := Lib.hid hb
  obtain ⟨ad, c2, rfl, g2, g3, -⟩ := hb.shape
  obtain ⟨g, cp, cur, rfl, q2, q3, q4, q5, q6, q7⟩ := id hm
  have HC : Hid (∀ k, k < 4 → w.cell? ⟨g, xs.length + k, none⟩ = some (.int .i64 (-91 - k))) := Lib.hid fun k hk => by
    have : (cur.toList.take (xs.length + 4))[xs.length + k]? = ((xs ++ marksI).map iv)[xs.length + k]? := by rw [q7]
    rw [List.getElem?_take, if_pos (by omega), List.map_append, List.getElem?_append_right (by simp)] at this
    rw [cell_of q3]
    simp only [List.length_map, Nat.add_sub_cancel_left] at this
    rw [Array.getElem?_toList] at this
    rw [this]
    have : k = 0 ∨ k = 1 ∨ k = 2 ∨ k = 3 := by omega
    rcases this with rfl | rfl | rfl | rfl <;> rfl
  have hUs : Is (fun _ => False) w (.slice (some ⟨g, 0, none⟩) xs.length cp) xs := HU.out
  have HSM := Lib.hid (sameInts_any (fun _ => False) w _ _ xs xs hUs HV.out)
  rw [show (xs == xs) = true by simp] at HSM
  obtain ⟨N, hN⟩ : ∃ N, xs.length = N := ⟨_, rfl⟩
  rw [hN] at HU HV HC HSM hx q4 g2
  rw [hN]
  unfold maxLen at g3 q5
  have HG := Lib.hid q3
  have hd : ¬ (cp : Int) < (N : Int) + 4 := by omega
  have hNc : N ≤ cp := by omega
  clear hb hm q2 q3 q6 q7 hN hUs
  go_enter Tryz.func13, Tryz.ntmps13
  go_wp2_with (go_at_call 11; fail)
  refine HSM.out.mono ?_
  rintro e w1 ⟨rfl, hf⟩
  have HC2 := Lib.hid (fun k hk => cell_mono hf (HC.out k hk))
  have HF := Lib.hid hf
  clear hf HC HV HU HG hd HSM
  go_wp2
  go_loopw [6] (fun v wr => ∃ k : Nat, k ≤ 4 ∧ v = .int .i64 k ∧ wr = w1) (fun v _ => (4 - intOf v).toNat)
  case atStart => exact ⟨0, by omega, rfl, rfl⟩
  case round =>
    obtain ⟨k, hk, rfl, rfl⟩ := hrel
    by_cases h6 : k < 4
    · have q0 := HC2.out k h6
      go_wp2
      go_roundw
      case rel => exact ⟨k + 1, by omega, by simp, by first | rfl | trivial⟩
      case measure => simp [intOf]; omega
    · go_wp2
      go_ret
      exact ⟨rfl, HF.out⟩
end Go.Proofs.YtmohiblgfmdkjaaGreatDoor
