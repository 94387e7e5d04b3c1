import Derived.Test.YtmohiblgfmdkjaaGreatDoorStr
import Derived.Test.YtmohiblgfmdkjaaGreatDoorHR
import Derived.Test.YtmohiblgfmdkjaaGreatDoorRer
import Derived.OwnWalk
import Derived.BigQuiet
namespace Go.Proofs.YtmohiblgfmdkjaaGreatDoor
open Go.RowKit Go.Bl
set_option linter.unusedVariables false
theorem Tryz.infoIntI : (Tryz.prog.info? 3).map (fun i => (i.zero, i.size, i.bytes)) = some (some (.int .i64 0), 1, 8) := by kernel_rfl
theorem wpl_append_isI {P : Program} {w : World} {ops : Array Oper} {rest : List Oper} {o : Oper} {a : Go.Act} {Q : Exit → Go.Act → World → Prop} {A : Nat → Prop} {t e : TypeId}
    (ht : P.underlying t = some (.slice e)) (hinfo : (P.info? e).map (fun i => (i.zero, i.size, i.bytes)) = some (some (.int .i64 0), 1, 8)) (hgd : o.guard = none) (s x : Operand)
    (ho : o.op = .call { callee := .builtin .append, args := #[s, x], argTypes := #[t, t] })
    {base : Nat} {v u : Value} {xs ys : List Int} (hs : a.eval s = v) (hx : a.eval x = u) (hown : OwnI e base w v xs) (hb : Is A w u ys)
    (hlen : xs.length + ys.length ≤ 17592186044415) (hbase : base ≤ w.heap.size)
    (h : ∀ v' w', OwnI e base w' v' (xs ++ ys) → w.grownBy w' v.ownBlock → wpList P ops Q rest (a.put o.dst v') w') : wpList P ops Q (o :: rest) a w := by
  refine wpl_append_vs ht hinfo rfl hgd s x ho hs hx hown hb (by intro u hu; simp at hu; obtain ⟨y, -, rfl⟩ := hu; rfl) (by simp [maxLen]; omega) (by simp; omega) hbase fun v' w' h1 h2 => ?_
  refine h v' w' ?_ h2
  unfold OwnI
  rw [List.map_append]
  exact h1
set_option maxHeartbeats 1000000 in
theorem sameInts_any (A : Nat → Prop) (w : World) (u v : Value) (xs ys : List Int) (hu : Is A w u xs) (hv : Is A w v ys) :
    Calls Tryz.prog 11 #[u, v] w fun e w' => e = .returned (.bool (xs == ys)) ∧ Fr [] w w' := by
  obtain ⟨a, ca, rfl, h1, h2, ha⟩ := hu.shape
  obtain ⟨b, cb, rfl, h3, h4, hb⟩ := hv.shape
  clear hu hv
  unfold maxLen at h2 h4
  by_cases hl : xs.length = ys.length
  · obtain ⟨n, hn⟩ : ∃ n, xs.length = n := ⟨_, rfl⟩
    have hy : ys.length = n := by omega
    rw [hy] at h3 hb
    rw [hn] at h1 ha
    rw [hn, hy]
    have hne : ((n : Int) != (n : Int)) = false := by simp
    have hend : (∀ i, i < n → xs.getD i 0 = ys.getD i 0) → (xs == ys) = true := by
      intro h
      rw [beq_iff_eq]
      apply List.ext_getElem (by omega)
      intro i hi hi'
      have := h i (by omega)
      simpa [List.getD_eq_getElem?_getD, hi, hi'] using this
    have hno : ∀ i, i < n → xs.getD i 0 ≠ ys.getD i 0 → (xs == ys) = false := by
      intro i hi h
      rw [beq_eq_false_iff_ne]
      intro e; exact h (by rw [e])
    have HE := Lib.hid hend
    have HN := Lib.hid hno
    clear hend hno hn hl hy
    go_enter Tryz.func11, Tryz.ntmps11
    go_wp2
    go_loopw [13] (fun i wr => ∃ j : Nat, j ≤ n ∧ i = .int .i64 j ∧ Hid (∀ i, i < j → xs.getD i 0 = ys.getD i 0) ∧ Dr w wr) (fun i _ => n - (intOf i).toNat)
    case atStart => exact ⟨0, Nat.zero_le _, rfl, fun i hi => by omega, Dr.refl _⟩
    case round =>
      obtain ⟨j, hj, rfl, hall, hd⟩ := hrel
      by_cases hjn : j < n
      · obtain ⟨b1, o1, rfl, -, hc1⟩ := ha (by omega)
        obtain ⟨b2, o2, rfl, -, hc2⟩ := hb (by omega)
        have g1 := (hd.cell _).trans (hc1 j hjn)
        have g2 := (hd.cell _).trans (hc2 j hjn)
        obtain ⟨x, hx⟩ : ∃ x, xs.getD j 0 = x := ⟨_, rfl⟩
        obtain ⟨y, hy⟩ : ∃ y, ys.getD j 0 = y := ⟨_, rfl⟩
        rw [hx] at g1
        rw [hy] at g2
        have HX := Lib.hid hx
        have HY := Lib.hid hy
        have HD := Lib.hid hd
        clear hc1 hc2 hx hy ha hb hd
        have hj0 : (0 : Int) ≤ (j : Int) ∧ (j : Int) < (n : Int) := by omega
        by_cases hxy : x = y
        · subst hxy
          have hb : (x != x) = false := by simp
          go_wp2
          go_quiet (fail)
          go_wp2
          go_roundw
          case rel =>
            refine ⟨j + 1, by omega, by go_num, fun i hi => ?_, HD.out.drewN _⟩
            rcases Nat.lt_or_ge i j with h | h
            · exact hall i h
            · have : i = j := by omega
              subst this
              rw [HX.out, HY.out]
          case measure => simp [intOf]; omega
        · have hb : (x != y) = true := by simpa using hxy
          have hf := HN.out j hjn (by rw [HX.out, HY.out]; exact hxy)
          have HF := Lib.hid hf
          clear hf
          go_wp2
          go_quiet (fail)
          go_wp2
          go_ret
          exact ⟨by rw [HF.out]; rfl, (HD.out.drewN _).fr⟩
      · obtain rfl : j = n := by omega
        have hd' := Lib.hid hd
        clear hd ha hb
        go_wp2
        go_ret
        exact ⟨by rw [HE.out hall]; rfl, hd'.out.fr⟩
  · have he : (xs == ys) = false := by
      rw [beq_eq_false_iff_ne]
      intro h; exact hl (by rw [h])
    rw [he]
    have hne : ((xs.length : Int) != (ys.length : Int)) = true := by rw [bne_iff_ne]; omega
    go_enter Tryz.func11, Tryz.ntmps11
    go_wp2
    go_ret
    exact ⟨rfl, Fr.refl _ _⟩
def marksI : List Int := [-91, -92, -93, -94]
def MkI (base : Nat) (w : World) (u : Value) (xs : List Int) : Prop :=
  ∃ g cap cur, u = .slice (some ⟨g, 0, none⟩) xs.length cap ∧ base ≤ g ∧ At w g (.cells cur 3 (0, 0)) ∧ xs.length + 4 ≤ cap ∧ cap ≤ maxLen ∧ cur.size = cap ∧ cur.toList.take (xs.length + 4) = (xs ++ marksI).map iv
theorem MkI.keep {base : Nat} {w w' : World} {u : Value} {xs : List Int} {S : List Nat} (h : MkI base w u xs) (hf : Fr S w w') (hS : ∀ g ∈ S, g < base) : MkI base w' u xs := by
  obtain ⟨g, cap, cur, h1, h2, h3, h4⟩ := h
  exact ⟨g, cap, cur, h1, h2, h3.keep hf (fun hm => by have := hS g hm; omega), h4⟩
theorem MkI.keep0 {base : Nat} {w w' : World} {u : Value} {xs : List Int} (h : MkI base w u xs) (hf : Fr [] w w') : MkI base w' u xs := h.keep hf (by simp)
theorem MkI.is {A : Nat → Prop} {base : Nat} {w : World} {u : Value} {xs : List Int} (h : MkI base w u xs) (hA : ∀ b, A b → b < base) : Is A w u xs := by
  obtain ⟨g, cap, cur, h1, h2, h3, h4, h5, h6, h7⟩ := h
  refine ⟨_, cap, by rw [h1, List.length_map], by rw [List.length_map]; omega, h5, .inr ⟨g, 0, cur, 3, (0, 0), rfl, fun h => by have := hA g h; omega, h3, fun i hi => ?_⟩⟩
  simp only [List.length_map] at hi
  have : (cur.toList.take (xs.length + 4))[i]? = ((xs ++ marksI).map iv)[i]? := by rw [h7]
  rw [List.getElem?_take, if_pos (by omega), List.map_append, List.getElem?_append_left (by simpa using hi)] at this
  simpa using this
end Go.Proofs.YtmohiblgfmdkjaaGreatDoor
