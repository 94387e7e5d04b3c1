import Derived.Test.YtdloaifdpajcjaaGreatDoorGE
set_option linter.unusedVariables false
set_option linter.unusedSimpArgs false
set_option maxRecDepth 1000000
set_option maxHeartbeats 8000000
namespace Go.Proofs.YtdloaifdpajcjaaGreatDoor
open Go.RowKit Go.Bl
def yH (size : Int) : Nat := max ((size.toNat + 7) / 8) 1
def qR (n : Nat) : List Int := if n <= 223 then [(n : Int)] else [223, (n : Int) - 223]
theorem yM (size : Int) (h : size <= 2000) : 1 <= yH size /\ yH size <= 250 := by unfold yH; omega
theorem Yl (n k left : Nat) (hn1 : 1 <= n) (hn : n <= 250) (hk : k <= (qR n).length) (hl : left = n - min n (223 * k)) (h : 0 < left) :
  k + 1 <= (qR n).length /\ (qR n).take (k + 1) = (qR n).take k ++ [((min left 223 : Nat) : Int)] /\ left - min left 223 = n - min n (223 * (k + 1)) := by
 unfold qR at *
 split at hk
 ·rename_i h1
  simp only [h1, if_pos, List.length_singleton] at hk ⊢
  have : k = 0 := by omega
  subst this
  refine ⟨by omega, ?_, by omega⟩
  simp; omega
 ·rename_i h1
  simp only [h1, if_neg, not_false_eq_true, List.length_cons, List.length_nil] at hk ⊢
  have : k = 0 ∨ k = 1 := by omega
  rcases this with rfl | rfl
  ·refine ⟨by omega, ?_, by omega⟩
   simp; omega
  ·refine ⟨by omega, ?_, by omega⟩
   simp; omega
theorem WW (n k : Nat) (hn1 : 1 <= n) (hn : n <= 250) (hk : k <= (qR n).length) (hl : n - min n (223 * k) = 0) : (qR n).take k = qR n := by
 unfold qR at *
 split at hk
 ·rename_i h1
  simp only [h1, if_pos, List.length_singleton] at hk ⊢
  have : k = 1 := by omega
  subst this
  simp
 ·rename_i h1
  simp only [h1, if_neg, not_false_eq_true, List.length_cons, List.length_nil] at hk ⊢
  have : k = 2 := by omega
  subst this
  simp
theorem Tryz.infoInt : (Tryz.prog.info? 3).map (fun i => (i.zero, i.size, i.bytes)) = some (some (.int .i64 0), 1, 8) := by kernel_rfl
theorem Wh (w : World) (size : Int) (h0 : 0 <= size) (h2 : size <= 2000) :
  Calls Tryz.prog 146 #[.int .i64 size] w fun e w' => ∃ v, e = .returned (.tuple #[v, .nilIface]) /\ vB 3 w.heap.size w' v (qR (yH size)) /\ Fr [] w w' := by
 have hn := yM size h2
 have hdiv : max ((size + 7) / 8) 1 = (yH size : Int) := by unfold yH; omega
 obtain ⟨n, HN⟩ : ∃ n, Hid (yH size = n) := ⟨_, rfl⟩
 rw [HN.out] at hn hdiv ⊢
 have HD := Hdq hdiv
 clear hdiv
 go_enter Tryz.func146, Tryz.ntmps146
 go_wp2
 all_goals
  go_loopw [4, 5] (fun l v wr => ∃ k left : Nat, k <= (qR n).length /\ left = n - min n (223 * k) /\ l = .int .i64 left /\ vB 3 w.heap.size wr v ((qR n).take k) /\ Fr [] w wr) (fun l _ _ => (intOf l).toNat)
  case atStart =>
   refine ⟨0, n, Nat.zero_le _, by omega, ?_, vB.nil _ _ _, Fr.refl _ _⟩
   refine congrArg _ ?_
   have := HD.out
   omega
  case round =>
   obtain ⟨k, left, hk, hl, rfl, ho, hf⟩ := hrel
   have HL := Hdq hl
   have hlb : left <= 250 := by omega
   clear hl
   by_cases hpos : 0 < left
   ·have hst := Hdq (Yl n k left hn.1 hn.2 hk HL.out hpos)
    have hk2 : (qR n).length <= 2 := by unfold qR; split <;> simp
    have hmin : (left <= 223 /\ min left 223 = left) ∨ (223 < left /\ min left 223 = 223) := by omega
    have hsz := hf.size
    have hlen : ((qR n).take k).length <= 2 := by simp; omega
    rcases hmin with ⟨g1, g2⟩ | ⟨g1, g2⟩
    all_goals
     have G2 := Hdq g2
     clear g2
     go_wp2_with (at_builtin; refine Yi Tryz.underlying45 Tryz.infoInt rfl (.tmp 23) (.tmp 25) rfl rfl rfl ho Y54 hsz ?_)
     intro v' w' h5 h6
     have hf' := Hdq (vB.fr (vB.keep0 ho (Fr.alloc _ _)) (hf.trans (Fr.alloc _ _)) h6 (Nat.le_refl _))
     clear ho hf h6
     go_wp2
     go_roundw
     case rel => exact ⟨k + 1, left - min left 223, hst.out.1, hst.out.2.2, congrArg _ (by rw [G2.out]; omega), by rw [hst.out.2.1, G2.out]; exact h5, hf'.out⟩
     case measure => simp [intOf]; omega
   ·have h0 : left = 0 := by omega
    subst h0
    have he := Hdq (WW n k hn.1 hn.2 hk HL.out.symm)
    go_wp2
    go_ret2
    exact ⟨_, rfl, by rw [<- he.out]; exact ho, hf⟩
def Qj (sh : List Int) : Int := sh.foldl (fun n k => n + (k + 32)) 0
theorem xf (sh : List Int) (j : Nat) (h : j < sh.length) : Qj (sh.take (j + 1)) = Qj (sh.take j) + (sh.getD j 0 + 32) := by
 unfold Qj
 rw [List.take_succ_eq_append_getElem h, List.foldl_append]
 simp only [List.foldl_cons, List.foldl_nil, List.getD_eq_getElem?_getD, List.getElem?_eq_getElem h, Option.getD_some]
structure Sh (sh : List Int) : Prop where
 len : sh.length <= 2
 at_ : ∀ j, j < sh.length -> 0 <= sh.getD j 0 /\ sh.getD j 0 <= 223
theorem xQ (n : Nat) (hn1 : 1 <= n) (hn : n <= 250) : Sh (qR n) := by
 unfold qR
 split
 ·refine ⟨by simp, fun j hj => ?_⟩
  have : j = 0 := by simp at hj; omega
  subst this; simp; omega
 ·refine ⟨by simp, fun j hj => ?_⟩
  have : j = 0 ∨ j = 1 := by simp at hj; omega
  rcases this with rfl | rfl <;> simp <;> omega
theorem Z1 (sh : List Int) (h : Sh sh) (j : Nat) (hj : j <= sh.length) : 0 <= Qj (sh.take j) /\ Qj (sh.take j) <= 510 := by
 have : j = 0 ∨ j = 1 ∨ j = 2 := by have := h.len; omega
 rcases this with rfl | rfl | rfl
 ·simp [Qj]
 ·have h0 := h.at_ 0 Y54
  rw [xf sh 0 Y54]
  simp only [List.take_zero]
  simp only [Qj, List.foldl_nil]; omega
 ·have h0 := h.at_ 0 Y54
  have h1 := h.at_ 1 Y54
  rw [xf sh 1 Y54, xf sh 0 Y54]
  simp only [List.take_zero]
  simp only [Qj, List.foldl_nil]; omega
theorem total_ok (w : World) (size : Int) (h0 : 0 <= size) (h2 : size <= 2000) :
  Calls Tryz.prog 79 #[.int .i64 size] w fun e w' => e = .returned (.tuple #[.int .i64 (Qj (qR (yH size))), .nilIface]) /\ Fr [] w w' := by
 have hn := yM size h2
 have hs := Hdq (Wh w size h0 h2)
 have hsh := Hdq (xQ _ hn.1 hn.2)
 obtain ⟨sh, HSH⟩ : ∃ sh, Hid (qR (yH size) = sh) := ⟨_, rfl⟩
 rw [HSH.out] at hs hsh ⊢
 clear HSH hn
 go_enter Tryz.func79, Tryz.ntmps79
 go_wp2_with fail
 refine hs.out.mono ?_; rintro e w1 ⟨v, rfl, ho, hf⟩
 obtain ⟨a, cap, rfl, h3, h4, hc⟩ := (ho.is (A := fun _ => False) Y85).shape
 have hl := hsh.out.len
 clear ho
 go_wp2
 go_loop [6, 16] (fun t i => ∃ j : Nat, j <= sh.length /\ i = .int .i64 j /\ t = .int .i64 (Qj (sh.take j))) (fun _ i => 2 - (intOf i).toNat)
 case atStart => exact ⟨0, Nat.zero_le _, rfl, by rw [List.take_zero]; rfl⟩
 case round =>
  obtain ⟨j, hj, rfl, rfl⟩ := hrel
  have hbd := Z1 sh hsh.out j hj
  by_cases hjn : j < sh.length
  ·obtain ⟨b1, o1, rfl, -, hc1⟩ := hc Y54
   have g1 := hc1 j hjn
   have hx := hsh.out.at_ j hjn
   have hs' := Hdq (xf sh j hjn)
   obtain ⟨x, HX⟩ : ∃ x, Hid (sh.getD j 0 = x) := ⟨_, rfl⟩
   rw [HX.out] at g1 hx hs'
   obtain ⟨y, HY⟩ : ∃ y, Hid (Qj (sh.take j) = y) := ⟨_, rfl⟩
   rw [HY.out] at hbd hs' ⊢
   clear hc hc1
   go_wp2
   go_round
   case rel => exact ⟨j + 1, by omega, by go_num, by rw [hs'.out]⟩
   case measure => simp [intOf]; omega
  ·obtain rfl : j = sh.length := by omega
   have he := Hdq (List.take_of_length_le (Nat.le_refl sh.length))
   rw [he.out] at hbd ⊢
   go_wp2
   go_ret2
   exact ⟨rfl, hf⟩
theorem qbX (L : List Nat) (E : Nat -> Addr) (B : Nat) (w : World) (hE : ya L E B w) (h8 : 8 ∈ L) (size : Int) (h : size < 0 ∨ 2000 < size) :
  Calls Tryz.prog 146 #[.int .i64 size] w fun e w' => e = .returned (.tuple #[.slice none 0 0, zK E 8]) /\ Fr [] w w' := by
 have hc := hE.cell 8 h8
 simp only [gOf, List.getD_eq_getElem?_getD, List.getElem?_cons_zero, List.getElem?_cons_succ, Option.getD_some] at hc
 rw [KG E 8 Y86]
 clear hE
 rcases h with h | h
 all_goals
  go_enter Tryz.func146, Tryz.ntmps146
  go_wp2
  go_quiet (fail)
  go_wp2
  go_ret2
  exact ⟨rfl, Fr.of_heap rfl rfl rfl rfl⟩
end Go.Proofs.YtdloaifdpajcjaaGreatDoor
