import Derived.Test.YtnafknkchbfpaaaGreatDoorGE
set_option maxRecDepth 1000000
set_option maxHeartbeats 8000000
namespace Go.Proofs.YtnafknkchbfpaaaGreatDoor
open Go.RowKit Go.Bl
set_option linter.unusedVariables false
def z6 (size : Int) : Nat := max ((size.toNat + 7) / 8) 1
def qK (n : Nat) : List Int := if n <= 223 then [(n : Int)] else [223, (n : Int) - 223]
theorem vh (size : Int) (h : size <= 2000) : 1 <= z6 size /\ z6 size <= 250 := by unfold z6; omega
theorem Uk (n k left : Nat) (hn1 : 1 <= n) (hn : n <= 250) (hk : k <= (qK n).length) (hl : left = n - min n (223 * k)) (h : 0 < left) :
  k + 1 <= (qK n).length /\ (qK n).take (k + 1) = (qK n).take k ++ [((min left 223 : Nat) : Int)] /\ left - min left 223 = n - min n (223 * (k + 1)) := by
 unfold qK at *
 split at hk
 ·rename_i h1
  simp only [h1, if_pos, List.length_singleton] at hk ⊢
  have : k = 0 := by omega
  subst this
  refine ⟨by omega, ?_, by omega⟩
  simp; omega
 ·rename_i h1
  simp only [h1, if_neg, not_false_eq_true, List.length_cons, List.length_nil] at hk ⊢
  have : k = 0 ∨ k = 1 := by omega
  rcases this with rfl | rfl
  ·refine ⟨by omega, ?_, by omega⟩
   simp; omega
  ·refine ⟨by omega, ?_, by omega⟩
   simp; omega
theorem V4 (n k : Nat) (hn1 : 1 <= n) (hn : n <= 250) (hk : k <= (qK n).length) (hl : n - min n (223 * k) = 0) : (qK n).take k = qK n := by
 unfold qK at *
 split at hk
 ·rename_i h1
  simp only [h1, if_pos, List.length_singleton] at hk ⊢
  have : k = 1 := by omega
  subst this
  simp
 ·rename_i h1
  simp only [h1, if_neg, not_false_eq_true, List.length_cons, List.length_nil] at hk ⊢
  have : k = 2 := by omega
  subst this
  simp
theorem VR (n : Nat) (hn1 : 1 <= n) (hn : n <= 250) : (n <= 223 /\ qK n = [(n : Int)]) ∨ (223 < n /\ qK n = [223, (n : Int) - 223]) := by
 unfold qK
 split
 ·exact .inl ⟨by assumption, rfl⟩
 ·exact .inr ⟨by omega, rfl⟩
theorem Tryz.infoInt : (Tryz.prog.info? 3).map (fun i => (i.zero, i.size, i.bytes)) = some (some (.int .i64 0), 1, 8) := by kernel_rfl
theorem UQ (w : World) (size : Int) (h0 : 0 <= size) (h2 : size <= 2000) :
  Calls Tryz.prog 152 #[.int .i64 size] w fun e w' => ∃ v, e = .returned (.tuple #[v, .nilIface]) /\ ul 3 w.heap.size w' v (qK (z6 size)) /\ Fr [] w w' := by
 have hn := vh size h2
 have hdiv : max ((size + 7) / 8) 1 = (z6 size : Int) := by unfold z6; omega
 obtain ⟨n, HN⟩ : ∃ n, Hid (z6 size = n) := ⟨_, rfl⟩
 rw [HN.out] at hn hdiv ⊢
 have HD := Hdq hdiv
 clear hdiv
 go_enter Tryz.func152, Tryz.ntmps152
 go_wp2
 all_goals
  go_loopw [4, 5] (fun l v wr => ∃ k left : Nat, k <= (qK n).length /\ left = n - min n (223 * k) /\ l = .int .i64 left /\ ul 3 w.heap.size wr v ((qK n).take k) /\ Fr [] w wr) (fun l _ _ => (intOf l).toNat)
  case atStart =>
   refine ⟨0, n, Nat.zero_le _, by omega, ?_, ul.nil _ _ _, Fr.refl _ _⟩
   refine congrArg _ ?_
   have := HD.out
   omega
  case round =>
   obtain ⟨k, left, hk, hl, rfl, ho, hf⟩ := hrel
   have HL := Hdq hl
   have hlb : left <= 250 := by omega
   clear hl
   by_cases hpos : 0 < left
   ·have hst := Hdq (Uk n k left hn.1 hn.2 hk HL.out hpos)
    have hk2 : (qK n).length <= 2 := by unfold qK; split <;> simp
    have hmin : (left <= 223 /\ min left 223 = left) ∨ (223 < left /\ min left 223 = 223) := by omega
    have hsz := hf.size
    have hlen : ((qK n).take k).length <= 2 := by simp; omega
    rcases hmin with ⟨g1, g2⟩ | ⟨g1, g2⟩
    all_goals
     have G2 := Hdq g2
     clear g2
     go_wp2_with (at_builtin; refine vY Tryz.underlying78 Tryz.infoInt rfl (.tmp 23) (.tmp 25) rfl rfl rfl ho Y95 hsz ?_)
     intro v' w' h5 h6
     have hf' := Hdq (ul.fr (ul.keep0 ho (Fr.alloc _ _)) (hf.trans (Fr.alloc _ _)) h6 (Nat.le_refl _))
     clear ho hf h6
     go_wp2
     go_roundw
     case rel => exact ⟨k + 1, left - min left 223, hst.out.1, hst.out.2.2, congrArg _ (by rw [G2.out]; omega), by rw [hst.out.2.1, G2.out]; exact h5, hf'.out⟩
     case measure => simp [intOf]; omega
   ·have h0 : left = 0 := by omega
    subst h0
    have he := Hdq (V4 n k hn.1 hn.2 hk HL.out.symm)
    go_wp2
    go_ret2
    exact ⟨_, rfl, by rw [<- he.out]; exact ho, hf⟩
def xt (sh : List Int) : Int := sh.foldl (fun n k => n + (k + 32)) 0
theorem vM (sh : List Int) (j : Nat) (h : j < sh.length) : xt (sh.take (j + 1)) = xt (sh.take j) + (sh.getD j 0 + 32) := by
 unfold xt
 rw [List.take_succ_eq_append_getElem h, List.foldl_append]
 simp only [List.foldl_cons, List.foldl_nil, List.getD_eq_getElem?_getD, List.getElem?_eq_getElem h, Option.getD_some]
structure Sh (sh : List Int) : Prop where
 len : sh.length <= 2
 at_ : ∀ j, j < sh.length -> 0 <= sh.getD j 0 /\ sh.getD j 0 <= 223
theorem uU (n : Nat) (hn1 : 1 <= n) (hn : n <= 250) : Sh (qK n) := by
 unfold qK
 split
 ·refine ⟨by simp, fun j hj => ?_⟩
  have : j = 0 := by simp at hj; omega
  subst this; simp; omega
 ·refine ⟨by simp, fun j hj => ?_⟩
  have : j = 0 ∨ j = 1 := by simp at hj; omega
  rcases this with rfl | rfl <;> simp <;> omega
theorem Qk (sh : List Int) (h : Sh sh) (j : Nat) (hj : j <= sh.length) : 0 <= xt (sh.take j) /\ xt (sh.take j) <= 510 := by
 have : j = 0 ∨ j = 1 ∨ j = 2 := by have := h.len; omega
 rcases this with rfl | rfl | rfl
 ·simp [xt]
 ·have h0 := h.at_ 0 Y95
  rw [vM sh 0 Y95]
  simp only [List.take_zero]
  simp only [xt, List.foldl_nil]; omega
 ·have h0 := h.at_ 0 Y95
  have h1 := h.at_ 1 Y95
  rw [vM sh 1 Y95, vM sh 0 Y95]
  simp only [List.take_zero]
  simp only [xt, List.foldl_nil]; omega
theorem Xa (w : World) (size : Int) (h0 : 0 <= size) (h2 : size <= 2000) :
  Calls Tryz.prog 118 #[.int .i64 size] w fun e w' => e = .returned (.tuple #[.int .i64 (xt (qK (z6 size))), .nilIface]) /\ Fr [] w w' := by
 have hn := vh size h2
 have hs := Hdq (UQ w size h0 h2)
 have hsh := Hdq (uU _ hn.1 hn.2)
 obtain ⟨sh, HSH⟩ : ∃ sh, Hid (qK (z6 size) = sh) := ⟨_, rfl⟩
 rw [HSH.out] at hs hsh ⊢
 clear HSH hn
 go_enter Tryz.func118, Tryz.ntmps118
 go_wp2_with fail
 refine hs.out.mono ?_; rintro e w1 ⟨v, rfl, ho, hf⟩
 obtain ⟨a, cap, rfl, h3, h4, hc⟩ := (ho.is (A := fun _ => False) qg).shape
 have hl := hsh.out.len
 clear ho
 go_wp2
 go_loop [6, 16] (fun t i => ∃ j : Nat, j <= sh.length /\ i = .int .i64 j /\ t = .int .i64 (xt (sh.take j))) (fun _ i => 2 - (intOf i).toNat)
 case atStart => exact ⟨0, Nat.zero_le _, rfl, by rw [List.take_zero]; rfl⟩
 case round =>
  obtain ⟨j, hj, rfl, rfl⟩ := hrel
  have hbd := Qk sh hsh.out j hj
  by_cases hjn : j < sh.length
  ·obtain ⟨b1, o1, rfl, -, hc1⟩ := hc Y95
   have g1 := hc1 j hjn
   have hx := hsh.out.at_ j hjn
   have hs' := Hdq (vM sh j hjn)
   obtain ⟨x, HX⟩ : ∃ x, Hid (sh.getD j 0 = x) := ⟨_, rfl⟩
   rw [HX.out] at g1 hx hs'
   obtain ⟨y, HY⟩ : ∃ y, Hid (xt (sh.take j) = y) := ⟨_, rfl⟩
   rw [HY.out] at hbd hs' ⊢
   clear hc hc1
   go_wp2
   go_round
   case rel => exact ⟨j + 1, by omega, by go_num, by rw [hs'.out]⟩
   case measure => simp [intOf]; omega
  ·exact Y84
theorem ZF (w : World) (size : Int) (h0 : 0 <= size) (h2 : size <= 2000) :
  Calls Tryz.prog 115 #[.int .i64 size] w fun e w' => ∃ v, e = .returned (.tuple #[v, .int .i64 0]) /\ ul 3 w.heap.size w' v (qK (z6 size)) /\ Fr [] w w' := by
 have hn := vh size h2
 have hdiv : (0 < size % 8 ∨ size = 0) /\ (z6 size : Int) = size / 8 + 1 ∨ (size % 8 = 0 /\ size ≠ 0) /\ (z6 size : Int) = size / 8 := by unfold z6; omega
 have hsh := VR (z6 size) hn.1 hn.2
 obtain ⟨n, HN⟩ : ∃ n, Hid (z6 size = n) := ⟨_, rfl⟩
 rw [HN.out] at hn hdiv hsh ⊢
 have HS := Hdq hsh
 clear hsh
 have hz : size = 0 ∨ 0 < size := by omega
 have h00 := qM.lit 3 w.heap.size w #[] (Nat.le_refl _) (by simp [maxLen])
 have hcase : (size = 0 /\ (n : Int) = 1) ∨ (0 < size /\ 0 < size % 8 /\ (n : Int) = size / 8 + 1) ∨ (0 < size /\ size % 8 = 0 /\ (n : Int) = size / 8) := by omega
 have hrep : ∀ j m : Nat, n = m + 223 * j -> 1 <= m -> m <= 223 -> List.replicate j (223 : Int) ++ [(m : Int)] = qK n := by
  intro j m h1 h2 h3
  rcases HS.out with ⟨g, e⟩ | ⟨g, e⟩
  ·have : j = 0 := by omega
   subst this
   have : m = n := by omega
   subst this
   rw [e]; rfl
  ·have : j = 1 := by omega
   subst this
   rw [e]
   have : (m : Int) = (n : Int) - 223 := by omega
   rw [this]; rfl
 have HR := Hdq hrep
 clear hdiv hz hrep HS
 rcases hcase with ⟨rfl, g2⟩ | ⟨hz, g1, g2⟩ | ⟨hz, g1, g2⟩
 all_goals
  have HD := Hdq g2
  clear g2
  go_enter Tryz.func115, Tryz.ntmps115
  go_wp2
  go_loopw [4, 5] (fun l v wr => ∃ j m : Nat, n = m + 223 * j /\ 1 <= m /\ l = .int .i64 m /\ ul 3 w.heap.size wr v (List.replicate j 223) /\ Fr [] w wr) (fun l _ _ => (intOf l).toNat)
  case atStart => exact ⟨0, n, by omega, hn.1, congrArg _ (by have := HD.out; omega), h00, Fr.alloc _ _⟩
  case round =>
   obtain ⟨j, m, hj, hm1, rfl, ho, hf⟩ := hrel
   have HJ := Hdq hj
   have hmb : m <= 250 /\ j <= 1 := by omega
   have hsz := hf.size
   have hlen : (List.replicate j (223 : Int)).length <= 2 := by simp; omega
   clear hj
   by_cases hpos : 223 < m
   ·go_wp2_with (at_builtin; refine vY Tryz.underlying78 Tryz.infoInt rfl (.tmp 26) (.tmp 27) rfl rfl rfl ho Y95 hsz ?_)
    intro v' w' h5 h6
    have hf' := Hdq (ul.fr (ul.keep0 ho (Fr.alloc _ _)) (hf.trans (Fr.alloc _ _)) h6 (Nat.le_refl _))
    clear ho hf h6
    go_wp2
    go_roundw
    case rel => exact ⟨j + 1, m - 223, by have := HJ.out; omega, by omega, congrArg _ Y95, by rw [List.replicate_succ']; exact h5, hf'.out⟩
    case measure => simp [intOf]; omega
   ·have he := Hdq (HR.out j m HJ.out hm1 Y95)
    go_wp2_with (at_builtin; refine vY Tryz.underlying78 Tryz.infoInt rfl (.tmp 31) (.tmp 33) rfl rfl rfl ho Y95 hsz ?_)
    intro v' w' h5 h6
    have hf' := Hdq (ul.fr (ul.keep0 ho (Fr.alloc _ _)) (hf.trans (Fr.alloc _ _)) h6 (Nat.le_refl _))
    clear ho hf h6
    go_wp2
    go_ret2
    exact ⟨_, rfl, by rw [<- he.out]; exact h5, hf'.out⟩
theorem KU (L : List Nat) (E : Nat -> Addr) (B : Nat) (w : World) (hE : za L E B w) (h8 : 8 ∈ L) (size : Int) (h : size < 0 ∨ 2000 < size) :
  Calls Tryz.prog 152 #[.int .i64 size] w fun e w' => e = .returned (.tuple #[.slice none 0 0, yP E 8]) /\ Fr [] w w' := by
 have hc := hE.cell 8 h8
 simp only [gOf, List.getD_eq_getElem?_getD, List.getElem?_cons_zero, List.getElem?_cons_succ, Option.getD_some] at hc
 rw [vI E 8 qe]
 clear hE
 rcases h with h | h
 all_goals
  go_enter Tryz.func152, Tryz.ntmps152
  go_wp2
  go_quiet (fail)
  go_wp2
  go_ret2
  exact ⟨rfl, Fr.of_heap rfl rfl rfl rfl⟩
end Go.Proofs.YtnafknkchbfpaaaGreatDoor
