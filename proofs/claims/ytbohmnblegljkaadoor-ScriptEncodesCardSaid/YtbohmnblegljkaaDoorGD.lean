/-
  Layer 31: numbers as bytes, one by one.
  Layer 31: numbers as bytes of a row.
  Layer 31: label.Number.
  slices.Concat of lists of bytes.
-/
import Derived.Test.YtbohmnblegljkaaDoorOf
import Derived.Deep.OwnRows
namespace Go.Proofs.YtbohmnblegljkaaDoor
open Go.RowKit Go.Bl
set_option linter.unusedVariables false

/-- a number's lowest byte -/
def b8 (n : Int) : UInt8 := UInt8.ofNat (n % 256).toNat
theorem b8_wrap (n : Int) : (IntKind.u8.wrap n) = ((b8 n).toNat : Int) := by
  have h : (b8 n).toNat = (n % 256).toNat := by
    unfold b8
    rw [UInt8.toNat_ofNat']
    omega
  rw [h]
  have : IntKind.u8.wrap n = n % 256 := by
    simp [IntKind.wrap, IntKind.signed, IntKind.bits]
  rw [this]
  omega
theorem b8_mod (n : Int) : ((b8 n).toNat : Int) = n % 256 := by
  rw [← b8_wrap]
  simp [IntKind.wrap, IntKind.signed, IntKind.bits]
def be2 (n : Int) : List UInt8 := [b8 (n / 256), b8 n]

theorem rest_any (w : World) (n by_ : Int) (h : by_ = 256 ∨ by_ = 65536) :
    Calls Tryd.prog 53 #[.int .i64 n, .int .i64 by_] w fun e w' => e = .returned (.int .i64 (n % by_)) ∧ Fr [] w w' := by
  have h1 : n.tmod by_ = if 0 ≤ n ∨ by_ ∣ n then n % by_ else n % by_ - by_ := by
    rw [Int.tmod_eq_emod]
    rcases h with rfl | rfl <;> (split <;> rename_i hh <;> simp_all)
  have h0 : 0 ≤ n % by_ ∧ n % by_ < by_ := by
    rcases h with rfl | rfl <;> omega
  have hb : by_ ≠ 0 := by rcases h with rfl | rfl <;> decide
  have h2 : (n.tmod by_ + by_).tmod by_ = n % by_ := by
    rw [h1]
    split
    · rw [Int.tmod_eq_emod_of_nonneg (by omega), Int.add_emod_right, Int.emod_emod_of_dvd _ (Int.dvd_refl _)]
    · rw [Int.sub_add_cancel, Int.tmod_eq_emod_of_nonneg h0.1, Int.emod_emod_of_dvd _ (Int.dvd_refl _)]
  have h3 : wrap64 (n.tmod by_) = n.tmod by_ := by
    unfold wrap64
    rw [h1]
    rcases h with rfl | rfl <;> split <;> omega
  have h4 : wrap64 (n.tmod by_ + by_) = n.tmod by_ + by_ := by
    unfold wrap64
    rw [h1]
    rcases h with rfl | rfl <;> split <;> omega
  have h5 : wrap64 (n % by_) = n % by_ := by
    unfold wrap64
    rcases h with rfl | rfl <;> omega
  go_enter Tryd.func53, Tryd.ntmps53
  go_wp2
  all_goals (go_ret; exact ⟨rfl, Fr.refl _ _⟩)
theorem pair_any (w : World) (n : Int) :
    Calls Tryd.prog 69 #[.int .i64 n] w fun e w' => ∃ u, e = .returned u ∧ OwnB 5 w.heap.size w' u (be2 n) ∧ Fr [] w w' := by
  go_enter Tryd.func69, Tryd.ntmps69
  go_wp2
  go_ret
  refine ⟨_, rfl, ⟨by simp [be2], .inr ⟨w.heap.size, 2, _, rfl, Nat.le_refl _, At.new rfl, Nat.le_refl _, by simp [maxLen], rfl, ?_⟩⟩, Fr.alloc _ _⟩
  simp [be2, u8v, b8_mod]
end Go.Proofs.YtbohmnblegljkaaDoor
namespace Go.Proofs.YtbohmnblegljkaaDoor
open Go.RowKit Go.Bl
set_option linter.unusedVariables false

/-- a number as k bytes -/
def beK (k : Nat) (n : Int) : List UInt8 := (List.range k).map fun m => b8 (n / (256 ^ (k - 1 - m) : Nat))
theorem beK_two (n : Int) : beK 2 n = be2 n := by simp [beK, be2, List.range_succ]
theorem beK_len (k : Nat) (n : Int) : (beK k n).length = k := by simp [beK]
/-- quotients of a number as uint64, byte by byte -/
theorem u64_quo (n : Int) (e : Nat) (he : e ≤ 7) : (n % 18446744073709551616 / (256 ^ e : Nat)) % 256 = (n / (256 ^ e : Nat)) % 256 := by
  have : e = 0 ∨ e = 1 ∨ e = 2 ∨ e = 3 ∨ e = 4 ∨ e = 5 ∨ e = 6 ∨ e = 7 := by omega
  rcases this with rfl | rfl | rfl | rfl | rfl | rfl | rfl | rfl <;> omega
theorem quo_step (X : Int) (e : Nat) : X / (256 ^ e : Nat) / 256 = X / (256 ^ (e + 1) : Nat) := by
  rw [Int.ediv_ediv_of_nonneg (by exact Int.natCast_nonneg _), Nat.pow_succ]
  congr 1

set_option maxRecDepth 100000 in
set_option maxHeartbeats 4000000 in
theorem put_any (w : World) (n : Int) (k : Nat) (hk : 1 ≤ k) (hk' : k ≤ 8) :
    Calls Tryd.prog 50 #[.int .i64 n, .int .i64 k] w fun e w' => ∃ u, e = .returned u ∧ OwnB 5 w.heap.size w' u (beK k n) ∧ Fr [] w w' := by
  obtain ⟨i, hi, hz, hsz, hby⟩ := info_bytes Tryd.infoByte
  obtain ⟨X, hX⟩ : ∃ X : Int, n % 18446744073709551616 = X := ⟨_, rfl⟩
  have hX0 : 0 ≤ X ∧ X < 18446744073709551616 := by omega
  have HX := Lib.hid hX
  clear hX
  have hA : At (w.alloc (.cells (madeCells #[.int .u8 0] k) 5)) w.heap.size (.cells (madeCells #[.int .u8 0] k) 5) := At.new rfl
  have hcs : (madeCells #[.int .u8 0] k).size = k := by simp [madeCells]
  have hf0 : Fr [] w (w.alloc (.cells (madeCells #[.int .u8 0] k) 5)) := Fr.alloc _ _
  obtain ⟨c0, hc0⟩ : ∃ c, madeCells #[.int .u8 0] k = c := ⟨_, rfl⟩
  rw [hc0] at hA hcs hf0
  have HC := Lib.hid hc0
  have HA := Lib.hid hA
  have HF := Lib.hid hf0
  clear hA hf0 hc0
  go_enter Tryd.func50, Tryd.ntmps50
  go_wp2_with (refine wpList_make_row _ rfl (.tmp 8) (.tmp 8) 59 rfl 5 i (.int .u8 0) Tryd.underlying59 hi hz hsz rfl .i64 .i64 k rfl rfl (by rw [hby]; omega) (by omega) ?_)
  go_loopw [6, 7] (fun x i wr => ∃ j : Nat, j ≤ k ∧ i = .int .i64 ((j : Int) - 1) ∧ x = .int .u64 (X / (256 ^ (k - j) : Nat)) ∧ ∃ c : Array Value, c.size = k ∧ Hid (At wr w.heap.size (.cells c 5)) ∧ Hid (∀ m, j ≤ m → m < k → c[m]? = some (.int .u8 ((X / (256 ^ (k - 1 - m) : Nat)) % 256))) ∧ Hid (Fr [] w wr)) (fun _ i _ => (intOf i + 1).toNat)
  case atStart =>
    refine ⟨k, Nat.le_refl _, rfl, ?_, c0, hcs, ?_, fun m h1 h2 => absurd h1 (by omega), ?_⟩
    · rw [IntKind.wrap_u64, HX.out]
      simp
    · rw [HC.out]; exact HA.out
    · rw [HC.out]; exact HF.out
  case round =>
    obtain ⟨j, hj, rfl, rfl, c, hc, HA, HM, HF⟩ := hrel
    by_cases h0 : j = 0
    · subst h0
      go_wp2
      go_ret
      refine ⟨_, rfl, ?_, HF.out⟩
      unfold OwnB
      rw [beK_len]
      refine ⟨by simp [beK], .inr ⟨w.heap.size, k, c, rfl, Nat.le_refl _, HA.out, Nat.le_refl _, by simp only [maxLen]; omega, by omega, ?_⟩⟩
      rw [Nat.mul_one, List.take_of_length_le (by simp [hc])]
      apply List.ext_getElem?
      intro m
      rcases Nat.lt_or_ge m k with hm | hm
      · rw [Array.getElem?_toList, HM.out m (by omega) hm]
        simp only [beK, List.map_map, List.getElem?_map, List.getElem?_range hm, Option.map_some, Function.comp_apply, u8v, Option.some.injEq, Value.int.injEq, true_and]
        rw [b8_mod, ← HX.out, u64_quo n _ (by omega)]
      · rw [List.getElem?_eq_none (by simp [hc]; omega), List.getElem?_eq_none (by simp [beK]; omega)]
    · obtain ⟨i', rfl⟩ : ∃ i', j = i' + 1 := ⟨j - 1, by omega⟩
      have hq0 : 0 ≤ X / (256 ^ (k - (i' + 1)) : Nat) := Int.ediv_nonneg hX0.1 (Int.natCast_nonneg _)
      have hq1 : X / (256 ^ (k - (i' + 1)) : Nat) ≤ X := Int.ediv_le_self _ hX0.1
      have hst := quo_step X (k - (i' + 1))
      rw [show k - (i' + 1) + 1 = k - i' by omega] at hst
      have HE := Lib.hid (show X / (256 ^ (k - 1 - i') : Nat) = X / (256 ^ (k - (i' + 1)) : Nat) by rw [show k - 1 - i' = k - (i' + 1) by omega])
      obtain ⟨q, hq⟩ : ∃ q : Int, X / (256 ^ (k - (i' + 1)) : Nat) = q := ⟨_, rfl⟩
      rw [hq] at hq0 hq1 hst HE ⊢
      have HST := Lib.hid hst
      have hc1 : wr.cell? ⟨w.heap.size, i', none⟩ = some (c[i']'(by omega)) := by
        rw [cell_of HA.out]
        simp [show i' < c.size by omega]
      have hfz := free_of HA.out i'
      clear hq hst
      have hji : ((i' + 1 : Nat) : Int) - 1 = i' := by omega
      rw [hji]
      go_wp2
      have HA2 := Lib.hid (At.set HA.out i' (.int .u8 (q % 256)))
      have HF2 := Lib.hid (show Fr [] w (wr.setCell ⟨w.heap.size, i', none⟩ (.int .u8 (q % 256))) from Fr.sc HF.out (.inl (Nat.le_refl _)))
      go_roundw
      case rel =>
        refine ⟨i', by omega, rfl, by rw [HST.out], _, by simpa using hc, HA2.out, fun m h1 h2 => ?_, HF2.out⟩
        by_cases hm : m = i'
        · subst hm
          rw [HE.out]
          simp [show m < c.size by omega]
        · rw [Array.getElem?_setIfInBounds_ne (by omega)]
          exact HM.out m (by omega) h2
      case measure => simp [intOf]
end Go.Proofs.YtbohmnblegljkaaDoor
namespace Go.Proofs.YtbohmnblegljkaaDoor
open Go.RowKit Go.Bl
set_option linter.unusedVariables false

theorem b8v (m : Int) : u8v (b8 m) = .int .u8 (m % 256) := by simp [u8v, b8_mod]
theorem bs_one (A : Nat → Prop) (w : World) (m : Int) (hA : ¬ A w.heap.size) : Bs A (w.alloc (.cells #[.int .u8 (m % 256)] 5)) (.slice (some ⟨w.heap.size, 0, none⟩) 1 1) [b8 m] :=
  ⟨_, 1, rfl, by simp, by simp [maxLen], by
    have := Row.of_block (A := A) (heap_alloc_at (w := w) (o := .cells #[.int .u8 (m % 256)] 5) rfl) hA
    simpa [b8v] using this⟩
theorem beK8 (n : Int) : beK 8 n = [b8 (n / 72057594037927936), b8 (n / 281474976710656), b8 (n / 1099511627776), b8 (n / 4294967296), b8 (n / 16777216), b8 (n / 65536), b8 (n / 256), b8 n] := by
  simp [beK, List.range_succ]

set_option maxRecDepth 100000 in
set_option maxHeartbeats 8000000 in
theorem lnumber_any (w : World) (n : Int) :
    Calls Tryd.prog 70 #[.int .i64 n] w fun e w' => ∃ u, e = .returned u ∧ OwnB 5 w.heap.size w' u (beK 8 n) ∧ Fr [] w w' := by
  obtain ⟨L, hL⟩ : ∃ L, beK 8 n = L := ⟨_, rfl⟩
  rw [hL]
  have HL := Lib.hid (hL.symm.trans (beK8 n))
  clear hL
  go_enter Tryd.func70, Tryd.ntmps70
  go_wp2
  go_loopw [3, 4] (fun v i wr => ∃ j : Nat, j ≤ 8 ∧ i = .int .i64 (7 - (j : Int)) ∧ Hid (OwnB 5 w.heap.size wr v (L.take j)) ∧ Hid (Fr [] w wr)) (fun _ i _ => (intOf i + 1).toNat)
  case atStart => exact ⟨0, by omega, rfl, OwnB.nil _ _ _, Fr.refl _ _⟩
  case round =>
    obtain ⟨j, hj, rfl, HO, HF⟩ := hrel
    have hc : j = 0 ∨ j = 1 ∨ j = 2 ∨ j = 3 ∨ j = 4 ∨ j = 5 ∨ j = 6 ∨ j = 7 ∨ j = 8 := by omega
    rcases hc with rfl | rfl | rfl | rfl | rfl | rfl | rfl | rfl | rfl
    rotate_right
    · have h8 : L.take 8 = L := by rw [HL.out]; rfl
      rw [h8] at HO
      go_wp2
      go_ret
      exact ⟨_, rfl, HO.out, HF.out⟩
    all_goals
      obtain ⟨a, cap, hv, -⟩ := HO.out.bs (A := fun _ => False) (by simp)
      have hs := HF.out.size
      clear hv
    · rw [show (7 - ((0 : Nat) : Int)) = 7 from rfl]
      go_wp2_with (at_builtin; refine wpl_append_bs (A := fun _ => False) (ys := [b8 (n / 72057594037927936)]) (base := w.heap.size) Tryd.underlying59 Tryd.infoByte rfl (.tmp 9) (.tmp 15) rfl rfl rfl (HO.out.keep (Fr.alloc (S := []) wr _) (by simp)) (bs_one _ wr _ (by simp)) (by simp <;> omega) (by simp; omega) ?_)
      intro v' w2 h5 h6
      have HO3 := Lib.hid (show OwnB 5 w.heap.size w2 v' (L.take 1) by
        rw [HL.out]
        first
          | exact h5
          | (have h7 := h5
             rw [HL.out] at h7
             exact h7))
      have HF3 := Lib.hid (show Fr [] w w2 from OwnB.fr (HO.out.keep (Fr.alloc (S := []) wr _) (by simp)) (Fr.al HF.out) h6 (Nat.le_refl _))
      clear h5 h6 HO HF
      go_wp2
      go_roundw
      case rel => exact ⟨1, by omega, by simp, HO3.out, HF3.out⟩
      case measure => simp [intOf]
    · rw [show (7 - ((1 : Nat) : Int)) = 6 from rfl]
      go_wp2_with (at_builtin; refine wpl_append_bs (A := fun _ => False) (ys := [b8 (n / 281474976710656)]) (base := w.heap.size) Tryd.underlying59 Tryd.infoByte rfl (.tmp 9) (.tmp 15) rfl rfl rfl (HO.out.keep (Fr.alloc (S := []) wr _) (by simp)) (bs_one _ wr _ (by simp)) (by simp <;> omega) (by simp; omega) ?_)
      intro v' w2 h5 h6
      have HO3 := Lib.hid (show OwnB 5 w.heap.size w2 v' (L.take 2) by
        rw [HL.out]
        first
          | exact h5
          | (have h7 := h5
             rw [HL.out] at h7
             exact h7))
      have HF3 := Lib.hid (show Fr [] w w2 from OwnB.fr (HO.out.keep (Fr.alloc (S := []) wr _) (by simp)) (Fr.al HF.out) h6 (Nat.le_refl _))
      clear h5 h6 HO HF
      go_wp2
      go_roundw
      case rel => exact ⟨2, by omega, by simp, HO3.out, HF3.out⟩
      case measure => simp [intOf]
    · rw [show (7 - ((2 : Nat) : Int)) = 5 from rfl]
      go_wp2_with (at_builtin; refine wpl_append_bs (A := fun _ => False) (ys := [b8 (n / 1099511627776)]) (base := w.heap.size) Tryd.underlying59 Tryd.infoByte rfl (.tmp 9) (.tmp 15) rfl rfl rfl (HO.out.keep (Fr.alloc (S := []) wr _) (by simp)) (bs_one _ wr _ (by simp)) (by simp <;> omega) (by simp; omega) ?_)
      intro v' w2 h5 h6
      have HO3 := Lib.hid (show OwnB 5 w.heap.size w2 v' (L.take 3) by
        rw [HL.out]
        first
          | exact h5
          | (have h7 := h5
             rw [HL.out] at h7
             exact h7))
      have HF3 := Lib.hid (show Fr [] w w2 from OwnB.fr (HO.out.keep (Fr.alloc (S := []) wr _) (by simp)) (Fr.al HF.out) h6 (Nat.le_refl _))
      clear h5 h6 HO HF
      go_wp2
      go_roundw
      case rel => exact ⟨3, by omega, by simp, HO3.out, HF3.out⟩
      case measure => simp [intOf]
    · rw [show (7 - ((3 : Nat) : Int)) = 4 from rfl]
      go_wp2_with (at_builtin; refine wpl_append_bs (A := fun _ => False) (ys := [b8 (n / 4294967296)]) (base := w.heap.size) Tryd.underlying59 Tryd.infoByte rfl (.tmp 9) (.tmp 15) rfl rfl rfl (HO.out.keep (Fr.alloc (S := []) wr _) (by simp)) (bs_one _ wr _ (by simp)) (by simp <;> omega) (by simp; omega) ?_)
      intro v' w2 h5 h6
      have HO3 := Lib.hid (show OwnB 5 w.heap.size w2 v' (L.take 4) by
        rw [HL.out]
        first
          | exact h5
          | (have h7 := h5
             rw [HL.out] at h7
             exact h7))
      have HF3 := Lib.hid (show Fr [] w w2 from OwnB.fr (HO.out.keep (Fr.alloc (S := []) wr _) (by simp)) (Fr.al HF.out) h6 (Nat.le_refl _))
      clear h5 h6 HO HF
      go_wp2
      go_roundw
      case rel => exact ⟨4, by omega, by simp, HO3.out, HF3.out⟩
      case measure => simp [intOf]
    · rw [show (7 - ((4 : Nat) : Int)) = 3 from rfl]
      go_wp2_with (at_builtin; refine wpl_append_bs (A := fun _ => False) (ys := [b8 (n / 16777216)]) (base := w.heap.size) Tryd.underlying59 Tryd.infoByte rfl (.tmp 9) (.tmp 15) rfl rfl rfl (HO.out.keep (Fr.alloc (S := []) wr _) (by simp)) (bs_one _ wr _ (by simp)) (by simp <;> omega) (by simp; omega) ?_)
      intro v' w2 h5 h6
      have HO3 := Lib.hid (show OwnB 5 w.heap.size w2 v' (L.take 5) by
        rw [HL.out]
        first
          | exact h5
          | (have h7 := h5
             rw [HL.out] at h7
             exact h7))
      have HF3 := Lib.hid (show Fr [] w w2 from OwnB.fr (HO.out.keep (Fr.alloc (S := []) wr _) (by simp)) (Fr.al HF.out) h6 (Nat.le_refl _))
      clear h5 h6 HO HF
      go_wp2
      go_roundw
      case rel => exact ⟨5, by omega, by simp, HO3.out, HF3.out⟩
      case measure => simp [intOf]
    · rw [show (7 - ((5 : Nat) : Int)) = 2 from rfl]
      go_wp2_with (at_builtin; refine wpl_append_bs (A := fun _ => False) (ys := [b8 (n / 65536)]) (base := w.heap.size) Tryd.underlying59 Tryd.infoByte rfl (.tmp 9) (.tmp 15) rfl rfl rfl (HO.out.keep (Fr.alloc (S := []) wr _) (by simp)) (bs_one _ wr _ (by simp)) (by simp <;> omega) (by simp; omega) ?_)
      intro v' w2 h5 h6
      have HO3 := Lib.hid (show OwnB 5 w.heap.size w2 v' (L.take 6) by
        rw [HL.out]
        first
          | exact h5
          | (have h7 := h5
             rw [HL.out] at h7
             exact h7))
      have HF3 := Lib.hid (show Fr [] w w2 from OwnB.fr (HO.out.keep (Fr.alloc (S := []) wr _) (by simp)) (Fr.al HF.out) h6 (Nat.le_refl _))
      clear h5 h6 HO HF
      go_wp2
      go_roundw
      case rel => exact ⟨6, by omega, by simp, HO3.out, HF3.out⟩
      case measure => simp [intOf]
    · rw [show (7 - ((6 : Nat) : Int)) = 1 from rfl]
      go_wp2_with (at_builtin; refine wpl_append_bs (A := fun _ => False) (ys := [b8 (n / 256)]) (base := w.heap.size) Tryd.underlying59 Tryd.infoByte rfl (.tmp 9) (.tmp 15) rfl rfl rfl (HO.out.keep (Fr.alloc (S := []) wr _) (by simp)) (bs_one _ wr _ (by simp)) (by simp <;> omega) (by simp; omega) ?_)
      intro v' w2 h5 h6
      have HO3 := Lib.hid (show OwnB 5 w.heap.size w2 v' (L.take 7) by
        rw [HL.out]
        first
          | exact h5
          | (have h7 := h5
             rw [HL.out] at h7
             exact h7))
      have HF3 := Lib.hid (show Fr [] w w2 from OwnB.fr (HO.out.keep (Fr.alloc (S := []) wr _) (by simp)) (Fr.al HF.out) h6 (Nat.le_refl _))
      clear h5 h6 HO HF
      go_wp2
      go_roundw
      case rel => exact ⟨7, by omega, by simp, HO3.out, HF3.out⟩
      case measure => simp [intOf]
    · rw [show (7 - ((7 : Nat) : Int)) = 0 from rfl]
      go_wp2_with (at_builtin; refine wpl_append_bs (A := fun _ => False) (ys := [b8 n]) (base := w.heap.size) Tryd.underlying59 Tryd.infoByte rfl (.tmp 9) (.tmp 15) rfl rfl rfl (HO.out.keep (Fr.alloc (S := []) wr _) (by simp)) (bs_one _ wr _ (by simp)) (by simp <;> omega) (by simp; omega) ?_)
      intro v' w2 h5 h6
      have HO3 := Lib.hid (show OwnB 5 w.heap.size w2 v' (L.take 8) by
        rw [HL.out]
        first
          | exact h5
          | (have h7 := h5
             rw [HL.out] at h7
             exact h7))
      have HF3 := Lib.hid (show Fr [] w w2 from OwnB.fr (HO.out.keep (Fr.alloc (S := []) wr _) (by simp)) (Fr.al HF.out) h6 (Nat.le_refl _))
      clear h5 h6 HO HF
      go_wp2
      go_roundw
      case rel => exact ⟨8, by omega, by simp, HO3.out, HF3.out⟩
      case measure => simp [intOf]
end Go.Proofs.YtbohmnblegljkaaDoor
namespace Go.Proofs.YtbohmnblegljkaaDoor
open Go.RowKit Go.Bl
set_option linter.unusedVariables false

/-- less of what is owned -/
theorem OwnB_cut {e : TypeId} {base : Nat} {w : World} {a : Option Addr} {n cap : Nat} {xs : List UInt8} (h : OwnB e base w (.slice a n cap) xs) (k : Nat) (hk : k ≤ xs.length) : OwnB e base w (.slice a k cap) (xs.take k) := by
  obtain ⟨h1, h2⟩ := h
  unfold OwnB
  rw [List.length_take, Nat.min_eq_left hk]
  refine ⟨by simp [hk], ?_⟩
  rcases h2 with ⟨h2, h3⟩ | ⟨g, cap', cur, h2, h3, h4, h5, h6, h7, h8⟩
  · cases h2
    have : k = 0 := by omega
    subst this
    exact .inl ⟨rfl, rfl⟩
  · cases h2
    refine .inr ⟨g, cap, cur, rfl, h3, h4, by omega, h6, h7, ?_⟩
    rw [List.map_take, ← h8, List.take_take]
    congr 1
    omega

set_option maxRecDepth 100000 in
set_option maxHeartbeats 4000000 in
theorem grow_nil (w : World) (n : Nat) (hn : n ≤ 10000000) :
    Calls Tryd.prog 80 #[.slice none 0 0, .int .i64 n] w fun e w' => ∃ u, e = .returned u ∧ OwnB 5 w.heap.size w' u [] ∧ Fr [] w w' := by
  by_cases h0 : n = 0
  · subst h0
    go_enter Tryd.func80, Tryd.ntmps80
    go_wp2
    go_ret
    exact ⟨_, rfl, OwnB.nil _ _ _, Fr.refl _ _⟩
  · go_enter Tryd.func80, Tryd.ntmps80
    go_wp2_with (refine wpl_append_zeros_bs (kn := .i64) Tryd.underlying59 Tryd.underlying3 Tryd.infoByte rfl (.tmp 20) (.tmp 21) rfl rfl rfl rfl (OwnB.nil _ w.heap.size _) ?hl ?hb ?_)
    case hl => simp; omega
    case hb => exact Nat.le_refl _
    intro v' w1 ho hg
    have HF := Lib.hid (show Fr [] w w1 from OwnB.fr (OwnB.nil 5 w.heap.size w) (Fr.refl [] w) hg (Nat.le_refl _))
    obtain ⟨a, cap, rfl, hc, hm, -⟩ := ho.bs (A := fun _ => False) (by simp)
    rw [List.length_replicate] at ho hc ⊢
    have HO := Lib.hid (OwnB_cut ho 0 (Nat.zero_le _))
    unfold maxLen at hm
    clear ho hg
    go_wp2
    go_ret
    exact ⟨_, rfl, HO.out, HF.out⟩

/-- lists of bytes that can be read -/
def RdL (A : Nat → Prop) (w : World) (v : Value) (ls : List (Value × List UInt8)) : Prop := Vs A w v (ls.map (·.1)) ∧ ∀ x ∈ ls, Bs A w x.1 x.2
def cat (ls : List (Value × List UInt8)) : List UInt8 := ls.flatMap (·.2)
theorem cat_take (ls : List (Value × List UInt8)) (j : Nat) (x : Value × List UInt8) (h : ls[j]? = some x) : cat (ls.take (j + 1)) = cat (ls.take j) ++ x.2 := by
  unfold cat
  rw [List.take_add_one, h]
  simp
theorem cat_le (ls : List (Value × List UInt8)) (j : Nat) : (cat (ls.take j)).length ≤ (cat ls).length := by
  have : cat ls = cat (ls.take j) ++ cat (ls.drop j) := by
    unfold cat
    rw [← List.flatMap_append, List.take_append_drop]
  rw [this]
  simp

set_option maxRecDepth 100000 in
set_option maxHeartbeats 4000000 in
theorem concat_any (A : Nat → Prop) (w : World) (v : Value) (ls : List (Value × List UInt8)) (hr : RdL A w v ls) (hl : ls.length ≤ 100) (hn : (cat ls).length ≤ 4000000) :
    Calls Tryd.prog 68 #[v] w fun e w' => ∃ u, e = .returned u ∧ OwnB 5 w.heap.size w' u (cat ls) ∧ Fr [] w w' := by
  have HR := Lib.hid hr
  obtain ⟨a, cap, rfl, h2, h3, h4⟩ := id hr.1
  simp only [List.length_map] at h2 HR ⊢
  obtain ⟨N, hN⟩ : ∃ N, ls.length = N := ⟨_, rfl⟩
  rw [hN] at h2 hl HR ⊢
  have HN := Lib.hid hN
  have H4 := Lib.hid h4
  have HL := Lib.hid (cat_le ls)
  obtain ⟨S, hS⟩ : ∃ S, (cat ls).length = S := ⟨_, rfl⟩
  have HS := Lib.hid hS
  rw [hS] at hn
  clear hr hN h4 hS
  unfold maxLen at h3
  have HX := Lib.hid (show ∀ j, j < N → ∃ x b off, ls[j]? = some x ∧ a = some ⟨b, off, none⟩ ∧ w.cell? ⟨b, off + j, none⟩ = some x.1 ∧ Bs A w x.1 x.2 from fun j hj => by
    obtain ⟨x, hx⟩ : ∃ x, ls[j]? = some x := ⟨_, List.getElem?_eq_getElem (by have := HN.out; omega)⟩
    obtain ⟨b, off, rfl, -, hc⟩ := H4.out.some_of (by have := HN.out; simp; omega)
    refine ⟨x, b, off, hx, rfl, ?_, HR.out.2 x (List.mem_of_getElem? hx)⟩
    rw [hc j (by have := HN.out; simp; omega)]
    simp [hx])
  clear H4
  go_enter Tryd.func68, Tryd.ntmps68
  go_wp2
  go_loopw [3, 11] (fun s i wr => ∃ j : Nat, j ≤ N ∧ i = .int .i64 j ∧ s = .int .i64 ((cat (ls.take j)).length : Nat) ∧ Hid (wr = w)) (fun _ i _ => N - (intOf i).toNat)
  case atStart => exact ⟨0, by omega, rfl, by simp [cat], rfl⟩
  case round =>
    obtain ⟨j, hj, rfl, rfl, hw⟩ := hrel
    by_cases hjn : j < N
    · obtain ⟨x, b, off, hx, rfl, hc, hb⟩ := HX.out j hjn
      have hct := cat_take ls j x hx
      have hle := HL.out (j + 1)
      rw [hct, List.length_append, HS.out] at hle
      have HCT := Lib.hid hct
      obtain ⟨ba, bc, hxe, -⟩ := id hb
      obtain ⟨xv, xs⟩ := x
      simp only at hxe hb hle hc
      subst hxe
      obtain ⟨L, hL⟩ : ∃ L, (cat (ls.take j)).length = L := ⟨_, rfl⟩
      obtain ⟨M, hM⟩ : ∃ M, xs.length = M := ⟨_, rfl⟩
      rw [hL, hM] at hle
      rw [hL]
      rw [hM] at hc
      have HLM := Lib.hid (And.intro hL hM)
      have hw' := hw.out.symm
      subst hw'
      clear hct hx hb hL hM hw
      go_wp2
      go_roundw
      case rel => exact ⟨j + 1, by omega, by go_num, by rw [HCT.out, List.length_append, HLM.out.1, HLM.out.2]; go_num, by first | exact rfl | exact trivial⟩
      case measure => simp [intOf]; omega
    · obtain rfl : N = j := by omega
      have hta : ls.take N = ls := List.take_of_length_le (by have := HN.out; omega)
      rw [hta, HS.out]
      have hw' := hw.out.symm
      subst hw'
      clear hta hw
      go_wp2_with fail
      refine (grow_nil _ S (by omega)).mono ?_
      rintro e w1 ⟨u, rfl, ho, hf⟩
      have HO := Lib.hid ho
      have HF := Lib.hid hf
      clear ho hf
      go_wp2
      go_loopw [6, 27] (fun o i wr => ∃ j : Nat, j ≤ N ∧ i = .int .i64 j ∧ Hid (OwnB 5 w.heap.size wr o (cat (ls.take j))) ∧ Hid (Fr [] w wr)) (fun _ i _ => N - (intOf i).toNat)
      case atStart => exact ⟨0, by omega, rfl, by simp only [cat, List.take_zero, List.flatMap_nil]; exact HO, HF⟩
      case round =>
        obtain ⟨j, hj, rfl, HO, HF⟩ := hrel
        by_cases hjn : j < N
        · obtain ⟨x, b, off, hx, rfl, hc, hb⟩ := HX.out j hjn
          have hct := cat_take ls j x hx
          have hle := HL.out (j + 1)
          rw [hct, List.length_append, HS.out] at hle
          have HCT := Lib.hid hct
          obtain ⟨ba, bc, hxe, -⟩ := id hb
          obtain ⟨xv, xs⟩ := x
          simp only at hxe hb hle hc
          subst hxe
          have BX := Lib.hid (hb.keep HF.out (by simp))
          have hsz := HF.out.size
          obtain ⟨M, hM⟩ : ∃ M, xs.length = M := ⟨_, rfl⟩
          have hc2 : wr.cell? ⟨b, off + j, none⟩ = some (.slice ba M bc) := by rw [← hM]; exact cell_mono HF.out hc
          rw [hM] at BX
          have HM := Lib.hid hM
          clear hct hx hb hM hc
          go_wp2_with (at_builtin; refine wpl_append_bs (ys := xs) (base := w.heap.size) Tryd.underlying59 Tryd.infoByte rfl (.tmp 31) (.tmp 32) rfl rfl rfl HO.out BX.out (by omega) hsz ?_)
          intro v' w2 h5 h6
          have HO3 := Lib.hid (show OwnB 5 w.heap.size w2 v' (cat (ls.take (j + 1))) by rw [HCT.out]; exact h5)
          have HF3 := Lib.hid (show Fr [] w w2 from OwnB.fr HO.out HF.out h6 (Nat.le_refl _))
          clear h5 h6 HO HF
          go_wp2
          go_roundw
          case rel => exact ⟨j + 1, by omega, by go_num, HO3.out, HF3.out⟩
          case measure => simp [intOf]; omega
        · obtain rfl : j = N := by omega
          have hta : ls.take j = ls := List.take_of_length_le (by have := HN.out; omega)
          rw [hta] at HO
          clear hta
          go_wp2
          go_ret
          exact ⟨_, rfl, HO.out, HF.out⟩
end Go.Proofs.YtbohmnblegljkaaDoor
