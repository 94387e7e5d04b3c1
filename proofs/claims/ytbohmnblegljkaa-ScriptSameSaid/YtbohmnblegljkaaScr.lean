import Derived.Test.YtbohmnblegljkaaRows
import Derived.Test.YtbohmnblegljkaaPo
import Derived.Test.YtbohmnblegljkaaG
import Derived.Test.YtbohmnblegljkaaPl
import Derived.ProofKit
import Derived.Deep.QuietTactic
import Derived.BigQuiet
import Derived.WalkLawsBesides
import Derived.WalkSpells
namespace Go.Proofs.Ytbohmnblegljkaa
open Go.RowKit Go.Bl
set_option linter.unusedVariables false

theorem Try.infoByte : (Try.prog.info? 5).map (fun i => (i.zero, i.size, i.bytes)) = some (some (.int .u8 0), 1, 1) := by kernel_rfl

set_option maxHeartbeats 400000 in
theorem clone_any (A : Nat → Prop) (w : World) (v : Value) (xs : List UInt8) (hb : Bs A w v xs) (hl : xs.length ≤ 140737488351232) :
   Calls Try.prog 23 #[v] w fun e w' => ∃ v', e = .returned v' ∧ OwnB 5 w.heap.size w' v' xs ∧ Fr [] w w' := by
  obtain ⟨a, cap, rfl, h2, h3, h4⟩ := hb
  cases a with
  | none =>
    have hx : xs = [] := by
      rcases h4 with h | ⟨b, off, c, e, fz, h, _⟩
      · simpa using h
      · cases h
    subst hx
    have hn : ∀ w, (binOp .eql 22 (.slice none 0 cap) (.slice none 0 0)).run Try.prog w = .ok (.bool true) w := fun w => @Lib.run_eql_slice_nil Try.prog w 22 5 none 0 cap 0 0 Try.underlying22
    go_enter Try.func23, Try.ntmps23
    go_wp2
    go_ret
    exact ⟨_, rfl, OwnB.nil _ _ _, Fr.refl _ _⟩
  | some ad =>
    have hn : ∀ w, (binOp .eql 22 (.slice (some ad) xs.length cap) (.slice none 0 0)).run Try.prog w = .ok (.bool false) w := fun w => @Lib.run_eql_slice_nil Try.prog w 22 5 (some ad) _ cap 0 0 Try.underlying22
    have h0 := OwnB.empty 5 w.heap.size w (Nat.le_refl _)
    go_enter Try.func23, Try.ntmps23
    go_wp2_with (at_builtin; refine wpl_append_bs (A := A) (ys := xs) (base := w.heap.size) Try.underlying22 Try.infoByte rfl (.tmp 5) (.tmp 6) rfl rfl rfl h0 (Bs.keep ⟨some ad, cap, rfl, h2, h3, h4⟩ (Fr.alloc (S := []) _ _) (by simp)) ?hl ?hb ?_)
    case hl => simp; omega
    case hb => simp
    intro v' w' h5 h6
    go_wp2
    go_ret
    exact ⟨_, rfl, h5, h0.fr (Fr.alloc _ _) h6 (Nat.le_refl _)⟩

/-- a reader over bytes -/
def Rd (A : Nat → Prop) (w : World) (rb : Nat) (xs : List UInt8) : Prop := A rb ∧ ∃ sv, w.heap[rb]? = some (.cells #[sv] 48 (0, 0)) ∧ Bs A w sv xs
theorem Rd.keep {A : Nat → Prop} {w w' : World} {rb : Nat} {xs : List UInt8} {S : List Nat} (h : Rd A w rb xs) (hf : Fr S w w') (hS : ∀ b ∈ S, A b) (hn : rb ∉ S) : Rd A w' rb xs := by
  obtain ⟨h1, sv, h2, h3⟩ := h
  exact ⟨h1, sv, hf.keep h2 hn, h3.keep hf hS⟩
theorem Rd.mono {A A' : Nat → Prop} {w : World} {rb : Nat} {xs : List UInt8} (h : Rd A w rb xs) (hA : ∀ b, A' b → A b ∨ w.heap.size ≤ b) (hr : A' rb) : Rd A' w rb xs := by
  obtain ⟨h1, sv, h2, h3⟩ := h
  exact ⟨hr, sv, h2, h3.mono (Fr.refl [] w) (by simp) hA⟩
theorem Rd.lt {A : Nat → Prop} {w : World} {rb : Nat} {xs : List UInt8} (h : Rd A w rb xs) : rb < w.heap.size := by
  obtain ⟨h1, sv, h2, h3⟩ := h
  exact lt_of_heap h2
theorem Rd.set {A : Nat → Prop} {w : World} {rb : Nat} {xs : List UInt8} {c : Value} {sv : Value} (hA : A rb) (h : w.heap[rb]? = some (.cells #[c] 48 (0, 0))) (hb : Bs A w sv xs) : Rd A (w.setCell ⟨rb, 0, none⟩ sv) rb xs :=
  ⟨hA, sv, by rw [setCell_block h]; rfl, hb.keep (Fr.setCell (S := [rb]) _ _ _ (by simp)) (by simpa using hA)⟩

set_option maxHeartbeats 400000 in
theorem take_any (A : Nat → Prop) (w : World) (rb : Nat) (xs : List UInt8) (k : Int) (hr : Rd A w rb xs) (hk : 0 ≤ k) (hk' : k ≤ 140737488351232) (hn : xs.length ≤ 140737488351232) :
   Calls Try.prog 21 #[.pointer (some ⟨rb, 0, none⟩), .int .i64 k] w fun e w' => ∃ v, e = .returned v ∧ OwnB 5 w.heap.size w' v (xs.take k.toNat) ∧ Rd A w' rb (xs.drop k.toNat) ∧ Fr [rb] w w' := by
  obtain ⟨hAr, sv, hc, hb⟩ := hr
  obtain ⟨a, cap, rfl, h2, h3, h4⟩ := id hb
  have hrb := lt_of_heap hc
  obtain ⟨n, hnx⟩ : ∃ n, xs.length = n := ⟨_, rfl⟩
  obtain ⟨m, hm⟩ : ∃ m, m = min k.toNat n := ⟨_, rfl⟩
  have e1 : xs.take k.toNat = xs.take m := by rw [hm, ← hnx]; rcases Nat.le_total k.toNat xs.length with h | h <;> simp [Nat.min_eq_left, Nat.min_eq_right, h, List.take_of_length_le]
  have e2 : xs.drop k.toNat = xs.drop m := by rw [hm, ← hnx]; rcases Nat.le_total k.toNat xs.length with h | h <;> simp [Nat.min_eq_left, Nat.min_eq_right, h, List.drop_of_length_le]
  rw [e1, e2]
  rw [hnx] at hc hb h2 hn
  have hmx : m ≤ n := by omega
  have hl : (xs.take m).length = m := by simp; omega
  have hmc : m ≤ cap := by omega
  have hmin : k ≤ n ∧ (m : Int) = k ∨ (n : Int) < k ∧ m = n := by omega
  have hcl := Lib.hid (fun w' hb => clone_any A w' (.slice a m cap) (xs.take m) hb (by rw [hl]; omega))
  have hcut := Lib.hid (hb.cut m hmx)
  clear hm e1 e2 hl hnx h4
  rcases hmin with ⟨g1, g2⟩ | ⟨g1, g2⟩
  all_goals subst g2
  all_goals
    have hc0 := cell_of_one hc
    have hf0 := free_of_one hc
    go_enter Try.func21, Try.ntmps21
    go_wp2_with fail
    refine (hcl.out _ (hb.take _ hmx)).mono ?_; rintro e w1 ⟨v, rfl, ho, hf⟩
    have hc1 := hf.keep hc (by simp)
    have hc0' := cell_of_one hc1
    have hf0' := free_of_one hc1
    clear hc0 hf0
    go_wp2
    all_goals go_ret
    all_goals refine ⟨_, rfl, ho.keep (Fr.setCell (S := [rb]) _ _ _ (by simp)) (by simpa using hrb), Rd.set hAr hc1 ?_, (hf.weak).trans (Fr.setCell _ _ _ (by simp))⟩
    all_goals
      have h' := hcut.out.keep hf (by simp)
      simpa [*] using h'

set_option maxHeartbeats 1000000 in
theorem long_any (A : Nat → Prop) (w : World) (rb : Nat) (xs : List UInt8) (k : Nat) (hr : Rd A w rb xs) (hk : 1 ≤ k) (hk' : k ≤ 8) (hn : xs.length ≤ 140737488351232) :
   Calls Try.prog 20 #[.pointer (some ⟨rb, 0, none⟩), .int .i64 k] w fun e w' => e = .returned (.int .u64 (num8 (padTo k xs))) ∧ Rd A w' rb (xs.drop k) ∧ Fr [rb] w w' := by
  have hrb := hr.lt
  have htk := take_any (fun b => A b ∨ w.heap.size ≤ b) w rb xs k (hr.mono (fun b h => h) (.inl hr.1)) (by omega) (by omega) hn
  simp only [Int.toNat_natCast] at htk
  have HT := Lib.hid htk
  clear htk
  have hlt : (xs.take k).length ≤ k := by simp; omega
  go_enter Try.func20, Try.ntmps20
  go_wp2_with fail
  refine HT.out.mono ?_; rintro e w1 ⟨v, rfl, ho, hr1, hf⟩
  go_wp2_with (refine wpl_append_zeros_bs (kn := .i64) Try.underlying22 Try.underlying3 Try.infoByte rfl (.tmp 11) (.tmp 12) rfl rfl rfl rfl ho ?hl ?hb ?_)
  case hl => omega
  case hb => exact hf.size
  intro v' w2 ho2 hg
  have hf2 : Fr [rb] w w2 := ho.fr hf hg (Nat.le_refl _)
  have hfB : Fr v.ownBlock.toList w1 w2 := Fr.grown hg (by simp)
  have hr2 := Lib.hid ((hr1.keep hfB (fun b hb => .inr (ho.blk hb)) (fun hm => by have := ho.blk hm; omega)).mono (A' := A) (fun b h => .inl (.inl h)) hr.1)
  have hll : (xs.take k ++ List.replicate k 0).length = (xs.take k).length + k := by simp
  obtain ⟨g, cap, rfl, hg1, hg2, hg3, hcell⟩ := ho2.shape (by omega)
  obtain ⟨n, hn1⟩ : ∃ n, (xs.take k ++ List.replicate k 0).length = n := ⟨_, rfl⟩
  have hc : ∀ j, j < k → w2.cell? ⟨g, j, none⟩ = some (.int .u8 ((padTo k xs).getD j 0).toNat) := by
    intro j hj
    rw [hcell j (by omega)]
    unfold padTo
    simp only [List.getD_eq_getElem?_getD, List.getElem?_take, if_pos hj]
  have hpl := padTo_length k xs
  rw [hn1] at hg2 hll ⊢
  unfold maxLen at hg3
  have hkn : k ≤ n := by omega
  have HF := Lib.hid hf2
  obtain ⟨l, HL⟩ : ∃ l, Hid (l = padTo k xs) := ⟨_, rfl⟩
  rw [← HL.out] at hc hpl
  have HP := Lib.hid hpl
  clear hcell hn1 hll hpl hf2 hfB hg ho2 ho hr1 hf hr hlt hn
  go_wp2
  go_loop [6, 18] (fun n i => ∃ j : Nat, j ≤ k ∧ i = .int .i64 j ∧ n = .int .u64 (num8 (l.take j))) (fun _ i => k - (intOf i).toNat)
  case atStart => exact ⟨0, by omega, rfl, rfl⟩
  case round =>
    obtain ⟨j, hj, rfl, rfl⟩ := hrel
    by_cases hjk : j < k
    · have hcj := hc j hjk
      have hb := (l.getD j 0).toNat_lt
      go_wp2
      go_round
      case rel => exact ⟨j + 1, by omega, by go_num, congrArg _ (num_step l j (by rw [HP.out]; exact hjk) (by omega))⟩
      case measure => simp [intOf]; omega
    · obtain rfl : j = k := by omega
      go_wp2
      go_ret
      refine ⟨?_, hr2.out, HF.out⟩
      rw [← HL.out, List.take_of_length_le (by rw [HP.out]; exact Nat.le_refl _)]
      rfl

set_option maxHeartbeats 400000 in
theorem number_any (A : Nat → Prop) (w : World) (rb : Nat) (xs : List UInt8) (k : Nat) (hr : Rd A w rb xs) (hk : 1 ≤ k) (hk' : k ≤ 2) (hn : xs.length ≤ 140737488351232) :
   Calls Try.prog 19 #[.pointer (some ⟨rb, 0, none⟩), .int .i64 k] w fun e w' => e = .returned (.int .i64 (num8 (padTo k xs))) ∧ Rd A w' rb (xs.drop k) ∧ Fr [rb] w w' := by
  have hlt : num8 (padTo k xs) < 65536 := by
    have h1 := num8_lt k (padTo k xs) (padTo_length k xs)
    have h2 : 256 ^ k ≤ 256 ^ 2 := Nat.pow_le_pow_right (by decide) hk'
    omega
  have HT := Lib.hid (long_any A w rb xs k hr hk (by omega) hn)
  obtain ⟨q, HQ⟩ : ∃ q, Hid (num8 (padTo k xs) = q) := ⟨_, rfl⟩
  rw [HQ.out] at HT hlt ⊢
  go_enter Try.func19, Try.ntmps19
  go_wp2_with fail
  refine HT.out.mono ?_; rintro e w1 ⟨rfl, hr1, hf⟩
  have HR := Lib.hid hr1
  have HF := Lib.hid hf
  clear hr1 hf
  go_wp2
  go_ret
  exact ⟨by simp, HR.out, HF.out⟩
end Go.Proofs.Ytbohmnblegljkaa
