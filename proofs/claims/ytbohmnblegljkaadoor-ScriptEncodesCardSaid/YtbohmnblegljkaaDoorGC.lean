/-
  
  Layer 31: acts; reading them.
  Layer 31: an act is read.
-/
import Derived.Test.YtbohmnblegljkaaDoorRows
import Derived.Test.YtbohmnblegljkaaDoorGB
import Derived.Test.YtbohmnblegljkaaDoorGA
import Derived.ProofKit
import Derived.Deep.QuietTactic
import Derived.BigQuiet
import Derived.WalkLawsBesides
import Derived.WalkSpells
import Derived.Laws.IdiomStrings
import Derived.Lib.BufferRead
namespace Go.Proofs.YtbohmnblegljkaaDoor
open Go.RowKit Go.Bl
set_option linter.unusedVariables false

theorem Tryd.infoByte : (Tryd.prog.info? 5).map (fun i => (i.zero, i.size, i.bytes)) = some (some (.int .u8 0), 1, 1) := by kernel_rfl

set_option maxHeartbeats 400000 in
theorem clone_any (A : Nat → Prop) (w : World) (v : Value) (xs : List UInt8) (hb : Bs A w v xs) (hl : xs.length ≤ 140737488351232) :
   Calls Tryd.prog 55 #[v] w fun e w' => ∃ v', e = .returned v' ∧ OwnB 5 w.heap.size w' v' xs ∧ Fr [] w w' := by
  obtain ⟨a, cap, rfl, h2, h3, h4⟩ := hb
  cases a with
  | none =>
    have hx : xs = [] := by
      rcases h4 with h | ⟨b, off, c, e, fz, h, _⟩
      · simpa using h
      · cases h
    subst hx
    have hn : ∀ w, (binOp .eql 59 (.slice none 0 cap) (.slice none 0 0)).run Tryd.prog w = .ok (.bool true) w := fun w => @Lib.run_eql_slice_nil Tryd.prog w 59 5 none 0 cap 0 0 Tryd.underlying59
    go_enter Tryd.func55, Tryd.ntmps55
    go_wp2
    go_ret
    exact ⟨_, rfl, OwnB.nil _ _ _, Fr.refl _ _⟩
  | some ad =>
    have hn : ∀ w, (binOp .eql 59 (.slice (some ad) xs.length cap) (.slice none 0 0)).run Tryd.prog w = .ok (.bool false) w := fun w => @Lib.run_eql_slice_nil Tryd.prog w 59 5 (some ad) _ cap 0 0 Tryd.underlying59
    have h0 := OwnB.empty 5 w.heap.size w (Nat.le_refl _)
    go_enter Tryd.func55, Tryd.ntmps55
    go_wp2_with (at_builtin; refine wpl_append_bs (A := A) (ys := xs) (base := w.heap.size) Tryd.underlying59 Tryd.infoByte rfl (.tmp 5) (.tmp 6) rfl rfl rfl h0 (Bs.keep ⟨some ad, cap, rfl, h2, h3, h4⟩ (Fr.alloc (S := []) _ _) (by simp)) ?hl ?hb ?_)
    case hl => simp; omega
    case hb => simp
    intro v' w' h5 h6
    go_wp2
    go_ret
    exact ⟨_, rfl, h5, h0.fr (Fr.alloc _ _) h6 (Nat.le_refl _)⟩

/-- a reader over bytes -/
def Rd (A : Nat → Prop) (w : World) (rb : Nat) (xs : List UInt8) : Prop := A rb ∧ ∃ sv, w.heap[rb]? = some (.cells #[sv] 104 (0, 0)) ∧ Bs A w sv xs
theorem Rd.keep {A : Nat → Prop} {w w' : World} {rb : Nat} {xs : List UInt8} {S : List Nat} (h : Rd A w rb xs) (hf : Fr S w w') (hS : ∀ b ∈ S, A b) (hn : rb ∉ S) : Rd A w' rb xs := by
  obtain ⟨h1, sv, h2, h3⟩ := h
  exact ⟨h1, sv, hf.keep h2 hn, h3.keep hf hS⟩
theorem Rd.mono {A A' : Nat → Prop} {w : World} {rb : Nat} {xs : List UInt8} (h : Rd A w rb xs) (hA : ∀ b, A' b → A b ∨ w.heap.size ≤ b) (hr : A' rb) : Rd A' w rb xs := by
  obtain ⟨h1, sv, h2, h3⟩ := h
  exact ⟨hr, sv, h2, h3.mono (Fr.refl [] w) (by simp) hA⟩
theorem Rd.lt {A : Nat → Prop} {w : World} {rb : Nat} {xs : List UInt8} (h : Rd A w rb xs) : rb < w.heap.size := by
  obtain ⟨h1, sv, h2, h3⟩ := h
  exact lt_of_heap h2
theorem Rd.set {A : Nat → Prop} {w : World} {rb : Nat} {xs : List UInt8} {c : Value} {sv : Value} (hA : A rb) (h : w.heap[rb]? = some (.cells #[c] 104 (0, 0))) (hb : Bs A w sv xs) : Rd A (w.setCell ⟨rb, 0, none⟩ sv) rb xs :=
  ⟨hA, sv, by rw [setCell_block h]; rfl, hb.keep (Fr.setCell (S := [rb]) _ _ _ (by simp)) (by simpa using hA)⟩

set_option maxHeartbeats 400000 in
theorem take_any (A : Nat → Prop) (w : World) (rb : Nat) (xs : List UInt8) (k : Int) (hr : Rd A w rb xs) (hk : 0 ≤ k) (hk' : k ≤ 140737488351232) (hn : xs.length ≤ 140737488351232) :
   Calls Tryd.prog 74 #[.pointer (some ⟨rb, 0, none⟩), .int .i64 k] w fun e w' => ∃ v, e = .returned v ∧ OwnB 5 w.heap.size w' v (xs.take k.toNat) ∧ Rd A w' rb (xs.drop k.toNat) ∧ Fr [rb] w w' := by
  obtain ⟨hAr, sv, hc, hb⟩ := hr
  obtain ⟨a, cap, rfl, h2, h3, h4⟩ := id hb
  have hrb := lt_of_heap hc
  obtain ⟨n, hnx⟩ : ∃ n, xs.length = n := ⟨_, rfl⟩
  obtain ⟨m, hm⟩ : ∃ m, m = min k.toNat n := ⟨_, rfl⟩
  have e1 : xs.take k.toNat = xs.take m := by rw [hm, ← hnx]; rcases Nat.le_total k.toNat xs.length with h | h <;> simp [Nat.min_eq_left, Nat.min_eq_right, h, List.take_of_length_le]
  have e2 : xs.drop k.toNat = xs.drop m := by rw [hm, ← hnx]; rcases Nat.le_total k.toNat xs.length with h | h <;> simp [Nat.min_eq_left, Nat.min_eq_right, h, List.drop_of_length_le]
  rw [e1, e2]
  rw [hnx] at hc hb h2 hn
  have hmx : m ≤ n := by omega
  have hl : (xs.take m).length = m := by simp; omega
  have hmc : m ≤ cap := by omega
  have hmin : k ≤ n ∧ (m : Int) = k ∨ (n : Int) < k ∧ m = n := by omega
  have hcl := Lib.hid (fun w' hb => clone_any A w' (.slice a m cap) (xs.take m) hb (by rw [hl]; omega))
  have hcut := Lib.hid (hb.cut m hmx)
  clear hm e1 e2 hl hnx h4
  rcases hmin with ⟨g1, g2⟩ | ⟨g1, g2⟩
  all_goals subst g2
  all_goals
    have hc0 := cell_of_one hc
    have hf0 := free_of_one hc
    go_enter Tryd.func74, Tryd.ntmps74
    go_wp2_with fail
    refine (hcl.out _ (hb.take _ hmx)).mono ?_; rintro e w1 ⟨v, rfl, ho, hf⟩
    have hc1 := hf.keep hc (by simp)
    have hc0' := cell_of_one hc1
    have hf0' := free_of_one hc1
    clear hc0 hf0
    go_wp2
    all_goals go_ret
    all_goals refine ⟨_, rfl, ho.keep (Fr.setCell (S := [rb]) _ _ _ (by simp)) (by simpa using hrb), Rd.set hAr hc1 ?_, (hf.weak).trans (Fr.setCell _ _ _ (by simp))⟩
    all_goals
      have h' := hcut.out.keep hf (by simp)
      simpa [*] using h'

set_option maxHeartbeats 1000000 in
theorem long_any (A : Nat → Prop) (w : World) (rb : Nat) (xs : List UInt8) (k : Nat) (hr : Rd A w rb xs) (hk : 1 ≤ k) (hk' : k ≤ 8) (hn : xs.length ≤ 140737488351232) :
   Calls Tryd.prog 73 #[.pointer (some ⟨rb, 0, none⟩), .int .i64 k] w fun e w' => e = .returned (.int .u64 (num8 (padTo k xs))) ∧ Rd A w' rb (xs.drop k) ∧ Fr [rb] w w' := by
  have hrb := hr.lt
  have htk := take_any (fun b => A b ∨ w.heap.size ≤ b) w rb xs k (hr.mono (fun b h => h) (.inl hr.1)) (by omega) (by omega) hn
  simp only [Int.toNat_natCast] at htk
  have HT := Lib.hid htk
  clear htk
  have hlt : (xs.take k).length ≤ k := by simp; omega
  go_enter Tryd.func73, Tryd.ntmps73
  go_wp2_with fail
  refine HT.out.mono ?_; rintro e w1 ⟨v, rfl, ho, hr1, hf⟩
  go_wp2_with (refine wpl_append_zeros_bs (kn := .i64) Tryd.underlying59 Tryd.underlying3 Tryd.infoByte rfl (.tmp 11) (.tmp 12) rfl rfl rfl rfl ho ?hl ?hb ?_)
  case hl => omega
  case hb => exact hf.size
  intro v' w2 ho2 hg
  have hf2 : Fr [rb] w w2 := ho.fr hf hg (Nat.le_refl _)
  have hfB : Fr v.ownBlock.toList w1 w2 := Fr.grown hg (by simp)
  have hr2 := Lib.hid ((hr1.keep hfB (fun b hb => .inr (ho.blk hb)) (fun hm => by have := ho.blk hm; omega)).mono (A' := A) (fun b h => .inl (.inl h)) hr.1)
  have hll : (xs.take k ++ List.replicate k 0).length = (xs.take k).length + k := by simp
  obtain ⟨g, cap, rfl, hg1, hg2, hg3, hcell⟩ := ho2.shape (by omega)
  obtain ⟨n, hn1⟩ : ∃ n, (xs.take k ++ List.replicate k 0).length = n := ⟨_, rfl⟩
  have hc : ∀ j, j < k → w2.cell? ⟨g, j, none⟩ = some (.int .u8 ((padTo k xs).getD j 0).toNat) := by
    intro j hj
    rw [hcell j (by omega)]
    unfold padTo
    simp only [List.getD_eq_getElem?_getD, List.getElem?_take, if_pos hj]
  have hpl := padTo_length k xs
  rw [hn1] at hg2 hll ⊢
  unfold maxLen at hg3
  have hkn : k ≤ n := by omega
  have HF := Lib.hid hf2
  obtain ⟨l, HL⟩ : ∃ l, Hid (l = padTo k xs) := ⟨_, rfl⟩
  rw [← HL.out] at hc hpl
  have HP := Lib.hid hpl
  clear hcell hn1 hll hpl hf2 hfB hg ho2 ho hr1 hf hr hlt hn
  go_wp2
  go_loop [6, 18] (fun n i => ∃ j : Nat, j ≤ k ∧ i = .int .i64 j ∧ n = .int .u64 (num8 (l.take j))) (fun _ i => k - (intOf i).toNat)
  case atStart => exact ⟨0, by omega, rfl, rfl⟩
  case round =>
    obtain ⟨j, hj, rfl, rfl⟩ := hrel
    by_cases hjk : j < k
    · have hcj := hc j hjk
      have hb := (l.getD j 0).toNat_lt
      go_wp2
      go_round
      case rel => exact ⟨j + 1, by omega, by go_num, congrArg _ (num_step l j (by rw [HP.out]; exact hjk) (by omega))⟩
      case measure => simp [intOf]; omega
    · obtain rfl : j = k := by omega
      go_wp2
      go_ret
      refine ⟨?_, hr2.out, HF.out⟩
      rw [← HL.out, List.take_of_length_le (by rw [HP.out]; exact Nat.le_refl _)]
      rfl

set_option maxHeartbeats 400000 in
theorem number_any (A : Nat → Prop) (w : World) (rb : Nat) (xs : List UInt8) (k : Nat) (hr : Rd A w rb xs) (hk : 1 ≤ k) (hk' : k ≤ 2) (hn : xs.length ≤ 140737488351232) :
   Calls Tryd.prog 72 #[.pointer (some ⟨rb, 0, none⟩), .int .i64 k] w fun e w' => e = .returned (.int .i64 (num8 (padTo k xs))) ∧ Rd A w' rb (xs.drop k) ∧ Fr [rb] w w' := by
  have hlt : num8 (padTo k xs) < 65536 := by
    have h1 := num8_lt k (padTo k xs) (padTo_length k xs)
    have h2 : 256 ^ k ≤ 256 ^ 2 := Nat.pow_le_pow_right (by decide) hk'
    omega
  have HT := Lib.hid (long_any A w rb xs k hr hk (by omega) hn)
  obtain ⟨q, HQ⟩ : ∃ q, Hid (num8 (padTo k xs) = q) := ⟨_, rfl⟩
  rw [HQ.out] at HT hlt ⊢
  go_enter Tryd.func72, Tryd.ntmps72
  go_wp2_with fail
  refine HT.out.mono ?_; rintro e w1 ⟨rfl, hr1, hf⟩
  have HR := Lib.hid hr1
  have HF := Lib.hid hf
  clear hr1 hf
  go_wp2
  go_ret
  exact ⟨by simp, HR.out, HF.out⟩
end Go.Proofs.YtbohmnblegljkaaDoor
namespace Go.Proofs.YtbohmnblegljkaaDoor
open Go.RowKit Go.Bl
set_option linter.unusedVariables false

structure ActP where
  kind : Int
  n : Int
  i : Int
  at_ : Int
  by_ : Int
  name : ByteArray
  bytes : List UInt8
  p0 : Int
  p1 : Int
  p2 : Int
  p3 : Int
  p4 : Int
  p5 : Int
  kept : Int
  torn : Int
  scat : Int
def actC (a : ActP) (bv : Value) : Array Value := #[.int .i64 a.kind, .int .i64 a.n, .int .i64 a.i, .int .i64 a.at_, .int .i64 a.by_, .string a.name, bv, .int .i64 a.p0, .int .i64 a.p1, .int .i64 a.p2, .int .i64 a.p3, .int .i64 a.p4, .int .i64 a.p5, .int .i64 a.kept, .int .i64 a.torn, .int .u64 a.scat]
/-- the number of the first bytes -/
def nb (k : Nat) (xs : List UInt8) : Nat := num8 (padTo k xs)
theorem nb_lt (k : Nat) (xs : List UInt8) (h : k ≤ 2) : nb k xs < 65536 := by
  have h1 := num8_lt k (padTo k xs) (padTo_length k xs)
  have h2 : 256 ^ k ≤ 256 ^ 2 := Nat.pow_le_pow_right (by decide) h
  unfold nb
  omega

theorem number_nb (A : Nat → Prop) (w : World) (rb : Nat) (xs : List UInt8) (k j : Nat) (hr : Rd A w rb (xs.drop j)) (hk : 1 ≤ k) (hk' : k ≤ 2) (hn : xs.length ≤ 4000000) :
   Calls Tryd.prog 72 #[.pointer (some ⟨rb, 0, none⟩), .int .i64 k] w fun e w' => e = .returned (.int .i64 (nb k (xs.drop j))) ∧ Rd A w' rb (xs.drop (j + k)) ∧ Fr [rb] w w' := by
  have h := number_any A w rb (xs.drop j) k hr hk hk' (by simp; omega)
  rw [List.drop_drop] at h
  exact h
theorem long_nb (A : Nat → Prop) (w : World) (rb : Nat) (xs : List UInt8) (j : Nat) (hr : Rd A w rb (xs.drop j)) (hn : xs.length ≤ 4000000) :
   Calls Tryd.prog 73 #[.pointer (some ⟨rb, 0, none⟩), .int .i64 8] w fun e w' => e = .returned (.int .u64 (nb 8 (xs.drop j))) ∧ Rd A w' rb (xs.drop (j + 8)) ∧ Fr [rb] w w' := by
  have h := long_any A w rb (xs.drop j) 8 hr (by omega) (by omega) (by simp; omega)
  rw [List.drop_drop] at h
  exact h
theorem take_nb (A : Nat → Prop) (w : World) (rb : Nat) (xs : List UInt8) (k j : Nat) (hr : Rd A w rb (xs.drop j)) (hk : k ≤ 65536) (hn : xs.length ≤ 4000000) :
   Calls Tryd.prog 74 #[.pointer (some ⟨rb, 0, none⟩), .int .i64 k] w fun e w' => ∃ v, e = .returned v ∧ OwnB 5 w.heap.size w' v ((xs.drop j).take k) ∧ Rd A w' rb (xs.drop (j + k)) ∧ Fr [rb] w w' := by
  have h := take_any A w rb (xs.drop j) k hr (by omega) (by omega) (by simp; omega)
  rw [Int.toNat_natCast, List.drop_drop] at h
  exact h

set_option maxHeartbeats 2000000 in
theorem params_any (A : Nat → Prop) (w : World) (rb : Nat) (xs : List UInt8) (j : Nat) (hr : Rd A w rb (xs.drop j)) (hn : xs.length ≤ 4000000) :
   Calls Tryd.prog 75 #[.pointer (some ⟨rb, 0, none⟩)] w fun e w' => e = .returned (.agg #[.int .i64 (nb 2 (xs.drop j)), .int .i64 (nb 1 (xs.drop (j + 2))), .int .i64 (nb 1 (xs.drop (j + 3))), .int .i64 (nb 2 (xs.drop (j + 4))), .int .i64 (nb 2 (xs.drop (j + 6))), .int .i64 (nb 1 (xs.drop (j + 8)))]) ∧ Rd A w' rb (xs.drop (j + 9)) ∧ Fr [rb] w w' := by
  have hrb := hr.lt
  have hAr := hr.1
  have HR := Lib.hid ((hr.mono (A' := fun b => A b ∨ w.heap.size ≤ b) (fun b h => h) (.inl hr.1)).keep (Fr.alloc (S := []) w (.cells #[.int .i64 0, .int .i64 0, .int .i64 0, .int .i64 0, .int .i64 0, .int .i64 0] 36)) (by simp) (by simp))
  have HT := Lib.hid (show At (w.alloc (.cells #[.int .i64 0, .int .i64 0, .int .i64 0, .int .i64 0, .int .i64 0, .int .i64 0] 36)) w.heap.size _ from At.new rfl)
  have G := Lib.hid (Fr.refl [rb] w)
  clear hr
  go_enter Tryd.func75, Tryd.ntmps75
  go_wp2_with fail
  refine (number_nb (fun b => A b ∨ w.heap.size ≤ b) _ rb xs 2 j HR.out (by omega) (by omega) hn).mono ?_
  rintro e w1 ⟨rfl, hr, hf⟩
  replace HR := Lib.hid hr
  replace G := Lib.hid (show Fr [rb] w w1 from (show Fr [rb] w _ from (by repeat (first | exact G.out | exact Fr.refl _ _ | refine Fr.al ?_ | refine Fr.dn ?_))).trans hf)
  replace HT := Lib.hid (HT.out.keep hf (by simp; omega))
  clear hr hf
  go_wp2_with fail
  refine (number_nb (fun b => A b ∨ w.heap.size ≤ b) _ rb xs 1 (j + 2) HR.out (by omega) (by omega) hn).mono ?_
  rintro e w2 ⟨rfl, hr, hf⟩
  replace HR := Lib.hid hr
  replace G := Lib.hid (show Fr [rb] w w2 from (show Fr [rb] w _ from (by repeat (first | exact G.out | exact Fr.refl _ _ | refine Fr.al ?_ | refine Fr.dn ?_))).trans hf)
  replace HT := Lib.hid (HT.out.keep hf (by simp; omega))
  clear hr hf
  go_wp2_with fail
  refine (number_nb (fun b => A b ∨ w.heap.size ≤ b) _ rb xs 1 (j + 3) HR.out (by omega) (by omega) hn).mono ?_
  rintro e w3 ⟨rfl, hr, hf⟩
  replace HR := Lib.hid hr
  replace G := Lib.hid (show Fr [rb] w w3 from (show Fr [rb] w _ from (by repeat (first | exact G.out | exact Fr.refl _ _ | refine Fr.al ?_ | refine Fr.dn ?_))).trans hf)
  replace HT := Lib.hid (HT.out.keep hf (by simp; omega))
  clear hr hf
  go_wp2_with fail
  refine (number_nb (fun b => A b ∨ w.heap.size ≤ b) _ rb xs 2 (j + 4) HR.out (by omega) (by omega) hn).mono ?_
  rintro e w4 ⟨rfl, hr, hf⟩
  replace HR := Lib.hid hr
  replace G := Lib.hid (show Fr [rb] w w4 from (show Fr [rb] w _ from (by repeat (first | exact G.out | exact Fr.refl _ _ | refine Fr.al ?_ | refine Fr.dn ?_))).trans hf)
  replace HT := Lib.hid (HT.out.keep hf (by simp; omega))
  clear hr hf
  go_wp2_with fail
  refine (number_nb (fun b => A b ∨ w.heap.size ≤ b) _ rb xs 2 (j + 6) HR.out (by omega) (by omega) hn).mono ?_
  rintro e w5 ⟨rfl, hr, hf⟩
  replace HR := Lib.hid hr
  replace G := Lib.hid (show Fr [rb] w w5 from (show Fr [rb] w _ from (by repeat (first | exact G.out | exact Fr.refl _ _ | refine Fr.al ?_ | refine Fr.dn ?_))).trans hf)
  replace HT := Lib.hid (HT.out.keep hf (by simp; omega))
  clear hr hf
  go_wp2_with fail
  refine (number_nb (fun b => A b ∨ w.heap.size ≤ b) _ rb xs 1 (j + 8) HR.out (by omega) (by omega) hn).mono ?_
  rintro e w6 ⟨rfl, hr, hf⟩
  replace HR := Lib.hid hr
  replace G := Lib.hid (show Fr [rb] w w6 from (show Fr [rb] w _ from (by repeat (first | exact G.out | exact Fr.refl _ _ | refine Fr.al ?_ | refine Fr.dn ?_))).trans hf)
  replace HT := Lib.hid (HT.out.keep hf (by simp; omega))
  clear hr hf
  go_wp2_with (refine wpl_store_at (.tmp 2) (.tmp 15) rfl rfl #[.int .i64 (nb 2 (xs.drop j)), .int .i64 (nb 1 (xs.drop (j + 2))), .int .i64 (nb 1 (xs.drop (j + 3))), .int .i64 (nb 2 (xs.drop (j + 4))), .int .i64 (nb 2 (xs.drop (j + 6))), .int .i64 (nb 1 (xs.drop (j + 8)))] rfl rfl (by kernel_rfl) HT.out (by simp) (by simp [Value.oneCell']) ?_)
  intro w7 hf hA hs
  have hc0 := hA.cell 0
  have hc1 := hA.cell 1
  have hc2 := hA.cell 2
  have hc3 := hA.cell 3
  have hc4 := hA.cell 4
  have hc5 := hA.cell 5
  simp at hc0 hc1 hc2 hc3 hc4 hc5
  have HR := Lib.hid ((HR.out.keep hf (by simp) (by simp; omega)).mono (A' := A) (fun b h => .inl (.inl h)) hAr)
  have G := Lib.hid (show Fr [rb] w w7 from G.out.then hf (fun x hx => .inr (by simp at hx; omega)))
  clear hf hA hs
  go_wp2
  exact bodyPost_ret (v := .agg #[.int .i64 (nb 2 (xs.drop j)), .int .i64 (nb 1 (xs.drop (j + 2))), .int .i64 (nb 1 (xs.drop (j + 3))), .int .i64 (nb 2 (xs.drop (j + 4))), .int .i64 (nb 2 (xs.drop (j + 6))), .int .i64 (nb 1 (xs.drop (j + 8)))]) (by simp [results, Tryd.results75, go_sem, hc0, hc1, hc2, hc3, hc4, hc5]) rfl ⟨rfl, HR.out, G.out⟩
end Go.Proofs.YtbohmnblegljkaaDoor
namespace Go.Proofs.YtbohmnblegljkaaDoor
open Go.RowKit Go.Bl
set_option linter.unusedVariables false

/-- bytes as a string -/
theorem run_str_bs {P : Program} {A : Nat → Prop} {w : World} {src dst e : TypeId} {v : Value} {xs : List UInt8} (hs : P.underlying src = some (.slice e)) (he : P.underlying e = some (.int .u8)) (hd : P.underlying dst = some .string) (hb : Bs A w v xs) :
    (convert src dst v).run P w = .ok (.string ⟨xs.toArray⟩) w := by
  obtain ⟨a, cap, rfl, h2, h3, h4⟩ := hb
  cases a with
  | none =>
    have hx : xs = [] := by
      rcases h4 with h | ⟨b, off, c, e, fz, h, _⟩
      · simpa using h
      · cases h
    subst hx
    exact Lib.run_convert_nil_bytes w src dst e cap hs he hd
  | some ad =>
    refine run_convert_bytes_back w src dst e ad cap xs hs he hd fun j hj => ?_
    rw [h4.cell j (by simpa using hj)]
    simp [u8v, hj]
theorem wpl_str {P : Program} {A : Nat → Prop} {w : World} {ops : Array Oper} {rest : List Oper} {o : Oper} {a : Act} {Q : Exit → Act → World → Prop} {src dst e : TypeId} {v : Value} {xs : List UInt8} (hs : P.underlying src = some (.slice e)) (he : P.underlying e = some (.int .u8)) (hd : P.underlying dst = some .string)
    (x : Operand) (ho : o.op = .convert src dst x) (hgd : o.guard = none) (hx : a.eval x = v) (hb : Bs A w v xs) (h : wpList P ops Q rest (a.put o.dst (.string ⟨xs.toArray⟩)) w) : wpList P ops Q (o :: rest) a w := by
  refine wpl_val _ ho hgd (.string ⟨xs.toArray⟩) ?_ h
  unfold execOp
  simp only [ho, hx, Sem.run_bind, run_str_bs hs he hd hb, Result.andThen_ok, Sem.run_pure]

/-- one cell stored into a block that is known -/
theorem wpl_store_one {P : Program} {w : World} {ops : Array Oper} {rest : List Oper} {o : Oper} {a : Act} {Q : Exit → Act → World → Prop} {t te : TypeId} {cur : Array Value} {g off : Nat} (p x : Operand) (hgd : o.guard = none)
    (ho : o.op = .store t p x) (u : Value) (hp : a.eval p = .pointer (some ⟨g, off, none⟩)) (hx : a.eval x = u) (hb : At w g (.cells cur te (0, 0))) (hsz : off < cur.size) (hi : (P.info? t).map (·.size) = some 1) (h1 : u.oneCell' = true)
    (h : ∀ w', Fr [g] w w' → At w' g (.cells (cur.setIfInBounds off u) te (0, 0)) → w'.heap.size = w.heap.size → wpList P ops Q rest (a.put o.dst undef) w') : wpList P ops Q (o :: rest) a w := by
  refine wpList_plain hgd fun K hK => ?_
  have hst := run_storeCells_at P g off te [u] 0 cur w hb (by simp; omega) (by intro v hv; simp at hv; subst hv; exact h1)
  simp only [Nat.add_zero] at hst
  have hcells : u.cells = #[u] := by
    cases u <;> simp_all [Value.cells, Value.oneCell']
  cases hq : P.info? t with
  | none => simp [hq] at hi
  | some i =>
    have hs : i.size = 1 := by simpa [hq] using hi
    unfold Oper.wp execOp
    simp only [ho, hp, hx, Instr.storeAt, Instr.sureAddr, Sem.run_bind, Sem.run_pure, Result.andThen_ok]
    have hset : (cur.toList.take off ++ [u] ++ cur.toList.drop (off + [u].length)).toArray = cur.setIfInBounds off u := by
      apply Array.ext'
      rw [Array.toList_setIfInBounds]
      simp only [List.toList_toArray, List.length_singleton]
      rw [List.set_eq_take_append_cons_drop, if_pos (by simpa using hsz)]
      simp
    have : (storeVar t ⟨g, off, none⟩ u).run P w = .ok () (w.setRow g (cur.setIfInBounds off u)) := by
      rw [← hset]
      cases u <;> simp_all [storeVar, sizeOf, typeInfo, Value.cells, Value.oneCell']
    rw [this]
    refine hK _ _ (h _ ⟨rfl, rfl, rfl, by simp [World.setRow], fun k hk hn => ?_⟩ (setRow_heap w g cur _ te (0, 0) hb) (by simp [World.setRow]))
    exact setRow_other w g k _ (by simpa using hn)

def actO (a : ActP) (bv : Value) (ty : TypeId) : Obj := .cells (actC a bv) ty
theorem actCells {w : World} {b ty : Nat} {a : ActP} {bv : Value} (h : At w b (actO a bv ty)) :
    w.cell? ⟨b, 0, none⟩ = some (.int .i64 a.kind) ∧ w.cell? ⟨b, 1, none⟩ = some (.int .i64 a.n) ∧ w.cell? ⟨b, 2, none⟩ = some (.int .i64 a.i) ∧ w.cell? ⟨b, 3, none⟩ = some (.int .i64 a.at_) ∧ w.cell? ⟨b, 4, none⟩ = some (.int .i64 a.by_) ∧ w.cell? ⟨b, 5, none⟩ = some (.string a.name) ∧ w.cell? ⟨b, 6, none⟩ = some bv ∧
    w.cell? ⟨b, 7, none⟩ = some (.int .i64 a.p0) ∧ w.cell? ⟨b, 8, none⟩ = some (.int .i64 a.p1) ∧ w.cell? ⟨b, 9, none⟩ = some (.int .i64 a.p2) ∧ w.cell? ⟨b, 10, none⟩ = some (.int .i64 a.p3) ∧ w.cell? ⟨b, 11, none⟩ = some (.int .i64 a.p4) ∧ w.cell? ⟨b, 12, none⟩ = some (.int .i64 a.p5) ∧
    w.cell? ⟨b, 13, none⟩ = some (.int .i64 a.kept) ∧ w.cell? ⟨b, 14, none⟩ = some (.int .i64 a.torn) ∧ w.cell? ⟨b, 15, none⟩ = some (.int .u64 a.scat) :=
  ⟨by rw [cell_of h]; rfl, by rw [cell_of h]; rfl, by rw [cell_of h]; rfl, by rw [cell_of h]; rfl, by rw [cell_of h]; rfl, by rw [cell_of h]; rfl, by rw [cell_of h]; rfl, by rw [cell_of h]; rfl, by rw [cell_of h]; rfl, by rw [cell_of h]; rfl, by rw [cell_of h]; rfl, by rw [cell_of h]; rfl, by rw [cell_of h]; rfl, by rw [cell_of h]; rfl, by rw [cell_of h]; rfl, by rw [cell_of h]; rfl⟩

def baseA (xs : List UInt8) : ActP := ⟨nb 1 xs, nb 2 xs.tail, nb 2 (xs.drop 3), nb 2 (xs.drop 5), nb 1 (xs.drop 7), ⟨#[]⟩, [], 0, 0, 0, 0, 0, 0, 0, 0, 0⟩
def parA (a : ActP) (xs : List UInt8) (j : Nat) : ActP := { a with p0 := nb 2 (xs.drop j), p1 := nb 1 (xs.drop (j + 2)), p2 := nb 1 (xs.drop (j + 3)), p3 := nb 2 (xs.drop (j + 4)), p4 := nb 2 (xs.drop (j + 6)), p5 := nb 1 (xs.drop (j + 8)) }
/-- the act at the beginning, and how many bytes it has at most -/
def rdAct (xs : List UInt8) : ActP × Nat :=
  if nb 1 xs = 10 then ({ baseA xs with kept := nb 1 (xs.drop 8), torn := nb 1 (xs.drop 9), scat := nb 8 (xs.drop 10) }, 18)
  else if nb 1 xs = 1 then
    ({ parA (baseA xs) xs (9 + nb 1 (xs.drop 8)) with name := ⟨((xs.drop 9).take (nb 1 (xs.drop 8))).toArray⟩, bytes := (xs.drop (9 + nb 1 (xs.drop 8) + 11)).take (nb 2 (xs.drop (9 + nb 1 (xs.drop 8) + 9))) }, 9 + nb 1 (xs.drop 8) + 11 + nb 2 (xs.drop (9 + nb 1 (xs.drop 8) + 9)))
  else if nb 1 xs = 9 ∨ nb 1 xs = 13 then ({ baseA xs with bytes := (xs.drop 10).take (nb 2 (xs.drop 8)) }, 10 + nb 2 (xs.drop 8))
  else (baseA xs, 8)

end Go.Proofs.YtbohmnblegljkaaDoor
