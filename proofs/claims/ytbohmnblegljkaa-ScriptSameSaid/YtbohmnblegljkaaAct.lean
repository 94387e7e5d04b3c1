/-
  Layer 31: acts; reading them.
-/
import Derived.Test.YtbohmnblegljkaaScr
import Derived.Test.YtbohmnblegljkaaG3
import Derived.Test.YtbohmnblegljkaaPo2
namespace Go.Proofs.Ytbohmnblegljkaa
open Go.RowKit Go.Bl
set_option linter.unusedVariables false

structure ActP where
  kind : Int
  n : Int
  i : Int
  at_ : Int
  by_ : Int
  name : ByteArray
  bytes : List UInt8
  p0 : Int
  p1 : Int
  p2 : Int
  p3 : Int
  p4 : Int
  p5 : Int
  kept : Int
  torn : Int
  scat : Int
def actC (a : ActP) (bv : Value) : Array Value := #[.int .i64 a.kind, .int .i64 a.n, .int .i64 a.i, .int .i64 a.at_, .int .i64 a.by_, .string a.name, bv, .int .i64 a.p0, .int .i64 a.p1, .int .i64 a.p2, .int .i64 a.p3, .int .i64 a.p4, .int .i64 a.p5, .int .i64 a.kept, .int .i64 a.torn, .int .u64 a.scat]
/-- the number of the first bytes -/
def nb (k : Nat) (xs : List UInt8) : Nat := num8 (padTo k xs)
theorem nb_lt (k : Nat) (xs : List UInt8) (h : k ≤ 2) : nb k xs < 65536 := by
  have h1 := num8_lt k (padTo k xs) (padTo_length k xs)
  have h2 : 256 ^ k ≤ 256 ^ 2 := Nat.pow_le_pow_right (by decide) h
  unfold nb
  omega

theorem number_nb (A : Nat → Prop) (w : World) (rb : Nat) (xs : List UInt8) (k j : Nat) (hr : Rd A w rb (xs.drop j)) (hk : 1 ≤ k) (hk' : k ≤ 2) (hn : xs.length ≤ 1000000) :
   Calls Try.prog 19 #[.pointer (some ⟨rb, 0, none⟩), .int .i64 k] w fun e w' => e = .returned (.int .i64 (nb k (xs.drop j))) ∧ Rd A w' rb (xs.drop (j + k)) ∧ Fr [rb] w w' := by
  have h := number_any A w rb (xs.drop j) k hr hk hk' (by simp; omega)
  rw [List.drop_drop] at h
  exact h
theorem long_nb (A : Nat → Prop) (w : World) (rb : Nat) (xs : List UInt8) (j : Nat) (hr : Rd A w rb (xs.drop j)) (hn : xs.length ≤ 1000000) :
   Calls Try.prog 20 #[.pointer (some ⟨rb, 0, none⟩), .int .i64 8] w fun e w' => e = .returned (.int .u64 (nb 8 (xs.drop j))) ∧ Rd A w' rb (xs.drop (j + 8)) ∧ Fr [rb] w w' := by
  have h := long_any A w rb (xs.drop j) 8 hr (by omega) (by omega) (by simp; omega)
  rw [List.drop_drop] at h
  exact h
theorem take_nb (A : Nat → Prop) (w : World) (rb : Nat) (xs : List UInt8) (k j : Nat) (hr : Rd A w rb (xs.drop j)) (hk : k ≤ 65536) (hn : xs.length ≤ 1000000) :
   Calls Try.prog 21 #[.pointer (some ⟨rb, 0, none⟩), .int .i64 k] w fun e w' => ∃ v, e = .returned v ∧ OwnB 5 w.heap.size w' v ((xs.drop j).take k) ∧ Rd A w' rb (xs.drop (j + k)) ∧ Fr [rb] w w' := by
  have h := take_any A w rb (xs.drop j) k hr (by omega) (by omega) (by simp; omega)
  rw [Int.toNat_natCast, List.drop_drop] at h
  exact h

set_option maxHeartbeats 2000000 in
theorem params_any (A : Nat → Prop) (w : World) (rb : Nat) (xs : List UInt8) (j : Nat) (hr : Rd A w rb (xs.drop j)) (hn : xs.length ≤ 1000000) :
   Calls Try.prog 22 #[.pointer (some ⟨rb, 0, none⟩)] w fun e w' => e = .returned (.agg #[.int .i64 (nb 2 (xs.drop j)), .int .i64 (nb 1 (xs.drop (j + 2))), .int .i64 (nb 1 (xs.drop (j + 3))), .int .i64 (nb 2 (xs.drop (j + 4))), .int .i64 (nb 2 (xs.drop (j + 6))), .int .i64 (nb 1 (xs.drop (j + 8)))]) ∧ Rd A w' rb (xs.drop (j + 9)) ∧ Fr [rb] w w' := by
  have hrb := hr.lt
  have hAr := hr.1
  have HR := Lib.hid ((hr.mono (A' := fun b => A b ∨ w.heap.size ≤ b) (fun b h => h) (.inl hr.1)).keep (Fr.alloc (S := []) w (.cells #[.int .i64 0, .int .i64 0, .int .i64 0, .int .i64 0, .int .i64 0, .int .i64 0] 34)) (by simp) (by simp))
  have HT := Lib.hid (show At (w.alloc (.cells #[.int .i64 0, .int .i64 0, .int .i64 0, .int .i64 0, .int .i64 0, .int .i64 0] 34)) w.heap.size _ from At.new rfl)
  have G := Lib.hid (Fr.refl [rb] w)
  clear hr
  go_enter Try.func22, Try.ntmps22
  go_wp2_with fail
  refine (number_nb (fun b => A b ∨ w.heap.size ≤ b) _ rb xs 2 j HR.out (by omega) (by omega) hn).mono ?_
  rintro e w1 ⟨rfl, hr, hf⟩
  replace HR := Lib.hid hr
  replace G := Lib.hid (show Fr [rb] w w1 from (show Fr [rb] w _ from (by repeat (first | exact G.out | exact Fr.refl _ _ | refine Fr.al ?_ | refine Fr.dn ?_))).trans hf)
  replace HT := Lib.hid (HT.out.keep hf (by simp; omega))
  clear hr hf
  go_wp2_with fail
  refine (number_nb (fun b => A b ∨ w.heap.size ≤ b) _ rb xs 1 (j + 2) HR.out (by omega) (by omega) hn).mono ?_
  rintro e w2 ⟨rfl, hr, hf⟩
  replace HR := Lib.hid hr
  replace G := Lib.hid (show Fr [rb] w w2 from (show Fr [rb] w _ from (by repeat (first | exact G.out | exact Fr.refl _ _ | refine Fr.al ?_ | refine Fr.dn ?_))).trans hf)
  replace HT := Lib.hid (HT.out.keep hf (by simp; omega))
  clear hr hf
  go_wp2_with fail
  refine (number_nb (fun b => A b ∨ w.heap.size ≤ b) _ rb xs 1 (j + 3) HR.out (by omega) (by omega) hn).mono ?_
  rintro e w3 ⟨rfl, hr, hf⟩
  replace HR := Lib.hid hr
  replace G := Lib.hid (show Fr [rb] w w3 from (show Fr [rb] w _ from (by repeat (first | exact G.out | exact Fr.refl _ _ | refine Fr.al ?_ | refine Fr.dn ?_))).trans hf)
  replace HT := Lib.hid (HT.out.keep hf (by simp; omega))
  clear hr hf
  go_wp2_with fail
  refine (number_nb (fun b => A b ∨ w.heap.size ≤ b) _ rb xs 2 (j + 4) HR.out (by omega) (by omega) hn).mono ?_
  rintro e w4 ⟨rfl, hr, hf⟩
  replace HR := Lib.hid hr
  replace G := Lib.hid (show Fr [rb] w w4 from (show Fr [rb] w _ from (by repeat (first | exact G.out | exact Fr.refl _ _ | refine Fr.al ?_ | refine Fr.dn ?_))).trans hf)
  replace HT := Lib.hid (HT.out.keep hf (by simp; omega))
  clear hr hf
  go_wp2_with fail
  refine (number_nb (fun b => A b ∨ w.heap.size ≤ b) _ rb xs 2 (j + 6) HR.out (by omega) (by omega) hn).mono ?_
  rintro e w5 ⟨rfl, hr, hf⟩
  replace HR := Lib.hid hr
  replace G := Lib.hid (show Fr [rb] w w5 from (show Fr [rb] w _ from (by repeat (first | exact G.out | exact Fr.refl _ _ | refine Fr.al ?_ | refine Fr.dn ?_))).trans hf)
  replace HT := Lib.hid (HT.out.keep hf (by simp; omega))
  clear hr hf
  go_wp2_with fail
  refine (number_nb (fun b => A b ∨ w.heap.size ≤ b) _ rb xs 1 (j + 8) HR.out (by omega) (by omega) hn).mono ?_
  rintro e w6 ⟨rfl, hr, hf⟩
  replace HR := Lib.hid hr
  replace G := Lib.hid (show Fr [rb] w w6 from (show Fr [rb] w _ from (by repeat (first | exact G.out | exact Fr.refl _ _ | refine Fr.al ?_ | refine Fr.dn ?_))).trans hf)
  replace HT := Lib.hid (HT.out.keep hf (by simp; omega))
  clear hr hf
  go_wp2_with (refine wpl_store_at (.tmp 2) (.tmp 15) rfl rfl #[.int .i64 (nb 2 (xs.drop j)), .int .i64 (nb 1 (xs.drop (j + 2))), .int .i64 (nb 1 (xs.drop (j + 3))), .int .i64 (nb 2 (xs.drop (j + 4))), .int .i64 (nb 2 (xs.drop (j + 6))), .int .i64 (nb 1 (xs.drop (j + 8)))] rfl rfl (by kernel_rfl) HT.out (by simp) (by simp [Value.oneCell']) ?_)
  intro w7 hf hA hs
  have hc0 := hA.cell 0
  have hc1 := hA.cell 1
  have hc2 := hA.cell 2
  have hc3 := hA.cell 3
  have hc4 := hA.cell 4
  have hc5 := hA.cell 5
  simp at hc0 hc1 hc2 hc3 hc4 hc5
  have HR := Lib.hid ((HR.out.keep hf (by simp) (by simp; omega)).mono (A' := A) (fun b h => .inl (.inl h)) hAr)
  have G := Lib.hid (show Fr [rb] w w7 from G.out.then hf (fun x hx => .inr (by simp at hx; omega)))
  clear hf hA hs
  go_wp2
  exact bodyPost_ret (v := .agg #[.int .i64 (nb 2 (xs.drop j)), .int .i64 (nb 1 (xs.drop (j + 2))), .int .i64 (nb 1 (xs.drop (j + 3))), .int .i64 (nb 2 (xs.drop (j + 4))), .int .i64 (nb 2 (xs.drop (j + 6))), .int .i64 (nb 1 (xs.drop (j + 8)))]) (by simp [results, Try.results22, go_sem, hc0, hc1, hc2, hc3, hc4, hc5]) rfl ⟨rfl, HR.out, G.out⟩
end Go.Proofs.Ytbohmnblegljkaa
