/-
  Layer 35: the document's line of a result. (printed by genlin.py)
-/
import Derived.Test.YtmohiblgfmdkjaaDoorHB
import Derived.Test.YtmohiblgfmdkjaaDoorEnd
namespace Go.Proofs.YtmohiblgfmdkjaaDoor
open Go.RowKit Go.Bl
set_option linter.unusedVariables false
theorem bA_tail (c : UInt8) (l : List UInt8) : (bA (c :: l)).extract 1 (bA (c :: l)).size = bA l := by
  rw [bA_extract, bA_size]
  simp
set_option maxRecDepth 100000 in
set_option maxHeartbeats 8000000 in
theorem result_doc (w : World) (kind er n : Int) (hk : inI kind) (he : inI er) (hn : inI n) :
    Calls Tryd.prog 16 #[.int .i64 kind, .int .i64 er, .int .i64 n] w fun r w' => r = .returned (.string (bA (resL kind er n))) ∧ Fr [] w w' := by
  have K1 := itoa_len er he.1 he.2
  have K2 := itoa_len n hn.1 hn.2
  have KW : (qwd (atL wWords kind)).length ≤ 20 := qwd_len (wWords_len kind) (by omega)
  have HN1 := Lib.hid (fun w => num_any35 er w he.1 he.2)
  have HN2 := Lib.hid (fun w => num_any35 n w hn.1 hn.2)
  have HLN := Lib.hid (wWords_len kind)
  have hex := bA_tail 32 (qwd (atL wWords kind))
  have hsz : (1 : Int) ≤ ((bA (32 :: qwd (atL wWords kind))).size : Int) := by rw [bA_size, List.length_cons]; omega
  have HQ := Lib.hid (show resL kind er n = (if er ≠ 0 then lineL [.txt (atL wWords kind), .txt [101, 114, 114, 111, 114], .num er] else if kind = 1 then lineL [.txt (atL wWords kind), .txt [111, 107], .num n] else lineL [.txt (atL wWords kind), .txt [111, 107]]) from rfl)
  unfold inI at hk he hn
  obtain ⟨XW, hXW⟩ : ∃ x, atL wWords kind = x := ⟨_, rfl⟩
  have HXW := Lib.hid hXW
  rw [hXW] at KW HLN hex hsz HQ
  obtain ⟨QW, hQW⟩ : ∃ x, qwd XW = x := ⟨_, rfl⟩
  have HQW := Lib.hid hQW
  rw [hQW] at KW hex hsz
  obtain ⟨S1, hS1⟩ : ∃ S, QW ++ ([32, 101, 114, 114, 111, 114] : List UInt8) = S := ⟨_, rfl⟩
  have L1 : S1.length ≤ 40 := by rw [← hS1]; simp only [List.length_append, List.length_cons, List.length_nil]; omega
  have C1 : ∀ w, (Op.stringOp .add (bA QW) ⟨#[32, 101, 114, 114, 111, 114]⟩).run Tryd.prog w = .ok (.string (bA S1)) w := fun w => by rw [← hS1]; exact run_cat QW (([32, 101, 114, 114, 111, 114] : List UInt8)) (by first | omega | (simp only [List.length_append, List.length_cons, List.length_nil]; omega)) w
  have HS1 := Lib.hid hS1
  clear hS1
  obtain ⟨S2, hS2⟩ : ∃ S, S1 ++ (32 :: Lib.itoa er) = S := ⟨_, rfl⟩
  have L2 : S2.length ≤ 80 := by rw [← hS2]; simp only [List.length_append, List.length_cons, List.length_nil]; omega
  have C2 : ∀ w, (Op.stringOp .add (bA S1) (bA (32 :: Lib.itoa er))).run Tryd.prog w = .ok (.string (bA S2)) w := fun w => by rw [← hS2]; exact run_cat S1 ((32 :: Lib.itoa er)) (by first | omega | (simp only [List.length_append, List.length_cons, List.length_nil]; omega)) w
  have HS2 := Lib.hid hS2
  clear hS2
  obtain ⟨S3, hS3⟩ : ∃ S, QW ++ ([32, 111, 107] : List UInt8) = S := ⟨_, rfl⟩
  have L3 : S3.length ≤ 40 := by rw [← hS3]; simp only [List.length_append, List.length_cons, List.length_nil]; omega
  have C3 : ∀ w, (Op.stringOp .add (bA QW) ⟨#[32, 111, 107]⟩).run Tryd.prog w = .ok (.string (bA S3)) w := fun w => by rw [← hS3]; exact run_cat QW (([32, 111, 107] : List UInt8)) (by first | omega | (simp only [List.length_append, List.length_cons, List.length_nil]; omega)) w
  have HS3 := Lib.hid hS3
  clear hS3
  obtain ⟨S4, hS4⟩ : ∃ S, S3 ++ (32 :: Lib.itoa n) = S := ⟨_, rfl⟩
  have L4 : S4.length ≤ 80 := by rw [← hS4]; simp only [List.length_append, List.length_cons, List.length_nil]; omega
  have C4 : ∀ w, (Op.stringOp .add (bA S3) (bA (32 :: Lib.itoa n))).run Tryd.prog w = .ok (.string (bA S4)) w := fun w => by rw [← hS4]; exact run_cat S3 ((32 :: Lib.itoa n)) (by first | omega | (simp only [List.length_append, List.length_cons, List.length_nil]; omega)) w
  have HS4 := Lib.hid hS4
  clear hS4
  have HF := Lib.hid (show Fr [] w (w.alloc (.cells #[.string ⟨#[112, 117, 116]⟩, .string ⟨#[116, 105, 99, 107]⟩, .string ⟨#[115, 101, 114, 118, 101]⟩, .string ⟨#[114, 101, 112, 108, 121]⟩, .string ⟨#[100, 114, 111, 112]⟩, .string ⟨#[100, 111, 117, 98, 108, 101]⟩, .string ⟨#[98, 101, 110, 100]⟩, .string ⟨#[116, 114, 105, 99, 107]⟩, .string ⟨#[115, 112, 111, 105, 108]⟩, .string ⟨#[99, 114, 97, 115, 104]⟩, .string ⟨#[97, 114, 109]⟩, .string ⟨#[102, 101, 116, 99, 104]⟩, .string ⟨#[105, 110, 106, 101, 99, 116]⟩] 9)) from Fr.alloc _ _)
  have HAT := Lib.hid (at_any35 (w.alloc (.cells #[.string ⟨#[112, 117, 116]⟩, .string ⟨#[116, 105, 99, 107]⟩, .string ⟨#[115, 101, 114, 118, 101]⟩, .string ⟨#[114, 101, 112, 108, 121]⟩, .string ⟨#[100, 114, 111, 112]⟩, .string ⟨#[100, 111, 117, 98, 108, 101]⟩, .string ⟨#[98, 101, 110, 100]⟩, .string ⟨#[116, 114, 105, 99, 107]⟩, .string ⟨#[115, 112, 111, 105, 108]⟩, .string ⟨#[99, 114, 97, 115, 104]⟩, .string ⟨#[97, 114, 109]⟩, .string ⟨#[102, 101, 116, 99, 104]⟩, .string ⟨#[105, 110, 106, 101, 99, 116]⟩] 9)) w.heap.size 13 wWords kind rfl (by omega) (words_of (At.new rfl : At (w.alloc (.cells #[.string ⟨#[112, 117, 116]⟩, .string ⟨#[116, 105, 99, 107]⟩, .string ⟨#[115, 101, 114, 118, 101]⟩, .string ⟨#[114, 101, 112, 108, 121]⟩, .string ⟨#[100, 114, 111, 112]⟩, .string ⟨#[100, 111, 117, 98, 108, 101]⟩, .string ⟨#[98, 101, 110, 100]⟩, .string ⟨#[116, 114, 105, 99, 107]⟩, .string ⟨#[115, 112, 111, 105, 108]⟩, .string ⟨#[99, 114, 97, 115, 104]⟩, .string ⟨#[97, 114, 109]⟩, .string ⟨#[102, 101, 116, 99, 104]⟩, .string ⟨#[105, 110, 106, 101, 99, 116]⟩] 9)) w.heap.size (.cells #[.string ⟨#[112, 117, 116]⟩, .string ⟨#[116, 105, 99, 107]⟩, .string ⟨#[115, 101, 114, 118, 101]⟩, .string ⟨#[114, 101, 112, 108, 121]⟩, .string ⟨#[100, 114, 111, 112]⟩, .string ⟨#[100, 111, 117, 98, 108, 101]⟩, .string ⟨#[98, 101, 110, 100]⟩, .string ⟨#[116, 114, 105, 99, 107]⟩, .string ⟨#[115, 112, 111, 105, 108]⟩, .string ⟨#[99, 114, 97, 115, 104]⟩, .string ⟨#[97, 114, 109]⟩, .string ⟨#[102, 101, 116, 99, 104]⟩, .string ⟨#[105, 110, 106, 101, 99, 116]⟩] 9)) rfl))
  rw [hXW] at HAT
  have HWD := Lib.hid (word_any35 XW (w.alloc (.cells #[.string ⟨#[112, 117, 116]⟩, .string ⟨#[116, 105, 99, 107]⟩, .string ⟨#[115, 101, 114, 118, 101]⟩, .string ⟨#[114, 101, 112, 108, 121]⟩, .string ⟨#[100, 114, 111, 112]⟩, .string ⟨#[100, 111, 117, 98, 108, 101]⟩, .string ⟨#[98, 101, 110, 100]⟩, .string ⟨#[116, 114, 105, 99, 107]⟩, .string ⟨#[115, 112, 111, 105, 108]⟩, .string ⟨#[99, 114, 97, 115, 104]⟩, .string ⟨#[97, 114, 109]⟩, .string ⟨#[102, 101, 116, 99, 104]⟩, .string ⟨#[105, 110, 106, 101, 99, 116]⟩] 9)) (by have := HLN.out; omega))
  rw [hQW] at HWD
  clear K1 K2 KW L1 L2 L3 L4 hXW hQW
  go_enter Tryd.func16, Tryd.ntmps16
  go_wp2_with (go_at_call 41; fail)
  refine HAT.out.mono ?_
  rintro r u0 ⟨rfl, rfl⟩
  go_wp2_with (go_at_call 40; fail)
  refine HWD.out.mono ?_
  rintro r u0 ⟨rfl, rfl⟩
  clear HAT HWD
  by_cases h0 : er = 0
  · subst h0
    by_cases h1 : kind = 1
    · subst h1
      have HR := Lib.hid (show resL 1 0 n = S4 by
        rw [HQ.out, if_neg (by simp), if_pos rfl, ← HS4.out, ← HS3.out, ← HQW.out]
        simp [lineL, lpT, Lib.join_cons, Lib.joinTail, qwd])
      go_wp2_with (go_at_call 42; fail)
      refine (HN2.out _).mono ?_
      rintro r u0 ⟨rfl, rfl⟩
      go_wp2
      go_ret
      exact ⟨by rw [HR.out]; rfl, HF.out⟩
    · have HR := Lib.hid (show resL kind 0 n = S3 by
        rw [HQ.out, if_neg (by simp), if_neg h1, ← HS3.out, ← HQW.out]
        simp [lineL, lpT, Lib.join_cons, Lib.joinTail, qwd])
      go_wp2
      go_ret
      exact ⟨by rw [HR.out]; rfl, HF.out⟩
  · have HR := Lib.hid (show resL kind er n = S2 by
      rw [HQ.out, if_pos h0, ← HS2.out, ← HS1.out, ← HQW.out]
      simp [lineL, lpT, Lib.join_cons, Lib.joinTail, qwd])
    go_wp2_with (go_at_call 42; fail)
    refine (HN1.out _).mono ?_
    rintro r u0 ⟨rfl, rfl⟩
    go_wp2
    go_ret
    exact ⟨by rw [HR.out]; rfl, HF.out⟩
end Go.Proofs.YtmohiblgfmdkjaaDoor
