/-
  DERIVED. GIVEN WITH THE SEED: THE PROGRAM's TIES (one call each: nine closed facts by the kernel) AND EACH ROW's TIE, after the 31st guide's Derived/Test/Toyas{Tie, Card}.lean. No idea stands in it: it is a product of the set-up. Laid BY PROGRAM, IN A SANDBOX (cutbox-door.mjs). By AI agents, Wed Nov 11 2026. No macro, syntax, notation, axiom, sorry.
-/
import Derived.Test.YtdloaifdpajcjaaGreatDoorRows
import Derived.LaidByTextLater
import Derived.SevenTiedAt
import Derived.LaidSub
import Derived.LaidOnce
namespace Go.Proofs.YtdloaifdpajcjaaGreatDoor
open Go
set_option maxRecDepth 100000
theorem seatTie1 : Tryz.prog.laidByTextLater [("unicode/utf8.acceptRanges", Rows.laid_unicode_utf8_acceptRanges), ("bailee/api.ErrRange", Rows.laid_bailee_api_ErrRange), ("bailee/api.ErrShort", Rows.laid_bailee_api_ErrShort), ("bailee/api.ErrLong", Rows.laid_bailee_api_ErrLong), ("bailee/api.ErrForm", Rows.laid_bailee_api_ErrForm), ("bailee/api.ErrSum", Rows.laid_bailee_api_ErrSum), ("bailee/api.ErrName", Rows.laid_bailee_api_ErrName), ("bailee/api.ErrKind", Rows.laid_bailee_api_ErrKind), ("bailee/api.ErrSize", Rows.laid_bailee_api_ErrSize), ("bailee/api.ErrKey", Rows.laid_bailee_api_ErrKey), ("bailee/api.ErrDup", Rows.laid_bailee_api_ErrDup), ("bailee/api.ErrNone", Rows.laid_bailee_api_ErrNone), ("bailee/api.ErrFull", Rows.laid_bailee_api_ErrFull), ("bailee/api.ErrState", Rows.laid_bailee_api_ErrState), ("bailee/api.ErrPower", Rows.laid_bailee_api_ErrPower), ("bailee/api.ErrProof", Rows.laid_bailee_api_ErrProof), ("bailee/api.ErrSpare", Rows.laid_bailee_api_ErrSpare), ("bailee/api.ErrLost", Rows.laid_bailee_api_ErrLost), ("bailee/api.ErrBudget", Rows.laid_bailee_api_ErrBudget), ("bailee/api.ErrLate", Rows.laid_bailee_api_ErrLate), ("bailee/api.ErrZero", Rows.laid_bailee_api_ErrZero), ("bailee/sha.first", Rows.laid_bailee_sha_first), ("bailee/sha.added", Rows.laid_bailee_sha_added)] [.data, .sentinel, .sentinel, .sentinel, .sentinel, .sentinel, .sentinel, .sentinel, .sentinel, .sentinel, .sentinel, .sentinel, .sentinel, .sentinel, .sentinel, .sentinel, .sentinel, .sentinel, .sentinel, .sentinel, .sentinel, .data, .data] true :=
  Program.laidByTextLater_by_one 409 8 65 (by kernel_rfl) (by kernel_rfl) (by kernel_rfl) (by kernel_rfl) (by kernel_rfl) (by kernel_rfl) (fun _ _ => by kernel_rfl)
theorem pin_laid_unicode_utf8_first : Tryz.pinned.checked.prog.pinnedFits "unicode/utf8.first" = true := by kernel_rfl
theorem noOwnUnsafe : Tryz.pinned.checked.prog.headLifts.contains "ownunsafe" = false := by kernel_rfl
theorem fits1 : Tryz.pinned.checked.prog.listedFits [("unicode/utf8.acceptRanges", Rows.laid_unicode_utf8_acceptRanges), ("bailee/api.ErrRange", Rows.laid_bailee_api_ErrRange), ("bailee/api.ErrForm", Rows.laid_bailee_api_ErrForm), ("bailee/api.ErrName", Rows.laid_bailee_api_ErrName), ("bailee/api.ErrKind", Rows.laid_bailee_api_ErrKind), ("bailee/api.ErrSize", Rows.laid_bailee_api_ErrSize), ("bailee/api.ErrKey", Rows.laid_bailee_api_ErrKey), ("bailee/api.ErrProof", Rows.laid_bailee_api_ErrProof), ("bailee/api.ErrBudget", Rows.laid_bailee_api_ErrBudget), ("bailee/sha.first", Rows.laid_bailee_sha_first), ("bailee/sha.added", Rows.laid_bailee_sha_added), ("unicode/utf8.first", Rows.laid_unicode_utf8_first)] = true := by
  unfold Program.listedFits
  rw [noOwnUnsafe]
  kernel_rfl
theorem tie : Tryz.prog.laidByTextLater [("unicode/utf8.acceptRanges", Rows.laid_unicode_utf8_acceptRanges), ("bailee/api.ErrRange", Rows.laid_bailee_api_ErrRange), ("bailee/api.ErrForm", Rows.laid_bailee_api_ErrForm), ("bailee/api.ErrName", Rows.laid_bailee_api_ErrName), ("bailee/api.ErrKind", Rows.laid_bailee_api_ErrKind), ("bailee/api.ErrSize", Rows.laid_bailee_api_ErrSize), ("bailee/api.ErrKey", Rows.laid_bailee_api_ErrKey), ("bailee/api.ErrProof", Rows.laid_bailee_api_ErrProof), ("bailee/api.ErrBudget", Rows.laid_bailee_api_ErrBudget), ("bailee/sha.first", Rows.laid_bailee_sha_first), ("bailee/sha.added", Rows.laid_bailee_sha_added)] [.data, .sentinel, .sentinel, .sentinel, .sentinel, .sentinel, .sentinel, .sentinel, .sentinel, .data, .data] true :=
  Program.laidByTextLater.sub seatTie1 ["unicode/utf8.acceptRanges", "bailee/api.ErrRange", "bailee/api.ErrForm", "bailee/api.ErrName", "bailee/api.ErrKind", "bailee/api.ErrSize", "bailee/api.ErrKey", "bailee/api.ErrProof", "bailee/api.ErrBudget", "bailee/sha.first", "bailee/sha.added"] (by kernel_rfl) (by kernel_rfl)
theorem judgeSound_row_tie : Rows.judgeSoundRow.laidByTextAt .later Tryz.pinned [.data, .sentinel, .sentinel, .sentinel, .sentinel, .sentinel, .sentinel, .sentinel, .sentinel, .data, .data, .pinned] true :=
  OpenClaim.laidByTextAt_pinned rfl rfl tie rfl rfl rfl rfl (fun y hy _e => by
    simp only [Rows.judgeSoundRow, List.zip_cons_cons, List.zip_nil_right, List.mem_cons, List.mem_nil_iff, or_false] at hy
    rcases hy with rfl | rfl | rfl | rfl | rfl | rfl | rfl | rfl | rfl | rfl | rfl | rfl
    · cases _e
    · cases _e
    · cases _e
    · cases _e
    · cases _e
    · cases _e
    · cases _e
    · cases _e
    · cases _e
    · cases _e
    · cases _e
    · exact ⟨pin_laid_unicode_utf8_first, by kernel_rfl⟩) fits1
theorem fits2 : Tryz.pinned.checked.prog.listedFits [("unicode/utf8.acceptRanges", Rows.laid_unicode_utf8_acceptRanges), ("bailee/api.ErrRange", Rows.laid_bailee_api_ErrRange), ("bailee/api.ErrLong", Rows.laid_bailee_api_ErrLong), ("bailee/api.ErrForm", Rows.laid_bailee_api_ErrForm), ("bailee/api.ErrName", Rows.laid_bailee_api_ErrName), ("bailee/api.ErrKind", Rows.laid_bailee_api_ErrKind), ("bailee/api.ErrSize", Rows.laid_bailee_api_ErrSize), ("bailee/api.ErrKey", Rows.laid_bailee_api_ErrKey), ("bailee/api.ErrProof", Rows.laid_bailee_api_ErrProof), ("bailee/api.ErrBudget", Rows.laid_bailee_api_ErrBudget), ("bailee/sha.first", Rows.laid_bailee_sha_first), ("bailee/sha.added", Rows.laid_bailee_sha_added), ("unicode/utf8.first", Rows.laid_unicode_utf8_first)] = true := by
  unfold Program.listedFits
  rw [noOwnUnsafe]
  kernel_rfl
theorem tie2 : Tryz.prog.laidByTextLater [("unicode/utf8.acceptRanges", Rows.laid_unicode_utf8_acceptRanges), ("bailee/api.ErrRange", Rows.laid_bailee_api_ErrRange), ("bailee/api.ErrLong", Rows.laid_bailee_api_ErrLong), ("bailee/api.ErrForm", Rows.laid_bailee_api_ErrForm), ("bailee/api.ErrName", Rows.laid_bailee_api_ErrName), ("bailee/api.ErrKind", Rows.laid_bailee_api_ErrKind), ("bailee/api.ErrSize", Rows.laid_bailee_api_ErrSize), ("bailee/api.ErrKey", Rows.laid_bailee_api_ErrKey), ("bailee/api.ErrProof", Rows.laid_bailee_api_ErrProof), ("bailee/api.ErrBudget", Rows.laid_bailee_api_ErrBudget), ("bailee/sha.first", Rows.laid_bailee_sha_first), ("bailee/sha.added", Rows.laid_bailee_sha_added)] [.data, .sentinel, .sentinel, .sentinel, .sentinel, .sentinel, .sentinel, .sentinel, .sentinel, .sentinel, .data, .data] true :=
  Program.laidByTextLater.sub seatTie1 ["unicode/utf8.acceptRanges", "bailee/api.ErrRange", "bailee/api.ErrLong", "bailee/api.ErrForm", "bailee/api.ErrName", "bailee/api.ErrKind", "bailee/api.ErrSize", "bailee/api.ErrKey", "bailee/api.ErrProof", "bailee/api.ErrBudget", "bailee/sha.first", "bailee/sha.added"] (by kernel_rfl) (by kernel_rfl)
theorem judgeHonest_row_tie : Rows.judgeHonestRow.laidByTextAt .later Tryz.pinned [.data, .sentinel, .sentinel, .sentinel, .sentinel, .sentinel, .sentinel, .sentinel, .sentinel, .sentinel, .data, .data, .pinned] true :=
  OpenClaim.laidByTextAt_pinned rfl rfl tie2 rfl rfl rfl rfl (fun y hy _e => by
    simp only [Rows.judgeHonestRow, List.zip_cons_cons, List.zip_nil_right, List.mem_cons, List.mem_nil_iff, or_false] at hy
    rcases hy with rfl | rfl | rfl | rfl | rfl | rfl | rfl | rfl | rfl | rfl | rfl | rfl | rfl
    · cases _e
    · cases _e
    · cases _e
    · cases _e
    · cases _e
    · cases _e
    · cases _e
    · cases _e
    · cases _e
    · cases _e
    · cases _e
    · cases _e
    · exact ⟨pin_laid_unicode_utf8_first, by kernel_rfl⟩) fits2
theorem fits3 : Tryz.pinned.checked.prog.listedFits [("unicode/utf8.acceptRanges", Rows.laid_unicode_utf8_acceptRanges), ("bailee/api.ErrRange", Rows.laid_bailee_api_ErrRange), ("bailee/api.ErrShort", Rows.laid_bailee_api_ErrShort), ("bailee/api.ErrLong", Rows.laid_bailee_api_ErrLong), ("bailee/api.ErrForm", Rows.laid_bailee_api_ErrForm), ("bailee/api.ErrSum", Rows.laid_bailee_api_ErrSum), ("bailee/api.ErrName", Rows.laid_bailee_api_ErrName), ("bailee/api.ErrKind", Rows.laid_bailee_api_ErrKind), ("bailee/api.ErrSize", Rows.laid_bailee_api_ErrSize), ("bailee/api.ErrKey", Rows.laid_bailee_api_ErrKey), ("bailee/api.ErrDup", Rows.laid_bailee_api_ErrDup), ("bailee/api.ErrNone", Rows.laid_bailee_api_ErrNone), ("bailee/api.ErrFull", Rows.laid_bailee_api_ErrFull), ("bailee/api.ErrState", Rows.laid_bailee_api_ErrState), ("bailee/api.ErrPower", Rows.laid_bailee_api_ErrPower), ("bailee/api.ErrProof", Rows.laid_bailee_api_ErrProof), ("bailee/api.ErrSpare", Rows.laid_bailee_api_ErrSpare), ("bailee/api.ErrLost", Rows.laid_bailee_api_ErrLost), ("bailee/api.ErrBudget", Rows.laid_bailee_api_ErrBudget), ("bailee/api.ErrLate", Rows.laid_bailee_api_ErrLate), ("bailee/api.ErrZero", Rows.laid_bailee_api_ErrZero), ("bailee/sha.first", Rows.laid_bailee_sha_first), ("bailee/sha.added", Rows.laid_bailee_sha_added), ("unicode/utf8.first", Rows.laid_unicode_utf8_first)] = true := by
  unfold Program.listedFits
  rw [noOwnUnsafe]
  kernel_rfl
theorem tie3 : Tryz.prog.laidByTextLater [("unicode/utf8.acceptRanges", Rows.laid_unicode_utf8_acceptRanges), ("bailee/api.ErrRange", Rows.laid_bailee_api_ErrRange), ("bailee/api.ErrShort", Rows.laid_bailee_api_ErrShort), ("bailee/api.ErrLong", Rows.laid_bailee_api_ErrLong), ("bailee/api.ErrForm", Rows.laid_bailee_api_ErrForm), ("bailee/api.ErrSum", Rows.laid_bailee_api_ErrSum), ("bailee/api.ErrName", Rows.laid_bailee_api_ErrName), ("bailee/api.ErrKind", Rows.laid_bailee_api_ErrKind), ("bailee/api.ErrSize", Rows.laid_bailee_api_ErrSize), ("bailee/api.ErrKey", Rows.laid_bailee_api_ErrKey), ("bailee/api.ErrDup", Rows.laid_bailee_api_ErrDup), ("bailee/api.ErrNone", Rows.laid_bailee_api_ErrNone), ("bailee/api.ErrFull", Rows.laid_bailee_api_ErrFull), ("bailee/api.ErrState", Rows.laid_bailee_api_ErrState), ("bailee/api.ErrPower", Rows.laid_bailee_api_ErrPower), ("bailee/api.ErrProof", Rows.laid_bailee_api_ErrProof), ("bailee/api.ErrSpare", Rows.laid_bailee_api_ErrSpare), ("bailee/api.ErrLost", Rows.laid_bailee_api_ErrLost), ("bailee/api.ErrBudget", Rows.laid_bailee_api_ErrBudget), ("bailee/api.ErrLate", Rows.laid_bailee_api_ErrLate), ("bailee/api.ErrZero", Rows.laid_bailee_api_ErrZero), ("bailee/sha.first", Rows.laid_bailee_sha_first), ("bailee/sha.added", Rows.laid_bailee_sha_added)] [.data, .sentinel, .sentinel, .sentinel, .sentinel, .sentinel, .sentinel, .sentinel, .sentinel, .sentinel, .sentinel, .sentinel, .sentinel, .sentinel, .sentinel, .sentinel, .sentinel, .sentinel, .sentinel, .sentinel, .sentinel, .data, .data] true :=
  Program.laidByTextLater.sub seatTie1 ["unicode/utf8.acceptRanges", "bailee/api.ErrRange", "bailee/api.ErrShort", "bailee/api.ErrLong", "bailee/api.ErrForm", "bailee/api.ErrSum", "bailee/api.ErrName", "bailee/api.ErrKind", "bailee/api.ErrSize", "bailee/api.ErrKey", "bailee/api.ErrDup", "bailee/api.ErrNone", "bailee/api.ErrFull", "bailee/api.ErrState", "bailee/api.ErrPower", "bailee/api.ErrProof", "bailee/api.ErrSpare", "bailee/api.ErrLost", "bailee/api.ErrBudget", "bailee/api.ErrLate", "bailee/api.ErrZero", "bailee/sha.first", "bailee/sha.added"] (by kernel_rfl) (by kernel_rfl)
theorem aheadFits_row_tie : Rows.aheadFitsRow.laidByTextAt .later Tryz.pinned [.data, .sentinel, .sentinel, .sentinel, .sentinel, .sentinel, .sentinel, .sentinel, .sentinel, .sentinel, .sentinel, .sentinel, .sentinel, .sentinel, .sentinel, .sentinel, .sentinel, .sentinel, .sentinel, .sentinel, .sentinel, .data, .data, .pinned] true :=
  OpenClaim.laidByTextAt_pinned rfl rfl tie3 rfl rfl rfl rfl (fun y hy _e => by
    simp only [Rows.aheadFitsRow, List.zip_cons_cons, List.zip_nil_right, List.mem_cons, List.mem_nil_iff, or_false] at hy
    rcases hy with rfl | rfl | rfl | rfl | rfl | rfl | rfl | rfl | rfl | rfl | rfl | rfl | rfl | rfl | rfl | rfl | rfl | rfl | rfl | rfl | rfl | rfl | rfl | rfl
    · cases _e
    · cases _e
    · cases _e
    · cases _e
    · cases _e
    · cases _e
    · cases _e
    · cases _e
    · cases _e
    · cases _e
    · cases _e
    · cases _e
    · cases _e
    · cases _e
    · cases _e
    · cases _e
    · cases _e
    · cases _e
    · cases _e
    · cases _e
    · cases _e
    · cases _e
    · cases _e
    · exact ⟨pin_laid_unicode_utf8_first, by kernel_rfl⟩) fits3
theorem judgeSoundUpto_row_tie : Rows.judgeSoundUptoRow.laidByTextAt .later Tryz.pinned [.data, .sentinel, .sentinel, .sentinel, .sentinel, .sentinel, .sentinel, .sentinel, .sentinel, .data, .data, .pinned] true :=
  OpenClaim.laidByTextAt_pinned rfl rfl tie rfl rfl rfl rfl (fun y hy _e => by
    simp only [Rows.judgeSoundUptoRow, List.zip_cons_cons, List.zip_nil_right, List.mem_cons, List.mem_nil_iff, or_false] at hy
    rcases hy with rfl | rfl | rfl | rfl | rfl | rfl | rfl | rfl | rfl | rfl | rfl | rfl
    · cases _e
    · cases _e
    · cases _e
    · cases _e
    · cases _e
    · cases _e
    · cases _e
    · cases _e
    · cases _e
    · cases _e
    · cases _e
    · exact ⟨pin_laid_unicode_utf8_first, by kernel_rfl⟩) fits1
theorem judgeHonestUpto_row_tie : Rows.judgeHonestUptoRow.laidByTextAt .later Tryz.pinned [.data, .sentinel, .sentinel, .sentinel, .sentinel, .sentinel, .sentinel, .sentinel, .sentinel, .sentinel, .data, .data, .pinned] true :=
  OpenClaim.laidByTextAt_pinned rfl rfl tie2 rfl rfl rfl rfl (fun y hy _e => by
    simp only [Rows.judgeHonestUptoRow, List.zip_cons_cons, List.zip_nil_right, List.mem_cons, List.mem_nil_iff, or_false] at hy
    rcases hy with rfl | rfl | rfl | rfl | rfl | rfl | rfl | rfl | rfl | rfl | rfl | rfl | rfl
    · cases _e
    · cases _e
    · cases _e
    · cases _e
    · cases _e
    · cases _e
    · cases _e
    · cases _e
    · cases _e
    · cases _e
    · cases _e
    · cases _e
    · exact ⟨pin_laid_unicode_utf8_first, by kernel_rfl⟩) fits2
theorem aheadFitsUpto_row_tie : Rows.aheadFitsUptoRow.laidByTextAt .later Tryz.pinned [.data, .sentinel, .sentinel, .sentinel, .sentinel, .sentinel, .sentinel, .sentinel, .sentinel, .sentinel, .sentinel, .sentinel, .sentinel, .sentinel, .sentinel, .sentinel, .sentinel, .sentinel, .sentinel, .sentinel, .sentinel, .data, .data, .pinned] true :=
  OpenClaim.laidByTextAt_pinned rfl rfl tie3 rfl rfl rfl rfl (fun y hy _e => by
    simp only [Rows.aheadFitsUptoRow, List.zip_cons_cons, List.zip_nil_right, List.mem_cons, List.mem_nil_iff, or_false] at hy
    rcases hy with rfl | rfl | rfl | rfl | rfl | rfl | rfl | rfl | rfl | rfl | rfl | rfl | rfl | rfl | rfl | rfl | rfl | rfl | rfl | rfl | rfl | rfl | rfl | rfl
    · cases _e
    · cases _e
    · cases _e
    · cases _e
    · cases _e
    · cases _e
    · cases _e
    · cases _e
    · cases _e
    · cases _e
    · cases _e
    · cases _e
    · cases _e
    · cases _e
    · cases _e
    · cases _e
    · cases _e
    · cases _e
    · cases _e
    · cases _e
    · cases _e
    · cases _e
    · cases _e
    · exact ⟨pin_laid_unicode_utf8_first, by kernel_rfl⟩) fits3
end Go.Proofs.YtdloaifdpajcjaaGreatDoor
