import Derived.Shelf.Strings.SlTrimAscii
import Derived.Test.YtdloaifdpajcjaaGreatDoorGX
import Derived.Test.YtdloaifdpajcjaaGreatDoorGE
set_option linter.unusedVariables false
set_option linter.unusedSimpArgs false
set_option maxRecDepth 1000000
set_option maxHeartbeats 8000000
namespace Go.Proofs
open Go.Shelf
def Tryz.lays160_ren : Go.Shelf.Ren := ⟨fun | 160 => 209 | 232 => 243 | 231 => 242 | 227 => 244 | 234 => 246 | 233 => 245 | 236 => 248 | 235 => 247 | 228 => 259 | 271 => 262 | 151 => 261 | 197 => 260 | 120 => 267 | 152 => 266 | 260 => 265 | 137 => 270 | 119 => 271 | 224 => 272 | 225 => 273 | 217 => 275 | 266 => 277 | n => n, fun | 9 => 9 | 4 => 4 | 3 => 3 | 5 => 5 | 117 => 358 | 116 => 357 | 0 => 0 | 124 => 361 | 21 => 21 | 105 => 376 | 46 => 238 | 119 => 382 | 139 => 385 | 138 => 384 | n => n, fun | 3 => 23 | 4 => 24 | n => n⟩
theorem Tryz.lays160 : Go.Proofs.Lays.n160 Tryz.prog Tryz.lays160_ren := {
 mixed := by kernel_rfl
 f119 := Tryz.func271.trans (congrArg some Y55)
 f120 := Tryz.func267.trans (congrArg some Y55)
 f137 := Tryz.func270.trans (congrArg some Y55)
 f151 := Tryz.func261.trans (congrArg some Y55)
 f152 := Tryz.func266.trans (congrArg some Y55)
 f160 := Tryz.func209.trans (congrArg some Y55)
 f197 := Tryz.func260.trans (congrArg some Y55)
 f217 := Tryz.func275.trans (congrArg some Y55)
 f224 := Tryz.func272.trans (congrArg some Y55)
 f225 := Tryz.func273.trans (congrArg some Y55)
 f227 := Tryz.func244.trans (congrArg some Y55)
 f228 := Tryz.func259.trans (congrArg some Y55)
 f231 := Tryz.func242.trans (congrArg some Y55)
 f232 := Tryz.func243.trans (congrArg some Y55)
 f233 := Tryz.func245.trans (congrArg some Y55)
 f234 := Tryz.func246.trans (congrArg some Y55)
 f235 := Tryz.func247.trans (congrArg some Y55)
 f236 := Tryz.func248.trans (congrArg some Y55)
 f260 := Tryz.func265.trans (congrArg some Y55)
 f266 := Tryz.func277.trans (congrArg some Y55)
 f271 := Tryz.func262.trans (congrArg some Y55)
 t0 := Tryz.underlying0
 a0 := Tryz.isAgg0
 z0 := Tryz.sizeOf0
 v0 := Tryz.zeroValue0
 t3 := Tryz.underlying3
 a3 := Tryz.isAgg3
 z3 := Tryz.sizeOf3
 v3 := Tryz.zeroValue3
 t4 := Tryz.underlying4
 a4 := Tryz.isAgg4
 z4 := Tryz.sizeOf4
 v4 := Tryz.zeroValue4
 t5 := Tryz.underlying5
 a5 := Tryz.isAgg5
 z5 := Tryz.sizeOf5
 v5 := Tryz.zeroValue5
 t9 := Tryz.underlying9
 a9 := Tryz.isAgg9
 z9 := Tryz.sizeOf9
 v9 := Tryz.zeroValue9
 t21 := Tryz.underlying21
 a21 := Tryz.isAgg21
 z21 := Tryz.sizeOf21
 v21 := Tryz.zeroValue21
 t46 := Tryz.underlying238
 a46 := Tryz.isAgg238
 z46 := Tryz.sizeOf238
 v46 := Tryz.zeroValue238
 t105 := Tryz.underlying376
 a105 := Tryz.isAgg376
 z105 := Tryz.sizeOf376
 v105 := Tryz.zeroValue376
 t116 := Tryz.underlying357
 a116 := Tryz.isAgg357
 z116 := Tryz.sizeOf357
 t117 := Tryz.underlying358
 a117 := Tryz.isAgg358
 z117 := Tryz.sizeOf358
 v117 := Tryz.zeroValue358
 t119 := Tryz.underlying382
 a119 := Tryz.isAgg382
 z119 := Tryz.sizeOf382
 t124 := Tryz.underlying361
 a124 := Tryz.isAgg361
 z124 := Tryz.sizeOf361
 v124 := Tryz.zeroValue361
 t138 := Tryz.underlying384
 a138 := Tryz.isAgg384
 z138 := Tryz.sizeOf384
 v138 := Tryz.zeroValue384
 t139 := Tryz.underlying385
 a139 := Tryz.isAgg385
 z139 := Tryz.sizeOf385
 v139 := Tryz.zeroValue385
 g3 := by kernel_rfl
 g4 := by kernel_rfl }
end Go.Proofs
namespace Go.Proofs.YtdloaifdpajcjaaGreatDoor
open Go.RowKit Go.Bl
theorem b8v (m : Int) : u8v (b8 m) = .int .u8 (m % 256) := by simp [u8v, qdM]
theorem yI (A : Nat -> Prop) (w : World) (m : Int) (hA : ¬ A w.heap.size) : Bs A (w.alloc (.cells #[.int .u8 (m % 256)] 5)) (.slice (some ⟨w.heap.size, 0, none⟩) 1 1) [b8 m] :=
 ⟨_, 1, rfl, by simp, by simp [maxLen], by
  have := Row.of_block (A := A) (vW (w := w) (o := .cells #[.int .u8 (m % 256)] 5) rfl) hA
  simpa [b8v] using this⟩
theorem qio (n : Int) : beK 8 n = [b8 (n / 72057594037927936), b8 (n / 281474976710656), b8 (n / 1099511627776), b8 (n / 4294967296), b8 (n / 16777216), b8 (n / 65536), b8 (n / 256), b8 n] := by
 simp [beK, List.range_succ]
theorem ZG (w : World) (n : Int) :
    Calls Tryz.prog 121 #[.int .i64 n] w fun e w' => ∃ u, e = .returned u /\ qt 5 w.heap.size w' u (beK 8 n) /\ Fr [] w w' := by
  obtain ⟨L, hL⟩ := exq (beK 8 n)
  rw [hL]
  have HL := Hdq (hL.symm.trans (qio n))
  clear hL
  go_enter Tryz.func121, Tryz.ntmps121
  go_wp2
  go_loopw [3, 4] (fun v i wr => ∃ j : Nat, j <= 8 /\ i = .int .i64 (7 - (j : Int)) /\ Hid (qt 5 w.heap.size wr v (L.take j)) /\ Hid (Fr [] w wr)) (fun _ i _ => (intOf i + 1).toNat)
  case atStart => exact ⟨0, by omega, rfl, qt.nil _ _ _, Fr.refl _ _⟩
  case round =>
    obtain ⟨j, hj, rfl, HO, HF⟩ := hrel
    have hc : j = 0 ∨ j = 1 ∨ j = 2 ∨ j = 3 ∨ j = 4 ∨ j = 5 ∨ j = 6 ∨ j = 7 ∨ j = 8 := by omega
    rcases hc with rfl | rfl | rfl | rfl | rfl | rfl | rfl | rfl | rfl
    rotate_right
    · have h8 : L.take 8 = L := by rw [HL.out]; rfl
      rw [h8] at HO
      exact Y7
    all_goals
      obtain ⟨a, cap, hv, -⟩ := HO.out.bs (A := fun _ => False) Y85
      have hs := HF.out.size
      clear hv
    · rw [show (7 - ((0 : Nat) : Int)) = 7 from rfl]
      go_wp2_with (at_builtin; refine qd (A := fun _ => False) (ys := [b8 (n / 72057594037927936)]) (base := w.heap.size) Tryz.underlying22 Tryz.infoByte rfl (.tmp 9) (.tmp 15) rfl rfl rfl (HO.out.keep (Fr.alloc (S := []) wr _) Y85) (yI _ wr _ Y85) Y75 Y57 ?_)
      intro v' w2 h5 h6
      have HO3 := Hdq (show qt 5 w.heap.size w2 v' (L.take 1) by
        rw [HL.out]
        first
          | exact h5
          | (have h7 := h5
             rw [HL.out] at h7
             exact h7))
      have HF3 := Hdq (show Fr [] w w2 from qt.fr (HO.out.keep (Fr.alloc (S := []) wr _) Y85) (Fr.al HF.out) h6 (Nat.le_refl _))
      clear h5 h6 HO HF
      go_wp2
      go_roundw
      case rel => exact ⟨1, by omega, by simp, HO3.out, HF3.out⟩
      case measure => simp [intOf]
    · rw [show (7 - ((1 : Nat) : Int)) = 6 from rfl]
      go_wp2_with (at_builtin; refine qd (A := fun _ => False) (ys := [b8 (n / 281474976710656)]) (base := w.heap.size) Tryz.underlying22 Tryz.infoByte rfl (.tmp 9) (.tmp 15) rfl rfl rfl (HO.out.keep (Fr.alloc (S := []) wr _) Y85) (yI _ wr _ Y85) Y75 Y57 ?_)
      intro v' w2 h5 h6
      have HO3 := Hdq (show qt 5 w.heap.size w2 v' (L.take 2) by
        rw [HL.out]
        first
          | exact h5
          | (have h7 := h5
             rw [HL.out] at h7
             exact h7))
      have HF3 := Hdq (show Fr [] w w2 from qt.fr (HO.out.keep (Fr.alloc (S := []) wr _) Y85) (Fr.al HF.out) h6 (Nat.le_refl _))
      clear h5 h6 HO HF
      go_wp2
      go_roundw
      case rel => exact ⟨2, by omega, by simp, HO3.out, HF3.out⟩
      case measure => simp [intOf]
    · rw [show (7 - ((2 : Nat) : Int)) = 5 from rfl]
      go_wp2_with (at_builtin; refine qd (A := fun _ => False) (ys := [b8 (n / 1099511627776)]) (base := w.heap.size) Tryz.underlying22 Tryz.infoByte rfl (.tmp 9) (.tmp 15) rfl rfl rfl (HO.out.keep (Fr.alloc (S := []) wr _) Y85) (yI _ wr _ Y85) Y75 Y57 ?_)
      intro v' w2 h5 h6
      have HO3 := Hdq (show qt 5 w.heap.size w2 v' (L.take 3) by
        rw [HL.out]
        first
          | exact h5
          | (have h7 := h5
             rw [HL.out] at h7
             exact h7))
      have HF3 := Hdq (show Fr [] w w2 from qt.fr (HO.out.keep (Fr.alloc (S := []) wr _) Y85) (Fr.al HF.out) h6 (Nat.le_refl _))
      clear h5 h6 HO HF
      go_wp2
      go_roundw
      case rel => exact ⟨3, by omega, by simp, HO3.out, HF3.out⟩
      case measure => simp [intOf]
    · rw [show (7 - ((3 : Nat) : Int)) = 4 from rfl]
      go_wp2_with (at_builtin; refine qd (A := fun _ => False) (ys := [b8 (n / 4294967296)]) (base := w.heap.size) Tryz.underlying22 Tryz.infoByte rfl (.tmp 9) (.tmp 15) rfl rfl rfl (HO.out.keep (Fr.alloc (S := []) wr _) Y85) (yI _ wr _ Y85) Y75 Y57 ?_)
      intro v' w2 h5 h6
      have HO3 := Hdq (show qt 5 w.heap.size w2 v' (L.take 4) by
        rw [HL.out]
        first
          | exact h5
          | (have h7 := h5
             rw [HL.out] at h7
             exact h7))
      have HF3 := Hdq (show Fr [] w w2 from qt.fr (HO.out.keep (Fr.alloc (S := []) wr _) Y85) (Fr.al HF.out) h6 (Nat.le_refl _))
      clear h5 h6 HO HF
      go_wp2
      go_roundw
      case rel => exact ⟨4, by omega, by simp, HO3.out, HF3.out⟩
      case measure => simp [intOf]
    · rw [show (7 - ((4 : Nat) : Int)) = 3 from rfl]
      go_wp2_with (at_builtin; refine qd (A := fun _ => False) (ys := [b8 (n / 16777216)]) (base := w.heap.size) Tryz.underlying22 Tryz.infoByte rfl (.tmp 9) (.tmp 15) rfl rfl rfl (HO.out.keep (Fr.alloc (S := []) wr _) Y85) (yI _ wr _ Y85) Y75 Y57 ?_)
      intro v' w2 h5 h6
      have HO3 := Hdq (show qt 5 w.heap.size w2 v' (L.take 5) by
        rw [HL.out]
        first
          | exact h5
          | (have h7 := h5
             rw [HL.out] at h7
             exact h7))
      have HF3 := Hdq (show Fr [] w w2 from qt.fr (HO.out.keep (Fr.alloc (S := []) wr _) Y85) (Fr.al HF.out) h6 (Nat.le_refl _))
      clear h5 h6 HO HF
      go_wp2
      go_roundw
      case rel => exact ⟨5, by omega, by simp, HO3.out, HF3.out⟩
      case measure => simp [intOf]
    · rw [show (7 - ((5 : Nat) : Int)) = 2 from rfl]
      go_wp2_with (at_builtin; refine qd (A := fun _ => False) (ys := [b8 (n / 65536)]) (base := w.heap.size) Tryz.underlying22 Tryz.infoByte rfl (.tmp 9) (.tmp 15) rfl rfl rfl (HO.out.keep (Fr.alloc (S := []) wr _) Y85) (yI _ wr _ Y85) Y75 Y57 ?_)
      intro v' w2 h5 h6
      have HO3 := Hdq (show qt 5 w.heap.size w2 v' (L.take 6) by
        rw [HL.out]
        first
          | exact h5
          | (have h7 := h5
             rw [HL.out] at h7
             exact h7))
      have HF3 := Hdq (show Fr [] w w2 from qt.fr (HO.out.keep (Fr.alloc (S := []) wr _) Y85) (Fr.al HF.out) h6 (Nat.le_refl _))
      clear h5 h6 HO HF
      go_wp2
      go_roundw
      case rel => exact ⟨6, by omega, by simp, HO3.out, HF3.out⟩
      case measure => simp [intOf]
    · rw [show (7 - ((6 : Nat) : Int)) = 1 from rfl]
      go_wp2_with (at_builtin; refine qd (A := fun _ => False) (ys := [b8 (n / 256)]) (base := w.heap.size) Tryz.underlying22 Tryz.infoByte rfl (.tmp 9) (.tmp 15) rfl rfl rfl (HO.out.keep (Fr.alloc (S := []) wr _) Y85) (yI _ wr _ Y85) Y75 Y57 ?_)
      intro v' w2 h5 h6
      have HO3 := Hdq (show qt 5 w.heap.size w2 v' (L.take 7) by
        rw [HL.out]
        first
          | exact h5
          | (have h7 := h5
             rw [HL.out] at h7
             exact h7))
      have HF3 := Hdq (show Fr [] w w2 from qt.fr (HO.out.keep (Fr.alloc (S := []) wr _) Y85) (Fr.al HF.out) h6 (Nat.le_refl _))
      clear h5 h6 HO HF
      go_wp2
      go_roundw
      case rel => exact ⟨7, by omega, by simp, HO3.out, HF3.out⟩
      case measure => simp [intOf]
    · rw [show (7 - ((7 : Nat) : Int)) = 0 from rfl]
      go_wp2_with (at_builtin; refine qd (A := fun _ => False) (ys := [b8 n]) (base := w.heap.size) Tryz.underlying22 Tryz.infoByte rfl (.tmp 9) (.tmp 15) rfl rfl rfl (HO.out.keep (Fr.alloc (S := []) wr _) Y85) (yI _ wr _ Y85) Y75 Y57 ?_)
      intro v' w2 h5 h6
      have HO3 := Hdq (show qt 5 w.heap.size w2 v' (L.take 8) by
        rw [HL.out]
        first
          | exact h5
          | (have h7 := h5
             rw [HL.out] at h7
             exact h7))
      have HF3 := Hdq (show Fr [] w w2 from qt.fr (HO.out.keep (Fr.alloc (S := []) wr _) Y85) (Fr.al HF.out) h6 (Nat.le_refl _))
      clear h5 h6 HO HF
      go_wp2
      go_roundw
      case rel => exact ⟨8, by omega, by simp, HO3.out, HF3.out⟩
      case measure => simp [intOf]
theorem qao (w : World) : Calls Tryz.prog 157 #[.string ⟨#[109, 97, 115, 107]⟩] w fun e w' => e = .returned (.bool true) /\ Fr [] w w' := by
 have ht : Lib.trimS [109, 97, 115, 107] [97, 98, 99, 100, 101, 102, 103, 104, 105, 106, 107, 108, 109, 110, 111, 112, 113, 114, 115, 116, 117, 118, 119, 120, 121, 122] = [] := by decide
 have hc := Any.strings_Trim_laid Tryz.lays160 Y55 ⟨#[109, 97, 115, 107]⟩ ⟨#[97, 98, 99, 100, 101, 102, 103, 104, 105, 106, 107, 108, 109, 110, 111, 112, 113, 114, 115, 116, 117, 118, 119, 120, 121, 122]⟩ w Y86 Y86 (ascii_of_all Y86)
 rw [ht] at hc
 have HC := Hdq (show Calls Tryz.prog 209 #[.string ⟨#[109, 97, 115, 107]⟩, .string ⟨#[97, 98, 99, 100, 101, 102, 103, 104, 105, 106, 107, 108, 109, 110, 111, 112, 113, 114, 115, 116, 117, 118, 119, 120, 121, 122]⟩] w fun e w' => e = .returned (.string ⟨#[]⟩) /\ Below w.heap.size w w' from hc)
 exact Y4
theorem YX (w : World) : Calls Tryz.prog 157 #[.string ⟨#[112, 108, 97, 99, 101]⟩] w fun e w' => e = .returned (.bool true) /\ Fr [] w w' := by
 have ht : Lib.trimS [112, 108, 97, 99, 101] [97, 98, 99, 100, 101, 102, 103, 104, 105, 106, 107, 108, 109, 110, 111, 112, 113, 114, 115, 116, 117, 118, 119, 120, 121, 122] = [] := by decide
 have hc := Any.strings_Trim_laid Tryz.lays160 Y55 ⟨#[112, 108, 97, 99, 101]⟩ ⟨#[97, 98, 99, 100, 101, 102, 103, 104, 105, 106, 107, 108, 109, 110, 111, 112, 113, 114, 115, 116, 117, 118, 119, 120, 121, 122]⟩ w Y86 Y86 (ascii_of_all Y86)
 rw [ht] at hc
 have HC := Hdq (show Calls Tryz.prog 209 #[.string ⟨#[112, 108, 97, 99, 101]⟩, .string ⟨#[97, 98, 99, 100, 101, 102, 103, 104, 105, 106, 107, 108, 109, 110, 111, 112, 113, 114, 115, 116, 117, 118, 119, 120, 121, 122]⟩] w fun e w' => e = .returned (.string ⟨#[]⟩) /\ Below w.heap.size w w' from hc)
 exact Y4
theorem LH (w : World) : Calls Tryz.prog 157 #[.string ⟨#[115, 101, 110, 116, 105, 110, 101, 108]⟩] w fun e w' => e = .returned (.bool true) /\ Fr [] w w' := by
 have ht : Lib.trimS [115, 101, 110, 116, 105, 110, 101, 108] [97, 98, 99, 100, 101, 102, 103, 104, 105, 106, 107, 108, 109, 110, 111, 112, 113, 114, 115, 116, 117, 118, 119, 120, 121, 122] = [] := by decide
 have hc := Any.strings_Trim_laid Tryz.lays160 Y55 ⟨#[115, 101, 110, 116, 105, 110, 101, 108]⟩ ⟨#[97, 98, 99, 100, 101, 102, 103, 104, 105, 106, 107, 108, 109, 110, 111, 112, 113, 114, 115, 116, 117, 118, 119, 120, 121, 122]⟩ w Y86 Y86 (ascii_of_all Y86)
 rw [ht] at hc
 have HC := Hdq (show Calls Tryz.prog 209 #[.string ⟨#[115, 101, 110, 116, 105, 110, 101, 108]⟩, .string ⟨#[97, 98, 99, 100, 101, 102, 103, 104, 105, 106, 107, 108, 109, 110, 111, 112, 113, 114, 115, 116, 117, 118, 119, 120, 121, 122]⟩] w fun e w' => e = .returned (.string ⟨#[]⟩) /\ Below w.heap.size w w' from hc)
 exact Y4
theorem qb8 (w : World) : Calls Tryz.prog 157 #[.string ⟨#[116, 97, 103]⟩] w fun e w' => e = .returned (.bool true) /\ Fr [] w w' := by
 have ht : Lib.trimS [116, 97, 103] [97, 98, 99, 100, 101, 102, 103, 104, 105, 106, 107, 108, 109, 110, 111, 112, 113, 114, 115, 116, 117, 118, 119, 120, 121, 122] = [] := by decide
 have hc := Any.strings_Trim_laid Tryz.lays160 Y55 ⟨#[116, 97, 103]⟩ ⟨#[97, 98, 99, 100, 101, 102, 103, 104, 105, 106, 107, 108, 109, 110, 111, 112, 113, 114, 115, 116, 117, 118, 119, 120, 121, 122]⟩ w Y86 Y86 (ascii_of_all Y86)
 rw [ht] at hc
 have HC := Hdq (show Calls Tryz.prog 209 #[.string ⟨#[116, 97, 103]⟩, .string ⟨#[97, 98, 99, 100, 101, 102, 103, 104, 105, 106, 107, 108, 109, 110, 111, 112, 113, 114, 115, 116, 117, 118, 119, 120, 121, 122]⟩] w fun e w' => e = .returned (.string ⟨#[]⟩) /\ Below w.heap.size w w' from hc)
 exact Y4
theorem LQ (w : World) : Calls Tryz.prog 157 #[.string ⟨#[115, 112, 111, 116]⟩] w fun e w' => e = .returned (.bool true) /\ Fr [] w w' := by
 have ht : Lib.trimS [115, 112, 111, 116] [97, 98, 99, 100, 101, 102, 103, 104, 105, 106, 107, 108, 109, 110, 111, 112, 113, 114, 115, 116, 117, 118, 119, 120, 121, 122] = [] := by decide
 have hc := Any.strings_Trim_laid Tryz.lays160 Y55 ⟨#[115, 112, 111, 116]⟩ ⟨#[97, 98, 99, 100, 101, 102, 103, 104, 105, 106, 107, 108, 109, 110, 111, 112, 113, 114, 115, 116, 117, 118, 119, 120, 121, 122]⟩ w Y86 Y86 (ascii_of_all Y86)
 rw [ht] at hc
 have HC := Hdq (show Calls Tryz.prog 209 #[.string ⟨#[115, 112, 111, 116]⟩, .string ⟨#[97, 98, 99, 100, 101, 102, 103, 104, 105, 106, 107, 108, 109, 110, 111, 112, 113, 114, 115, 116, 117, 118, 119, 120, 121, 122]⟩] w fun e w' => e = .returned (.string ⟨#[]⟩) /\ Below w.heap.size w w' from hc)
 exact Y4
structure x9 (S : ByteArray) (nm : List UInt8) : Prop where
 bytes : S.data.toList = nm
 le : nm.length <= 13
 ok : ∀ w : World, Calls Tryz.prog 157 #[.string S] w fun e w' => e = .returned (.bool true) /\ Fr [] w w'
theorem yT : x9 ⟨#[109, 97, 115, 107]⟩ qS := ⟨rfl, by decide, qao⟩
theorem xX : x9 ⟨#[112, 108, 97, 99, 101]⟩ ql := ⟨rfl, by decide, YX⟩
theorem yU : x9 ⟨#[115, 101, 110, 116, 105, 110, 101, 108]⟩ qG := ⟨rfl, by decide, LH⟩
theorem Jc : x9 ⟨#[116, 97, 103]⟩ jd := ⟨rfl, by decide, qb8⟩
theorem yN : x9 ⟨#[115, 112, 111, 116]⟩ jK := ⟨rfl, by decide, LQ⟩
end Go.Proofs.YtdloaifdpajcjaaGreatDoor
