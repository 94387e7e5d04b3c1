import Derived.Shelf.Strings.SlTrimAscii
import Derived.Test.YtnafknkchbfpaaaGreatDoorGY
set_option linter.unusedVariables false
set_option linter.unusedSimpArgs false
set_option maxRecDepth 1000000
set_option maxHeartbeats 8000000
namespace Go.Proofs
open Go.Shelf
def Tryz.lays160_ren : Go.Shelf.Ren := ⟨fun | 160 => 182 | 232 => 192 | 231 => 191 | 227 => 193 | 234 => 195 | 233 => 194 | 236 => 197 | 235 => 196 | 228 => 202 | 271 => 205 | 151 => 204 | 197 => 203 | 120 => 209 | 152 => 208 | 260 => 207 | 137 => 211 | 119 => 212 | 224 => 213 | 225 => 214 | 217 => 216 | 266 => 218 | n => n, fun | 9 => 9 | 4 => 4 | 3 => 3 | 5 => 5 | 117 => 288 | 116 => 287 | 0 => 0 | 124 => 291 | 21 => 21 | 105 => 301 | 46 => 155 | 119 => 305 | 139 => 308 | 138 => 307 | n => n, fun | 3 => 24 | 4 => 25 | n => n⟩
theorem Tryz.lays160 : Go.Proofs.Lays.n160 Tryz.prog Tryz.lays160_ren := {
 mixed := by kernel_rfl
 f119 := Tryz.func212.trans (congrArg some Y45)
 f120 := Tryz.func209.trans (congrArg some Y45)
 f137 := Tryz.func211.trans (congrArg some Y45)
 f151 := Tryz.func204.trans (congrArg some Y45)
 f152 := Tryz.func208.trans (congrArg some Y45)
 f160 := Tryz.func182.trans (congrArg some Y45)
 f197 := Tryz.func203.trans (congrArg some Y45)
 f217 := Tryz.func216.trans (congrArg some Y45)
 f224 := Tryz.func213.trans (congrArg some Y45)
 f225 := Tryz.func214.trans (congrArg some Y45)
 f227 := Tryz.func193.trans (congrArg some Y45)
 f228 := Tryz.func202.trans (congrArg some Y45)
 f231 := Tryz.func191.trans (congrArg some Y45)
 f232 := Tryz.func192.trans (congrArg some Y45)
 f233 := Tryz.func194.trans (congrArg some Y45)
 f234 := Tryz.func195.trans (congrArg some Y45)
 f235 := Tryz.func196.trans (congrArg some Y45)
 f236 := Tryz.func197.trans (congrArg some Y45)
 f260 := Tryz.func207.trans (congrArg some Y45)
 f266 := Tryz.func218.trans (congrArg some Y45)
 f271 := Tryz.func205.trans (congrArg some Y45)
 t0 := Tryz.underlying0
 a0 := Tryz.isAgg0
 z0 := Tryz.sizeOf0
 v0 := Tryz.zeroValue0
 t3 := Tryz.underlying3
 a3 := Tryz.isAgg3
 z3 := Tryz.sizeOf3
 v3 := Tryz.zeroValue3
 t4 := Tryz.underlying4
 a4 := Tryz.isAgg4
 z4 := Tryz.sizeOf4
 v4 := Tryz.zeroValue4
 t5 := Tryz.underlying5
 a5 := Tryz.isAgg5
 z5 := Tryz.sizeOf5
 v5 := Tryz.zeroValue5
 t9 := Tryz.underlying9
 a9 := Tryz.isAgg9
 z9 := Tryz.sizeOf9
 v9 := Tryz.zeroValue9
 t21 := Tryz.underlying21
 a21 := Tryz.isAgg21
 z21 := Tryz.sizeOf21
 v21 := Tryz.zeroValue21
 t46 := Tryz.underlying155
 a46 := Tryz.isAgg155
 z46 := Tryz.sizeOf155
 v46 := Tryz.zeroValue155
 t105 := Tryz.underlying301
 a105 := Tryz.isAgg301
 z105 := Tryz.sizeOf301
 v105 := Tryz.zeroValue301
 t116 := Tryz.underlying287
 a116 := Tryz.isAgg287
 z116 := Tryz.sizeOf287
 t117 := Tryz.underlying288
 a117 := Tryz.isAgg288
 z117 := Tryz.sizeOf288
 v117 := Tryz.zeroValue288
 t119 := Tryz.underlying305
 a119 := Tryz.isAgg305
 z119 := Tryz.sizeOf305
 t124 := Tryz.underlying291
 a124 := Tryz.isAgg291
 z124 := Tryz.sizeOf291
 v124 := Tryz.zeroValue291
 t138 := Tryz.underlying307
 a138 := Tryz.isAgg307
 z138 := Tryz.sizeOf307
 v138 := Tryz.zeroValue307
 t139 := Tryz.underlying308
 a139 := Tryz.isAgg308
 z139 := Tryz.sizeOf308
 v139 := Tryz.zeroValue308
 g3 := by kernel_rfl
 g4 := by kernel_rfl }
end Go.Proofs
namespace Go.Proofs.YtnafknkchbfpaaaGreatDoor
open Go.RowKit Go.Bl
theorem b8v (m : Int) : u8v (b8 m) = .int .u8 (m % 256) := by simp [u8v, Kh]
theorem yo (A : Nat -> Prop) (w : World) (m : Int) (hA : ¬ A w.heap.size) : Bs A (w.alloc (.cells #[.int .u8 (m % 256)] 5)) (.slice (some ⟨w.heap.size, 0, none⟩) 1 1) [b8 m] :=
 ⟨_, 1, rfl, by simp, by simp [maxLen], by
  have := Row.of_block (A := A) (uh (w := w) (o := .cells #[.int .u8 (m % 256)] 5) rfl) hA
  simpa [b8v] using this⟩
theorem qf0 (n : Int) : beK 8 n = [b8 (n / 72057594037927936), b8 (n / 281474976710656), b8 (n / 1099511627776), b8 (n / 4294967296), b8 (n / 16777216), b8 (n / 65536), b8 (n / 256), b8 n] := by
 simp [beK, List.range_succ]
theorem x8 (w : World) (n : Int) :
    Calls Tryz.prog 57 #[.int .i64 n] w fun e w' => ∃ u, e = .returned u /\ qs 5 w.heap.size w' u (beK 8 n) /\ Fr [] w w' := by
  obtain ⟨L, hL⟩ := exq (beK 8 n)
  rw [hL]
  have HL := Hdq (hL.symm.trans (qf0 n))
  clear hL
  go_enter Tryz.func57, Tryz.ntmps57
  go_wp2
  go_loopw [3, 4] (fun v i wr => ∃ j : Nat, j <= 8 /\ i = .int .i64 (7 - (j : Int)) /\ Hid (qs 5 w.heap.size wr v (L.take j)) /\ Hid (Fr [] w wr)) (fun _ i _ => (intOf i + 1).toNat)
  case atStart => exact ⟨0, by omega, rfl, qs.nil _ _ _, Fr.refl _ _⟩
  case round =>
    obtain ⟨j, hj, rfl, HO, HF⟩ := hrel
    have hc : j = 0 ∨ j = 1 ∨ j = 2 ∨ j = 3 ∨ j = 4 ∨ j = 5 ∨ j = 6 ∨ j = 7 ∨ j = 8 := by omega
    rcases hc with rfl | rfl | rfl | rfl | rfl | rfl | rfl | rfl | rfl
    rotate_right
    · have h8 : L.take 8 = L := by rw [HL.out]; rfl
      rw [h8] at HO
      go_wp2
      go_ret
      exact ⟨_, rfl, HO.out, HF.out⟩
    all_goals
      obtain ⟨a, cap, hv, -⟩ := HO.out.bs (A := fun _ => False) Y77
      have hs := HF.out.size
      clear hv
    · rw [show (7 - ((0 : Nat) : Int)) = 7 from rfl]
      go_wp2_with (at_builtin; refine qE (A := fun _ => False) (ys := [b8 (n / 72057594037927936)]) (base := w.heap.size) Tryz.underlying22 Tryz.infoByte rfl (.tmp 9) (.tmp 15) rfl rfl rfl (HO.out.keep (Fr.alloc (S := []) wr _) Y77) (yo _ wr _ Y77) Y69 Y46 ?_)
      intro v' w2 h5 h6
      have HO3 := Hdq (show qs 5 w.heap.size w2 v' (L.take 1) by
        rw [HL.out]
        first
          | exact h5
          | (have h7 := h5
             rw [HL.out] at h7
             exact h7))
      have HF3 := Hdq (show Fr [] w w2 from qs.fr (HO.out.keep (Fr.alloc (S := []) wr _) Y77) (Fr.al HF.out) h6 (Nat.le_refl _))
      clear h5 h6 HO HF
      go_wp2
      go_roundw
      case rel => exact ⟨1, by omega, by simp, HO3.out, HF3.out⟩
      case measure => simp [intOf]
    · rw [show (7 - ((1 : Nat) : Int)) = 6 from rfl]
      go_wp2_with (at_builtin; refine qE (A := fun _ => False) (ys := [b8 (n / 281474976710656)]) (base := w.heap.size) Tryz.underlying22 Tryz.infoByte rfl (.tmp 9) (.tmp 15) rfl rfl rfl (HO.out.keep (Fr.alloc (S := []) wr _) Y77) (yo _ wr _ Y77) Y69 Y46 ?_)
      intro v' w2 h5 h6
      have HO3 := Hdq (show qs 5 w.heap.size w2 v' (L.take 2) by
        rw [HL.out]
        first
          | exact h5
          | (have h7 := h5
             rw [HL.out] at h7
             exact h7))
      have HF3 := Hdq (show Fr [] w w2 from qs.fr (HO.out.keep (Fr.alloc (S := []) wr _) Y77) (Fr.al HF.out) h6 (Nat.le_refl _))
      clear h5 h6 HO HF
      go_wp2
      go_roundw
      case rel => exact ⟨2, by omega, by simp, HO3.out, HF3.out⟩
      case measure => simp [intOf]
    · rw [show (7 - ((2 : Nat) : Int)) = 5 from rfl]
      go_wp2_with (at_builtin; refine qE (A := fun _ => False) (ys := [b8 (n / 1099511627776)]) (base := w.heap.size) Tryz.underlying22 Tryz.infoByte rfl (.tmp 9) (.tmp 15) rfl rfl rfl (HO.out.keep (Fr.alloc (S := []) wr _) Y77) (yo _ wr _ Y77) Y69 Y46 ?_)
      intro v' w2 h5 h6
      have HO3 := Hdq (show qs 5 w.heap.size w2 v' (L.take 3) by
        rw [HL.out]
        first
          | exact h5
          | (have h7 := h5
             rw [HL.out] at h7
             exact h7))
      have HF3 := Hdq (show Fr [] w w2 from qs.fr (HO.out.keep (Fr.alloc (S := []) wr _) Y77) (Fr.al HF.out) h6 (Nat.le_refl _))
      clear h5 h6 HO HF
      go_wp2
      go_roundw
      case rel => exact ⟨3, by omega, by simp, HO3.out, HF3.out⟩
      case measure => simp [intOf]
    · rw [show (7 - ((3 : Nat) : Int)) = 4 from rfl]
      go_wp2_with (at_builtin; refine qE (A := fun _ => False) (ys := [b8 (n / 4294967296)]) (base := w.heap.size) Tryz.underlying22 Tryz.infoByte rfl (.tmp 9) (.tmp 15) rfl rfl rfl (HO.out.keep (Fr.alloc (S := []) wr _) Y77) (yo _ wr _ Y77) Y69 Y46 ?_)
      intro v' w2 h5 h6
      have HO3 := Hdq (show qs 5 w.heap.size w2 v' (L.take 4) by
        rw [HL.out]
        first
          | exact h5
          | (have h7 := h5
             rw [HL.out] at h7
             exact h7))
      have HF3 := Hdq (show Fr [] w w2 from qs.fr (HO.out.keep (Fr.alloc (S := []) wr _) Y77) (Fr.al HF.out) h6 (Nat.le_refl _))
      clear h5 h6 HO HF
      go_wp2
      go_roundw
      case rel => exact ⟨4, by omega, by simp, HO3.out, HF3.out⟩
      case measure => simp [intOf]
    · rw [show (7 - ((4 : Nat) : Int)) = 3 from rfl]
      go_wp2_with (at_builtin; refine qE (A := fun _ => False) (ys := [b8 (n / 16777216)]) (base := w.heap.size) Tryz.underlying22 Tryz.infoByte rfl (.tmp 9) (.tmp 15) rfl rfl rfl (HO.out.keep (Fr.alloc (S := []) wr _) Y77) (yo _ wr _ Y77) Y69 Y46 ?_)
      intro v' w2 h5 h6
      have HO3 := Hdq (show qs 5 w.heap.size w2 v' (L.take 5) by
        rw [HL.out]
        first
          | exact h5
          | (have h7 := h5
             rw [HL.out] at h7
             exact h7))
      have HF3 := Hdq (show Fr [] w w2 from qs.fr (HO.out.keep (Fr.alloc (S := []) wr _) Y77) (Fr.al HF.out) h6 (Nat.le_refl _))
      clear h5 h6 HO HF
      go_wp2
      go_roundw
      case rel => exact ⟨5, by omega, by simp, HO3.out, HF3.out⟩
      case measure => simp [intOf]
    · rw [show (7 - ((5 : Nat) : Int)) = 2 from rfl]
      go_wp2_with (at_builtin; refine qE (A := fun _ => False) (ys := [b8 (n / 65536)]) (base := w.heap.size) Tryz.underlying22 Tryz.infoByte rfl (.tmp 9) (.tmp 15) rfl rfl rfl (HO.out.keep (Fr.alloc (S := []) wr _) Y77) (yo _ wr _ Y77) Y69 Y46 ?_)
      intro v' w2 h5 h6
      have HO3 := Hdq (show qs 5 w.heap.size w2 v' (L.take 6) by
        rw [HL.out]
        first
          | exact h5
          | (have h7 := h5
             rw [HL.out] at h7
             exact h7))
      have HF3 := Hdq (show Fr [] w w2 from qs.fr (HO.out.keep (Fr.alloc (S := []) wr _) Y77) (Fr.al HF.out) h6 (Nat.le_refl _))
      clear h5 h6 HO HF
      go_wp2
      go_roundw
      case rel => exact ⟨6, by omega, by simp, HO3.out, HF3.out⟩
      case measure => simp [intOf]
    · rw [show (7 - ((6 : Nat) : Int)) = 1 from rfl]
      go_wp2_with (at_builtin; refine qE (A := fun _ => False) (ys := [b8 (n / 256)]) (base := w.heap.size) Tryz.underlying22 Tryz.infoByte rfl (.tmp 9) (.tmp 15) rfl rfl rfl (HO.out.keep (Fr.alloc (S := []) wr _) Y77) (yo _ wr _ Y77) Y69 Y46 ?_)
      intro v' w2 h5 h6
      have HO3 := Hdq (show qs 5 w.heap.size w2 v' (L.take 7) by
        rw [HL.out]
        first
          | exact h5
          | (have h7 := h5
             rw [HL.out] at h7
             exact h7))
      have HF3 := Hdq (show Fr [] w w2 from qs.fr (HO.out.keep (Fr.alloc (S := []) wr _) Y77) (Fr.al HF.out) h6 (Nat.le_refl _))
      clear h5 h6 HO HF
      go_wp2
      go_roundw
      case rel => exact ⟨7, by omega, by simp, HO3.out, HF3.out⟩
      case measure => simp [intOf]
    · rw [show (7 - ((7 : Nat) : Int)) = 0 from rfl]
      go_wp2_with (at_builtin; refine qE (A := fun _ => False) (ys := [b8 n]) (base := w.heap.size) Tryz.underlying22 Tryz.infoByte rfl (.tmp 9) (.tmp 15) rfl rfl rfl (HO.out.keep (Fr.alloc (S := []) wr _) Y77) (yo _ wr _ Y77) Y69 Y46 ?_)
      intro v' w2 h5 h6
      have HO3 := Hdq (show qs 5 w.heap.size w2 v' (L.take 8) by
        rw [HL.out]
        first
          | exact h5
          | (have h7 := h5
             rw [HL.out] at h7
             exact h7))
      have HF3 := Hdq (show Fr [] w w2 from qs.fr (HO.out.keep (Fr.alloc (S := []) wr _) Y77) (Fr.al HF.out) h6 (Nat.le_refl _))
      clear h5 h6 HO HF
      go_wp2
      go_roundw
      case rel => exact ⟨8, by omega, by simp, HO3.out, HF3.out⟩
      case measure => simp [intOf]
theorem WH (A : Nat -> Prop) (w : World) (v : Value) (m : List UInt8) (hB : Bs A w v m) :
  Calls Tryz.prog 166 #[v] w fun e w' => e = .returned (.bool (decide (16 <= m.length /\ m.length <= 64))) /\ Fr [] w w' := by
 obtain ⟨a, c, rfl, h2, h3, -⟩ := hB
 obtain ⟨n, hn⟩ := exq (m.length)
 rw [hn] at h2 ⊢
 clear hn
 obtain ⟨r, hr⟩ := exq (decide (16 <= n /\ n <= 64))
 rw [hr]
 have h3' : n < 16 ∨ (16 <= n /\ n <= 64) ∨ (16 <= n /\ 64 < n) := by omega
 rcases h3' with h | h | h
 ·have HE := Hdq (show r = false from hr.symm.trans (decide_eq_false Y44))
  clear hr
  have h1 : ¬ (16 : Int) <= (n : Int) := by omega
  go_enter Tryz.func166, Tryz.ntmps166
  exact Y19
 ·have HE := Hdq (show r = true from hr.symm.trans (decide_eq_true Y44))
  clear hr
  have h1 : (16 : Int) <= (n : Int) := by omega
  have h2 : (n : Int) <= 64 := by omega
  go_enter Tryz.func166, Tryz.ntmps166
  exact Y19
 ·have HE := Hdq (show r = false from hr.symm.trans (decide_eq_false Y44))
  clear hr
  have h1 : (16 : Int) <= (n : Int) := by omega
  have h2 : ¬ (n : Int) <= 64 := by omega
  go_enter Tryz.func166, Tryz.ntmps166
  exact Y19
theorem XL (w : World) (n : Int) :
  Calls Tryz.prog 168 #[.int .i64 n] w fun e w' => e = .returned (.bool (decide (0 <= n /\ n <= 1099511627776))) /\ Fr [] w w' := by
 obtain ⟨r, hr⟩ := exq (decide (0 <= n /\ n <= 1099511627776))
 rw [hr]
 have h3' : n < 0 ∨ (0 <= n /\ n <= 1099511627776) ∨ (0 <= n /\ 1099511627776 < n) := by omega
 rcases h3' with h | h | h
 ·have HE := Hdq (show r = false from hr.symm.trans (decide_eq_false Y44))
  clear hr
  have h1 : ¬ (0 : Int) <= n := by omega
  go_enter Tryz.func168, Tryz.ntmps168
  exact Y19
 ·have HE := Hdq (show r = true from hr.symm.trans (decide_eq_true Y44))
  clear hr
  have h1 : (0 : Int) <= n := by omega
  have h2 : n <= 1099511627776 := by omega
  go_enter Tryz.func168, Tryz.ntmps168
  exact Y19
 ·have HE := Hdq (show r = false from hr.symm.trans (decide_eq_false Y44))
  clear hr
  have h1 : (0 : Int) <= n := by omega
  have h2 : ¬ n <= 1099511627776 := by omega
  go_enter Tryz.func168, Tryz.ntmps168
  exact Y19
theorem Kq (w : World) : Calls Tryz.prog 167 #[.string ⟨#[109, 97, 115, 107]⟩] w fun e w' => e = .returned (.bool true) /\ Fr [] w w' := by
 have ht : Lib.trimS [109, 97, 115, 107] [97, 98, 99, 100, 101, 102, 103, 104, 105, 106, 107, 108, 109, 110, 111, 112, 113, 114, 115, 116, 117, 118, 119, 120, 121, 122] = [] := by decide
 have hc := Any.strings_Trim_laid Tryz.lays160 Y45 ⟨#[109, 97, 115, 107]⟩ ⟨#[97, 98, 99, 100, 101, 102, 103, 104, 105, 106, 107, 108, 109, 110, 111, 112, 113, 114, 115, 116, 117, 118, 119, 120, 121, 122]⟩ w Y76 Y76 (ascii_of_all Y76)
 rw [ht] at hc
 have HC := Hdq (show Calls Tryz.prog 182 #[.string ⟨#[109, 97, 115, 107]⟩, .string ⟨#[97, 98, 99, 100, 101, 102, 103, 104, 105, 106, 107, 108, 109, 110, 111, 112, 113, 114, 115, 116, 117, 118, 119, 120, 121, 122]⟩] w fun e w' => e = .returned (.string ⟨#[]⟩) /\ Below w.heap.size w w' from hc)
 exact Y1
theorem Yi (w : World) : Calls Tryz.prog 167 #[.string ⟨#[112, 108, 97, 99, 101]⟩] w fun e w' => e = .returned (.bool true) /\ Fr [] w w' := by
 have ht : Lib.trimS [112, 108, 97, 99, 101] [97, 98, 99, 100, 101, 102, 103, 104, 105, 106, 107, 108, 109, 110, 111, 112, 113, 114, 115, 116, 117, 118, 119, 120, 121, 122] = [] := by decide
 have hc := Any.strings_Trim_laid Tryz.lays160 Y45 ⟨#[112, 108, 97, 99, 101]⟩ ⟨#[97, 98, 99, 100, 101, 102, 103, 104, 105, 106, 107, 108, 109, 110, 111, 112, 113, 114, 115, 116, 117, 118, 119, 120, 121, 122]⟩ w Y76 Y76 (ascii_of_all Y76)
 rw [ht] at hc
 have HC := Hdq (show Calls Tryz.prog 182 #[.string ⟨#[112, 108, 97, 99, 101]⟩, .string ⟨#[97, 98, 99, 100, 101, 102, 103, 104, 105, 106, 107, 108, 109, 110, 111, 112, 113, 114, 115, 116, 117, 118, 119, 120, 121, 122]⟩] w fun e w' => e = .returned (.string ⟨#[]⟩) /\ Below w.heap.size w w' from hc)
 exact Y1
theorem KE (w : World) : Calls Tryz.prog 167 #[.string ⟨#[115, 101, 110, 116, 105, 110, 101, 108]⟩] w fun e w' => e = .returned (.bool true) /\ Fr [] w w' := by
 have ht : Lib.trimS [115, 101, 110, 116, 105, 110, 101, 108] [97, 98, 99, 100, 101, 102, 103, 104, 105, 106, 107, 108, 109, 110, 111, 112, 113, 114, 115, 116, 117, 118, 119, 120, 121, 122] = [] := by decide
 have hc := Any.strings_Trim_laid Tryz.lays160 Y45 ⟨#[115, 101, 110, 116, 105, 110, 101, 108]⟩ ⟨#[97, 98, 99, 100, 101, 102, 103, 104, 105, 106, 107, 108, 109, 110, 111, 112, 113, 114, 115, 116, 117, 118, 119, 120, 121, 122]⟩ w Y76 Y76 (ascii_of_all Y76)
 rw [ht] at hc
 have HC := Hdq (show Calls Tryz.prog 182 #[.string ⟨#[115, 101, 110, 116, 105, 110, 101, 108]⟩, .string ⟨#[97, 98, 99, 100, 101, 102, 103, 104, 105, 106, 107, 108, 109, 110, 111, 112, 113, 114, 115, 116, 117, 118, 119, 120, 121, 122]⟩] w fun e w' => e = .returned (.string ⟨#[]⟩) /\ Below w.heap.size w w' from hc)
 exact Y1
theorem qaA (w : World) : Calls Tryz.prog 167 #[.string ⟨#[116, 97, 103]⟩] w fun e w' => e = .returned (.bool true) /\ Fr [] w w' := by
 have ht : Lib.trimS [116, 97, 103] [97, 98, 99, 100, 101, 102, 103, 104, 105, 106, 107, 108, 109, 110, 111, 112, 113, 114, 115, 116, 117, 118, 119, 120, 121, 122] = [] := by decide
 have hc := Any.strings_Trim_laid Tryz.lays160 Y45 ⟨#[116, 97, 103]⟩ ⟨#[97, 98, 99, 100, 101, 102, 103, 104, 105, 106, 107, 108, 109, 110, 111, 112, 113, 114, 115, 116, 117, 118, 119, 120, 121, 122]⟩ w Y76 Y76 (ascii_of_all Y76)
 rw [ht] at hc
 have HC := Hdq (show Calls Tryz.prog 182 #[.string ⟨#[116, 97, 103]⟩, .string ⟨#[97, 98, 99, 100, 101, 102, 103, 104, 105, 106, 107, 108, 109, 110, 111, 112, 113, 114, 115, 116, 117, 118, 119, 120, 121, 122]⟩] w fun e w' => e = .returned (.string ⟨#[]⟩) /\ Below w.heap.size w w' from hc)
 exact Y1
theorem WC (w : World) : Calls Tryz.prog 167 #[.string ⟨#[115, 112, 111, 116]⟩] w fun e w' => e = .returned (.bool true) /\ Fr [] w w' := by
 have ht : Lib.trimS [115, 112, 111, 116] [97, 98, 99, 100, 101, 102, 103, 104, 105, 106, 107, 108, 109, 110, 111, 112, 113, 114, 115, 116, 117, 118, 119, 120, 121, 122] = [] := by decide
 have hc := Any.strings_Trim_laid Tryz.lays160 Y45 ⟨#[115, 112, 111, 116]⟩ ⟨#[97, 98, 99, 100, 101, 102, 103, 104, 105, 106, 107, 108, 109, 110, 111, 112, 113, 114, 115, 116, 117, 118, 119, 120, 121, 122]⟩ w Y76 Y76 (ascii_of_all Y76)
 rw [ht] at hc
 have HC := Hdq (show Calls Tryz.prog 182 #[.string ⟨#[115, 112, 111, 116]⟩, .string ⟨#[97, 98, 99, 100, 101, 102, 103, 104, 105, 106, 107, 108, 109, 110, 111, 112, 113, 114, 115, 116, 117, 118, 119, 120, 121, 122]⟩] w fun e w' => e = .returned (.string ⟨#[]⟩) /\ Below w.heap.size w w' from hc)
 exact Y1
structure Jv (S : ByteArray) (nm : List UInt8) : Prop where
 bytes : S.data.toList = nm
 le : nm.length <= 13
 ok : ∀ w : World, Calls Tryz.prog 167 #[.string S] w fun e w' => e = .returned (.bool true) /\ Fr [] w w'
theorem qaK : Jv ⟨#[109, 97, 115, 107]⟩ jU := ⟨rfl, by decide, Kq⟩
theorem Kn : Jv ⟨#[112, 108, 97, 99, 101]⟩ qx := ⟨rfl, by decide, Yi⟩
theorem qa6 : Jv ⟨#[115, 101, 110, 116, 105, 110, 101, 108]⟩ qV := ⟨rfl, by decide, KE⟩
theorem qbS : Jv ⟨#[116, 97, 103]⟩ jI := ⟨rfl, by decide, qaA⟩
theorem qa1 : Jv ⟨#[115, 112, 111, 116]⟩ jw := ⟨rfl, by decide, WC⟩
theorem qe4 {w : World} {v : Value} {xs : List UInt8} (h : Bs (fun _ => False) w v xs) : Bs (fun b => w.heap.size <= b) w v xs := by
 obtain ⟨a, c, h1, h2, h3, h4⟩ := h
 exact ⟨a, c, h1, h2, h3, Ll h4⟩
theorem qbp {w : World} {ops : Array Oper} {rest : List Oper} {o : Oper} {a : Go.Act} {Q : Exit -> Go.Act -> World -> Prop} (s : ByteArray) (x : Operand) (ho : o.op = .convert 9 22 x) (hgd : o.guard = none) (hx : a.eval x = .string s) (N : Nat) (hN : s.size = N) (hs : s.size <= 1000)
  (h : ∀ (b cap : Nat) (p : World), Fr [] w p -> Bs (fun _ => False) p (.slice (some ⟨b, 0, none⟩) N cap) s.data.toList -> wpList Tryz.prog ops Q rest (a.put o.dst (.slice (some ⟨b, 0, none⟩) N cap)) p) : wpList Tryz.prog ops Q (o :: rest) a w := by
 have hr := run_bytes_of_string (P := Tryz.prog) w 9 22 5 s Tryz.underlying9 Tryz.underlying22 Tryz.underlying5
 obtain ⟨cap, hcap⟩ := exq (grownCap w s.size 0 5)
 have h1 := grownCap_ge w s.size 0 5
 have h2 := grownCap_le_maxLen w s.size 0 5 (by simp [maxLen]; omega)
 rw [hcap] at hr h1 h2
 refine VK hgd (.slice (some ⟨w.heap.size, 0, none⟩) s.size cap) (w.drew.alloc (.cells (bytesRow s cap) 5 ((bytesRow s cap).size, (bytesRow s cap).size + 1))) ?_ ?_
 ·unfold execOp
  simp only [ho, hx, Sem.run_bind, hr, Result.andThen_ok, Sem.run_pure]
 ·have hl : s.data.toList.length = s.size := by simp
  subst hN
  refine h _ _ _ ((Fr.drew w).trans (Fr.alloc _ _)) ⟨some ⟨w.heap.size, 0, none⟩, cap, by rw [hl], by rw [hl]; exact h1, h2, .inr ⟨w.heap.size, 0, bytesRow s cap, 5, _, rfl, fun h => h, uh (w := w.drew) rfl, fun i hi => ?_⟩⟩
  have hi' : i < s.data.size := by simpa using hi
  rw [Nat.zero_add]
  have hi2 : i < s.size := hi'
  simp [bytesRow, Array.getElem?_append, hi2]
  rfl
def xR (E : Nat -> Addr) (k : Nat) (ev : Value) : Value := if k = 0 then ev else jQ E k
theorem UI (E : Nat -> Addr) (ev : Value) : xR E 0 ev = ev := rfl
theorem Wk (E : Nat -> Addr) {k : Nat} (ev : Value) (h : k ≠ 0) : xR E k ev = jQ E k := if_neg h
end Go.Proofs.YtnafknkchbfpaaaGreatDoor
