/-
  Layer 35: the marks of verdicts. (printed by genlst.py)
-/
import Derived.Test.YtdkhgpnidamalaaDoorStq
import Derived.Test.YtdkhgpnidamalaaDoorShu
namespace Go.Proofs.YtdkhgpnidamalaaDoor
open Go.RowKit Go.Bl
set_option linter.unusedVariables false
def markB (v : Int) : UInt8 := if v = 0 then 46 else if v = 1 then 80 else if v = 2 then 70 else if v = 3 then 84 else 63
def verL (n : Int) : List EntP → List UInt8
  | [] => []
  | e :: r => if e.obj = n then markB e.verd :: verL n r else verL n r
theorem verL_append (n : Int) : ∀ (a b : List EntP), verL n (a ++ b) = verL n a ++ verL n b
  | [], b => rfl
  | e :: r, b => by
    simp only [List.cons_append, verL, verL_append n r b]
    split <;> rfl
theorem verL_len (n : Int) : ∀ (a : List EntP), (verL n a).length ≤ a.length
  | [] => Nat.le_refl _
  | e :: r => by
    have := verL_len n r
    simp only [verL]
    split <;> simp only [List.length_cons] <;> omega
theorem verL_up {n : Int} {l : List EntP} {k : Nat} {e : EntP} (h : l[k]? = some e) : verL n (l.take (k + 1)) = verL n (l.take k) ++ (if e.obj = n then [markB e.verd] else []) := by
  rw [List.take_add_one, h, verL_append]
  congr 1
set_option maxRecDepth 100000 in
set_option maxHeartbeats 8000000 in
theorem mark_any (v : Int) (w : World) : Calls Tryd.prog 23 #[.int .i64 v] w fun e w' => e = .returned (.int .u8 ((markB v).toNat : Int)) ∧ Fr [] w w' := by
  by_cases h0 : v = 0
  · subst h0
    go_enter Tryd.func23, Tryd.ntmps23
    go_wp2
    go_ret
    exact ⟨rfl, Fr.refl _ _⟩
  by_cases h1 : v = 1
  · subst h1
    go_enter Tryd.func23, Tryd.ntmps23
    go_wp2_with (go_at_call 21; fail)
    refine (rword_any _ 1).mono ?_
    rintro r u0 ⟨rfl, rfl⟩
    rw [show bA (atL rWords 1) = ⟨#[112, 97, 115, 115]⟩ from rfl]
    go_wp2_with (go_at_call 27; fail)
    refine (Tryd.strings_ToUpper_ascii ⟨#[112, 97, 115, 115]⟩ _ (by decide) (fun j b hj => ?_)).mono ?_
    · match j, hj with
      | 0, hj => cases hj; decide
      | 1, hj => cases hj; decide
      | 2, hj => cases hj; decide
      | 3, hj => cases hj; decide
      | (j + 4), hj => simp at hj
    rintro e w1 ⟨rfl, hw⟩
    have HF := Lib.hid (fr_below hw)
    rw [show (⟨(Lib.toUpperA (⟨#[112, 97, 115, 115]⟩ : ByteArray).data.toList).toArray⟩ : ByteArray) = ⟨#[80, 65, 83, 83]⟩ from rfl]
    clear hw
    go_wp2
    go_ret
    exact ⟨rfl, HF.out⟩
  by_cases h2 : v = 2
  · subst h2
    go_enter Tryd.func23, Tryd.ntmps23
    go_wp2_with (go_at_call 21; fail)
    refine (rword_any _ 2).mono ?_
    rintro r u0 ⟨rfl, rfl⟩
    rw [show bA (atL rWords 2) = ⟨#[102, 97, 105, 108]⟩ from rfl]
    go_wp2_with (go_at_call 27; fail)
    refine (Tryd.strings_ToUpper_ascii ⟨#[102, 97, 105, 108]⟩ _ (by decide) (fun j b hj => ?_)).mono ?_
    · match j, hj with
      | 0, hj => cases hj; decide
      | 1, hj => cases hj; decide
      | 2, hj => cases hj; decide
      | 3, hj => cases hj; decide
      | (j + 4), hj => simp at hj
    rintro e w1 ⟨rfl, hw⟩
    have HF := Lib.hid (fr_below hw)
    rw [show (⟨(Lib.toUpperA (⟨#[102, 97, 105, 108]⟩ : ByteArray).data.toList).toArray⟩ : ByteArray) = ⟨#[70, 65, 73, 76]⟩ from rfl]
    clear hw
    go_wp2
    go_ret
    exact ⟨rfl, HF.out⟩
  by_cases h3 : v = 3
  · subst h3
    go_enter Tryd.func23, Tryd.ntmps23
    go_wp2_with (go_at_call 21; fail)
    refine (rword_any _ 3).mono ?_
    rintro r u0 ⟨rfl, rfl⟩
    rw [show bA (atL rWords 3) = ⟨#[116, 105, 109, 101, 111, 117, 116]⟩ from rfl]
    go_wp2_with (go_at_call 27; fail)
    refine (Tryd.strings_ToUpper_ascii ⟨#[116, 105, 109, 101, 111, 117, 116]⟩ _ (by decide) (fun j b hj => ?_)).mono ?_
    · match j, hj with
      | 0, hj => cases hj; decide
      | 1, hj => cases hj; decide
      | 2, hj => cases hj; decide
      | 3, hj => cases hj; decide
      | 4, hj => cases hj; decide
      | 5, hj => cases hj; decide
      | 6, hj => cases hj; decide
      | (j + 7), hj => simp at hj
    rintro e w1 ⟨rfl, hw⟩
    have HF := Lib.hid (fr_below hw)
    rw [show (⟨(Lib.toUpperA (⟨#[116, 105, 109, 101, 111, 117, 116]⟩ : ByteArray).data.toList).toArray⟩ : ByteArray) = ⟨#[84, 73, 77, 69, 79, 85, 84]⟩ from rfl]
    clear hw
    go_wp2
    go_ret
    exact ⟨rfl, HF.out⟩
  have hm : markB v = 63 := by
    unfold markB
    rw [if_neg h0, if_neg h1, if_neg h2, if_neg h3]
  have HM := Lib.hid hm
  have b0 : (v == 0) = false := by simpa using h0
  have b1 : (v == 1) = false := by simpa using h1
  have b2 : (v == 2) = false := by simpa using h2
  have b3 : (v == 3) = false := by simpa using h3
  clear hm h0 h1 h2 h3
  go_enter Tryd.func23, Tryd.ntmps23
  go_wp2
  go_ret
  exact ⟨by rw [HM.out]; rfl, Fr.refl _ _⟩
end Go.Proofs.YtdkhgpnidamalaaDoor
