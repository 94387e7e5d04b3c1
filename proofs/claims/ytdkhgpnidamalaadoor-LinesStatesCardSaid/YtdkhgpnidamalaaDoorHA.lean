/-
  Texts as lists of bytes.
  Layer 35, the document: a number's figures.
  Layer 35: words and numbers: the document's word, num, at; the program's words of kinds.
-/
import Derived.Test.YtdkhgpnidamalaaDoorGA
import Derived.Lib.Join
import Derived.Lib.ItoaNum
import Derived.Laws.Concat
import Derived.Laws.StructEq
import Derived.Test.YtdkhgpnidamalaaDoorRows
import Derived.WalkSpells
namespace Go.Bl
open Go.RowKit
set_option linter.unusedVariables false
/-- the text of some bytes -/
def bA (l : List UInt8) : ByteArray := ⟨l.toArray⟩
theorem bA_list (s : ByteArray) : bA s.data.toList = s := by
  unfold bA
  rcases s with ⟨d⟩
  simp
theorem bA_toList (l : List UInt8) : (bA l).data.toList = l := by simp [bA]
theorem bA_append (a b : List UInt8) : bA a ++ bA b = bA (a ++ b) := by
  unfold bA
  apply ByteArray.ext
  rw [ByteArray.data_append]
  simp
theorem bA_size (l : List UInt8) : (bA l).size = l.length := by simp [bA, ByteArray.size]
theorem bA_inj {a b : List UInt8} : bA a = bA b ↔ a = b := by
  constructor
  · intro h
    have := congrArg (fun s : ByteArray => s.data.toList) h
    simpa [bA] using this
  · rintro rfl; rfl
theorem bA_extract (l : List UInt8) (i j : Nat) : (bA l).extract i j = bA ((l.drop i).take (j - i)) := by
  unfold bA
  apply ByteArray.ext
  rw [ByteArray.data_extract]
  apply Array.ext'
  simp
/-- texts put side by side -/
theorem run_cat {P : Program} (x y : List UInt8) (h : x.length + y.length ≤ 9223372036854775807) (w : World) : (Op.stringOp .add (bA x) (bA y)).run P w = .ok (.string (bA (x ++ y))) w := by
  rw [run_string_add_sum w _ _ (by rw [bA_size, bA_size]; exact h), bA_append]
theorem bA_tl (l : List UInt8) : (bA l).toList = l := by rw [ByteArray.toList_eq, bA_toList]
theorem bA_empty : (bA []).toList.isEmpty = true := by rw [bA_tl]; rfl
theorem bA_full {l : List UInt8} (h : l ≠ []) : (bA l).toList.isEmpty = false := by
  rw [bA_tl]
  cases l with
  | nil => exact absurd rfl h
  | cons => rfl
/-- texts that are compared -/
theorem run_eqs {P : Program} (x y : List UInt8) (w : World) : (Op.stringOp .eql (bA x) (bA y)).run P w = .ok (.bool (x == y)) w := by
  simp [Op.stringOp, bA_tl]
theorem join_len (sep : List UInt8) (K : Nat) : ∀ (xs : List (List UInt8)), (∀ x ∈ xs, x.length ≤ K) → (Lib.join xs sep).length ≤ xs.length * (K + sep.length)
  | [], _ => by simp [Lib.join_nil]
  | x :: r, h => by
    have h1 : ∀ (r : List (List UInt8)), (∀ x ∈ r, x.length ≤ K) → (Lib.joinTail sep r).length ≤ r.length * (K + sep.length) := by
      intro r
      induction r with
      | nil => intro _; simp [Lib.joinTail]
      | cons y r ih =>
        intro h
        have h2 := ih (fun x hx => h x (List.mem_cons_of_mem _ hx))
        have h3 := h y (by simp)
        simp only [Lib.joinTail, List.map_cons, List.flatten_cons, List.length_append, List.length_cons] at h2 ⊢
        rw [Nat.succ_mul]
        omega
    rw [Lib.join_cons, List.length_append, List.length_cons, Nat.succ_mul]
    have h2 := h1 r (fun x hx => h x (List.mem_cons_of_mem _ hx))
    have h3 := h x (by simp)
    omega
theorem dec_len : ∀ (k u : Nat), u < 10 ^ (k + 1) → (Lib.decDigits u).length ≤ k + 1
  | 0, u, h => by rw [Lib.decDigits_one (by omega)]; simp
  | k + 1, u, h => by
    by_cases hu : u < 10
    · rw [Lib.decDigits_one hu]; simp
    · rw [Lib.decDigits, dif_neg hu, List.length_append]
      have := dec_len k (u / 10) (by
        have : 10 ^ (k + 1 + 1) = 10 * 10 ^ (k + 1) := by rw [Nat.pow_succ, Nat.mul_comm]
        omega)
      simp only [List.length_cons, List.length_nil]
      omega
theorem itoa_len (n : Int) (h1 : -9223372036854775808 ≤ n) (h2 : n ≤ 9223372036854775807) : (Lib.itoa n).length ≤ 20 := by
  unfold Lib.itoa
  split
  · have := dec_len 18 n.natAbs (by omega)
    rw [List.length_cons]
    omega
  · have := dec_len 18 n.toNat (by omega)
    omega
theorem itoa_ne (n : Int) : Lib.itoa n ≠ [] := by
  unfold Lib.itoa
  split
  · simp
  · rw [Lib.decDigits]
    split
    · simp
    · simp
end Go.Bl
namespace Go.Proofs.YtdkhgpnidamalaaDoor
open Go.RowKit Go.Bl
set_option linter.unusedVariables false
theorem itoa_small {n : Int} (h1 : -10 < n) (h2 : n < 10) : Lib.itoa n = (if 0 ≤ n then [] else [45]) ++ [UInt8.ofNat (48 + n.natAbs % 10)] := by
  unfold Lib.itoa
  by_cases h : n < 0
  · rw [if_pos h, if_neg (by omega), Lib.decDigits_one (by omega), Nat.mod_eq_of_lt (by omega)]
    rfl
  · rw [if_neg h, if_pos (by omega), Lib.decDigits_one (by omega), Nat.mod_eq_of_lt (by omega), show n.toNat = n.natAbs by omega]
    rfl
theorem itoa_big {n : Int} (h : ¬ (-10 < n ∧ n < 10)) : Lib.itoa n = Lib.itoa (n.tdiv 10) ++ [UInt8.ofNat (48 + n.natAbs % 10)] := by
  unfold Lib.itoa
  by_cases h0 : n < 0
  · have e : n.tdiv 10 = -((n.natAbs / 10 : Nat) : Int) := by
      have : n = -(n.natAbs : Int) := by omega
      rw [this, Int.neg_tdiv]
      simp
    rw [if_pos h0, if_pos (by rw [e]; omega), Lib.decDigits, dif_neg (by omega), e, Int.natAbs_neg, Int.natAbs_natCast]
    rfl
  · have e : n.tdiv 10 = ((n.natAbs / 10 : Nat) : Int) := by
      have : n = (n.natAbs : Int) := by omega
      rw [this]
      simp
    rw [if_neg h0, if_neg (by rw [e]; omega), show n.toNat = n.natAbs by omega, Lib.decDigits, dif_neg (by omega), e, Int.toNat_natCast]
theorem fig_digit (d : Nat) (h : d < 10) : ByteArray.extract ⟨#[48, 49, 50, 51, 52, 53, 54, 55, 56, 57]⟩ d (d + 1) = bA [UInt8.ofNat (48 + d)] := by
  rw [show (⟨#[48, 49, 50, 51, 52, 53, 54, 55, 56, 57]⟩ : ByteArray) = bA [48, 49, 50, 51, 52, 53, 54, 55, 56, 57] from rfl, bA_extract, show d + 1 - d = 1 by omega]
  have : d = 0 ∨ d = 1 ∨ d = 2 ∨ d = 3 ∨ d = 4 ∨ d = 5 ∨ d = 6 ∨ d = 7 ∨ d = 8 ∨ d = 9 := by omega
  rcases this with rfl | rfl | rfl | rfl | rfl | rfl | rfl | rfl | rfl | rfl <;> rfl
theorem tmod_ten (n : Int) : (0 ≤ n ∧ n.tmod 10 = ((n.natAbs % 10 : Nat) : Int)) ∨ (n < 0 ∧ n.tmod 10 = -((n.natAbs % 10 : Nat) : Int)) := by
  by_cases h : 0 ≤ n
  · refine .inl ⟨h, ?_⟩
    rw [Int.tmod_eq_emod_of_nonneg h]; omega
  · refine .inr ⟨by omega, ?_⟩
    have : n = -(n.natAbs : Int) := by omega
    rw [this, Int.neg_tmod, Int.natAbs_neg, Int.natAbs_natCast]
    rw [Int.tmod_eq_emod_of_nonneg (by omega)]
    omega
theorem tdiv_ten (n : Int) : (0 ≤ n ∧ n.tdiv 10 = ((n.natAbs / 10 : Nat) : Int)) ∨ (n < 0 ∧ n.tdiv 10 = -((n.natAbs / 10 : Nat) : Int)) := by
  by_cases h : 0 ≤ n
  · refine .inl ⟨h, ?_⟩
    rw [Int.tdiv_eq_ediv_of_nonneg h]; omega
  · refine .inr ⟨by omega, ?_⟩
    have : n = -(n.natAbs : Int) := by omega
    rw [this, Int.neg_tdiv, Int.natAbs_neg, Int.natAbs_natCast]
    rw [Int.tdiv_eq_ediv_of_nonneg (by omega)]
    omega
set_option maxRecDepth 100000 in
set_option maxHeartbeats 4000000 in
theorem fig_any : ∀ (m : Nat) (n : Int) (w : World), n.natAbs ≤ m → -9223372036854775808 ≤ n → n ≤ 9223372036854775807 →
    Calls Tryd.prog 26 #[.int .i64 n] w fun e w' => e = .returned (.string (bA (Lib.itoa n))) ∧ w = w' := by
  intro m
  induction m using Nat.strongRecOn with
  | _ m ih =>
    intro n w hm h1 h2
    obtain ⟨d, hd⟩ : ∃ d, n.natAbs % 10 = d := ⟨_, rfl⟩
    have hd9 : d < 10 := by omega
    have HDG := Lib.hid (fig_digit d hd9)
    have HSM := Lib.hid (fun h1 h2 => itoa_small (n := n) h1 h2)
    have HBG := Lib.hid (fun h => itoa_big (n := n) h)
    have ht := tmod_ten n
    have hq := tdiv_ten n
    rw [hd] at HSM HBG ht
    by_cases hs : -10 < n ∧ n < 10
    · obtain ⟨hs1, hs2⟩ := hs
      have HS := Lib.hid (HSM.out hs1 hs2)
      clear HSM HBG hd hm ih hq
      rcases ht with ⟨h0, ht⟩ | ⟨h0, ht⟩
      · rw [if_pos h0] at HS
        go_enter Tryd.func26, Tryd.ntmps26
        go_wp2
        go_ret
        exact ⟨by rw [HDG.out, HS.out, ← bA_append]; rfl, rfl⟩
      · rw [if_neg (by omega)] at HS
        go_enter Tryd.func26, Tryd.ntmps26
        go_wp2
        go_ret
        exact ⟨by rw [HDG.out, HS.out, ← bA_append]; rfl, rfl⟩
    · have HB := Lib.hid (HBG.out hs)
      have HI := Lib.hid (fun w => ih (n.tdiv 10).natAbs (by omega) (n.tdiv 10) w (Nat.le_refl _) (by omega) (by omega))
      obtain ⟨q, hqq⟩ : ∃ q, n.tdiv 10 = q := ⟨_, rfl⟩
      have hqb : -922337203685477580 ≤ q ∧ q ≤ 922337203685477580 := by omega
      obtain ⟨hq1, hq2⟩ := hqb
      rw [hqq] at HB HI
      have hcat : ∀ w, (Op.stringOp .add (bA (Lib.itoa q)) (ByteArray.extract ⟨#[48, 49, 50, 51, 52, 53, 54, 55, 56, 57]⟩ d (d + 1))).run Tryd.prog w = .ok (.string (bA (Lib.itoa n))) w := fun w => by
        rw [HDG.out, run_cat _ _ (by have := itoa_len q (by omega) (by omega); simp; omega), HB.out]
      clear ih hd hm HSM HBG hq
      by_cases h0 : 0 ≤ n
      · have hl : ¬ n < 10 := by omega
        have ht2 : n.tmod 10 = (d : Int) := by omega
        have hqd : n / 10 = q := by rw [← hqq, Int.tdiv_eq_ediv_of_nonneg h0]
        clear ht
        go_enter Tryd.func26, Tryd.ntmps26
        go_wp2_with (go_at_call 26; fail)
        refine (HI.out w).mono ?_
        rintro e w' ⟨rfl, rfl⟩
        go_wp2
        go_ret
        exact ⟨rfl, rfl⟩
      · have hl : ¬ -10 < n := by omega
        have ht2 : n.tmod 10 = -(d : Int) := by omega
        clear ht
        go_enter Tryd.func26, Tryd.ntmps26
        go_wp2_with (go_at_call 26; fail)
        refine (HI.out w).mono ?_
        rintro e w' ⟨rfl, rfl⟩
        go_wp2
        go_ret
        exact ⟨rfl, rfl⟩
end Go.Proofs.YtdkhgpnidamalaaDoor
namespace Go.Proofs.YtdkhgpnidamalaaDoor
open Go.RowKit Go.Bl
set_option linter.unusedVariables false
/-- a word, or a question mark -/
def qwd (l : List UInt8) : List UInt8 := if l = [] then [63] else l
theorem qwd_len {l : List UInt8} {k : Nat} (h : l.length ≤ k) (hk : 1 ≤ k) : (qwd l).length ≤ k := by
  unfold qwd
  split
  · simpa using hk
  · exact h
/-- the text of a list at a place from 1 on -/
def atL (ls : List (List UInt8)) (n : Int) : List UInt8 := if n < 1 ∨ (ls.length : Int) < n then [] else ls.getD (n - 1).toNat []
def lWords : List (List UInt8) := [[112, 117, 116], [97, 99, 107], [97, 115, 107], [97, 110, 115, 119, 101, 114], [102, 101, 116, 99, 104], [103, 105, 118, 101], [114, 101, 102, 117, 115, 101]]
def wWords : List (List UInt8) := [[112, 117, 116], [116, 105, 99, 107], [115, 101, 114, 118, 101], [114, 101, 112, 108, 121], [100, 114, 111, 112], [100, 111, 117, 98, 108, 101], [98, 101, 110, 100], [116, 114, 105, 99, 107], [115, 112, 111, 105, 108], [99, 114, 97, 115, 104], [97, 114, 109], [102, 101, 116, 99, 104], [105, 110, 106, 101, 99, 116]]
def rWays : List (List UInt8) := [[115, 112, 111, 116], [115, 101, 110, 116, 105, 110, 101, 108]]
def rWords : List (List UInt8) := [[112, 97, 115, 115], [102, 97, 105, 108], [116, 105, 109, 101, 111, 117, 116]]
theorem atL_len {ls : List (List UInt8)} {k : Nat} (h : ∀ l ∈ ls, l.length ≤ k) (n : Int) : (atL ls n).length ≤ k := by
  unfold atL
  split
  · simp
  · rw [List.getD_eq_getElem?_getD, List.getElem?_eq_getElem (by omega)]
    exact h _ (List.getElem_mem _)
/-- a variable that holds words, from place 1 on -/
def WordsAt (g : Nat) (ls : List (List UInt8)) (w : World) : Prop := ∀ i l, ls[i]? = some l → w.cell? ⟨g, i + 1, none⟩ = some (.string (bA l))
set_option maxHeartbeats 2000000 in
theorem num_any35 (n : Int) (w : World) (h1 : -9223372036854775808 ≤ n) (h2 : n ≤ 9223372036854775807) :
    Calls Tryd.prog 18 #[.int .i64 n] w fun e w' => e = .returned (.string (bA (32 :: Lib.itoa n))) ∧ w = w' := by
  have hcat : ∀ w, (Op.stringOp .add ⟨#[32]⟩ (bA (Lib.itoa n))).run Tryd.prog w = .ok (.string (bA (32 :: Lib.itoa n))) w := fun w => run_cat [32] _ (by have := itoa_len n h1 h2; simp; omega) w
  go_enter Tryd.func18, Tryd.ntmps18
  go_wp2_with (go_at_call 26; fail)
  refine (fig_any _ n w (Nat.le_refl _) h1 h2).mono ?_
  rintro e w' ⟨rfl, rfl⟩
  go_wp2
  go_ret
  exact ⟨rfl, rfl⟩
set_option maxHeartbeats 2000000 in
theorem word_any35 (l : List UInt8) (w : World) (hl : l.length ≤ 1000000000) :
    Calls Tryd.prog 19 #[.string (bA l)] w fun e w' => e = .returned (.string (bA (32 :: qwd l))) ∧ w = w' := by
  by_cases h0 : l = []
  · subst h0
    have hz : (bA []).size = 0 := rfl
    go_enter Tryd.func19, Tryd.ntmps19
    go_wp2
    go_ret
    exact ⟨rfl, rfl⟩
  · have hz : ¬ (bA l).size = 0 := by
      rw [bA_size]
      intro h
      exact h0 (List.eq_nil_of_length_eq_zero h)
    have hz2 : ((((bA l).size : Nat) : Int) == 0) = false := by simpa using hz
    have hcat : ∀ w, (Op.stringOp .add ⟨#[32]⟩ (bA l)).run Tryd.prog w = .ok (.string (bA (32 :: l))) w := fun w => run_cat [32] _ (by simp; omega) w
    have HQ := Lib.hid (show qwd l = l by unfold qwd; rw [if_neg h0])
    clear h0
    go_enter Tryd.func19, Tryd.ntmps19
    go_wp2
    go_ret
    exact ⟨by rw [HQ.out]; rfl, rfl⟩
set_option maxHeartbeats 2000000 in
theorem at_any35 (w : World) (b L : Nat) (ls : List (List UInt8)) (n : Int) (hl : ls.length = L) (hL : L ≤ 1000) (hA : ∀ i l, ls[i]? = some l → w.cell? ⟨b, i, none⟩ = some (.string (bA l))) :
    Calls Tryd.prog 22 #[.slice (some ⟨b, 0, none⟩) L L, .int .i64 n] w fun e w' => e = .returned (.string (bA (atL ls n))) ∧ w = w' := by
  by_cases h : n < 1 ∨ (L : Int) < n
  · have HQ := Lib.hid (show atL ls n = [] by unfold atL; rw [if_pos (by rw [hl]; exact h)])
    clear hA hl
    rcases h with h | h
    · go_enter Tryd.func22, Tryd.ntmps22
      go_wp2
      go_ret
      exact ⟨by rw [HQ.out]; rfl, rfl⟩
    · have h2 : ¬ n < 1 := by omega
      go_enter Tryd.func22, Tryd.ntmps22
      go_wp2
      go_ret
      exact ⟨by rw [HQ.out]; rfl, rfl⟩
  · obtain ⟨k, hk⟩ : ∃ k : Nat, n = (k : Int) + 1 := ⟨(n - 1).toNat, by omega⟩
    subst hk
    obtain ⟨l, hx⟩ : ∃ l, ls[k]? = some l := ⟨_, List.getElem?_eq_getElem (by omega)⟩
    have hc := hA k l hx
    have HQ := Lib.hid (show atL ls ((k : Int) + 1) = l by
      unfold atL
      rw [if_neg (by rw [hl]; exact h), List.getD_eq_getElem?_getD, show ((k : Int) + 1 - 1).toNat = k by omega, hx]
      rfl)
    have h1 : ¬ (k : Int) + 1 < 1 := by omega
    have h2 : ¬ (L : Int) < (k : Int) + 1 := by omega
    have h3 : (k : Int) < L := by omega
    clear hA hl h hx
    go_enter Tryd.func22, Tryd.ntmps22
    go_wp2
    go_ret
    exact ⟨by rw [HQ.out]; rfl, rfl⟩
theorem rway_any (w : World) (n : Int) : Calls Tryd.prog 20 #[.int .i64 n] w fun e w' => e = .returned (.string (bA (atL rWays n))) ∧ w = w' := by
  by_cases h1 : n = 1
  · subst h1
    go_enter Tryd.func20, Tryd.ntmps20
    go_wp2
    go_ret
    exact ⟨rfl, rfl⟩
  · by_cases h2 : n = 2
    · subst h2
      go_enter Tryd.func20, Tryd.ntmps20
      go_wp2
      go_ret
      exact ⟨rfl, rfl⟩
    · have HQ := Lib.hid (show atL rWays n = [] by unfold atL; rw [if_pos (by simp only [rWays, List.length_cons, List.length_nil]; omega)])
      go_enter Tryd.func20, Tryd.ntmps20
      go_wp2
      go_ret
      exact ⟨by rw [HQ.out]; rfl, rfl⟩
theorem rword_any (w : World) (n : Int) : Calls Tryd.prog 21 #[.int .i64 n] w fun e w' => e = .returned (.string (bA (atL rWords n))) ∧ w = w' := by
  by_cases h1 : n = 1
  · subst h1
    go_enter Tryd.func21, Tryd.ntmps21
    go_wp2
    go_ret
    exact ⟨rfl, rfl⟩
  · by_cases h2 : n = 2
    · subst h2
      go_enter Tryd.func21, Tryd.ntmps21
      go_wp2
      go_ret
      exact ⟨rfl, rfl⟩
    · by_cases h3 : n = 3
      · subst h3
        go_enter Tryd.func21, Tryd.ntmps21
        go_wp2
        go_ret
        exact ⟨rfl, rfl⟩
      · have HQ := Lib.hid (show atL rWords n = [] by unfold atL; rw [if_pos (by simp only [rWords, List.length_cons, List.length_nil]; omega)])
        go_enter Tryd.func21, Tryd.ntmps21
        go_wp2
        go_ret
        exact ⟨by rw [HQ.out]; rfl, rfl⟩
end Go.Proofs.YtdkhgpnidamalaaDoor
