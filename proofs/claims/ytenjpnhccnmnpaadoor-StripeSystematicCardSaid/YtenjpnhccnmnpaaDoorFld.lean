/-
  Layer 1 in plain Lean: numbers of eight bits: powers of alpha, the table, products.
-/
import Derived.Test.YtenjpnhccnmnpaaDoorG
import Derived.Laws.BitsAllLaws
namespace Go.Bl
open Go.RowKit
set_option linter.unusedVariables false

/-- a number times alpha -/
def dbl (a : UInt8) : UInt8 := UInt8.ofNat (if 256 ≤ 2 * a.toNat then (2 * a.toNat) ^^^ 285 else 2 * a.toNat)
def gexp : Nat → UInt8
  | 0 => 1
  | n + 1 => dbl (gexp n)
/-- n powers from x on -/
def gls : Nat → UInt8 → List UInt8
  | 0, _ => []
  | n + 1, x => x :: gls n (dbl x)
theorem gls_len : ∀ (n : Nat) (x : UInt8), (gls n x).length = n
  | 0, _ => rfl
  | n + 1, x => by simp [gls, gls_len n]
theorem gls_get : ∀ (n k i : Nat), i < n → (gls n (gexp k))[i]? = some (gexp (k + i))
  | 0, _, _, h => by omega
  | n + 1, k, 0, _ => by simp [gls]
  | n + 1, k, i + 1, h => by
    have := gls_get n (k + 1) i (by omega)
    simp only [gls, List.getElem?_cons_succ]
    rw [show dbl (gexp k) = gexp (k + 1) from rfl, this, show k + 1 + i = k + (i + 1) by omega]
/-- the 255 powers -/
def gl : List UInt8 := gls 255 1
theorem gl_get (i : Nat) (h : i < 255) : gl[i]? = some (gexp i) := by
  have := gls_get 255 0 i h
  rwa [Nat.zero_add] at this
theorem gl_len : gl.length = 255 := gls_len 255 1
def noTwo : List UInt8 → Bool
  | [] => true
  | x :: l => !l.contains x && noTwo l
theorem noTwo_nodup : ∀ l : List UInt8, noTwo l = true → l.Nodup
  | [], _ => List.nodup_nil
  | x :: l, h => by
    simp only [noTwo, Bool.and_eq_true, Bool.not_eq_true', List.contains_eq_mem, decide_eq_false_iff_not] at h
    exact List.nodup_cons.2 ⟨h.1, noTwo_nodup l h.2⟩
set_option maxRecDepth 100000 in
theorem gl_nodup : gl.Nodup := noTwo_nodup gl (by decide +kernel)
set_option maxRecDepth 100000 in
theorem gl_all : ((List.range 256).all fun a => a == 0 || gl.contains (UInt8.ofNat a)) = true := by decide +kernel
set_option maxRecDepth 100000 in
theorem gexp_255 : gexp 255 = 1 := by decide +kernel
theorem gexp_mod (n : Nat) : gexp (n + 255) = gexp n := by
  induction n with
  | zero => exact gexp_255
  | succ n ih => show dbl (gexp (n + 255)) = dbl (gexp n); rw [ih]
theorem gexp_rest (n : Nat) : gexp (n % 255) = gexp n := by
  have h : ∀ k m, gexp (m + 255 * k) = gexp m := by
    intro k
    induction k with
    | zero => intro m; rfl
    | succ k ih => intro m; rw [show m + 255 * (k + 1) = m + 255 * k + 255 by omega, gexp_mod, ih]
  have := h (n / 255) (n % 255)
  rw [Nat.mod_add_div] at this
  exact this.symm
theorem gexp_inj {i j : Nat} (hi : i < 255) (hj : j < 255) (h : gexp i = gexp j) : i = j :=
  (List.getElem?_inj (by rw [gl_len]; exact hi) gl_nodup).1 (by rw [gl_get i hi, gl_get j hj, h])
theorem gexp_onto (a : UInt8) (h : a ≠ 0) : ∃ k, k < 255 ∧ gexp k = a := by
  have h1 := List.all_eq_true.1 gl_all a.toNat (List.mem_range.2 a.toNat_lt)
  simp only [Bool.or_eq_true, beq_iff_eq, List.contains_eq_mem, decide_eq_true_eq, UInt8.ofNat_toNat] at h1
  rcases h1 with h1 | h1
  · exact absurd (UInt8.toNat_inj.1 h1) h
  · obtain ⟨i, hi, he⟩ := List.getElem_of_mem h1
    rw [gl_len] at hi
    refine ⟨i, hi, ?_⟩
    have := gl_get i hi
    rw [List.getElem?_eq_getElem (by rw [gl_len]; exact hi), he] at this
    exact (Option.some.inj this).symm
theorem gexp_ne (k : Nat) : gexp k ≠ 0 := by
  have hz : gl.contains 0 = false := by decide +kernel
  rw [← gexp_rest]
  intro h
  have := List.mem_of_getElem? (gl_get (k % 255) (Nat.mod_lt _ (by decide)))
  rw [h] at this
  simp at hz
  exact hz this
/-- which power a number is -/
def glog (a : UInt8) : Nat := gl.idxOf a
theorem glog_gexp (k : Nat) (h : k < 255) : glog (gexp k) = k := by
  have hm : gexp k ∈ gl := List.mem_of_getElem? (gl_get k h)
  have hl : gl.idxOf (gexp k) < gl.length := List.idxOf_lt_length_of_mem hm
  have he : gl[gl.idxOf (gexp k)] = gexp k := List.getElem_idxOf hl
  have := gl_get _ (by rw [gl_len] at hl; exact hl)
  rw [List.getElem?_eq_getElem hl, he] at this
  exact (gexp_inj h (by rw [gl_len] at hl; exact hl) (Option.some.inj this)).symm
theorem gexp_glog (a : UInt8) (h : a ≠ 0) : gexp (glog a) = a ∧ glog a < 255 := by
  obtain ⟨k, hk, rfl⟩ := gexp_onto a h
  rw [glog_gexp k hk]
  exact ⟨rfl, hk⟩
/-- a product -/
def gmul (a b : UInt8) : UInt8 := if a = 0 ∨ b = 0 then 0 else gexp (glog a + glog b)

/-- the table behind n rounds -/
def tabN : Nat → Array Value
  | 0 => (List.replicate 510 (Value.int .u8 0) ++ List.replicate 256 (Value.int .i64 0)).toArray
  | n + 1 => (((tabN n).setIfInBounds n (u8v (gexp n))).setIfInBounds (n + 255) (u8v (gexp n))).setIfInBounds (510 + (gexp n).toNat) (.int .i64 n)
def tabF : Array Value := (tabN 255).setIfInBounds 510 (.int .i64 (-1))
theorem tabN_size (n : Nat) : (tabN n).size = 766 := by
  induction n with
  | zero => unfold tabN; rw [List.size_toArray, List.length_append, List.length_replicate, List.length_replicate]
  | succ n ih => simp only [tabN, Array.size_setIfInBounds, ih]
theorem tabF_size : tabF.size = 766 := by unfold tabF; rw [Array.size_setIfInBounds, tabN_size]
theorem tabN_exp (n i : Nat) (hn : n ≤ 255) (hi : i < n) : (tabN n)[i]? = some (u8v (gexp i)) ∧ (tabN n)[i + 255]? = some (u8v (gexp i)) := by
  induction n with
  | zero => omega
  | succ n ih =>
    have hs := tabN_size n
    simp only [tabN, Array.getElem?_setIfInBounds, Array.size_setIfInBounds, hs]
    constructor
    · rw [if_neg (by omega), if_neg (by omega)]
      by_cases h : n = i
      · subst h; rw [if_pos rfl, if_pos (by omega)]
      · rw [if_neg h]; exact (ih (by omega) (by omega)).1
    · rw [if_neg (by omega)]
      by_cases h : n = i
      · subst h; rw [if_pos rfl, if_pos (by omega)]
      · rw [if_neg (by omega), if_neg (by omega)]; exact (ih (by omega) (by omega)).2
theorem tabN_log (n k : Nat) (hn : n ≤ 255) (hk : k < n) : (tabN n)[510 + (gexp k).toNat]? = some (.int .i64 k) := by
  induction n with
  | zero => omega
  | succ n ih =>
    have hs := tabN_size n
    have hlt := (gexp k).toNat_lt
    simp only [tabN, Array.getElem?_setIfInBounds, Array.size_setIfInBounds, hs]
    by_cases h : n = k
    · subst h; rw [if_pos rfl, if_pos (by omega)]
    · rw [if_neg (fun e => h (gexp_inj (by omega) (by omega) (UInt8.toNat_inj.1 (by omega)))), if_neg (by omega), if_neg (by omega)]
      exact ih (by omega) (by omega)
theorem tabF_exp (i : Nat) (hi : i < 510) : tabF[i]? = some (u8v (gexp i)) := by
  unfold tabF
  rw [Array.getElem?_setIfInBounds, if_neg (by omega)]
  by_cases h : i < 255
  · exact (tabN_exp 255 i (by omega) h).1
  · have := (tabN_exp 255 (i - 255) (by omega) (by omega)).2
    rw [show i - 255 + 255 = i by omega] at this
    rw [this, ← gexp_mod (i - 255), show i - 255 + 255 = i by omega]
theorem tabF_log (a : UInt8) (h : a ≠ 0) : tabF[510 + a.toNat]? = some (.int .i64 (glog a)) := by
  obtain ⟨h1, h2⟩ := gexp_glog a h
  have h0 : a.toNat ≠ 0 := fun e => h (UInt8.toNat_inj.1 e)
  unfold tabF
  rw [Array.getElem?_setIfInBounds, if_neg (by omega)]
  have := tabN_log 255 (glog a) (by omega) h2
  rwa [h1] at this
theorem tabF_log0 : tabF[510]? = some (.int .i64 (-1)) := by
  unfold tabF
  rw [Array.getElem?_setIfInBounds, if_pos rfl, if_pos (by rw [tabN_size]; omega)]
theorem tabN_all (n i : Nat) (hi : i < 766) : ∃ v, (tabN n)[i]? = some v := ⟨_, Array.getElem?_eq_getElem (by rw [tabN_size]; exact hi)⟩
theorem dbl_nat (a : UInt8) : (dbl a).toNat = if 256 ≤ 2 * a.toNat then (2 * a.toNat) ^^^ 285 else 2 * a.toNat := by
  have h : ((List.range 256).all fun x => decide ((if 256 ≤ 2 * x then (2 * x) ^^^ 285 else 2 * x) < 256)) = true := by decide +kernel
  have := of_decide_eq_true (List.all_eq_true.1 h a.toNat (List.mem_range.2 a.toNat_lt))
  unfold dbl
  rw [UInt8.toNat_ofNat', Nat.mod_eq_of_lt this]
end Go.Bl
