/-
  Layer 1 in plain Lean: numbers of eight bits: powers of alpha, the table, products.
  Layers 2 and 3 in plain Lean: products of polynomials, the generator, parity by a register.
  Layers 1 and 3 in plain Lean: the document's product of bytes is the table's; its long division is the register.
  The field's laws in plain Lean, and sums.
  Layer 3 in plain Lean: the document's long division is the register.
-/
import Derived.Test.YtmohiblgfmdkjaaDoorGA
import Derived.Laws.BitsAllLaws
namespace Go.Bl
open Go.RowKit
set_option linter.unusedVariables false

/-- a number times alpha -/
def dbl (a : UInt8) : UInt8 := UInt8.ofNat (if 256 ≤ 2 * a.toNat then (2 * a.toNat) ^^^ 285 else 2 * a.toNat)
def gexp : Nat → UInt8
  | 0 => 1
  | n + 1 => dbl (gexp n)
/-- n powers from x on -/
def gls : Nat → UInt8 → List UInt8
  | 0, _ => []
  | n + 1, x => x :: gls n (dbl x)
theorem gls_len : ∀ (n : Nat) (x : UInt8), (gls n x).length = n
  | 0, _ => rfl
  | n + 1, x => by simp [gls, gls_len n]
theorem gls_get : ∀ (n k i : Nat), i < n → (gls n (gexp k))[i]? = some (gexp (k + i))
  | 0, _, _, h => by omega
  | n + 1, k, 0, _ => by simp [gls]
  | n + 1, k, i + 1, h => by
    have := gls_get n (k + 1) i (by omega)
    simp only [gls, List.getElem?_cons_succ]
    rw [show dbl (gexp k) = gexp (k + 1) from rfl, this, show k + 1 + i = k + (i + 1) by omega]
/-- the 255 powers -/
def gl : List UInt8 := gls 255 1
theorem gl_get (i : Nat) (h : i < 255) : gl[i]? = some (gexp i) := by
  have := gls_get 255 0 i h
  rwa [Nat.zero_add] at this
theorem gl_len : gl.length = 255 := gls_len 255 1
def noTwo : List UInt8 → Bool
  | [] => true
  | x :: l => !l.contains x && noTwo l
theorem noTwo_nodup : ∀ l : List UInt8, noTwo l = true → l.Nodup
  | [], _ => List.nodup_nil
  | x :: l, h => by
    simp only [noTwo, Bool.and_eq_true, Bool.not_eq_true', List.contains_eq_mem, decide_eq_false_iff_not] at h
    exact List.nodup_cons.2 ⟨h.1, noTwo_nodup l h.2⟩
set_option maxRecDepth 100000 in
theorem gl_nodup : gl.Nodup := noTwo_nodup gl (by decide +kernel)
set_option maxRecDepth 100000 in
theorem gl_all : ((List.range 256).all fun a => a == 0 || gl.contains (UInt8.ofNat a)) = true := by decide +kernel
set_option maxRecDepth 100000 in
theorem gexp_255 : gexp 255 = 1 := by decide +kernel
theorem gexp_mod (n : Nat) : gexp (n + 255) = gexp n := by
  induction n with
  | zero => exact gexp_255
  | succ n ih => show dbl (gexp (n + 255)) = dbl (gexp n); rw [ih]
theorem gexp_rest (n : Nat) : gexp (n % 255) = gexp n := by
  have h : ∀ k m, gexp (m + 255 * k) = gexp m := by
    intro k
    induction k with
    | zero => intro m; rfl
    | succ k ih => intro m; rw [show m + 255 * (k + 1) = m + 255 * k + 255 by omega, gexp_mod, ih]
  have := h (n / 255) (n % 255)
  rw [Nat.mod_add_div] at this
  exact this.symm
theorem gexp_inj {i j : Nat} (hi : i < 255) (hj : j < 255) (h : gexp i = gexp j) : i = j :=
  (List.getElem?_inj (by rw [gl_len]; exact hi) gl_nodup).1 (by rw [gl_get i hi, gl_get j hj, h])
theorem gexp_onto (a : UInt8) (h : a ≠ 0) : ∃ k, k < 255 ∧ gexp k = a := by
  have h1 := List.all_eq_true.1 gl_all a.toNat (List.mem_range.2 a.toNat_lt)
  simp only [Bool.or_eq_true, beq_iff_eq, List.contains_eq_mem, decide_eq_true_eq, UInt8.ofNat_toNat] at h1
  rcases h1 with h1 | h1
  · exact absurd (UInt8.toNat_inj.1 h1) h
  · obtain ⟨i, hi, he⟩ := List.getElem_of_mem h1
    rw [gl_len] at hi
    refine ⟨i, hi, ?_⟩
    have := gl_get i hi
    rw [List.getElem?_eq_getElem (by rw [gl_len]; exact hi), he] at this
    exact (Option.some.inj this).symm
theorem gexp_ne (k : Nat) : gexp k ≠ 0 := by
  have hz : gl.contains 0 = false := by decide +kernel
  rw [← gexp_rest]
  intro h
  have := List.mem_of_getElem? (gl_get (k % 255) (Nat.mod_lt _ (by decide)))
  rw [h] at this
  simp at hz
  exact hz this
/-- which power a number is -/
def glog (a : UInt8) : Nat := gl.idxOf a
theorem glog_gexp (k : Nat) (h : k < 255) : glog (gexp k) = k := by
  have hm : gexp k ∈ gl := List.mem_of_getElem? (gl_get k h)
  have hl : gl.idxOf (gexp k) < gl.length := List.idxOf_lt_length_of_mem hm
  have he : gl[gl.idxOf (gexp k)] = gexp k := List.getElem_idxOf hl
  have := gl_get _ (by rw [gl_len] at hl; exact hl)
  rw [List.getElem?_eq_getElem hl, he] at this
  exact (gexp_inj h (by rw [gl_len] at hl; exact hl) (Option.some.inj this)).symm
theorem gexp_glog (a : UInt8) (h : a ≠ 0) : gexp (glog a) = a ∧ glog a < 255 := by
  obtain ⟨k, hk, rfl⟩ := gexp_onto a h
  rw [glog_gexp k hk]
  exact ⟨rfl, hk⟩
/-- a product -/
def gmul (a b : UInt8) : UInt8 := if a = 0 ∨ b = 0 then 0 else gexp (glog a + glog b)

/-- the table behind n rounds -/
def tabN : Nat → Array Value
  | 0 => (List.replicate 510 (Value.int .u8 0) ++ List.replicate 256 (Value.int .i64 0)).toArray
  | n + 1 => (((tabN n).setIfInBounds n (u8v (gexp n))).setIfInBounds (n + 255) (u8v (gexp n))).setIfInBounds (510 + (gexp n).toNat) (.int .i64 n)
def tabF : Array Value := (tabN 255).setIfInBounds 510 (.int .i64 (-1))
theorem tabN_size (n : Nat) : (tabN n).size = 766 := by
  induction n with
  | zero => unfold tabN; rw [List.size_toArray, List.length_append, List.length_replicate, List.length_replicate]
  | succ n ih => simp only [tabN, Array.size_setIfInBounds, ih]
theorem tabF_size : tabF.size = 766 := by unfold tabF; rw [Array.size_setIfInBounds, tabN_size]
theorem tabN_exp (n i : Nat) (hn : n ≤ 255) (hi : i < n) : (tabN n)[i]? = some (u8v (gexp i)) ∧ (tabN n)[i + 255]? = some (u8v (gexp i)) := by
  induction n with
  | zero => omega
  | succ n ih =>
    have hs := tabN_size n
    simp only [tabN, Array.getElem?_setIfInBounds, Array.size_setIfInBounds, hs]
    constructor
    · rw [if_neg (by omega), if_neg (by omega)]
      by_cases h : n = i
      · subst h; rw [if_pos rfl, if_pos (by omega)]
      · rw [if_neg h]; exact (ih (by omega) (by omega)).1
    · rw [if_neg (by omega)]
      by_cases h : n = i
      · subst h; rw [if_pos rfl, if_pos (by omega)]
      · rw [if_neg (by omega), if_neg (by omega)]; exact (ih (by omega) (by omega)).2
theorem tabN_log (n k : Nat) (hn : n ≤ 255) (hk : k < n) : (tabN n)[510 + (gexp k).toNat]? = some (.int .i64 k) := by
  induction n with
  | zero => omega
  | succ n ih =>
    have hs := tabN_size n
    have hlt := (gexp k).toNat_lt
    simp only [tabN, Array.getElem?_setIfInBounds, Array.size_setIfInBounds, hs]
    by_cases h : n = k
    · subst h; rw [if_pos rfl, if_pos (by omega)]
    · rw [if_neg (fun e => h (gexp_inj (by omega) (by omega) (UInt8.toNat_inj.1 (by omega)))), if_neg (by omega), if_neg (by omega)]
      exact ih (by omega) (by omega)
theorem tabF_exp (i : Nat) (hi : i < 510) : tabF[i]? = some (u8v (gexp i)) := by
  unfold tabF
  rw [Array.getElem?_setIfInBounds, if_neg (by omega)]
  by_cases h : i < 255
  · exact (tabN_exp 255 i (by omega) h).1
  · have := (tabN_exp 255 (i - 255) (by omega) (by omega)).2
    rw [show i - 255 + 255 = i by omega] at this
    rw [this, ← gexp_mod (i - 255), show i - 255 + 255 = i by omega]
theorem tabF_log (a : UInt8) (h : a ≠ 0) : tabF[510 + a.toNat]? = some (.int .i64 (glog a)) := by
  obtain ⟨h1, h2⟩ := gexp_glog a h
  have h0 : a.toNat ≠ 0 := fun e => h (UInt8.toNat_inj.1 e)
  unfold tabF
  rw [Array.getElem?_setIfInBounds, if_neg (by omega)]
  have := tabN_log 255 (glog a) (by omega) h2
  rwa [h1] at this
theorem tabF_log0 : tabF[510]? = some (.int .i64 (-1)) := by
  unfold tabF
  rw [Array.getElem?_setIfInBounds, if_pos rfl, if_pos (by rw [tabN_size]; omega)]
theorem tabN_all (n i : Nat) (hi : i < 766) : ∃ v, (tabN n)[i]? = some v := ⟨_, Array.getElem?_eq_getElem (by rw [tabN_size]; exact hi)⟩
theorem dbl_nat (a : UInt8) : (dbl a).toNat = if 256 ≤ 2 * a.toNat then (2 * a.toNat) ^^^ 285 else 2 * a.toNat := by
  have h : ((List.range 256).all fun x => decide ((if 256 ≤ 2 * x then (2 * x) ^^^ 285 else 2 * x) < 256)) = true := by decide +kernel
  have := of_decide_eq_true (List.all_eq_true.1 h a.toNat (List.mem_range.2 a.toNat_lt))
  unfold dbl
  rw [UInt8.toNat_ofNat', Nat.mod_eq_of_lt this]
end Go.Bl
namespace Go.Bl
open Go.RowKit
set_option linter.unusedVariables false

def updX (out : List UInt8) (i : Nat) (x : UInt8) : List UInt8 := out.set i (out.getD i 0 ^^^ x)
theorem updX_len (out : List UInt8) (i : Nat) (x : UInt8) : (updX out i x).length = out.length := by simp [updX]
/-- a row of a product: q times a, from place i on -/
def mulRow (a : UInt8) : List UInt8 → Nat → List UInt8 → List UInt8
  | [], _, out => out
  | b :: q, i, out => mulRow a q (i + 1) (updX out i (gmul a b))
theorem mulRow_len (a : UInt8) : ∀ (q : List UInt8) (i : Nat) (out : List UInt8), (mulRow a q i out).length = out.length
  | [], _, _ => rfl
  | b :: q, i, out => by simp only [mulRow]; rw [mulRow_len a q, updX_len]
theorem mulRow_take (a : UInt8) : ∀ (q : List UInt8) (k i : Nat) (b : UInt8) (out : List UInt8), q[k]? = some b → mulRow a (q.take (k + 1)) i out = updX (mulRow a (q.take k) i out) (i + k) (gmul a b)
  | [], k, i, b, out, h => by simp at h
  | c :: q, 0, i, b, out, h => by simp at h; subst h; simp [mulRow]
  | c :: q, k + 1, i, b, out, h => by
    simp only [List.take_succ_cons, mulRow]
    rw [mulRow_take a q k (i + 1) b _ (by simpa using h), show i + 1 + k = i + (k + 1) by omega]
def mulAll : List UInt8 → List UInt8 → Nat → List UInt8 → List UInt8
  | [], _, _, out => out
  | a :: p, q, i, out => mulAll p q (i + 1) (mulRow a q i out)
theorem mulAll_len : ∀ (p q : List UInt8) (i : Nat) (out : List UInt8), (mulAll p q i out).length = out.length
  | [], _, _, _ => rfl
  | a :: p, q, i, out => by simp only [mulAll]; rw [mulAll_len p, mulRow_len]
theorem mulAll_take : ∀ (p q : List UInt8) (k i : Nat) (a : UInt8) (out : List UInt8), p[k]? = some a → mulAll (p.take (k + 1)) q i out = mulRow a q (i + k) (mulAll (p.take k) q i out)
  | [], _, k, i, b, out, h => by simp at h
  | c :: p, q, 0, i, b, out, h => by simp at h; subst h; simp [mulAll]
  | c :: p, q, k + 1, i, b, out, h => by
    simp only [List.take_succ_cons, mulAll]
    rw [mulAll_take p q k (i + 1) b _ (by simpa using h), show i + 1 + k = i + (k + 1) by omega]
/-- one more than the degree -/
def plen : List UInt8 → Nat
  | [] => 0
  | c :: p => if plen p = 0 then (if c = 0 then 0 else 1) else plen p + 1
theorem plen_le : ∀ p : List UInt8, plen p ≤ p.length
  | [] => Nat.le_refl _
  | c :: p => by
    have := plen_le p
    simp only [plen, List.length_cons]
    split
    · split <;> omega
    · omega
/-- from the end on: nothing but noughts behind place k -/
theorem plen_of : ∀ (p : List UInt8) (k : Nat), (∀ i, k ≤ i → i < p.length → p[i]? = some 0) → (k = 0 ∨ ∃ c, p[k - 1]? = some c ∧ c ≠ 0) → plen p = k
  | [], k, _, h => by
    rcases h with rfl | ⟨c, hc, _⟩
    · rfl
    · simp at hc
  | c :: p, k, h1, h2 => by
    simp only [plen]
    rcases h2 with rfl | ⟨d, hd, hne⟩
    · have hc := h1 0 (Nat.le_refl _) (by simp)
      simp at hc
      rw [plen_of p 0 (fun i _ hi => by have := h1 (i + 1) (by omega) (by simp; omega); simpa using this) (.inl rfl), if_pos rfl, if_pos hc]
    · cases k with
      | zero =>
        simp at hd
        subst hd
        have hc := h1 0 (Nat.le_refl _) (by simp)
        simp at hc
        exact absurd hc hne
      | succ k =>
        rw [Nat.add_sub_cancel] at hd
        have ht : ∀ i, k ≤ i → i < p.length → p[i]? = some 0 := fun i hi hl => by have := h1 (i + 1) (by omega) (by simp; omega); simpa using this
        cases k with
        | zero =>
          simp at hd
          subst hd
          rw [plen_of p 0 ht (.inl rfl), if_pos rfl, if_neg hne]
        | succ k =>
          rw [List.getElem?_cons_succ] at hd
          rw [plen_of p (k + 1) ht (.inr ⟨d, by simpa using hd, hne⟩), if_neg (by omega)]
def ptrim (p : List UInt8) : List UInt8 := p.take (plen p)
def pmul (p q : List UInt8) : List UInt8 := ptrim (mulAll p q 0 (List.replicate (p.length + q.length) 0))
def proots (rs : List UInt8) : List UInt8 := rs.foldl (fun out r => pmul out [r, 1]) [1]
theorem proots_take (rs : List UInt8) (k : Nat) (r : UInt8) (h : rs[k]? = some r) : proots (rs.take (k + 1)) = pmul (proots (rs.take k)) [r, 1] := by
  unfold proots
  rw [List.take_add_one, h]
  simp [List.foldl_append]
/-- the generator -/
def genL : List UInt8 := proots ((List.range 32).map gexp)
set_option maxRecDepth 100000 in
theorem genL_len : genL.length = 33 := by decide +kernel
theorem ptrim_len (p : List UInt8) : (ptrim p).length ≤ p.length := by unfold ptrim; rw [List.length_take]; omega
theorem pmul_len (p q : List UInt8) : (pmul p q).length ≤ p.length + q.length := by
  have := ptrim_len (mulAll p q 0 (List.replicate (p.length + q.length) 0))
  rw [mulAll_len, List.length_replicate] at this
  exact this
/-- the register, shifted by one symbol -/
def parStep (rest : List UInt8) (c : UInt8) : List UInt8 := (rest.tail ++ [0]).mapIdx fun k x => x ^^^ gmul (c ^^^ rest.headD 0) (genL.getD (31 - k) 0)
def parL (data : List UInt8) : List UInt8 := data.foldl parStep (List.replicate 32 0)
theorem parStep_len (rest : List UInt8) (c : UInt8) (h : rest.length = 32) : (parStep rest c).length = 32 := by simp [parStep, h]
theorem parL_take (data : List UInt8) (k : Nat) (c : UInt8) (h : data[k]? = some c) : parL (data.take (k + 1)) = parStep (parL (data.take k)) c := by
  unfold parL
  rw [List.take_add_one, h]
  simp [List.foldl_append]
theorem parL_len (data : List UInt8) : (parL data).length = 32 := by
  unfold parL
  have : ∀ (l : List UInt8) (r : List UInt8), r.length = 32 → (l.foldl parStep r).length = 32 := by
    intro l
    induction l with
    | nil => intro r h; exact h
    | cons c l ih => intro r h; exact ih _ (parStep_len r c h)
  exact this data _ (by simp)
end Go.Bl
namespace Go.Bl
open Go.RowKit
set_option linter.unusedVariables false

/-- a times the lowest i bits of b, over bits -/
def rm1 (a b : Nat) : Nat → Nat
  | 0 => 0
  | i + 1 => if b / 2 ^ i % 2 = 1 then rm1 a b i ^^^ a * 2 ^ i else rm1 a b i
/-- the rest, k steps from bit 14 down -/
def rm2 (p : Nat) : Nat → Nat
  | 0 => p
  | k + 1 => if rm2 p k / 2 ^ (14 - k) % 2 = 1 then rm2 p k ^^^ 285 * 2 ^ (6 - k) else rm2 p k
def rmulN (a b : Nat) : Nat := rm2 (rm1 a b 8) 7
theorem x11 (P Q m : Nat) : (P ^^^ m) ^^^ (Q ^^^ m) = P ^^^ Q := Nat.eq_of_testBit_eq fun i => by
  simp only [Nat.testBit_xor]; cases P.testBit i <;> cases Q.testBit i <;> cases m.testBit i <;> rfl
theorem x10 (P Q m : Nat) : (P ^^^ m) ^^^ Q = (P ^^^ Q) ^^^ m := Nat.eq_of_testBit_eq fun i => by
  simp only [Nat.testBit_xor]; cases P.testBit i <;> cases Q.testBit i <;> cases m.testBit i <;> rfl
theorem x01 (P Q m : Nat) : P ^^^ (Q ^^^ m) = (P ^^^ Q) ^^^ m := Nat.eq_of_testBit_eq fun i => by
  simp only [Nat.testBit_xor]; cases P.testBit i <;> cases Q.testBit i <;> cases m.testBit i <;> rfl
theorem x22 (P Q m n : Nat) : (P ^^^ m) ^^^ (Q ^^^ n) = (P ^^^ Q) ^^^ (m ^^^ n) := Nat.eq_of_testBit_eq fun i => by
  simp only [Nat.testBit_xor]; cases P.testBit i <;> cases Q.testBit i <;> cases m.testBit i <;> cases n.testBit i <;> rfl
theorem xor_shift (a c i : Nat) : (a ^^^ c) * 2 ^ i = a * 2 ^ i ^^^ c * 2 ^ i := by
  rw [← Nat.shiftLeft_eq, ← Nat.shiftLeft_eq, ← Nat.shiftLeft_eq, Nat.shiftLeft_xor_distrib]
theorem rm1_xor (a c b : Nat) : ∀ i, rm1 (a ^^^ c) b i = rm1 a b i ^^^ rm1 c b i
  | 0 => by simp [rm1]
  | i + 1 => by
    simp only [rm1]
    rw [rm1_xor a c b i]
    split
    · rw [xor_shift, x22]
    · rfl
theorem bit_xor (P Q i : Nat) : ((P ^^^ Q) / 2 ^ i % 2 = 1) ↔ ¬ ((P / 2 ^ i % 2 = 1) ↔ (Q / 2 ^ i % 2 = 1)) := by
  have h := Nat.testBit_xor P Q i
  rw [Nat.testBit_eq_decide_div_mod_eq, Nat.testBit_eq_decide_div_mod_eq, Nat.testBit_eq_decide_div_mod_eq] at h
  by_cases h1 : P / 2 ^ i % 2 = 1 <;> by_cases h2 : Q / 2 ^ i % 2 = 1 <;> simp [h1, h2] at h ⊢ <;> omega
theorem rm2_xor (p q : Nat) : ∀ k, rm2 (p ^^^ q) k = rm2 p k ^^^ rm2 q k
  | 0 => rfl
  | k + 1 => by
    simp only [rm2]
    rw [rm2_xor p q k]
    have hb := bit_xor (rm2 p k) (rm2 q k) (14 - k)
    by_cases h1 : rm2 p k / 2 ^ (14 - k) % 2 = 1 <;> by_cases h2 : rm2 q k / 2 ^ (14 - k) % 2 = 1
    · rw [if_pos h1, if_pos h2, if_neg (by rw [hb]; simp [h1, h2]), x11]
    · rw [if_pos h1, if_neg h2, if_pos (by rw [hb]; simp [h1, h2]), x10]
    · rw [if_neg h1, if_pos h2, if_pos (by rw [hb]; simp [h1, h2]), x01]
    · rw [if_neg h1, if_neg h2, if_neg (by rw [hb]; simp [h1, h2])]
theorem rmulN_xor (a c b : Nat) : rmulN (a ^^^ c) b = rmulN a b ^^^ rmulN c b := by
  unfold rmulN
  rw [rm1_xor, rm2_xor]
def dblN (x : Nat) : Nat := if 2 * x / 256 % 2 = 1 then (2 * x) ^^^ 285 else 2 * x
theorem dblN_xor (x y : Nat) : dblN (x ^^^ y) = dblN x ^^^ dblN y := by
  have hb := bit_xor (2 * x) (2 * y) 8
  have h2 : 2 * (x ^^^ y) = (2 * x) ^^^ (2 * y) := by have := xor_shift x y 1; simpa [Nat.mul_comm] using this
  unfold dblN
  rw [h2]
  simp only [show (2 : Nat) ^ 8 = 256 from rfl] at hb
  by_cases h1 : 2 * x / 256 % 2 = 1 <;> by_cases h2 : 2 * y / 256 % 2 = 1
  · rw [if_pos h1, if_pos h2, if_neg (by rw [hb]; simp [h1, h2]), x11]
  · rw [if_pos h1, if_neg h2, if_pos (by rw [hb]; simp [h1, h2]), x10]
  · rw [if_neg h1, if_pos h2, if_pos (by rw [hb]; simp [h1, h2]), x01]
  · rw [if_neg h1, if_neg h2, if_neg (by rw [hb]; simp [h1, h2])]
theorem dbl_dblN (a : UInt8) : (dbl a).toNat = dblN a.toNat := by
  have := a.toNat_lt
  rw [dbl_nat]
  unfold dblN
  by_cases h : 256 ≤ 2 * a.toNat
  · rw [if_pos h, if_pos (by omega)]
  · rw [if_neg h, if_neg (by omega)]
/-- a number's powers of two -/
def bitsOf (a : Nat) : List Nat := (List.range 8).filterMap fun i => if a / 2 ^ i % 2 = 1 then some (2 ^ i) else none
def xors (l : List Nat) : Nat := l.foldr (· ^^^ ·) 0
set_option maxRecDepth 100000 in
theorem bits_all : ((List.range 256).all fun a => decide (xors (bitsOf a) = a)) = true := by decide +kernel
theorem bits_mem (a : Nat) : ∀ x ∈ bitsOf a, ∃ i, i < 8 ∧ x = 2 ^ i := by
  intro x hx
  obtain ⟨i, hi, h⟩ := List.mem_filterMap.1 hx
  split at h
  · cases h; exact ⟨i, List.mem_range.1 hi, rfl⟩
  · cases h
theorem rm1_zero (b : Nat) : ∀ i, rm1 0 b i = 0
  | 0 => rfl
  | i + 1 => by simp [rm1, rm1_zero b i]
theorem rm2_zero : ∀ k, rm2 0 k = 0
  | 0 => rfl
  | k + 1 => by simp [rm2, rm2_zero k]
theorem rmulN_zero (b : Nat) : rmulN 0 b = 0 := by unfold rmulN; rw [rm1_zero, rm2_zero]
theorem rmulN_xors (b : Nat) : ∀ l : List Nat, rmulN (xors l) b = xors (l.map fun x => rmulN x b)
  | [] => rmulN_zero b
  | x :: l => by
    show rmulN (x ^^^ xors l) b = rmulN x b ^^^ xors (l.map fun x => rmulN x b)
    rw [rmulN_xor, rmulN_xors b l]
theorem dblN_xors : ∀ l : List Nat, dblN (xors l) = xors (l.map dblN)
  | [] => rfl
  | x :: l => by
    show dblN (x ^^^ xors l) = dblN x ^^^ xors (l.map dblN)
    rw [dblN_xor, dblN_xors l]
set_option maxRecDepth 100000 in
theorem pows_all : ((List.range 8).all fun i => (List.range 256).all fun b => decide (rmulN (2 ^ i) (dblN b) = dblN (rmulN (2 ^ i) b))) = true := by decide +kernel
set_option maxRecDepth 100000 in
theorem pows_one : ((List.range 8).all fun i => decide (rmulN (2 ^ i) 1 = 2 ^ i)) = true := by decide +kernel
set_option maxRecDepth 100000 in
theorem rmul_nought : ((List.range 256).all fun a => decide (rmulN a 0 = 0)) = true := by decide +kernel
theorem rmulN_dbl (a b : Nat) (ha : a < 256) (hb : b < 256) : rmulN a (dblN b) = dblN (rmulN a b) := by
  have h := of_decide_eq_true (List.all_eq_true.1 bits_all a (List.mem_range.2 ha))
  rw [← h, rmulN_xors, rmulN_xors, dblN_xors, List.map_map]
  congr 1
  refine List.map_congr_left fun x hx => ?_
  obtain ⟨i, hi, rfl⟩ := bits_mem a x hx
  exact of_decide_eq_true (List.all_eq_true.1 (List.all_eq_true.1 pows_all i (List.mem_range.2 hi)) b (List.mem_range.2 hb))
theorem rmulN_one (a : Nat) (ha : a < 256) : rmulN a 1 = a := by
  have h := of_decide_eq_true (List.all_eq_true.1 bits_all a (List.mem_range.2 ha))
  conv => rhs; rw [← h]
  rw [← h, rmulN_xors, h]
  congr 1
  have : (bitsOf a).map (fun x => rmulN x 1) = (bitsOf a).map id := List.map_congr_left fun x hx => by
    obtain ⟨i, hi, rfl⟩ := bits_mem a x hx
    exact of_decide_eq_true (List.all_eq_true.1 pows_one i (List.mem_range.2 hi))
  rw [this, List.map_id]
theorem rmulN_gexp (a : UInt8) (k : Nat) : rmulN a.toNat (gexp k).toNat = (Nat.repeat dbl k a).toNat := by
  induction k with
  | zero => exact rmulN_one _ a.toNat_lt
  | succ k ih =>
    show rmulN a.toNat (dbl (gexp k)).toNat = (dbl (Nat.repeat dbl k a)).toNat
    rw [dbl_dblN, rmulN_dbl _ _ a.toNat_lt (gexp k).toNat_lt, ih, dbl_dblN]
theorem dbl_zero : dbl 0 = 0 := by decide
theorem repeat_zero (i : Nat) : Nat.repeat dbl i 0 = 0 := by
  induction i with
  | zero => rfl
  | succ i ih => show dbl (Nat.repeat dbl i 0) = 0; rw [ih, dbl_zero]
theorem repeat_gexp (i k : Nat) : Nat.repeat dbl i (gexp k) = gexp (k + i) := by
  induction i with
  | zero => rfl
  | succ i ih => show dbl (Nat.repeat dbl i (gexp k)) = _; rw [ih]; rfl
/-- the document's product -/
theorem rmul_gmul (a b : UInt8) : rmulN a.toNat b.toNat = (gmul a b).toNat := by
  by_cases hb : b = 0
  · subst hb
    have h0 : gmul a 0 = 0 := by simp [gmul]
    rw [h0]
    exact of_decide_eq_true (List.all_eq_true.1 rmul_nought a.toNat (List.mem_range.2 a.toNat_lt))
  · obtain ⟨h1, h2⟩ := gexp_glog b hb
    have := rmulN_gexp a (glog b)
    rw [h1] at this
    rw [this]
    by_cases ha : a = 0
    · subst ha; rw [repeat_zero]; simp [gmul]
    · obtain ⟨h3, h4⟩ := gexp_glog a ha
      conv => lhs; rw [← h3]
      rw [repeat_gexp]
      simp [gmul, ha, hb]
theorem gmul_comm (a b : UInt8) : gmul a b = gmul b a := by
  unfold gmul
  by_cases h : a = 0 ∨ b = 0
  · rw [if_pos h, if_pos h.symm]
  · rw [if_neg h, if_neg (fun k => h k.symm), Nat.add_comm]
theorem gmul_one (a : UInt8) : gmul a 1 = a := by
  by_cases h : a = 0
  · subst h; simp [gmul]
  · obtain ⟨h1, h2⟩ := gexp_glog a h
    have h3 : glog 1 = 0 := glog_gexp 0 (by decide)
    simp [gmul, h, h3, h1]
end Go.Bl
namespace Go.Bl
open Go.RowKit
set_option linter.unusedVariables false

theorem gmul_zero (a : UInt8) : gmul a 0 = 0 := by simp [gmul]
theorem zero_gmul (a : UInt8) : gmul 0 a = 0 := by simp [gmul]
theorem one_gmul (a : UInt8) : gmul 1 a = a := by rw [gmul_comm, gmul_one]
theorem xor_gmul (a b c : UInt8) : gmul (a ^^^ b) c = gmul a c ^^^ gmul b c := by
  apply UInt8.toNat_inj.1
  rw [UInt8.toNat_xor, ← rmul_gmul, ← rmul_gmul, ← rmul_gmul, UInt8.toNat_xor, rmulN_xor]
theorem gmul_xor (a b c : UInt8) : gmul a (b ^^^ c) = gmul a b ^^^ gmul a c := by
  rw [gmul_comm, xor_gmul, gmul_comm b, gmul_comm c]
theorem gexp_add (i j : Nat) : gmul (gexp i) (gexp j) = gexp (i + j) := by
  unfold gmul
  rw [if_neg (by simp [gexp_ne]), ← gexp_rest i, ← gexp_rest j, glog_gexp _ (Nat.mod_lt _ (by decide)), glog_gexp _ (Nat.mod_lt _ (by decide)), ← gexp_rest, ← Nat.add_mod, gexp_rest]
theorem gmul_assoc (a b c : UInt8) : gmul (gmul a b) c = gmul a (gmul b c) := by
  by_cases ha : a = 0
  · subst ha; rw [zero_gmul, zero_gmul, zero_gmul]
  by_cases hb : b = 0
  · subst hb; rw [gmul_zero, zero_gmul, gmul_zero]
  by_cases hc : c = 0
  · subst hc; rw [gmul_zero, gmul_zero, gmul_zero]
  obtain ⟨i, -, rfl⟩ := gexp_onto a ha
  obtain ⟨j, -, rfl⟩ := gexp_onto b hb
  obtain ⟨k, -, rfl⟩ := gexp_onto c hc
  rw [gexp_add, gexp_add, gexp_add, gexp_add, Nat.add_assoc]
theorem gmul_ne {a b : UInt8} (ha : a ≠ 0) (hb : b ≠ 0) : gmul a b ≠ 0 := by
  unfold gmul
  rw [if_neg (by simp [ha, hb])]
  exact gexp_ne _
/-- an inverse -/
def ginv (a : UInt8) : UInt8 := if a = 0 then 0 else gexp (255 - glog a)
theorem gmul_ginv {a : UInt8} (h : a ≠ 0) : gmul a (ginv a) = 1 := by
  obtain ⟨h1, h2⟩ := gexp_glog a h
  unfold ginv
  rw [if_neg h]
  conv => lhs; arg 1; rw [← h1]
  rw [gexp_add, show glog a + (255 - glog a) = 255 by omega, gexp_255]
theorem ginv_ne {a : UInt8} (h : a ≠ 0) : ginv a ≠ 0 := by
  unfold ginv
  rw [if_neg h]
  exact gexp_ne _
theorem ginv_zero : ginv 0 = 0 := by simp [ginv]
theorem ginv_gexp (k : Nat) (h : k < 255) : ginv (gexp k) = gexp (255 - k) := by
  unfold ginv
  rw [if_neg (gexp_ne k), glog_gexp k h]
instance : Std.Associative gmul := ⟨gmul_assoc⟩
instance : Std.Commutative gmul := ⟨gmul_comm⟩
instance : Std.Associative (fun a b : UInt8 => a ^^^ b) := ⟨UInt8.xor_assoc⟩
instance : Std.Commutative (fun a b : UInt8 => a ^^^ b) := ⟨UInt8.xor_comm⟩
theorem xor_4 (a b c d : UInt8) : (a ^^^ b) ^^^ (c ^^^ d) = (a ^^^ c) ^^^ (b ^^^ d) := by
  rw [UInt8.xor_assoc, UInt8.xor_assoc, ← UInt8.xor_assoc b c d, UInt8.xor_comm b c, UInt8.xor_assoc]
theorem xor_eq_zero {a b : UInt8} : a ^^^ b = 0 ↔ a = b := by
  constructor
  · intro h
    have : a ^^^ b ^^^ b = 0 ^^^ b := by rw [h]
    rwa [UInt8.xor_assoc, UInt8.xor_self, UInt8.xor_zero, UInt8.zero_xor] at this
  · rintro rfl; exact UInt8.xor_self

/-! sums -/
def xsum : Nat → (Nat → UInt8) → UInt8
  | 0, _ => 0
  | n + 1, f => xsum n f ^^^ f n
theorem xsum_congr {f g : Nat → UInt8} : ∀ (n : Nat), (∀ i, i < n → f i = g i) → xsum n f = xsum n g
  | 0, _ => rfl
  | n + 1, h => by simp only [xsum]; rw [xsum_congr n (fun i hi => h i (by omega)), h n (by omega)]
theorem xsum_zero {f : Nat → UInt8} : ∀ (n : Nat), (∀ i, i < n → f i = 0) → xsum n f = 0
  | 0, _ => rfl
  | n + 1, h => by simp only [xsum]; rw [xsum_zero n (fun i hi => h i (by omega)), h n (by omega)]; rfl
theorem xsum_xor (f g : Nat → UInt8) : ∀ n, xsum n (fun i => f i ^^^ g i) = xsum n f ^^^ xsum n g
  | 0 => by simp [xsum]
  | n + 1 => by simp only [xsum]; rw [xsum_xor f g n, xor_4]
theorem xsum_mul (a : UInt8) (f : Nat → UInt8) : ∀ n, xsum n (fun i => gmul a (f i)) = gmul a (xsum n f)
  | 0 => by simp only [xsum]; rw [gmul_zero]
  | n + 1 => by simp only [xsum]; rw [xsum_mul a f n, gmul_xor]
theorem xsum_mulr (a : UInt8) (f : Nat → UInt8) (n : Nat) : xsum n (fun i => gmul (f i) a) = gmul (xsum n f) a := by
  rw [gmul_comm (xsum n f), ← xsum_mul]
  exact xsum_congr n fun i _ => gmul_comm _ _
theorem xsum_swap (f : Nat → Nat → UInt8) (m : Nat) : ∀ n, xsum n (fun i => xsum m (fun j => f i j)) = xsum m (fun j => xsum n (fun i => f i j))
  | 0 => by simp only [xsum]; exact (xsum_zero m fun _ _ => rfl).symm
  | n + 1 => by simp only [xsum]; rw [xsum_swap f m n, ← xsum_xor]
theorem xsum_first (f : Nat → UInt8) : ∀ n, xsum (n + 1) f = f 0 ^^^ xsum n (fun i => f (i + 1))
  | 0 => by simp [xsum]
  | n + 1 => by
    rw [xsum, xsum_first f n]
    simp only [xsum]
    rw [UInt8.xor_assoc]
theorem xsum_add (f : Nat → UInt8) (m : Nat) : ∀ n, xsum (m + n) f = xsum m f ^^^ xsum n (fun i => f (m + i))
  | 0 => by simp [xsum]
  | n + 1 => by
    rw [← Nat.add_assoc, xsum, xsum_add f m n]
    simp only [xsum]
    rw [UInt8.xor_assoc]
/-- beyond m there is nothing -/
theorem xsum_more {f : Nat → UInt8} {m n : Nat} (h : m ≤ n) (hz : ∀ i, m ≤ i → i < n → f i = 0) : xsum n f = xsum m f := by
  obtain ⟨k, rfl⟩ : ∃ k, n = m + k := ⟨n - m, by omega⟩
  rw [xsum_add, xsum_zero k (fun i hi => hz (m + i) (by omega) (by omega)), UInt8.xor_zero]
/-- one alone -/
theorem xsum_one {f : Nat → UInt8} {n : Nat} (k : Nat) (hk : k < n) (hz : ∀ i, i < n → i ≠ k → f i = 0) : xsum n f = f k := by
  rw [xsum_more (m := k + 1) (by omega) (fun i h1 h2 => hz i h2 (by omega))]
  simp only [xsum]
  rw [xsum_zero k (fun i hi => hz i (by omega) (by omega)), UInt8.zero_xor]
/-- moved on by m -/
theorem xsum_shift {f : Nat → UInt8} {m n : Nat} (h : m ≤ n) (hz : ∀ i, i < m → f i = 0) : xsum n f = xsum (n - m) (fun i => f (m + i)) := by
  obtain ⟨k, rfl⟩ : ∃ k, n = m + k := ⟨n - m, by omega⟩
  rw [xsum_add, xsum_zero m hz, UInt8.zero_xor, Nat.add_sub_cancel_left]
/-- from the other end -/
theorem xsum_rev (f : Nat → UInt8) : ∀ n, xsum n f = xsum n (fun i => f (n - 1 - i))
  | 0 => rfl
  | n + 1 => by
    rw [xsum_first (fun i => f (n + 1 - 1 - i)) n]
    simp only [xsum, Nat.add_sub_cancel, Nat.sub_zero]
    rw [xsum_rev f n, UInt8.xor_comm]
    congr 1
    exact xsum_congr n fun i hi => by rw [show n - 1 - i = n - (i + 1) by omega]
end Go.Bl
namespace Go.Bl
open Go.RowKit
set_option linter.unusedVariables false

theorem updX_get (l : List UInt8) (i m : Nat) (x : UInt8) (hi : i < l.length) : (updX l i x).getD m 0 = if m = i then l.getD m 0 ^^^ x else l.getD m 0 := by
  unfold updX
  by_cases h : m = i
  · subst h
    simp [List.getD_eq_getElem?_getD, hi]
  · simp [List.getD_eq_getElem?_getD, List.getElem?_set_ne (Ne.symm h), h]
/-- k rounds of the inner loop: b times the generator, from place i on -/
def divRow (b : UInt8) (i : Nat) : Nat → List UInt8 → List UInt8
  | 0, r => r
  | k + 1, r => updX (divRow b i k r) (i + k) (gmul b (genL.getD (32 - k) 0))
theorem divRow_len (b : UInt8) (i : Nat) : ∀ (k : Nat) (r : List UInt8), (divRow b i k r).length = r.length
  | 0, _ => rfl
  | k + 1, r => by simp only [divRow]; rw [updX_len, divRow_len b i k r]
theorem divRow_get (b : UInt8) (i m : Nat) : ∀ (k : Nat) (r : List UInt8), i + k ≤ r.length → (divRow b i k r).getD m 0 = if i ≤ m ∧ m < i + k then r.getD m 0 ^^^ gmul b (genL.getD (32 - (m - i)) 0) else r.getD m 0
  | 0, r, _ => by rw [if_neg (by omega)]; rfl
  | k + 1, r, h => by
    simp only [divRow]
    rw [updX_get _ _ _ _ (by rw [divRow_len]; omega), divRow_get b i m k r (by omega)]
    by_cases hm : m = i + k
    · subst hm
      rw [if_pos rfl, if_neg (by omega), if_pos (by omega), show i + k - i = k by omega]
    · rw [if_neg hm]
      by_cases h2 : i ≤ m ∧ m < i + k
      · rw [if_pos h2, if_pos (by omega)]
      · rw [if_neg h2, if_neg (by omega)]
def divAll (D : List UInt8) : Nat → List UInt8
  | 0 => D
  | i + 1 => divRow ((divAll D i).getD i 0) i 33 (divAll D i)
theorem divAll_len (D : List UInt8) : ∀ i, (divAll D i).length = D.length
  | 0 => rfl
  | i + 1 => by simp only [divAll]; rw [divRow_len, divAll_len D i]
theorem parStep_get (P : List UInt8) (c : UInt8) (m : Nat) (hP : P.length = 32) (hm : m < 32) : (parStep P c).getD m 0 = (if m < 31 then P.getD (m + 1) 0 else 0) ^^^ gmul (c ^^^ P.getD 0 0) (genL.getD (31 - m) 0) := by
  have h0 : P.headD 0 = P.getD 0 0 := by cases P <;> rfl
  unfold parStep
  rw [h0]
  simp only [List.getD_eq_getElem?_getD, List.getElem?_mapIdx]
  by_cases h : m < 31
  · rw [if_pos h, List.getElem?_append_left (by simp [hP]; omega)]
    have : P.tail[m]? = P[m + 1]? := by cases P <;> simp
    obtain ⟨x, hx⟩ : ∃ x, P[m + 1]? = some x := ⟨_, List.getElem?_eq_getElem (by omega)⟩
    rw [this, hx]
    simp
  · obtain rfl : m = 31 := by omega
    rw [if_neg h, List.getElem?_append_right (by simp [hP])]
    simp [hP]
theorem noughts_get (n m : Nat) : (List.replicate n (0 : UInt8)).getD m 0 = 0 := by
  rw [List.getD_eq_getElem?_getD, List.getElem?_replicate]
  split <;> rfl
theorem xor_c3 (a b c : UInt8) : a ^^^ b ^^^ c = a ^^^ (b ^^^ c) := UInt8.xor_assoc ..
/-- what lies in the long division behind i steps -/
theorem div_reg (data : List UInt8) : ∀ i, i ≤ data.length → ∀ m, i + m < data.length + 32 → (divAll (data ++ List.replicate 32 0) i).getD (i + m) 0 = (data ++ List.replicate 32 0).getD (i + m) 0 ^^^ (if m < 32 then (parL (data.take i)).getD m 0 else 0)
  | 0, _, m, hm => by
    simp only [divAll, List.take_zero, parL, List.foldl_nil, noughts_get]
    simp only [ite_self, UInt8.xor_zero]
  | i + 1, hi, m, hm => by
    have ih := div_reg data i (by omega)
    have hP : (parL (data.take i)).length = 32 := parL_len _
    have hc : data[i]? = some (data.getD i 0) := by
      rw [List.getD_eq_getElem?_getD, List.getElem?_eq_getElem (by omega)]; rfl
    have hby : (divAll (data ++ List.replicate 32 0) i).getD i 0 = data.getD i 0 ^^^ (parL (data.take i)).getD 0 0 := by
      have := ih 0 (by omega)
      rw [Nat.add_zero, if_pos (by omega)] at this
      rw [this]
      congr 1
      simp [List.getD_eq_getElem?_getD, List.getElem?_append_left (show i < data.length by omega)]
    simp only [divAll]
    rw [divRow_get _ _ _ _ _ (by rw [divAll_len]; simp; omega), hby]
    have h2 := ih (m + 1) (by omega)
    rw [show i + (m + 1) = i + 1 + m by omega] at h2
    rw [h2, parL_take data i _ hc]
    by_cases hm32 : m < 32
    · rw [if_pos (by omega), if_pos hm32, parStep_get _ _ _ hP hm32, xor_c3, show 32 - (i + 1 + m - i) = 31 - m by omega]
      congr 2
      by_cases h31 : m < 31
      · rw [if_pos (by omega), if_pos h31]
      · rw [if_neg (by omega), if_neg h31]
    · rw [if_neg (by omega), if_neg (by omega), if_neg hm32]
/-- the document's parity is the register's -/
theorem div_par (data : List UInt8) : (divAll (data ++ List.replicate 32 0) data.length).drop data.length = parL data := by
  have hl := divAll_len (data ++ List.replicate 32 0) data.length
  simp only [List.length_append, List.length_replicate] at hl
  apply List.ext_getElem?
  intro m
  have hP := parL_len data
  rcases Nat.lt_or_ge m 32 with h | h
  · have := div_reg data data.length (Nat.le_refl _) m (by omega)
    rw [if_pos h, List.take_length] at this
    have h0 : (data ++ List.replicate 32 (0 : UInt8)).getD (data.length + m) 0 = 0 := by
      have := noughts_get 32 m
      rw [List.getD_eq_getElem?_getD] at this
      rw [List.getD_eq_getElem?_getD, List.getElem?_append_right (by omega), Nat.add_sub_cancel_left]
      exact this
    rw [h0] at this
    simp only [List.getD_eq_getElem?_getD, UInt8.zero_xor] at this
    rw [List.getElem?_drop]
    rw [List.getElem?_eq_getElem (by omega), List.getElem?_eq_getElem (by omega)] at this ⊢
    simpa using this
  · rw [List.getElem?_eq_none (by rw [List.length_drop]; omega), List.getElem?_eq_none (by omega)]
/-! the document's generator -/
def grRow (root : UInt8) : List UInt8 → Nat → List UInt8 → List UInt8
  | [], _, nx => nx
  | c :: g, i, nx => grRow root g (i + 1) (updX (updX nx i (gmul c root)) (i + 1) c)
theorem grRow_take (root : UInt8) : ∀ (g : List UInt8) (k i : Nat) (c : UInt8) (nx : List UInt8), g[k]? = some c → grRow root (g.take (k + 1)) i nx = updX (updX (grRow root (g.take k) i nx) (i + k) (gmul c root)) (i + k + 1) c
  | [], k, i, c, nx, h => by simp at h
  | d :: g, 0, i, c, nx, h => by simp at h; subst h; simp [grRow]
  | d :: g, k + 1, i, c, nx, h => by
    simp only [List.take_succ_cons, grRow]
    rw [grRow_take root g k (i + 1) c _ (by simpa using h), show i + 1 + k = i + (k + 1) by omega]
theorem grRow_len (root : UInt8) : ∀ (g : List UInt8) (i : Nat) (nx : List UInt8), (grRow root g i nx).length = nx.length
  | [], _, _ => rfl
  | c :: g, i, nx => by simp only [grRow]; rw [grRow_len root g, updX_len, updX_len]
def gref : Nat → List UInt8 × UInt8
  | 0 => ([1], 1)
  | j + 1 => (grRow (gref j).2 (gref j).1 0 (List.replicate ((gref j).1.length + 1) 0), gmul (gref j).2 2)
theorem gref_len : ∀ j, (gref j).1.length = j + 1
  | 0 => rfl
  | j + 1 => by
    show (grRow _ _ _ _).length = _
    rw [grRow_len, List.length_replicate, gref_len j]
set_option maxRecDepth 100000 in
theorem gref_gen : (gref 32).1 = genL := by decide +kernel
end Go.Bl
