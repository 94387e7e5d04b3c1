/-
  Layers 2 and 3 in plain Lean: products of polynomials, the generator, parity by a register.
-/
import Derived.Test.YtenjpnhccnmnpaaDoorFld
namespace Go.Bl
open Go.RowKit
set_option linter.unusedVariables false

def updX (out : List UInt8) (i : Nat) (x : UInt8) : List UInt8 := out.set i (out.getD i 0 ^^^ x)
theorem updX_len (out : List UInt8) (i : Nat) (x : UInt8) : (updX out i x).length = out.length := by simp [updX]
/-- a row of a product: q times a, from place i on -/
def mulRow (a : UInt8) : List UInt8 → Nat → List UInt8 → List UInt8
  | [], _, out => out
  | b :: q, i, out => mulRow a q (i + 1) (updX out i (gmul a b))
theorem mulRow_len (a : UInt8) : ∀ (q : List UInt8) (i : Nat) (out : List UInt8), (mulRow a q i out).length = out.length
  | [], _, _ => rfl
  | b :: q, i, out => by simp only [mulRow]; rw [mulRow_len a q, updX_len]
theorem mulRow_take (a : UInt8) : ∀ (q : List UInt8) (k i : Nat) (b : UInt8) (out : List UInt8), q[k]? = some b → mulRow a (q.take (k + 1)) i out = updX (mulRow a (q.take k) i out) (i + k) (gmul a b)
  | [], k, i, b, out, h => by simp at h
  | c :: q, 0, i, b, out, h => by simp at h; subst h; simp [mulRow]
  | c :: q, k + 1, i, b, out, h => by
    simp only [List.take_succ_cons, mulRow]
    rw [mulRow_take a q k (i + 1) b _ (by simpa using h), show i + 1 + k = i + (k + 1) by omega]
def mulAll : List UInt8 → List UInt8 → Nat → List UInt8 → List UInt8
  | [], _, _, out => out
  | a :: p, q, i, out => mulAll p q (i + 1) (mulRow a q i out)
theorem mulAll_len : ∀ (p q : List UInt8) (i : Nat) (out : List UInt8), (mulAll p q i out).length = out.length
  | [], _, _, _ => rfl
  | a :: p, q, i, out => by simp only [mulAll]; rw [mulAll_len p, mulRow_len]
theorem mulAll_take : ∀ (p q : List UInt8) (k i : Nat) (a : UInt8) (out : List UInt8), p[k]? = some a → mulAll (p.take (k + 1)) q i out = mulRow a q (i + k) (mulAll (p.take k) q i out)
  | [], _, k, i, b, out, h => by simp at h
  | c :: p, q, 0, i, b, out, h => by simp at h; subst h; simp [mulAll]
  | c :: p, q, k + 1, i, b, out, h => by
    simp only [List.take_succ_cons, mulAll]
    rw [mulAll_take p q k (i + 1) b _ (by simpa using h), show i + 1 + k = i + (k + 1) by omega]
/-- one more than the degree -/
def plen : List UInt8 → Nat
  | [] => 0
  | c :: p => if plen p = 0 then (if c = 0 then 0 else 1) else plen p + 1
theorem plen_le : ∀ p : List UInt8, plen p ≤ p.length
  | [] => Nat.le_refl _
  | c :: p => by
    have := plen_le p
    simp only [plen, List.length_cons]
    split
    · split <;> omega
    · omega
/-- from the end on: nothing but noughts behind place k -/
theorem plen_of : ∀ (p : List UInt8) (k : Nat), (∀ i, k ≤ i → i < p.length → p[i]? = some 0) → (k = 0 ∨ ∃ c, p[k - 1]? = some c ∧ c ≠ 0) → plen p = k
  | [], k, _, h => by
    rcases h with rfl | ⟨c, hc, _⟩
    · rfl
    · simp at hc
  | c :: p, k, h1, h2 => by
    simp only [plen]
    rcases h2 with rfl | ⟨d, hd, hne⟩
    · have hc := h1 0 (Nat.le_refl _) (by simp)
      simp at hc
      rw [plen_of p 0 (fun i _ hi => by have := h1 (i + 1) (by omega) (by simp; omega); simpa using this) (.inl rfl), if_pos rfl, if_pos hc]
    · cases k with
      | zero =>
        simp at hd
        subst hd
        have hc := h1 0 (Nat.le_refl _) (by simp)
        simp at hc
        exact absurd hc hne
      | succ k =>
        rw [Nat.add_sub_cancel] at hd
        have ht : ∀ i, k ≤ i → i < p.length → p[i]? = some 0 := fun i hi hl => by have := h1 (i + 1) (by omega) (by simp; omega); simpa using this
        cases k with
        | zero =>
          simp at hd
          subst hd
          rw [plen_of p 0 ht (.inl rfl), if_pos rfl, if_neg hne]
        | succ k =>
          rw [List.getElem?_cons_succ] at hd
          rw [plen_of p (k + 1) ht (.inr ⟨d, by simpa using hd, hne⟩), if_neg (by omega)]
def ptrim (p : List UInt8) : List UInt8 := p.take (plen p)
def pmul (p q : List UInt8) : List UInt8 := ptrim (mulAll p q 0 (List.replicate (p.length + q.length) 0))
def proots (rs : List UInt8) : List UInt8 := rs.foldl (fun out r => pmul out [r, 1]) [1]
theorem proots_take (rs : List UInt8) (k : Nat) (r : UInt8) (h : rs[k]? = some r) : proots (rs.take (k + 1)) = pmul (proots (rs.take k)) [r, 1] := by
  unfold proots
  rw [List.take_add_one, h]
  simp [List.foldl_append]
/-- the generator -/
def genL : List UInt8 := proots ((List.range 32).map gexp)
set_option maxRecDepth 100000 in
theorem genL_len : genL.length = 33 := by decide +kernel
theorem ptrim_len (p : List UInt8) : (ptrim p).length ≤ p.length := by unfold ptrim; rw [List.length_take]; omega
theorem pmul_len (p q : List UInt8) : (pmul p q).length ≤ p.length + q.length := by
  have := ptrim_len (mulAll p q 0 (List.replicate (p.length + q.length) 0))
  rw [mulAll_len, List.length_replicate] at this
  exact this
/-- the register, shifted by one symbol -/
def parStep (rest : List UInt8) (c : UInt8) : List UInt8 := (rest.tail ++ [0]).mapIdx fun k x => x ^^^ gmul (c ^^^ rest.headD 0) (genL.getD (31 - k) 0)
def parL (data : List UInt8) : List UInt8 := data.foldl parStep (List.replicate 32 0)
theorem parStep_len (rest : List UInt8) (c : UInt8) (h : rest.length = 32) : (parStep rest c).length = 32 := by simp [parStep, h]
theorem parL_take (data : List UInt8) (k : Nat) (c : UInt8) (h : data[k]? = some c) : parL (data.take (k + 1)) = parStep (parL (data.take k)) c := by
  unfold parL
  rw [List.take_add_one, h]
  simp [List.foldl_append]
theorem parL_len (data : List UInt8) : (parL data).length = 32 := by
  unfold parL
  have : ∀ (l : List UInt8) (r : List UInt8), r.length = 32 → (l.foldl parStep r).length = 32 := by
    intro l
    induction l with
    | nil => intro r h; exact h
    | cons c l ih => intro r h; exact ih _ (parStep_len r c h)
  exact this data _ (by simp)
end Go.Bl
