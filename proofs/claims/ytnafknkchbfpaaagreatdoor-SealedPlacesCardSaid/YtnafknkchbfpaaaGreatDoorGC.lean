import Derived.Test.YtnafknkchbfpaaaGreatDoorGA
import Derived.Laws.BitsAllLaws
set_option maxRecDepth 1000000
set_option maxHeartbeats 8000000
namespace Go.Bl
open Go.RowKit
set_option linter.unusedVariables false
def dbl (a : UInt8) : UInt8 := UInt8.ofNat (if 256 <= 2 * a.toNat then (2 * a.toNat) ^^^ 285 else 2 * a.toNat)
def gexp : Nat -> UInt8
 | 0 => 1
 | n + 1 => dbl (gexp n)
def gls : Nat -> UInt8 -> List UInt8
 | 0, _ => []
 | n + 1, x => x :: gls n (dbl x)
theorem gls_len : ∀ (n : Nat) (x : UInt8), (gls n x).length = n
 | 0, _ => rfl
 | n + 1, x => by simp [gls, gls_len n]
theorem gls_get : ∀ (n k i : Nat), i < n -> (gls n (gexp k))[i]? = some (gexp (k + i))
 | 0, _, _, h => by omega
 | n + 1, k, 0, _ => by simp [gls]
 | n + 1, k, i + 1, h => by
  have := gls_get n (k + 1) i (by omega)
  simp only [gls, List.getElem?_cons_succ]
  rw [show dbl (gexp k) = gexp (k + 1) from rfl, this, show k + 1 + i = k + (i + 1) by omega]
def gl : List UInt8 := gls 255 1
theorem gl_get (i : Nat) (h : i < 255) : gl[i]? = some (gexp i) := by
 have := gls_get 255 0 i h
 rwa [Nat.zero_add] at this
theorem gl_len : gl.length = 255 := gls_len 255 1
def noTwo : List UInt8 -> Bool
 | [] => true
 | x :: l => !l.contains x && noTwo l
theorem noTwo_nodup : ∀ l : List UInt8, noTwo l = true -> l.Nodup
 | [], _ => List.nodup_nil
 | x :: l, h => by
  simp only [noTwo, Bool.and_eq_true, Bool.not_eq_true', List.contains_eq_mem, decide_eq_false_iff_not] at h
  exact List.nodup_cons.2 ⟨h.1, noTwo_nodup l h.2⟩
theorem gl_nodup : gl.Nodup := noTwo_nodup gl (by decide +kernel)
theorem gl_all : ((List.range 256).all fun a => a == 0 || gl.contains (UInt8.ofNat a)) = true := by decide +kernel
theorem gexp_255 : gexp 255 = 1 := by decide +kernel
theorem gexp_mod (n : Nat) : gexp (n + 255) = gexp n := by
 induction n with
 | zero => exact gexp_255
 | succ n ih => show dbl (gexp (n + 255)) = dbl (gexp n); rw [ih]
theorem gexp_inj {i j : Nat} (hi : i < 255) (hj : j < 255) (h : gexp i = gexp j) : i = j :=
 (List.getElem?_inj (by rw [gl_len]; exact hi) gl_nodup).1 (by rw [gl_get i hi, gl_get j hj, h])
theorem gexp_onto (a : UInt8) (h : a ≠ 0) : ∃ k, k < 255 /\ gexp k = a := by
 have h1 := List.all_eq_true.1 gl_all a.toNat (List.mem_range.2 a.toNat_lt)
 simp only [Bool.or_eq_true, beq_iff_eq, List.contains_eq_mem, decide_eq_true_eq, UInt8.ofNat_toNat] at h1
 rcases h1 with h1 | h1
 ·exact absurd (UInt8.toNat_inj.1 h1) h
 ·obtain ⟨i, hi, he⟩ := List.getElem_of_mem h1
  rw [gl_len] at hi
  refine ⟨i, hi, ?_⟩
  have := gl_get i hi
  rw [List.getElem?_eq_getElem (by rw [gl_len]; exact hi), he] at this
  exact (Option.some.inj this).symm
def glog (a : UInt8) : Nat := gl.idxOf a
theorem glog_gexp (k : Nat) (h : k < 255) : glog (gexp k) = k := by
 have hm : gexp k ∈ gl := List.mem_of_getElem? (gl_get k h)
 have hl : gl.idxOf (gexp k) < gl.length := List.idxOf_lt_length_of_mem hm
 have he : gl[gl.idxOf (gexp k)] = gexp k := List.getElem_idxOf hl
 have := gl_get _ (by rw [gl_len] at hl; exact hl)
 rw [List.getElem?_eq_getElem hl, he] at this
 exact (gexp_inj h (by rw [gl_len] at hl; exact hl) (Option.some.inj this)).symm
theorem gexp_glog (a : UInt8) (h : a ≠ 0) : gexp (glog a) = a /\ glog a < 255 := by
 obtain ⟨k, hk, rfl⟩ := gexp_onto a h
 rw [glog_gexp k hk]
 exact ⟨rfl, hk⟩
def gmul (a b : UInt8) : UInt8 := if a = 0 ∨ b = 0 then 0 else gexp (glog a + glog b)
def tabN : Nat -> Array Value
 | 0 => (List.replicate 510 (Value.int .u8 0) ++ List.replicate 256 (Value.int .i64 0)).toArray
 | n + 1 => (((tabN n).setIfInBounds n (u8v (gexp n))).setIfInBounds (n + 255) (u8v (gexp n))).setIfInBounds (510 + (gexp n).toNat) (.int .i64 n)
def tabF : Array Value := (tabN 255).setIfInBounds 510 (.int .i64 (-1))
theorem tabN_size (n : Nat) : (tabN n).size = 766 := by
 induction n with
 | zero => unfold tabN; rw [List.size_toArray, List.length_append, List.length_replicate, List.length_replicate]
 | succ n ih => simp only [tabN, Array.size_setIfInBounds, ih]
theorem tabN_exp (n i : Nat) (hn : n <= 255) (hi : i < n) : (tabN n)[i]? = some (u8v (gexp i)) /\ (tabN n)[i + 255]? = some (u8v (gexp i)) := by
 induction n with
 | zero => omega
 | succ n ih =>
  have hs := tabN_size n
  simp only [tabN, Array.getElem?_setIfInBounds, Array.size_setIfInBounds, hs]
  constructor
  ·rw [if_neg (by omega), if_neg (by omega)]
   by_cases h : n = i
   ·subst h; rw [if_pos rfl, if_pos (by omega)]
   ·rw [if_neg h]; exact (ih (by omega) (by omega)).1
  ·rw [if_neg (by omega)]
   by_cases h : n = i
   ·subst h; rw [if_pos rfl, if_pos (by omega)]
   ·rw [if_neg (by omega), if_neg (by omega)]; exact (ih (by omega) (by omega)).2
theorem tabN_log (n k : Nat) (hn : n <= 255) (hk : k < n) : (tabN n)[510 + (gexp k).toNat]? = some (.int .i64 k) := by
 induction n with
 | zero => omega
 | succ n ih =>
  have hs := tabN_size n
  have hlt := (gexp k).toNat_lt
  simp only [tabN, Array.getElem?_setIfInBounds, Array.size_setIfInBounds, hs]
  by_cases h : n = k
  ·subst h; rw [if_pos rfl, if_pos (by omega)]
  ·rw [if_neg (fun e => h (gexp_inj (by omega) (by omega) (UInt8.toNat_inj.1 (by omega)))), if_neg (by omega), if_neg (by omega)]
   exact ih (by omega) (by omega)
theorem tabF_exp (i : Nat) (hi : i < 510) : tabF[i]? = some (u8v (gexp i)) := by
 unfold tabF
 rw [Array.getElem?_setIfInBounds, if_neg (by omega)]
 by_cases h : i < 255
 ·exact (tabN_exp 255 i (by omega) h).1
 ·have := (tabN_exp 255 (i - 255) (by omega) (by omega)).2
  rw [show i - 255 + 255 = i by omega] at this
  rw [this, <- gexp_mod (i - 255), show i - 255 + 255 = i by omega]
theorem tabF_log (a : UInt8) (h : a ≠ 0) : tabF[510 + a.toNat]? = some (.int .i64 (glog a)) := by
 obtain ⟨h1, h2⟩ := gexp_glog a h
 have h0 : a.toNat ≠ 0 := fun e => h (UInt8.toNat_inj.1 e)
 unfold tabF
 rw [Array.getElem?_setIfInBounds, if_neg (by omega)]
 have := tabN_log 255 (glog a) (by omega) h2
 rwa [h1] at this
theorem dbl_nat (a : UInt8) : (dbl a).toNat = if 256 <= 2 * a.toNat then (2 * a.toNat) ^^^ 285 else 2 * a.toNat := by
 have h : ((List.range 256).all fun x => decide ((if 256 <= 2 * x then (2 * x) ^^^ 285 else 2 * x) < 256)) = true := by decide +kernel
 have := of_decide_eq_true (List.all_eq_true.1 h a.toNat (List.mem_range.2 a.toNat_lt))
 unfold dbl
 rw [UInt8.toNat_ofNat', Nat.mod_eq_of_lt this]
end Go.Bl
namespace Go.Bl
open Go.RowKit
def updX (out : List UInt8) (i : Nat) (x : UInt8) : List UInt8 := out.set i (out.getD i 0 ^^^ x)
theorem updX_len (out : List UInt8) (i : Nat) (x : UInt8) : (updX out i x).length = out.length := by simp [updX]
def mulRow (a : UInt8) : List UInt8 -> Nat -> List UInt8 -> List UInt8
 | [], _, out => out
 | b :: q, i, out => mulRow a q (i + 1) (updX out i (gmul a b))
theorem mulRow_len (a : UInt8) : ∀ (q : List UInt8) (i : Nat) (out : List UInt8), (mulRow a q i out).length = out.length
 | [], _, _ => rfl
 | b :: q, i, out => by simp only [mulRow]; rw [mulRow_len a q, updX_len]
theorem mulRow_take (a : UInt8) : ∀ (q : List UInt8) (k i : Nat) (b : UInt8) (out : List UInt8), q[k]? = some b -> mulRow a (q.take (k + 1)) i out = updX (mulRow a (q.take k) i out) (i + k) (gmul a b)
 | [], k, i, b, out, h => by simp at h
 | c :: q, 0, i, b, out, h => by simp at h; subst h; simp [mulRow]
 | c :: q, k + 1, i, b, out, h => by
  simp only [List.take_succ_cons, mulRow]
  rw [mulRow_take a q k (i + 1) b _ (by simpa using h), show i + 1 + k = i + (k + 1) by omega]
def mulAll : List UInt8 -> List UInt8 -> Nat -> List UInt8 -> List UInt8
 | [], _, _, out => out
 | a :: p, q, i, out => mulAll p q (i + 1) (mulRow a q i out)
theorem mulAll_len : ∀ (p q : List UInt8) (i : Nat) (out : List UInt8), (mulAll p q i out).length = out.length
 | [], _, _, _ => rfl
 | a :: p, q, i, out => by simp only [mulAll]; rw [mulAll_len p, mulRow_len]
theorem mulAll_take : ∀ (p q : List UInt8) (k i : Nat) (a : UInt8) (out : List UInt8), p[k]? = some a -> mulAll (p.take (k + 1)) q i out = mulRow a q (i + k) (mulAll (p.take k) q i out)
 | [], _, k, i, b, out, h => by simp at h
 | c :: p, q, 0, i, b, out, h => by simp at h; subst h; simp [mulAll]
 | c :: p, q, k + 1, i, b, out, h => by
  simp only [List.take_succ_cons, mulAll]
  rw [mulAll_take p q k (i + 1) b _ (by simpa using h), show i + 1 + k = i + (k + 1) by omega]
def plen : List UInt8 -> Nat
 | [] => 0
 | c :: p => if plen p = 0 then (if c = 0 then 0 else 1) else plen p + 1
theorem plen_le : ∀ p : List UInt8, plen p <= p.length
 | [] => Nat.le_refl _
 | c :: p => by
  have := plen_le p
  simp only [plen, List.length_cons]
  split
  ·split <;> omega
  ·omega
theorem plen_of : ∀ (p : List UInt8) (k : Nat), (∀ i, k <= i -> i < p.length -> p[i]? = some 0) -> (k = 0 ∨ ∃ c, p[k - 1]? = some c /\ c ≠ 0) -> plen p = k
 | [], k, _, h => by
  rcases h with rfl | ⟨c, hc, _⟩
  ·rfl
  ·simp at hc
 | c :: p, k, h1, h2 => by
  simp only [plen]
  rcases h2 with rfl | ⟨d, hd, hne⟩
  ·have hc := h1 0 (Nat.le_refl _) (by simp)
   simp at hc
   rw [plen_of p 0 (fun i _ hi => by have := h1 (i + 1) (by omega) (by simp; omega); simpa using this) (.inl rfl), if_pos rfl, if_pos hc]
  ·cases k with
   | zero =>
    simp at hd
    subst hd
    have hc := h1 0 (Nat.le_refl _) (by simp)
    simp at hc
    exact absurd hc hne
   | succ k =>
    rw [Nat.add_sub_cancel] at hd
    have ht : ∀ i, k <= i -> i < p.length -> p[i]? = some 0 := fun i hi hl => by have := h1 (i + 1) (by omega) (by simp; omega); simpa using this
    cases k with
    | zero =>
     simp at hd
     subst hd
     rw [plen_of p 0 ht (.inl rfl), if_pos rfl, if_neg hne]
    | succ k =>
     rw [List.getElem?_cons_succ] at hd
     rw [plen_of p (k + 1) ht (.inr ⟨d, by simpa using hd, hne⟩), if_neg (by omega)]
def ptrim (p : List UInt8) : List UInt8 := p.take (plen p)
def pmul (p q : List UInt8) : List UInt8 := ptrim (mulAll p q 0 (List.replicate (p.length + q.length) 0))
def proots (rs : List UInt8) : List UInt8 := rs.foldl (fun out r => pmul out [r, 1]) [1]
theorem proots_take (rs : List UInt8) (k : Nat) (r : UInt8) (h : rs[k]? = some r) : proots (rs.take (k + 1)) = pmul (proots (rs.take k)) [r, 1] := by
 unfold proots
 rw [List.take_add_one, h]
 simp [List.foldl_append]
def genL : List UInt8 := proots ((List.range 32).map gexp)
theorem genL_len : genL.length = 33 := by decide +kernel
theorem ptrim_len (p : List UInt8) : (ptrim p).length <= p.length := by unfold ptrim; rw [List.length_take]; omega
theorem pmul_len (p q : List UInt8) : (pmul p q).length <= p.length + q.length := by
 have := ptrim_len (mulAll p q 0 (List.replicate (p.length + q.length) 0))
 rw [mulAll_len, List.length_replicate] at this
 exact this
def parStep (rest : List UInt8) (c : UInt8) : List UInt8 := (rest.tail ++ [0]).mapIdx fun k x => x ^^^ gmul (c ^^^ rest.headD 0) (genL.getD (31 - k) 0)
def parL (data : List UInt8) : List UInt8 := data.foldl parStep (List.replicate 32 0)
theorem parStep_len (rest : List UInt8) (c : UInt8) (h : rest.length = 32) : (parStep rest c).length = 32 := by simp [parStep, h]
theorem parL_take (data : List UInt8) (k : Nat) (c : UInt8) (h : data[k]? = some c) : parL (data.take (k + 1)) = parStep (parL (data.take k)) c := by
 unfold parL
 rw [List.take_add_one, h]
 simp [List.foldl_append]
theorem parL_len (data : List UInt8) : (parL data).length = 32 := by
 unfold parL
 have : ∀ (l : List UInt8) (r : List UInt8), r.length = 32 -> (l.foldl parStep r).length = 32 := by
  intro l
  induction l with
  | nil => intro r h; exact h
  | cons c l ih => intro r h; exact ih _ (parStep_len r c h)
 exact this data _ (by simp)
end Go.Bl
