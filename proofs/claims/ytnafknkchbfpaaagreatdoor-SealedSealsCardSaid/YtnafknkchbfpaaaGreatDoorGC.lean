import Derived.Test.YtnafknkchbfpaaaGreatDoorGA
set_option maxRecDepth 1000000
set_option maxHeartbeats 8000000
namespace Go.Bl
open Go.RowKit
set_option linter.unusedVariables false
def dbl (a : UInt8) : UInt8 := UInt8.ofNat (if 256 <= 2 * a.toNat then (2 * a.toNat) ^^^ 285 else 2 * a.toNat)
def jA : Nat -> UInt8
 | 0 => 1
 | n + 1 => dbl (jA n)
def gls : Nat -> UInt8 -> List UInt8
 | 0, _ => []
 | n + 1, x => x :: gls n (dbl x)
theorem YY : ∀ (n : Nat) (x : UInt8), (gls n x).length = n
 | 0, _ => rfl
 | n + 1, x => by simp [gls, YY n]
theorem Wg : ∀ (n k i : Nat), i < n -> (gls n (jA k))[i]? = some (jA (k + i))
 | 0, _, _, h => by omega
 | n + 1, k, 0, _ => by simp [gls]
 | n + 1, k, i + 1, h => by
  have := Wg n (k + 1) i Y95
  simp only [gls, List.getElem?_cons_succ]
  rw [show dbl (jA k) = jA (k + 1) from rfl, this, show k + 1 + i = k + (i + 1) by omega]
def gl : List UInt8 := gls 255 1
theorem Jz (i : Nat) (h : i < 255) : gl[i]? = some (jA i) := by
 have := Wg 255 0 i h
 rwa [Nat.zero_add] at this
theorem JY : gl.length = 255 := YY 255 1
def Ly : List UInt8 -> Bool
 | [] => true
 | x :: l => !l.contains x && Ly l
theorem Q4 : ∀ l : List UInt8, Ly l = true -> l.Nodup
 | [], _ => List.nodup_nil
 | x :: l, h => by
  simp only [Ly, Bool.and_eq_true, Bool.not_eq_true', List.contains_eq_mem, decide_eq_false_iff_not] at h
  exact List.nodup_cons.2 ⟨h.1, Q4 l h.2⟩
theorem qag : gl.Nodup := Q4 gl (by decide +kernel)
theorem qc9 : ((List.range 256).all fun a => a == 0 || gl.contains (UInt8.ofNat a)) = true := by decide +kernel
theorem qaR : jA 255 = 1 := by decide +kernel
theorem LC (n : Nat) : jA (n + 255) = jA n := by
 induction n with
 | zero => exact qaR
 | succ n ih => show dbl (jA (n + 255)) = dbl (jA n); rw [ih]
theorem VQ {i j : Nat} (hi : i < 255) (hj : j < 255) (h : jA i = jA j) : i = j :=
 (List.getElem?_inj (by rw [JY]; exact hi) qag).1 (by rw [Jz i hi, Jz j hj, h])
theorem Kz (a : UInt8) (h : a ≠ 0) : ∃ k, k < 255 /\ jA k = a := by
 have h1 := List.all_eq_true.1 qc9 a.toNat (List.mem_range.2 a.toNat_lt)
 simp only [Bool.or_eq_true, beq_iff_eq, List.contains_eq_mem, decide_eq_true_eq, UInt8.ofNat_toNat] at h1
 rcases h1 with h1 | h1
 ·exact absurd (UInt8.toNat_inj.1 h1) h
 ·obtain ⟨i, hi, he⟩ := List.getElem_of_mem h1
  rw [JY] at hi
  refine ⟨i, hi, ?_⟩
  have := Jz i hi
  rw [List.getElem?_eq_getElem (by rw [JY]; exact hi), he] at this
  exact (Option.some.inj this).symm
def yF (a : UInt8) : Nat := gl.idxOf a
theorem KK (k : Nat) (h : k < 255) : yF (jA k) = k := by
 have hm : jA k ∈ gl := List.mem_of_getElem? (Jz k h)
 have hl : gl.idxOf (jA k) < gl.length := List.idxOf_lt_length_of_mem hm
 have he : gl[gl.idxOf (jA k)] = jA k := List.getElem_idxOf hl
 have := Jz _ (by rw [JY] at hl; exact hl)
 rw [List.getElem?_eq_getElem hl, he] at this
 exact (VQ h (by rw [JY] at hl; exact hl) (Option.some.inj this)).symm
theorem vN (a : UInt8) (h : a ≠ 0) : jA (yF a) = a /\ yF a < 255 := by
 obtain ⟨k, hk, rfl⟩ := Kz a h
 rw [KK k hk]
 exact ⟨rfl, hk⟩
def qX (a b : UInt8) : UInt8 := if a = 0 ∨ b = 0 then 0 else jA (yF a + yF b)
def vP : Nat -> Array Value
 | 0 => (List.replicate 510 (Value.int .u8 0) ++ List.replicate 256 (Value.int .i64 0)).toArray
 | n + 1 => (((vP n).setIfInBounds n (u8v (jA n))).setIfInBounds (n + 255) (u8v (jA n))).setIfInBounds (510 + (jA n).toNat) (.int .i64 n)
def uI : Array Value := (vP 255).setIfInBounds 510 (.int .i64 (-1))
theorem yq (n : Nat) : (vP n).size = 766 := by
 induction n with
 | zero => unfold vP; rw [List.size_toArray, List.length_append, List.length_replicate, List.length_replicate]
 | succ n ih => simp only [vP, Array.size_setIfInBounds, ih]
theorem VX (n i : Nat) (hn : n <= 255) (hi : i < n) : (vP n)[i]? = some (u8v (jA i)) /\ (vP n)[i + 255]? = some (u8v (jA i)) := by
 induction n with
 | zero => omega
 | succ n ih =>
  have hs := yq n
  simp only [vP, Array.getElem?_setIfInBounds, Array.size_setIfInBounds, hs]
  constructor
  ·rw [if_neg Y95, if_neg Y95]
   by_cases h : n = i
   ·subst h; rw [if_pos rfl, if_pos Y95]
   ·rw [if_neg h]; exact (ih Y95 Y95).1
  ·rw [if_neg Y95]
   by_cases h : n = i
   ·subst h; rw [if_pos rfl, if_pos Y95]
   ·rw [if_neg Y95, if_neg Y95]; exact (ih Y95 Y95).2
theorem LY (n k : Nat) (hn : n <= 255) (hk : k < n) : (vP n)[510 + (jA k).toNat]? = some (.int .i64 k) := by
 induction n with
 | zero => omega
 | succ n ih =>
  have hs := yq n
  have hlt := (jA k).toNat_lt
  simp only [vP, Array.getElem?_setIfInBounds, Array.size_setIfInBounds, hs]
  by_cases h : n = k
  ·subst h; rw [if_pos rfl, if_pos Y95]
  ·rw [if_neg (fun e => h (VQ Y95 Y95 (UInt8.toNat_inj.1 Y95))), if_neg Y95, if_neg Y95]
   exact ih Y95 Y95
theorem qa5 (i : Nat) (hi : i < 510) : uI[i]? = some (u8v (jA i)) := by
 unfold uI
 rw [Array.getElem?_setIfInBounds, if_neg Y95]
 by_cases h : i < 255
 ·exact (VX 255 i Y95 h).1
 ·have := (VX 255 (i - 255) Y95 Y95).2
  rw [show i - 255 + 255 = i by omega] at this
  rw [this, <- LC (i - 255), show i - 255 + 255 = i by omega]
theorem VV (a : UInt8) (h : a ≠ 0) : uI[510 + a.toNat]? = some (.int .i64 (yF a)) := by
 obtain ⟨h1, h2⟩ := vN a h
 have h0 : a.toNat ≠ 0 := fun e => h (UInt8.toNat_inj.1 e)
 unfold uI
 rw [Array.getElem?_setIfInBounds, if_neg Y95]
 have := LY 255 (yF a) Y95 h2
 rwa [h1] at this
theorem YI (a : UInt8) : (dbl a).toNat = if 256 <= 2 * a.toNat then (2 * a.toNat) ^^^ 285 else 2 * a.toNat := by
 have h : ((List.range 256).all fun x => decide ((if 256 <= 2 * x then (2 * x) ^^^ 285 else 2 * x) < 256)) = true := by decide +kernel
 have := of_decide_eq_true (List.all_eq_true.1 h a.toNat (List.mem_range.2 a.toNat_lt))
 unfold dbl
 rw [UInt8.toNat_ofNat', Nat.mod_eq_of_lt this]
end Go.Bl
namespace Go.Bl
open Go.RowKit
def jY (out : List UInt8) (i : Nat) (x : UInt8) : List UInt8 := out.set i (out.getD i 0 ^^^ x)
theorem vL (out : List UInt8) (i : Nat) (x : UInt8) : (jY out i x).length = out.length := by simp [jY]
def zY (a : UInt8) : List UInt8 -> Nat -> List UInt8 -> List UInt8
 | [], _, out => out
 | b :: q, i, out => zY a q (i + 1) (jY out i (qX a b))
theorem yY (a : UInt8) : ∀ (q : List UInt8) (i : Nat) (out : List UInt8), (zY a q i out).length = out.length
 | [], _, _ => rfl
 | b :: q, i, out => by simp only [zY]; rw [yY a q, vL]
theorem Q6 (a : UInt8) : ∀ (q : List UInt8) (k i : Nat) (b : UInt8) (out : List UInt8), q[k]? = some b -> zY a (q.take (k + 1)) i out = jY (zY a (q.take k) i out) (i + k) (qX a b)
 | [], k, i, b, out, h => by simp at h
 | c :: q, 0, i, b, out, h => by simp at h; subst h; simp [zY]
 | c :: q, k + 1, i, b, out, h => by
  simp only [List.take_succ_cons, zY]
  rw [Q6 a q k (i + 1) b _ XX, show i + 1 + k = i + (k + 1) by omega]
def zo : List UInt8 -> List UInt8 -> Nat -> List UInt8 -> List UInt8
 | [], _, _, out => out
 | a :: p, q, i, out => zo p q (i + 1) (zY a q i out)
theorem xu : ∀ (p q : List UInt8) (i : Nat) (out : List UInt8), (zo p q i out).length = out.length
 | [], _, _, _ => rfl
 | a :: p, q, i, out => by simp only [zo]; rw [xu p, yY]
theorem QY : ∀ (p q : List UInt8) (k i : Nat) (a : UInt8) (out : List UInt8), p[k]? = some a -> zo (p.take (k + 1)) q i out = zY a q (i + k) (zo (p.take k) q i out)
 | [], _, k, i, b, out, h => by simp at h
 | c :: p, q, 0, i, b, out, h => by simp at h; subst h; simp [zo]
 | c :: p, q, k + 1, i, b, out, h => by
  simp only [List.take_succ_cons, zo]
  rw [QY p q k (i + 1) b _ XX, show i + 1 + k = i + (k + 1) by omega]
def Je : List UInt8 -> Nat
 | [] => 0
 | c :: p => if Je p = 0 then (if c = 0 then 0 else 1) else Je p + 1
theorem Wa : ∀ p : List UInt8, Je p <= p.length
 | [] => Nat.le_refl _
 | c :: p => by
  have := Wa p
  simp only [Je, List.length_cons]
  split
  ·split <;> omega
  ·omega
theorem y9 : ∀ (p : List UInt8) (k : Nat), (∀ i, k <= i -> i < p.length -> p[i]? = some 0) -> (k = 0 ∨ ∃ c, p[k - 1]? = some c /\ c ≠ 0) -> Je p = k
 | [], k, _, h => by
  rcases h with rfl | ⟨c, hc, _⟩
  ·rfl
  ·simp at hc
 | c :: p, k, h1, h2 => by
  simp only [Je]
  rcases h2 with rfl | ⟨d, hd, hne⟩
  ·have hc := h1 0 (Nat.le_refl _) qg
   simp at hc
   rw [y9 p 0 (fun i _ hi => by have := h1 (i + 1) Y95 jF; simpa using this) (.inl rfl), if_pos rfl, if_pos hc]
  ·cases k with
   | zero =>
    simp at hd
    subst hd
    have hc := h1 0 (Nat.le_refl _) qg
    simp at hc
    exact absurd hc hne
   | succ k =>
    rw [Nat.add_sub_cancel] at hd
    have ht : ∀ i, k <= i -> i < p.length -> p[i]? = some 0 := fun i hi hl => by have := h1 (i + 1) Y95 jF; simpa using this
    cases k with
    | zero =>
     simp at hd
     subst hd
     rw [y9 p 0 ht (.inl rfl), if_pos rfl, if_neg hne]
    | succ k =>
     rw [List.getElem?_cons_succ] at hd
     rw [y9 p (k + 1) ht (.inr ⟨d, by simpa using hd, hne⟩), if_neg Y95]
def Zh (p : List UInt8) : List UInt8 := p.take (Je p)
def W6 (p q : List UInt8) : List UInt8 := Zh (zo p q 0 (List.replicate (p.length + q.length) 0))
def uQ (rs : List UInt8) : List UInt8 := rs.foldl (fun out r => W6 out [r, 1]) [1]
theorem QP (rs : List UInt8) (k : Nat) (r : UInt8) (h : rs[k]? = some r) : uQ (rs.take (k + 1)) = W6 (uQ (rs.take k)) [r, 1] := by
 unfold uQ
 rw [List.take_add_one, h]
 simp [List.foldl_append]
def vu : List UInt8 := uQ ((List.range 32).map jA)
theorem Qn : vu.length = 33 := by decide +kernel
theorem Kk (p : List UInt8) : (Zh p).length <= p.length := by unfold Zh; rw [List.length_take]; omega
theorem qa9 (p q : List UInt8) : (W6 p q).length <= p.length + q.length := by
 have := Kk (zo p q 0 (List.replicate (p.length + q.length) 0))
 rw [xu, List.length_replicate] at this
 exact this
def uh (rest : List UInt8) (c : UInt8) : List UInt8 := (rest.tail ++ [0]).mapIdx fun k x => x ^^^ qX (c ^^^ rest.headD 0) (vu.getD (31 - k) 0)
def zl (data : List UInt8) : List UInt8 := data.foldl uh (List.replicate 32 0)
theorem Q5 (rest : List UInt8) (c : UInt8) (h : rest.length = 32) : (uh rest c).length = 32 := by simp [uh, h]
theorem ZL (data : List UInt8) (k : Nat) (c : UInt8) (h : data[k]? = some c) : zl (data.take (k + 1)) = uh (zl (data.take k)) c := by
 unfold zl
 rw [List.take_add_one, h]
 simp [List.foldl_append]
theorem zE (data : List UInt8) : (zl data).length = 32 := by
 unfold zl
 have : ∀ (l : List UInt8) (r : List UInt8), r.length = 32 -> (l.foldl uh r).length = 32 := by
  intro l
  induction l with
  | nil => intro r h; exact h
  | cons c l ih => intro r h; exact ih _ (Q5 r c h)
 exact this data _ qg
end Go.Bl
