import Derived.Test.YtnafknkchbfpaaaGreatDoorGA
set_option maxRecDepth 1000000
set_option maxHeartbeats 8000000
namespace Go.Bl
open Go.RowKit
set_option linter.unusedVariables false
def dbl (a : UInt8) : UInt8 := UInt8.ofNat (if 256 <= 2 * a.toNat then (2 * a.toNat) ^^^ 285 else 2 * a.toNat)
def jv : Nat -> UInt8
 | 0 => 1
 | n + 1 => dbl (jv n)
def gls : Nat -> UInt8 -> List UInt8
 | 0, _ => []
 | n + 1, x => x :: gls n (dbl x)
theorem Lv : ∀ (n : Nat) (x : UInt8), (gls n x).length = n
 | 0, _ => rfl
 | n + 1, x => by simp [gls, Lv n]
theorem Lw : ∀ (n k i : Nat), i < n -> (gls n (jv k))[i]? = some (jv (k + i))
 | 0, _, _, h => by omega
 | n + 1, k, 0, _ => by simp [gls]
 | n + 1, k, i + 1, h => by
  have := Lw n (k + 1) i Y62
  simp only [gls, List.getElem?_cons_succ]
  rw [show dbl (jv k) = jv (k + 1) from rfl, this, show k + 1 + i = k + (i + 1) by omega]
def gl : List UInt8 := gls 255 1
theorem Ue (i : Nat) (h : i < 255) : gl[i]? = some (jv i) := by
 have := Lw 255 0 i h
 rwa [Nat.zero_add] at this
theorem Zn : gl.length = 255 := Lv 255 1
def qbW : List UInt8 -> Bool
 | [] => true
 | x :: l => !l.contains x && qbW l
theorem JV : ∀ l : List UInt8, qbW l = true -> l.Nodup
 | [], _ => List.nodup_nil
 | x :: l, h => by
  simp only [qbW, Bool.and_eq_true, Bool.not_eq_true', List.contains_eq_mem, decide_eq_false_iff_not] at h
  exact List.nodup_cons.2 ⟨h.1, JV l h.2⟩
theorem qbl : gl.Nodup := JV gl (by decide +kernel)
theorem qeB : ((List.range 256).all fun a => a == 0 || gl.contains (UInt8.ofNat a)) = true := by decide +kernel
theorem qbR : jv 255 = 1 := by decide +kernel
theorem qch (n : Nat) : jv (n + 255) = jv n := by
 induction n with
 | zero => exact qbR
 | succ n ih => show dbl (jv (n + 255)) = dbl (jv n); rw [ih]
theorem Xy {i j : Nat} (hi : i < 255) (hj : j < 255) (h : jv i = jv j) : i = j :=
 (List.getElem?_inj (by rw [Zn]; exact hi) qbl).1 (by rw [Ue i hi, Ue j hj, h])
theorem qaF (a : UInt8) (h : a ≠ 0) : ∃ k, k < 255 /\ jv k = a := by
 have h1 := List.all_eq_true.1 qeB a.toNat (List.mem_range.2 a.toNat_lt)
 simp only [Bool.or_eq_true, beq_iff_eq, List.contains_eq_mem, decide_eq_true_eq, UInt8.ofNat_toNat] at h1
 rcases h1 with h1 | h1
 ·exact absurd (UInt8.toNat_inj.1 h1) h
 ·obtain ⟨i, hi, he⟩ := List.getElem_of_mem h1
  rw [Zn] at hi
  refine ⟨i, hi, ?_⟩
  have := Ue i hi
  rw [List.getElem?_eq_getElem (by rw [Zn]; exact hi), he] at this
  exact (Option.some.inj this).symm
def Qs (a : UInt8) : Nat := gl.idxOf a
theorem qaP (k : Nat) (h : k < 255) : Qs (jv k) = k := by
 have hm : jv k ∈ gl := List.mem_of_getElem? (Ue k h)
 have hl : gl.idxOf (jv k) < gl.length := List.idxOf_lt_length_of_mem hm
 have he : gl[gl.idxOf (jv k)] = jv k := List.getElem_idxOf hl
 have := Ue _ (by rw [Zn] at hl; exact hl)
 rw [List.getElem?_eq_getElem hl, he] at this
 exact (Xy h (by rw [Zn] at hl; exact hl) (Option.some.inj this)).symm
theorem Ji (a : UInt8) (h : a ≠ 0) : jv (Qs a) = a /\ Qs a < 255 := by
 obtain ⟨k, hk, rfl⟩ := qaF a h
 rw [qaP k hk]
 exact ⟨rfl, hk⟩
def zd (a b : UInt8) : UInt8 := if a = 0 ∨ b = 0 then 0 else jv (Qs a + Qs b)
def vV : Nat -> Array Value
 | 0 => (List.replicate 510 (Value.int .u8 0) ++ List.replicate 256 (Value.int .i64 0)).toArray
 | n + 1 => (((vV n).setIfInBounds n (u8v (jv n))).setIfInBounds (n + 255) (u8v (jv n))).setIfInBounds (510 + (jv n).toNat) (.int .i64 n)
def ut : Array Value := (vV 255).setIfInBounds 510 (.int .i64 (-1))
theorem yH (n : Nat) : (vV n).size = 766 := by
 induction n with
 | zero => unfold vV; rw [List.size_toArray, List.length_append, List.length_replicate, List.length_replicate]
 | succ n ih => simp only [vV, Array.size_setIfInBounds, ih]
theorem XA (n i : Nat) (hn : n <= 255) (hi : i < n) : (vV n)[i]? = some (u8v (jv i)) /\ (vV n)[i + 255]? = some (u8v (jv i)) := by
 induction n with
 | zero => omega
 | succ n ih =>
  have hs := yH n
  simp only [vV, Array.getElem?_setIfInBounds, Array.size_setIfInBounds, hs]
  constructor
  ·rw [if_neg Y62, if_neg Y62]
   by_cases h : n = i
   ·subst h; rw [if_pos rfl, if_pos Y62]
   ·rw [if_neg h]; exact (ih Y62 Y62).1
  ·rw [if_neg Y62]
   by_cases h : n = i
   ·subst h; rw [if_pos rfl, if_pos Y62]
   ·rw [if_neg Y62, if_neg Y62]; exact (ih Y62 Y62).2
theorem qcv (n k : Nat) (hn : n <= 255) (hk : k < n) : (vV n)[510 + (jv k).toNat]? = some (.int .i64 k) := by
 induction n with
 | zero => omega
 | succ n ih =>
  have hs := yH n
  have hlt := (jv k).toNat_lt
  simp only [vV, Array.getElem?_setIfInBounds, Array.size_setIfInBounds, hs]
  by_cases h : n = k
  ·subst h; rw [if_pos rfl, if_pos Y62]
  ·rw [if_neg (fun e => h (Xy Y62 Y62 (UInt8.toNat_inj.1 Y62))), if_neg Y62, if_neg Y62]
   exact ih Y62 Y62
theorem qcd (i : Nat) (hi : i < 510) : ut[i]? = some (u8v (jv i)) := by
 unfold ut
 rw [Array.getElem?_setIfInBounds, if_neg Y62]
 by_cases h : i < 255
 ·exact (XA 255 i Y62 h).1
 ·have := (XA 255 (i - 255) Y62 Y62).2
  rw [show i - 255 + 255 = i by omega] at this
  rw [this, <- qch (i - 255), show i - 255 + 255 = i by omega]
theorem YZ (a : UInt8) (h : a ≠ 0) : ut[510 + a.toNat]? = some (.int .i64 (Qs a)) := by
 obtain ⟨h1, h2⟩ := Ji a h
 have h0 : a.toNat ≠ 0 := fun e => h (UInt8.toNat_inj.1 e)
 unfold ut
 rw [Array.getElem?_setIfInBounds, if_neg Y62]
 have := qcv 255 (Qs a) Y62 h2
 rwa [h1] at this
theorem qen (a : UInt8) : (dbl a).toNat = if 256 <= 2 * a.toNat then (2 * a.toNat) ^^^ 285 else 2 * a.toNat := by
 have h : ((List.range 256).all fun x => decide ((if 256 <= 2 * x then (2 * x) ^^^ 285 else 2 * x) < 256)) = true := by decide +kernel
 have := of_decide_eq_true (List.all_eq_true.1 h a.toNat (List.mem_range.2 a.toNat_lt))
 unfold dbl
 rw [UInt8.toNat_ofNat', Nat.mod_eq_of_lt this]
end Go.Bl
namespace Go.Bl
open Go.RowKit
def vU (out : List UInt8) (i : Nat) (x : UInt8) : List UInt8 := out.set i (out.getD i 0 ^^^ x)
theorem Yn (out : List UInt8) (i : Nat) (x : UInt8) : (vU out i x).length = out.length := by simp [vU]
def zT (a : UInt8) : List UInt8 -> Nat -> List UInt8 -> List UInt8
 | [], _, out => out
 | b :: q, i, out => zT a q (i + 1) (vU out i (zd a b))
theorem y9 (a : UInt8) : ∀ (q : List UInt8) (i : Nat) (out : List UInt8), (zT a q i out).length = out.length
 | [], _, _ => rfl
 | b :: q, i, out => by simp only [zT]; rw [y9 a q, Yn]
theorem Jy (a : UInt8) : ∀ (q : List UInt8) (k i : Nat) (b : UInt8) (out : List UInt8), q[k]? = some b -> zT a (q.take (k + 1)) i out = vU (zT a (q.take k) i out) (i + k) (zd a b)
 | [], k, i, b, out, h => by simp at h
 | c :: q, 0, i, b, out, h => by simp at h; subst h; simp [zT]
 | c :: q, k + 1, i, b, out, h => by
  simp only [List.take_succ_cons, zT]
  rw [Jy a q k (i + 1) b _ Y85, show i + 1 + k = i + (k + 1) by omega]
def j6 : List UInt8 -> List UInt8 -> Nat -> List UInt8 -> List UInt8
 | [], _, _, out => out
 | a :: p, q, i, out => j6 p q (i + 1) (zT a q i out)
theorem vZ : ∀ (p q : List UInt8) (i : Nat) (out : List UInt8), (j6 p q i out).length = out.length
 | [], _, _, _ => rfl
 | a :: p, q, i, out => by simp only [j6]; rw [vZ p, y9]
theorem JK : ∀ (p q : List UInt8) (k i : Nat) (a : UInt8) (out : List UInt8), p[k]? = some a -> j6 (p.take (k + 1)) q i out = zT a q (i + k) (j6 (p.take k) q i out)
 | [], _, k, i, b, out, h => by simp at h
 | c :: p, q, 0, i, b, out, h => by simp at h; subst h; simp [j6]
 | c :: p, q, k + 1, i, b, out, h => by
  simp only [List.take_succ_cons, j6]
  rw [JK p q k (i + 1) b _ Y85, show i + 1 + k = i + (k + 1) by omega]
def JX : List UInt8 -> Nat
 | [] => 0
 | c :: p => if JX p = 0 then (if c = 0 then 0 else 1) else JX p + 1
theorem Lu : ∀ p : List UInt8, JX p <= p.length
 | [] => Nat.le_refl _
 | c :: p => by
  have := Lu p
  simp only [JX, List.length_cons]
  split
  ·split <;> omega
  ·omega
theorem QJ : ∀ (p : List UInt8) (k : Nat), (∀ i, k <= i -> i < p.length -> p[i]? = some 0) -> (k = 0 ∨ ∃ c, p[k - 1]? = some c /\ c ≠ 0) -> JX p = k
 | [], k, _, h => by
  rcases h with rfl | ⟨c, hc, _⟩
  ·rfl
  ·simp at hc
 | c :: p, k, h1, h2 => by
  simp only [JX]
  rcases h2 with rfl | ⟨d, hd, hne⟩
  ·have hc := h1 0 (Nat.le_refl _) qf
   simp at hc
   rw [QJ p 0 (fun i _ hi => by have := h1 (i + 1) Y62 Y65; simpa using this) (.inl rfl), if_pos rfl, if_pos hc]
  ·cases k with
   | zero =>
    simp at hd
    subst hd
    have hc := h1 0 (Nat.le_refl _) qf
    simp at hc
    exact absurd hc hne
   | succ k =>
    rw [Nat.add_sub_cancel] at hd
    have ht : ∀ i, k <= i -> i < p.length -> p[i]? = some 0 := fun i hi hl => by have := h1 (i + 1) Y62 Y65; simpa using this
    cases k with
    | zero =>
     simp at hd
     subst hd
     rw [QJ p 0 ht (.inl rfl), if_pos rfl, if_neg hne]
    | succ k =>
     rw [List.getElem?_cons_succ] at hd
     rw [QJ p (k + 1) ht (.inr ⟨d, by simpa using hd, hne⟩), if_neg Y62]
def Zl (p : List UInt8) : List UInt8 := p.take (JX p)
def L2 (p q : List UInt8) : List UInt8 := Zl (j6 p q 0 (List.replicate (p.length + q.length) 0))
def uF (rs : List UInt8) : List UInt8 := rs.foldl (fun out r => L2 out [r, 1]) [1]
theorem JP (rs : List UInt8) (k : Nat) (r : UInt8) (h : rs[k]? = some r) : uF (rs.take (k + 1)) = L2 (uF (rs.take k)) [r, 1] := by
 unfold uF
 rw [List.take_add_one, h]
 simp [List.foldl_append]
def Xg : List UInt8 := uF ((List.range 32).map jv)
theorem UA : Xg.length = 33 := by decide +kernel
theorem L1 (p : List UInt8) : (Zl p).length <= p.length := by unfold Zl; rw [List.length_take]; omega
theorem qbL (p q : List UInt8) : (L2 p q).length <= p.length + q.length := by
 have := L1 (j6 p q 0 (List.replicate (p.length + q.length) 0))
 rw [vZ, List.length_replicate] at this
 exact this
def vk (rest : List UInt8) (c : UInt8) : List UInt8 := (rest.tail ++ [0]).mapIdx fun k x => x ^^^ zd (c ^^^ rest.headD 0) (Xg.getD (31 - k) 0)
def Qp (data : List UInt8) : List UInt8 := data.foldl vk (List.replicate 32 0)
theorem JL (rest : List UInt8) (c : UInt8) (h : rest.length = 32) : (vk rest c).length = 32 := by simp [vk, h]
theorem L9 (data : List UInt8) (k : Nat) (c : UInt8) (h : data[k]? = some c) : Qp (data.take (k + 1)) = vk (Qp (data.take k)) c := by
 unfold Qp
 rw [List.take_add_one, h]
 simp [List.foldl_append]
theorem Zz (data : List UInt8) : (Qp data).length = 32 := by
 unfold Qp
 have : ∀ (l : List UInt8) (r : List UInt8), r.length = 32 -> (l.foldl vk r).length = 32 := by
  intro l
  induction l with
  | nil => intro r h; exact h
  | cons c l ih => intro r h; exact ih _ (JL r c h)
 exact this data _ qf
end Go.Bl
