import Derived.Test.YtnafknkchbfpaaaGreatDoorGK
namespace Go.Bl
set_option linter.unusedVariables false
def xW (l : List UInt8) : Nat := l.foldl (fun n c => n * 256 + c.toNat) 0
theorem U3 (l : List UInt8) (c : UInt8) : xW (l ++ [c]) = xW l * 256 + c.toNat := by simp [xW]
theorem VZ : ∀ (n : Nat) (l : List UInt8), l.length = n -> xW l < 256 ^ n
 | 0, l, h => by
  have : l = [] := List.eq_nil_of_length_eq_zero h
  subst this; simp [xW]
 | n + 1, l, h => by
  have hne : l ≠ [] := fun e => by subst e; simp at h
  rw [<- List.dropLast_concat_getLast hne, U3]
  have := VZ n l.dropLast (by simp [h])
  have hc := (l.getLast hne).toNat_lt
  rw [Nat.pow_succ]
  omega
theorem Zp (l : List UInt8) (j : Nat) (h : j < l.length) : xW (l.take (j + 1)) = xW (l.take j) * 256 + l[j].toNat := by
 rw [List.take_succ_eq_append_getElem h, U3]
theorem J0 (a b : Nat) (ha : a < 18446744073709551616) (hb : b < 18446744073709551616) :
  bits .or .u64 (a : Int) (b : Int) = ((a ||| b : Nat) : Int) := by
 have hx : a ||| b < 2 ^ 64 := Nat.or_lt_two_pow Y62 Y62
 have h1 : (BitVec.ofInt 64 (a : Int)).toNat = a := by
  exact Y55
 have h2 : (BitVec.ofInt 64 (b : Int)).toNat = b := by
  exact Y55
 show IntKind.u64.wrap ((BitVec.ofInt 64 (a : Int) ||| BitVec.ofInt 64 (b : Int)).toNat : Int) = _
 rw [BitVec.toNat_or, h1, h2, IntKind.wrap_u64]
 omega
theorem qey (x c : Nat) (hc : c < 256) : x * 256 ||| c = x * 256 + c := by
 have := Nat.two_pow_add_eq_or_of_lt (i := 8) (b := c) (by simpa using hc) x
 rw [Nat.mul_comm x 256]
 simpa using this.symm
theorem qfh (x c : Nat) (hx : x < 72057594037927936) (hc : c < 256) :
  bits .or .u64 (IntKind.u64.wrap ((x : Int) * 256)) (c : Int) = ((x * 256 + c : Nat) : Int) := by
 have e : IntKind.u64.wrap ((x : Int) * 256) = ((x * 256 : Nat) : Int) := by rw [IntKind.wrap_u64]; omega
 rw [e, J0 _ _ Y62 Y62, qey x c hc]
theorem qcr (l : List UInt8) (j : Nat) (hj : j < l.length) (h8 : j < 8) :
  bits .or .u64 (IntKind.u64.wrap ((xW (l.take j) : Nat) * 256)) (IntKind.u64.wrap ((l[j]?.getD 0).toNat : Int)) = ((xW (l.take (j + 1)) : Nat) : Int) := by
 have h1 := VZ j (l.take j) Y65
 have h2 : 256 ^ j <= 256 ^ 7 := Nat.pow_le_pow_right qd Y62
 have h3 : (256 : Nat) ^ 7 = 72057594037927936 := by decide
 have hb := (l[j]).toNat_lt
 have e : l[j]?.getD 0 = l[j] := by simp [hj]
 have e2 : IntKind.u64.wrap ((l[j]).toNat : Int) = ((l[j]).toNat : Int) := by rw [IntKind.wrap_u64]; omega
 rw [e, e2, qfh _ _ Y62 Y62, Zp l j hj]
end Go.Bl
namespace Go.Bl
open Go.RowKit
def qbg (key : List UInt8) : List UInt8 := if 64 < key.length then jf key else key
theorem qcb (key : List UInt8) : (qbg key).length <= 64 := by
 unfold qbg
 split
 ·rw [jY]; decide
 ·omega
def Yf (key : List UInt8) : List UInt8 := qbg key ++ List.replicate (64 - (qbg key).length) 0
theorem YK (key : List UInt8) : (Yf key).length = 64 := by
 have := qcb key
 rw [Yf, List.length_append, List.length_replicate]
 omega
def xy (key : List UInt8) : List UInt8 := (Yf key).map (· ^^^ 54)
def xi (key : List UInt8) : List UInt8 := (Yf key).map (· ^^^ 92)
theorem Ye (key : List UInt8) : (xy key).length = 64 := by rw [xy, List.length_map, YK]
theorem YO (key : List UInt8) : (xi key).length = 64 := by rw [xi, List.length_map, YK]
def zH (key m : List UInt8) : List UInt8 := jf (xi key ++ jf (xy key ++ m))
def vY (key m : List UInt8) : List UInt8 := (zH key m).take 8
theorem YV (key m : List UInt8) : (vY key m).length = 8 := rfl
end Go.Bl
namespace Go.Bl
open Go.RowKit
abbrev Dg := List UInt8
def qS (b : List UInt8) : Dg := jf (0 :: b)
def jE (a b : Dg) : Dg := jf (1 :: (a ++ b))
theorem vK (b : List UInt8) : (qS b).length = 32 := rfl
def qQ : List Dg -> List Dg
 | a :: b :: r => jE a b :: qQ r
 | r => r
theorem j4 : ∀ l : List Dg, (qQ l).length = (l.length + 1) / 2
 | [] => rfl
 | [a] => by simp [qQ]
 | a :: b :: r => by
  simp only [qQ, List.length_cons, j4 r]
  omega
theorem zW : ∀ (a b : List Dg), a.length % 2 = 0 -> qQ (a ++ b) = qQ a ++ qQ b
 | [], b, _ => rfl
 | [x], b, h => by simp at h
 | x :: y :: r, b, h => by
  simp only [List.length_cons] at h
  simp only [List.cons_append, qQ, zW r b Y62]
def xE : Nat -> List Dg -> Dg
 | 0, l => l.headD (jf [])
 | n + 1, l => if l.length <= 1 then l.headD (jf []) else xE n (qQ l)
theorem Z9 : ∀ (n : Nat) (l : List Dg), l.length <= n + 1 -> xE (n + 1) l = xE n l
 | 0, l, h => by simp only [xE]; rw [if_pos Y62]
 | n + 1, l, h => by
  rw [xE]
  conv => rhs; rw [xE]
  split
  ·rfl
  ·rw [Z9 n _ (by rw [j4]; omega)]
theorem QT (l : List Dg) : ∀ (k : Nat), xE (l.length + k) l = xE l.length l
 | 0 => rfl
 | k + 1 => by rw [show l.length + (k + 1) = (l.length + k) + 1 by omega, Z9 _ _ Y62, QT l k]
def jx (l : List Dg) : Dg := xE l.length l
theorem vd {l : List Dg} (h : 2 <= l.length) : jx l = jx (qQ l) := by
 obtain ⟨n, hn⟩ : ∃ n, l.length = n + 1 := ⟨l.length - 1, by omega⟩
 unfold jx
 rw [hn, xE, if_neg Y62]
 have := QT (qQ l) (n - (qQ l).length)
 rw [<- this, show (qQ l).length + (n - (qQ l).length) = n by rw [j4]; omega]
def qi (n : Nat) : Nat := if h : n <= 2 then 1 else 2 * qi ((n + 1) / 2)
termination_by n
decreasing_by omega
theorem Qh {n : Nat} (h : n <= 2) : qi n = 1 := by rw [qi, dif_pos h]
theorem Jj {n : Nat} (h : 2 < n) : qi n = 2 * qi ((n + 1) / 2) := by rw [qi, dif_neg Y62]
theorem qO : ∀ (n : Nat), 2 <= n -> qi n < n /\ n <= 2 * qi n /\ 1 <= qi n
 | n, h => by
  by_cases h2 : n <= 2
  ·obtain rfl : n = 2 := by omega
   rw [Qh Y62]
   omega
  ·have := qO ((n + 1) / 2) Y62
   rw [Jj Y62]
   omega
termination_by n => n
decreasing_by omega
theorem Ur : ∀ (n : Nat), 2 <= n -> ∃ k, qi n = 2 ^ k
 | n, h => by
  by_cases h2 : n <= 2
  ·exact ⟨0, by rw [Qh h2, Nat.pow_zero]⟩
  ·obtain ⟨k, hk⟩ := Ur ((n + 1) / 2) Y62
   exact ⟨k + 1, by rw [Jj Y62, hk, Nat.pow_succ]; omega⟩
termination_by n => n
decreasing_by omega
theorem xS : ∀ (n : Nat) (l : List Dg), l.length = n -> 2 <= n -> jx l = jE (jx (l.take (qi n))) (jx (l.drop (qi n)))
 | n, l, hl, h => by
  by_cases h2 : n <= 2
  ·obtain rfl : n = 2 := by omega
   rw [Qh Y62]
   match l, hl with
   | [a, b], _ => rfl
  ·obtain ⟨k, hk⟩ := exq (qi ((n + 1) / 2))
   have hb := qO ((n + 1) / 2) Y62
   rw [hk] at hb
   have hk2 : qi n = 2 * k := by rw [Jj Y62, hk]
   have hll : (qQ l).length = (n + 1) / 2 := by rw [j4, hl]
   have ih := xS ((n + 1) / 2) (qQ l) hll Y62
   rw [vd Y62, ih, hk, hk2]
   have hlen : (l.take (2 * k)).length = 2 * k := by rw [List.length_take]; omega
   have e1 : qQ l = qQ (l.take (2 * k)) ++ qQ (l.drop (2 * k)) := by
    rw [<- zW _ _ (by rw [hlen]; omega), List.take_append_drop]
   have e2 : (qQ (l.take (2 * k))).length = k := by rw [j4, hlen]; omega
   have e3 : (qQ l).take k = qQ (l.take (2 * k)) := by rw [e1, List.take_append_of_le_length Y62, List.take_of_length_le Y62]
   have e4 : (qQ l).drop k = qQ (l.drop (2 * k)) := by rw [e1, List.drop_append_of_le_length Y62, List.drop_of_length_le Y62, List.nil_append]
   rw [e3, e4]
   congr 1
   ·rw [<- vd Y62]
   ·by_cases h1 : 2 <= (l.drop (2 * k)).length
    ·rw [<- vd h1]
    ·rw [List.length_drop] at h1
     have : (l.drop (2 * k)).length = 1 := by rw [List.length_drop]; omega
     match l.drop (2 * k), this with
     | [a], _ => rfl
termination_by n => n
decreasing_by omega
def jy (n i : Nat) : List (Bool × Nat × Nat) :=
 if h : n <= 1 then [] else
  if i < qi n then (true, qi n, i) :: jy (qi n) i else (false, n - qi n, i - qi n) :: jy (n - qi n) (i - qi n)
termination_by n
decreasing_by
 ·have := qO n Y62; omega
 ·have := qO n Y62; omega
theorem uO {n i : Nat} (h : n <= 1) : jy n i = [] := by rw [jy, dif_pos h]
theorem zB {n i : Nat} (h : 2 <= n) (hi : i < qi n) : jy n i = (true, qi n, i) :: jy (qi n) i := by rw [jy, dif_neg Y62, if_pos hi]
theorem zj {n i : Nat} (h : 2 <= n) (hi : ¬ i < qi n) : jy n i = (false, n - qi n, i - qi n) :: jy (n - qi n) (i - qi n) := by rw [jy, dif_neg Y62, if_neg hi]
def yV (n i : Nat) : Nat := (jy n i).length
def zD (l : List Dg) (i : Nat) : List Dg :=
 if h : l.length <= 1 then [] else
  if i < qi l.length then zD (l.take (qi l.length)) i ++ [jx (l.drop (qi l.length))]
  else zD (l.drop (qi l.length)) (i - qi l.length) ++ [jx (l.take (qi l.length))]
termination_by l.length
decreasing_by
 ·have := qO l.length Y62; rw [List.length_take]; omega
 ·have := qO l.length Y62; rw [List.length_drop]; omega
theorem yB {l : List Dg} {i : Nat} (h : l.length <= 1) : zD l i = [] := by rw [zD, dif_pos h]
theorem xw {l : List Dg} {i : Nat} (h : 2 <= l.length) (hi : i < qi l.length) : zD l i = zD (l.take (qi l.length)) i ++ [jx (l.drop (qi l.length))] := by rw [zD, dif_neg Y62, if_pos hi]
theorem vh {l : List Dg} {i : Nat} (h : 2 <= l.length) (hi : ¬ i < qi l.length) : zD l i = zD (l.drop (qi l.length)) (i - qi l.length) ++ [jx (l.take (qi l.length))] := by rw [zD, dif_neg Y62, if_neg hi]
def uk : List (Bool × Nat × Nat) -> Dg -> List Dg -> Dg
 | [], d, _ => d
 | _ :: _, d, [] => d
 | t :: r, d, p :: q => uk r (if t.1 then jE d p else jE p d) q
theorem vq : ∀ (ts : List (Bool × Nat × Nat)) (t : Bool × Nat × Nat) (d p : Dg) (q : List Dg), ts.length = q.length -> uk (ts ++ [t]) d (q ++ [p]) = if t.1 then jE (uk ts d q) p else jE p (uk ts d q)
 | [], t, d, p, [], _ => rfl
 | x :: r, t, d, p, y :: q, h => by
  simp only [List.cons_append, uk]
  exact vq r t _ p q Y85
 | [], _, _, _, _ :: _, h => by simp at h
 | _ :: _, _, _, _, [], h => by simp at h
def JE (n i : Nat) (d : Dg) (p : List Dg) : Dg := uk (jy n i).reverse d p
theorem vR : ∀ (n : Nat) (l : List Dg) (i : Nat), l.length = n -> (zD l i).length = yV n i
 | n, l, i, hl => by
  by_cases h : n <= 1
  ·rw [yB Y62, yV, uO h]; rfl
  ·have hb := qO n Y62
   by_cases hi : i < qi n
   ·rw [xw Y62 qa6, yV, zB Y62 hi, List.length_append, List.length_cons, hl, vR (qi n) _ i Y78]
    rfl
   ·rw [vh Y62 qa6, yV, zj Y62 hi, List.length_append, List.length_cons, hl, vR (n - qi n) _ _ Y89]
    rfl
termination_by n => n
decreasing_by
 ·omega
 ·omega
theorem Qt : ∀ (n : Nat) (l : List Dg) (i : Nat) (d : Dg), l.length = n -> l[i]? = some d -> JE n i d (zD l i) = jx l
 | n, l, i, d, hl, hd => by
  have hin : i < n := by rw [<- hl]; exact (List.getElem?_eq_some_iff.1 hd).1
  by_cases h : n <= 1
  ·rw [yB Y62, JE, uO h]
   match l, hl with
   | [a], h1 =>
    obtain rfl : i = 0 := by simp only [List.length_cons, List.length_nil] at h1; omega
    simp at hd
    rw [hd]
    rfl
   | [], hl => simp at hd
   | a :: b :: r, hl => simp at hl; omega
  ·have hb := qO n Y62
   by_cases hi : i < qi n
   ·have hlt : (l.take (qi n)).length = qi n := by rw [List.length_take]; omega
    rw [xw Y62 qa6, JE, zB Y62 hi, List.reverse_cons, hl, vq _ _ _ _ _ (by rw [List.length_reverse, vR _ _ _ hlt]; rfl), xS n l hl Y62]
    simp only [if_true]
    congr 1
    exact Qt (qi n) (l.take (qi n)) i d hlt (by rw [List.getElem?_take, if_pos hi]; exact hd)
   ·have hlt : (l.drop (qi n)).length = n - qi n := by rw [List.length_drop]; omega
    rw [vh Y62 qa6, JE, zj Y62 hi, List.reverse_cons, hl, vq _ _ _ _ _ (by rw [List.length_reverse, vR _ _ _ hlt]; rfl), xS n l hl Y62]
    simp only [Bool.false_eq_true, if_false]
    congr 1
    exact Qt (n - qi n) (l.drop (qi n)) (i - qi n) d hlt (by rw [List.getElem?_drop, show qi n + (i - qi n) = i by omega]; exact hd)
termination_by n => n
decreasing_by
 ·omega
 ·omega
end Go.Bl
namespace Go.Proofs.YtnafknkchbfpaaaGreatDoor
open Go.RowKit Go.Bl
set_option linter.unusedVariables false
def b8 (n : Int) : UInt8 := UInt8.ofNat (n % 256).toNat
theorem Ll (n : Int) : (IntKind.u8.wrap n) = ((b8 n).toNat : Int) := by
 have h : (b8 n).toNat = (n % 256).toNat := by
  unfold b8
  rw [UInt8.toNat_ofNat']
  omega
 rw [h]
 have : IntKind.u8.wrap n = n % 256 := by
  simp [IntKind.wrap, IntKind.signed, IntKind.bits]
 rw [this]
 omega
theorem qeV (n : Int) : ((b8 n).toNat : Int) = n % 256 := by
 rw [<- Ll]
 simp [IntKind.wrap, IntKind.signed, IntKind.bits]
def beK (k : Nat) (n : Int) : List UInt8 := (List.range k).map fun m => b8 (n / (256 ^ (k - 1 - m) : Nat))
theorem yq (k : Nat) (n : Int) : (beK k n).length = k := by simp [beK]
end Go.Proofs.YtnafknkchbfpaaaGreatDoor
namespace Go.Bl
open Go.RowKit
def uy (fn : Nat -> Nat -> Nat) : Nat -> Nat × Nat -> Nat × Nat
 | 0, p => p
 | k + 1, p => ((uy fn k p).2, (uy fn k p).1 ^^^ fn k (uy fn k p).2)
def Jd (fn : Nat -> Nat -> Nat) : Nat -> Nat × Nat -> Nat × Nat
 | 0, p => p
 | k + 1, p => Jd fn k (p.2 ^^^ fn k p.1, p.1)
theorem JH (a b : Nat) : a ^^^ b ^^^ b = a := by rw [Nat.xor_assoc, Nat.xor_self, Nat.xor_zero]
theorem qcG (fn : Nat -> Nat -> Nat) : ∀ (k : Nat) (p : Nat × Nat), Jd fn k (uy fn k p) = p
 | 0, p => rfl
 | k + 1, p => by
  simp only [uy, Jd, JH]
  exact qcG fn k p
theorem qc9 (fn : Nat -> Nat -> Nat) : ∀ (k : Nat) (p : Nat × Nat), uy fn k (Jd fn k p) = p
 | 0, p => rfl
 | k + 1, p => by
  simp only [uy, Jd]
  rw [qc9 fn k]
  simp only [JH]
theorem QR {fn : Nat -> Nat -> Nat} {w : Nat} (hf : ∀ k r, fn k r < 2 ^ w) : ∀ (k : Nat) (p : Nat × Nat), p.1 < 2 ^ w -> p.2 < 2 ^ w -> (uy fn k p).1 < 2 ^ w /\ (uy fn k p).2 < 2 ^ w
 | 0, p, h1, h2 => ⟨h1, h2⟩
 | k + 1, p, h1, h2 => by
  obtain ⟨a, b⟩ := QR hf k p h1 h2
  exact ⟨b, Nat.xor_lt_two_pow a (hf _ _)⟩
theorem VT {fn : Nat -> Nat -> Nat} {w : Nat} (hf : ∀ k r, fn k r < 2 ^ w) : ∀ (k : Nat) (p : Nat × Nat), p.1 < 2 ^ w -> p.2 < 2 ^ w -> (Jd fn k p).1 < 2 ^ w /\ (Jd fn k p).2 < 2 ^ w
 | 0, p, h1, h2 => ⟨h1, h2⟩
 | k + 1, p, h1, h2 => VT hf k _ (Nat.xor_lt_two_pow h2 (hf _ _)) h1
def jT (w : Nat) (fn : Nat -> Nat -> Nat) (x : Nat) : Nat := (uy fn 4 (x / 2 ^ w, x % 2 ^ w)).1 * 2 ^ w + (uy fn 4 (x / 2 ^ w, x % 2 ^ w)).2
def vx (w : Nat) (fn : Nat -> Nat -> Nat) (x : Nat) : Nat := (Jd fn 4 (x / 2 ^ w, x % 2 ^ w)).1 * 2 ^ w + (Jd fn 4 (x / 2 ^ w, x % 2 ^ w)).2
theorem vA {w x : Nat} (h : x < 4 ^ w) : x / 2 ^ w < 2 ^ w /\ x % 2 ^ w < 2 ^ w := by
 have e : (4 : Nat) ^ w = 2 ^ w * 2 ^ w := by rw [show (4 : Nat) = 2 * 2 from rfl, Nat.mul_pow]
 refine ⟨Nat.div_lt_of_lt_mul (by rwa [<- e]), Nat.mod_lt _ (Nat.two_pow_pos w)⟩
theorem Lj {w a b : Nat} (ha : a < 2 ^ w) (hb : b < 2 ^ w) : a * 2 ^ w + b < 4 ^ w := by
 have e : (4 : Nat) ^ w = 2 ^ w * 2 ^ w := by rw [show (4 : Nat) = 2 * 2 from rfl, Nat.mul_pow]
 rw [e]
 calc a * 2 ^ w + b < a * 2 ^ w + 2 ^ w := by omega
  _ = (a + 1) * 2 ^ w := by rw [Nat.add_mul, Nat.one_mul]
  _ <= 2 ^ w * 2 ^ w := Nat.mul_le_mul_right _ ha
theorem X8 {w a b : Nat} (hb : b < 2 ^ w) : (a * 2 ^ w + b) / 2 ^ w = a /\ (a * 2 ^ w + b) % 2 ^ w = b := by
 have hp := Nat.two_pow_pos w
 rw [Nat.mul_comm a, Nat.mul_add_div hp, Nat.mul_add_mod, Nat.div_eq_of_lt hb, Nat.mod_eq_of_lt hb]
 exact ⟨rfl, rfl⟩
theorem Vc (w x : Nat) : x / 2 ^ w * 2 ^ w + x % 2 ^ w = x := by rw [Nat.mul_comm]; exact Nat.div_add_mod x (2 ^ w)
section
variable {w : Nat} {fn : Nat -> Nat -> Nat} (hf : ∀ k r, fn k r < 2 ^ w)
include hf
theorem Zc {x : Nat} (h : x < 4 ^ w) : jT w fn x < 4 ^ w := by
 obtain ⟨h1, h2⟩ := vA h
 obtain ⟨a, b⟩ := QR hf 4 (x / 2 ^ w, x % 2 ^ w) h1 h2
 exact Lj a b
theorem Xu {x : Nat} (h : x < 4 ^ w) : vx w fn x < 4 ^ w := by
 obtain ⟨h1, h2⟩ := vA h
 obtain ⟨a, b⟩ := VT hf 4 (x / 2 ^ w, x % 2 ^ w) h1 h2
 exact Lj a b
theorem JO {x : Nat} (h : x < 4 ^ w) : vx w fn (jT w fn x) = x := by
 obtain ⟨h1, h2⟩ := vA h
 obtain ⟨a, b⟩ := QR hf 4 (x / 2 ^ w, x % 2 ^ w) h1 h2
 obtain ⟨j1, j2⟩ := X8 (a := (uy fn 4 (x / 2 ^ w, x % 2 ^ w)).1) b
 unfold vx jT
 rw [j1, j2, show ((uy fn 4 (x / 2 ^ w, x % 2 ^ w)).1, (uy fn 4 (x / 2 ^ w, x % 2 ^ w)).2) = uy fn 4 (x / 2 ^ w, x % 2 ^ w) from rfl, qcG]
 exact Vc w x
theorem JU {x : Nat} (h : x < 4 ^ w) : jT w fn (vx w fn x) = x := by
 obtain ⟨h1, h2⟩ := vA h
 obtain ⟨a, b⟩ := VT hf 4 (x / 2 ^ w, x % 2 ^ w) h1 h2
 obtain ⟨j1, j2⟩ := X8 (a := (Jd fn 4 (x / 2 ^ w, x % 2 ^ w)).1) b
 unfold vx jT
 rw [j1, j2, show ((Jd fn 4 (x / 2 ^ w, x % 2 ^ w)).1, (Jd fn 4 (x / 2 ^ w, x % 2 ^ w)).2) = Jd fn 4 (x / 2 ^ w, x % 2 ^ w) from rfl, qc9]
 exact Vc w x
end
def qU (f : Nat -> Nat) : Nat -> Nat -> Nat
 | 0, x => x
 | k + 1, x => f (qU f k x)
theorem uM (f : Nat -> Nat) : ∀ (k x : Nat), qU f (k + 1) x = qU f k (f x)
 | 0, x => rfl
 | k + 1, x => by
  show f (qU f (k + 1) x) = f (qU f k (f x))
  rw [uM f k x]
theorem qck : ∀ (N : Nat) (g : Nat -> Nat), (∀ i, i <= N -> g i < N) -> ∃ i j, i < j /\ j <= N /\ g i = g j
 | 0, g, h => absurd (h 0 (Nat.le_refl _)) Y62
 | N + 1, g, h => by
  by_cases hex : ∃ i, i < N + 1 /\ g i = g (N + 1)
  ·obtain ⟨i, hi, e⟩ := hex
   exact ⟨i, N + 1, hi, Nat.le_refl _, e⟩
  ·have hne : ∀ i, i <= N -> g i ≠ g (N + 1) := fun i hi e => hex ⟨i, by omega, e⟩
   have hl := h (N + 1) (Nat.le_refl _)
   obtain ⟨i, j, hij, hj, e⟩ := qck N (fun i => if g i < g (N + 1) then g i else g i - 1) (fun i hi => by
    have h1 := h i Y62
    have h2 := hne i hi
    show (if g i < g (N + 1) then g i else g i - 1) < N
    split <;> omega)
   refine ⟨i, j, hij, by omega, ?_⟩
   have h1 := hne i Y62
   have h2 := hne j Y62
   replace e : (if g i < g (N + 1) then g i else g i - 1) = if g j < g (N + 1) then g j else g j - 1 := e
   split at e <;> split at e <;> omega
theorem qf1 {N : Nat} {f b : Nat -> Nat} (hf : ∀ x, x < N -> f x < N) (hb : ∀ x, x < N -> b (f x) = x) {x : Nat} (hx : x < N) : ∃ p, 1 <= p /\ p <= N /\ qU f p x = x := by
 have hlt : ∀ k, qU f k x < N := fun k => by
  induction k with
  | zero => exact hx
  | succ k ih => exact hf _ ih
 obtain ⟨i, j, hij, hj, e⟩ := qck N (fun k => qU f k x) (fun k _ => hlt k)
 have key : ∀ i d, qU f i x = qU f (i + d) x -> x = qU f d x := by
  intro i
  induction i with
  | zero => intro d h; rw [Nat.zero_add] at h; exact h
  | succ i ih =>
   intro d h
   refine ih d ?_
   have h1 : f (qU f i x) = f (qU f (i + d) x) := by rw [show i + 1 + d = (i + d) + 1 by omega] at h; exact h
   rw [<- hb _ (hlt i), <- hb _ (hlt (i + d)), h1]
 refine ⟨j - i, by omega, by omega, (key i (j - i) ?_).symm⟩
 rw [show i + (j - i) = j by omega]
 exact e
theorem Ju {N n : Nat} {f b : Nat -> Nat} (hf : ∀ x, x < N -> f x < N) (hb : ∀ x, x < N -> b (f x) = x) {x : Nat} (hx : x < n) (hn : n <= N) :
  ∃ K, 1 <= K /\ K <= N /\ qU f K x < n /\ ∀ j, 1 <= j -> j < K -> ¬ qU f j x < n := by
 obtain ⟨p, h1, h2, h3⟩ := qf1 hf hb (Nat.lt_of_lt_of_le hx hn)
 have hp : qU f p x < n := by rw [h3]; exact hx
 have key : ∀ m k, 1 <= k -> k <= p -> qU f k x < n -> k <= m -> ∃ K, 1 <= K /\ K <= p /\ qU f K x < n /\ ∀ j, 1 <= j -> j < K -> ¬ qU f j x < n := by
  intro m
  induction m with
  | zero => intro k a _ _ d; omega
  | succ m ih =>
   intro k a b c d
   by_cases hex : ∃ j, 1 <= j /\ j < k /\ qU f j x < n
   ·obtain ⟨j, j1, j2, j3⟩ := hex
    exact ih j j1 Y62 j3 Y62
   ·exact ⟨k, a, b, c, fun j j1 j2 j3 => hex ⟨j, j1, j2, j3⟩⟩
 obtain ⟨K, k1, k2, k3, k4⟩ := key p p h1 (Nat.le_refl _) hp (Nat.le_refl _)
 exact ⟨K, k1, by omega, k3, k4⟩
def Xr (f : Nat -> Nat) (n : Nat) : Nat -> Nat -> Nat
 | 0, x => x
 | k + 1, x => if f x < n then f x else Xr f n k (f x)
theorem Ub {f : Nat -> Nat} {n : Nat} : ∀ (k K x : Nat), 1 <= K -> K <= k -> qU f K x < n -> (∀ j, 1 <= j -> j < K -> ¬ qU f j x < n) -> Xr f n k x = qU f K x
 | 0, K, x, h1, h2, _, _ => by omega
 | k + 1, K, x, h1, h2, h3, h4 => by
  rw [Xr]
  by_cases hK : K = 1
  ·subst hK
   rw [if_pos (show f x < n from h3)]
   rfl
  ·rw [if_neg (show ¬ f x < n from h4 1 Y62 Y62), Ub k (K - 1) (f x) Y62 Y62 ?_ ?_, <- uM, show K - 1 + 1 = K by omega]
   ·rw [<- uM, show K - 1 + 1 = K by omega]; exact h3
   ·intro j j1 j2
    rw [<- uM]
    exact h4 (j + 1) Y62 Y62
def toN (w n : Nat) (fn : Nat -> Nat -> Nat) (x : Nat) : Nat := Xr (jT w fn) n (4 ^ w) x
def Uz (w n : Nat) (fn : Nat -> Nat -> Nat) (x : Nat) : Nat := Xr (vx w fn) n (4 ^ w) x
theorem VF {w : Nat} {f : Nat -> Nat} (h : ∀ x, x < 4 ^ w -> f x < 4 ^ w) {x : Nat} (hx : x < 4 ^ w) : ∀ k, qU f k x < 4 ^ w
 | 0 => hx
 | k + 1 => h _ (VF h hx k)
theorem Q7 {w : Nat} {f b : Nat -> Nat} (h : ∀ x, x < 4 ^ w -> b x < 4 ^ w) (hb : ∀ x, x < 4 ^ w -> f (b x) = x) {x : Nat} (hx : x < 4 ^ w) : ∀ (j k : Nat), qU f j (qU b (j + k) x) = qU b k x
 | 0, k => by rw [Nat.zero_add]; rfl
 | j + 1, k => by
  rw [uM, show j + 1 + k = (j + k) + 1 by omega]
  show qU f j (f (b (qU b (j + k) x))) = _
  rw [hb _ (VF h hx _)]
  exact Q7 h hb hx j k
section
variable {w n : Nat} {fn : Nat -> Nat -> Nat} (hf : ∀ k r, fn k r < 2 ^ w) (hn : n <= 4 ^ w)
include hf hn
theorem QO {x : Nat} (hx : x < n) : ∃ K, 1 <= K /\ qU (jT w fn) K x = toN w n fn x /\ toN w n fn x < n /\ ∀ j, 1 <= j -> j < K -> ¬ qU (jT w fn) j x < n := by
 obtain ⟨K, h1, h2, h3, h4⟩ := Ju (f := jT w fn) (b := vx w fn) (fun x h => Zc hf h) (fun x h => JO hf h) hx hn
 have e := Ub (4 ^ w) K x h1 h2 h3 h4
 exact ⟨K, h1, e.symm, by unfold toN; rw [e]; exact h3, h4⟩
theorem Qb {x : Nat} (hx : x < n) : ∃ K, 1 <= K /\ qU (vx w fn) K x = Uz w n fn x /\ Uz w n fn x < n /\ ∀ j, 1 <= j -> j < K -> ¬ qU (vx w fn) j x < n := by
 obtain ⟨K, h1, h2, h3, h4⟩ := Ju (f := vx w fn) (b := jT w fn) (fun x h => Xu hf h) (fun x h => JU hf h) hx hn
 have e := Ub (4 ^ w) K x h1 h2 h3 h4
 exact ⟨K, h1, e.symm, by unfold Uz; rw [e]; exact h3, h4⟩
theorem qdG {x : Nat} (hx : x < n) : toN w n fn (Uz w n fn x) = x := by
 obtain ⟨K, h1, h2, h3, h4⟩ := Qb hf hn hx
 have hx4 : x < 4 ^ w := Nat.lt_of_lt_of_le hx hn
 have ib := Q7 (f := jT w fn) (b := vx w fn) (fun x h => Xu hf h) (fun x h => JU hf h) hx4
 have hk : qU (jT w fn) K (Uz w n fn x) = x := by rw [<- h2]; exact ib K 0
 obtain ⟨M, m1, m2, m3, m4⟩ := QO hf hn h3
 have hM : M <= K := by
  rcases Nat.lt_or_ge K M with h | h
  ·exact absurd (by rw [hk]; exact hx) (m4 K h1 h)
  ·exact h
 rcases Nat.lt_or_ge M K with h | h
 ·exfalso
  exact Y60
 ·obtain rfl : M = K := by omega
  rw [<- m2]; exact hk
theorem K3 {x : Nat} (hx : x < n) : Uz w n fn (toN w n fn x) = x := by
 obtain ⟨K, h1, h2, h3, h4⟩ := QO hf hn hx
 have hx4 : x < 4 ^ w := Nat.lt_of_lt_of_le hx hn
 have ib := Q7 (f := vx w fn) (b := jT w fn) (fun x h => Zc hf h) (fun x h => JO hf h) hx4
 have hk : qU (vx w fn) K (toN w n fn x) = x := by rw [<- h2]; exact ib K 0
 obtain ⟨M, m1, m2, m3, m4⟩ := Qb hf hn h3
 have hM : M <= K := by
  rcases Nat.lt_or_ge K M with h | h
  ·exact absurd (by rw [hk]; exact hx) (m4 K h1 h)
  ·exact h
 rcases Nat.lt_or_ge M K with h | h
 ·exfalso
  exact Y60
 ·obtain rfl : M = K := by omega
  rw [<- m2]; exact hk
theorem qdw {x y : Nat} (hx : x < n) (hy : y < n) (h : toN w n fn x = toN w n fn y) : x = y := by
 rw [<- K3 hf hn hx, h, K3 hf hn hy]
end
def ul : Nat -> Nat -> Nat -> Nat
 | 0, w, _ => w
 | k + 1, w, n => if 4 ^ w < n then ul k (w + 1) n else w
def za (n : Nat) : Nat := ul 10 1 n
end Go.Bl
namespace Go.Bl
open Go.RowKit
def qdH (n : Nat) : Nat := if n = 0 then 8 else (8 - n % 8) % 8
def uZ (xs : List UInt8) : List UInt8 := xs ++ List.replicate (qdH xs.length) 0
theorem YD (xs : List UInt8) : (uZ xs).length = 8 * max ((xs.length + 7) / 8) 1 := by
 simp only [uZ, qdH, List.length_append, List.length_replicate]
 split <;> omega
def zN : Nat -> List UInt8 -> List (List UInt8)
 | 0, _ => []
 | n + 1, l => l.take 8 :: zN n (l.drop 8)
theorem zt : ∀ (n : Nat) (l : List UInt8), (zN n l).length = n
 | 0, _ => rfl
 | n + 1, l => by simp [zN, zt n]
theorem Qf : ∀ (n i : Nat) (l : List UInt8), i < n -> (zN n l)[i]? = some ((l.drop (8 * i)).take 8)
 | 0, _, _, h => by omega
 | n + 1, 0, l, _ => by simp [zN]
 | n + 1, i + 1, l, h => by
  simp only [zN, List.getElem?_cons_succ]
  rw [Qf n i _ Y62, List.drop_drop, show 8 + 8 * i = 8 * (i + 1) by omega]
theorem VW (n : Nat) (l : List UInt8) (h : l.length = 8 * n) : ∀ x ∈ zN n l, x.length = 8 := by
 intro x hx
 obtain ⟨i, hi, rfl⟩ := List.getElem_of_mem hx
 rw [zt] at hi
 have := Qf n i l hi
 rw [List.getElem?_eq_getElem (by rw [zt]; exact hi)] at this
 rw [Option.some.inj this, List.length_take, List.length_drop]
 omega
def J1 (data : List (List UInt8)) : List (List UInt8) := (List.range 32).map fun i => (List.range 8).map fun j => (Qp (data.map fun b => b.getD j 0)).getD i 0
theorem Yr (data : List (List UInt8)) : (J1 data).length = 32 := by simp [J1]
def qd9 (data : List (List UInt8)) : List (List UInt8) := data ++ J1 data
def um : List (List UInt8) -> List Nat -> List (List UInt8)
 | _, [] => []
 | data, k :: sh => qd9 (data.take k) ++ um (data.drop k) sh
theorem yo (data : List (List UInt8)) : ∀ (sh : List Nat) (data : List (List UInt8)), sh.sum <= data.length -> (um data sh).length = sh.sum + 32 * sh.length
 | [], data, h => by simp [um]
 | k :: sh, data, h => by
  simp only [List.sum_cons] at h
  have hl : (data.take k).length = k := by rw [List.length_take]; omega
  simp only [um, List.length_append, qd9, Yr, hl, List.sum_cons, List.length_cons]
  rw [yo data sh _ Y89]
  omega
end Go.Bl
namespace Go.Bl
open Go.RowKit
def shN (n : Nat) : List Nat := if n <= 223 then [n] else [223, n - 223]
theorem yz (n : Nat) : (shN n).sum = n := by
 unfold shN
 split
 ·simp
 ·simp; omega
theorem Xd (n : Nat) : (shN n).length <= 2 := by unfold shN; split <;> simp
theorem qeK (n : Nat) (h1 : 1 <= n) (h2 : n <= 250) : ∀ k ∈ shN n, 1 <= k /\ k <= 223 := by
 unfold shN
 intro k hk
 split at hk
 ·simp at hk; omega
 ·simp at hk; omega
theorem YS (sh : List Nat) (i : Nat) : (sh.take i).sum <= sh.sum := by
 conv => rhs; rw [<- List.take_append_drop i sh, List.sum_append]
 omega
def nB (n : Nat) : Nat := max ((n + 7) / 8) 1
def Lqe (xs : List UInt8) : List (List UInt8) := zN (nB xs.length) (uZ xs)
def qt (xs : List UInt8) : List (List UInt8) := um (Lqe xs) (shN (nB xs.length))
theorem Vd (xs : List UInt8) : (Lqe xs).length = nB xs.length := zt _ _
theorem XH (xs : List UInt8) : ∀ x ∈ Lqe xs, x.length = 8 := VW _ _ (YD xs)
end Go.Bl
namespace Go.Proofs.YtnafknkchbfpaaaGreatDoor
open Go.RowKit Go.Bl
set_option linter.unusedVariables false
def zI : List UInt8 := [109, 97, 115, 107]
def qM : List UInt8 := [112, 108, 97, 99, 101]
def jp : List UInt8 := [115, 101, 110, 116, 105, 110, 101, 108]
def jR : List UInt8 := [116, 97, 103]
def Yq : List UInt8 := [115, 112, 111, 116]
def qn (m name : List UInt8) (n : Int) : List UInt8 := zH m (name ++ 0 :: beK 8 n)
theorem xP (m name : List UInt8) (n : Int) : (qn m name n).length = 32 := rfl
def qp (m : List UInt8) (n : Int) : Nat := if m.length < 16 ∨ 64 < m.length then 9 else if n < 0 ∨ 1099511627776 < n then 1 else 0
theorem WH {m : List UInt8} {n : Int} (h : m.length < 16 ∨ 64 < m.length) : qp m n = 9 := by rw [qp, if_pos h]
theorem WJ {m : List UInt8} {n : Int} (h : ¬ (m.length < 16 ∨ 64 < m.length)) (h2 : n < 0 ∨ 1099511627776 < n) : qp m n = 1 := by rw [qp, if_neg h, if_pos h2]
theorem qaM {m : List UInt8} {n : Int} (h : ¬ (m.length < 16 ∨ 64 < m.length)) (h2 : ¬ (n < 0 ∨ 1099511627776 < n)) : qp m n = 0 := by rw [qp, if_neg h, if_neg h2]
def uK (key : List UInt8) (i : Int) : List UInt8 := vY key (beK 8 i)
theorem Yv (key : List UInt8) (i : Int) : (uK key i).length = 8 := rfl
def xF (key : List UInt8) (i : Int) (b : List UInt8) : List UInt8 := (b.zip (uK key i)).map fun x => x.1 ^^^ x.2
theorem U6 (key : List UInt8) (i : Int) (b : List UInt8) (h : b.length = 8) : (xF key i b).length = 8 := by
 rw [xF, List.length_map, List.length_zip, h, Yv]; rfl
def fnS (key : List UInt8) (w k r : Nat) : Nat := xW (vY key (b8 (k : Int) :: beK 8 (r : Int))) % 2 ^ w
theorem xx (key : List UInt8) (w k r : Nat) : fnS key w k r < 2 ^ w := Nat.mod_lt _ (Nat.two_pow_pos w)
theorem Wh : ∀ (k w n : Nat), n <= 4 ^ (w + k) -> n <= 4 ^ ul k w n
 | 0, w, n, h => h
 | k + 1, w, n, h => by
  rw [ul]
  split
  ·exact Wh k (w + 1) n (by rw [show w + 1 + k = w + (k + 1) by omega]; exact h)
  ·omega
theorem Wd : ∀ (k w n : Nat), w <= ul k w n /\ ul k w n <= w + k
 | 0, w, n => ⟨Nat.le_refl _, Nat.le_refl _⟩
 | k + 1, w, n => by
  rw [ul]
  split
  ·have := Wd k (w + 1) n
   omega
  ·omega
theorem xN (n : Nat) (h : n <= 4194304) : n <= 4 ^ za n := Wh 10 1 n (Nat.le_trans h qd)
theorem qbZ (n : Nat) : 1 <= za n /\ za n <= 11 := Wd 10 1 n
theorem WN {k w n : Nat} (h : 4 ^ w < n) : ul (k + 1) w n = ul k (w + 1) n := by rw [ul, if_pos h]
theorem WL {k w n : Nat} (h : ¬ 4 ^ w < n) : ul k w n = w := by
 cases k with
 | zero => rfl
 | succ k => rw [ul, if_neg h]
def ji (key : List UInt8) (n i : Nat) : Nat := toN (za n) n (fnS key (za n)) i
def qe9 (key : List UInt8) (n i : Nat) : Nat := Uz (za n) n (fnS key (za n)) i
section
variable {key : List UInt8} {n : Nat} (hn : n <= 4194304)
include hn
theorem Q3 {i : Nat} (h : i < n) : ji key n i < n := by
 obtain ⟨K, h1, h2, h3, h4⟩ := QO (xx key (za n)) (xN n hn) h
 exact h3
theorem qdD {i : Nat} (h : i < n) : qe9 key n i < n := by
 obtain ⟨K, h1, h2, h3, h4⟩ := Qb (xx key (za n)) (xN n hn) h
 exact h3
theorem Wj {i : Nat} (h : i < n) : ji key n (qe9 key n i) = i := qdG (xx key (za n)) (xN n hn) h
theorem ZH {i j : Nat} (hi : i < n) (hj : j < n) (h : ji key n i = ji key n j) : i = j := qdw (xx key (za n)) (xN n hn) hi hj h
end
def ze (key : List UInt8) (place : Int) (b : List UInt8) : List UInt8 := b ++ vY key (beK 8 place ++ b)
theorem Zs (key : List UInt8) (place : Int) (b : List UInt8) : (ze key place b).length = b.length + 8 := by rw [ze, List.length_append, YV]
def vT (P : Nat -> Nat) (T : Nat -> List UInt8 -> List UInt8) (bs : List (List UInt8)) : Nat -> List (List UInt8)
 | 0 => List.replicate bs.length []
 | k + 1 => (vT P T bs k).set (P k) (T (P k) (bs.getD k []))
theorem Jb (P : Nat -> Nat) (T : Nat -> List UInt8 -> List UInt8) (bs : List (List UInt8)) : ∀ k, (vT P T bs k).length = bs.length
 | 0 => List.length_replicate
 | k + 1 => by rw [vT, List.length_set, Jb P T bs k]
theorem Je {P : Nat -> Nat} {T : Nat -> List UInt8 -> List UInt8} {bs : List (List UInt8)} (hP : ∀ i, i < bs.length -> P i < bs.length) (hi : ∀ i j, i < bs.length -> j < bs.length -> P i = P j -> i = j) :
  ∀ (k : Nat), k <= bs.length -> ∀ i, i < k -> (vT P T bs k)[P i]? = some (T (P i) (bs.getD i []))
 | 0, _, i, h => by omega
 | k + 1, hk, i, h => by
  rw [vT]
  by_cases e : i = k
  ·subst e
   rw [List.getElem?_set_self (by rw [Jb]; exact hP i Y62)]
  ·rw [List.getElem?_set_ne (fun h2 => e (hi _ _ Y62 Y62 h2.symm))]
   exact Je hP hi k Y62 i Y62
def UB (kM kS : List UInt8) (bs : List (List UInt8)) (s : Nat) : List (List UInt8) :=
 (bs.mapIdx fun i b => xF kM (i : Int) b) ++ (List.range s).map fun j => uK kS ((j : Nat) : Int)
theorem Qx (kM kS : List UInt8) (bs : List (List UInt8)) (s : Nat) : (UB kM kS bs s).length = bs.length + s := by simp [UB]
def zw (m : List UInt8) (n : Int) (xs : List UInt8) (s : Nat) : List (List UInt8) :=
 let all := UB (qn m zI n) (qn m jp n) (qt xs) s
 vT (ji (qn m qM n) all.length) (fun p b => ze (qn m jR n) (p : Int) b) all all.length
end Go.Proofs.YtnafknkchbfpaaaGreatDoor
