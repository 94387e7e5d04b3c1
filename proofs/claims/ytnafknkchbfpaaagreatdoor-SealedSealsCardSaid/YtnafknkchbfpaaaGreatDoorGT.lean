import Derived.Test.YtnafknkchbfpaaaGreatDoorGK
namespace Go.Bl
set_option linter.unusedVariables false
def uH (l : List UInt8) : Nat := l.foldl (fun n c => n * 256 + c.toNat) 0
theorem Z0 (l : List UInt8) (c : UInt8) : uH (l ++ [c]) = uH l * 256 + c.toNat := by simp [uH]
theorem Jn : ∀ (n : Nat) (l : List UInt8), l.length = n -> uH l < 256 ^ n
 | 0, l, h => by
  have : l = [] := List.eq_nil_of_length_eq_zero h
  subst this; simp [uH]
 | n + 1, l, h => by
  have hne : l ≠ [] := fun e => by subst e; simp at h
  rw [<- List.dropLast_concat_getLast hne, Z0]
  have := Jn n l.dropLast (by simp [h])
  have hc := (l.getLast hne).toNat_lt
  rw [Nat.pow_succ]
  omega
theorem xI (l : List UInt8) (j : Nat) (h : j < l.length) : uH (l.take (j + 1)) = uH (l.take j) * 256 + l[j].toNat := by
 rw [List.take_succ_eq_append_getElem h, Z0]
theorem Jj (a b : Nat) (ha : a < 18446744073709551616) (hb : b < 18446744073709551616) :
  bits .or .u64 (a : Int) (b : Int) = ((a ||| b : Nat) : Int) := by
 have hx : a ||| b < 2 ^ 64 := Nat.or_lt_two_pow Y95 Y95
 have h1 : (BitVec.ofInt 64 (a : Int)).toNat = a := by
  exact Y89
 have h2 : (BitVec.ofInt 64 (b : Int)).toNat = b := by
  exact Y89
 show IntKind.u64.wrap ((BitVec.ofInt 64 (a : Int) ||| BitVec.ofInt 64 (b : Int)).toNat : Int) = _
 rw [BitVec.toNat_or, h1, h2, IntKind.wrap_u64]
 omega
theorem qdm (x c : Nat) (hc : c < 256) : x * 256 ||| c = x * 256 + c := by
 have := Nat.two_pow_add_eq_or_of_lt (i := 8) (b := c) (by simpa using hc) x
 rw [Nat.mul_comm x 256]
 simpa using this.symm
theorem qcV (x c : Nat) (hx : x < 72057594037927936) (hc : c < 256) :
  bits .or .u64 (IntKind.u64.wrap ((x : Int) * 256)) (c : Int) = ((x * 256 + c : Nat) : Int) := by
 have e : IntKind.u64.wrap ((x : Int) * 256) = ((x * 256 : Nat) : Int) := by rw [IntKind.wrap_u64]; omega
 rw [e, Jj _ _ Y95 Y95, qdm x c hc]
theorem qaE (l : List UInt8) (j : Nat) (hj : j < l.length) (h8 : j < 8) :
  bits .or .u64 (IntKind.u64.wrap ((uH (l.take j) : Nat) * 256)) (IntKind.u64.wrap ((l[j]?.getD 0).toNat : Int)) = ((uH (l.take (j + 1)) : Nat) : Int) := by
 have h1 := Jn j (l.take j) jF
 have h2 : 256 ^ j <= 256 ^ 7 := Nat.pow_le_pow_right qe Y95
 have h3 : (256 : Nat) ^ 7 = 72057594037927936 := by decide
 have hb := (l[j]).toNat_lt
 have e : l[j]?.getD 0 = l[j] := by simp [hj]
 have e2 : IntKind.u64.wrap ((l[j]).toNat : Int) = ((l[j]).toNat : Int) := by rw [IntKind.wrap_u64]; omega
 rw [e, e2, qcV _ _ Y95 Y95, xI l j hj]
end Go.Bl
namespace Go.Bl
open Go.RowKit
def xV (key : List UInt8) : List UInt8 := if 64 < key.length then jE key else key
theorem xP (key : List UInt8) : (xV key).length <= 64 := by
 unfold xV
 split
 ·rw [jM]; decide
 ·omega
def Qu (key : List UInt8) : List UInt8 := xV key ++ List.replicate (64 - (xV key).length) 0
theorem vT (key : List UInt8) : (Qu key).length = 64 := by
 have := xP key
 rw [Qu, List.length_append, List.length_replicate]
 omega
def zR (key : List UInt8) : List UInt8 := (Qu key).map (· ^^^ 54)
def zM (key : List UInt8) : List UInt8 := (Qu key).map (· ^^^ 92)
theorem vC (key : List UInt8) : (zR key).length = 64 := by rw [zR, List.length_map, vT]
theorem vF (key : List UInt8) : (zM key).length = 64 := by rw [zM, List.length_map, vT]
def zm (key m : List UInt8) : List UInt8 := jE (zM key ++ jE (zR key ++ m))
theorem Qc (key m : List UInt8) : (zm key m).length = 32 := rfl
def xm (key m : List UInt8) : List UInt8 := (zm key m).take 8
theorem JO (key m : List UInt8) : (xm key m).length = 8 := rfl
end Go.Bl
namespace Go.Bl
open Go.RowKit
abbrev Dg := List UInt8
def zg (b : List UInt8) : Dg := jE (0 :: b)
def jx (a b : Dg) : Dg := jE (1 :: (a ++ b))
theorem yr (a b : Dg) : (jx a b).length = 32 := rfl
def qZ : List Dg -> List Dg
 | a :: b :: r => jx a b :: qZ r
 | r => r
theorem zn : ∀ l : List Dg, (qZ l).length = (l.length + 1) / 2
 | [] => rfl
 | [a] => by simp [qZ]
 | a :: b :: r => by
  simp only [qZ, List.length_cons, zn r]
  omega
theorem ui : ∀ (a b : List Dg), a.length % 2 = 0 -> qZ (a ++ b) = qZ a ++ qZ b
 | [], b, _ => rfl
 | [x], b, h => by simp at h
 | x :: y :: r, b, h => by
  simp only [List.length_cons] at h
  simp only [List.cons_append, qZ, ui r b Y95]
def xx : Nat -> List Dg -> Dg
 | 0, l => l.headD (jE [])
 | n + 1, l => if l.length <= 1 then l.headD (jE []) else xx n (qZ l)
theorem J0 : ∀ (n : Nat) (l : List Dg), l.length <= n + 1 -> xx (n + 1) l = xx n l
 | 0, l, h => by simp only [xx]; rw [if_pos Y95]
 | n + 1, l, h => by
  rw [xx]
  conv => rhs; rw [xx]
  split
  ·rfl
  ·rw [J0 n _ (by rw [zn]; omega)]
theorem Qh (l : List Dg) : ∀ (k : Nat), xx (l.length + k) l = xx l.length l
 | 0 => rfl
 | k + 1 => by rw [show l.length + (k + 1) = (l.length + k) + 1 by omega, J0 _ _ Y95, Qh l k]
def j0 (l : List Dg) : Dg := xx l.length l
theorem vk {l : List Dg} (h : 2 <= l.length) : j0 l = j0 (qZ l) := by
 obtain ⟨n, hn⟩ : ∃ n, l.length = n + 1 := ⟨l.length - 1, by omega⟩
 unfold j0
 rw [hn, xx, if_neg Y95]
 have := Qh (qZ l) (n - (qZ l).length)
 rw [<- this, show (qZ l).length + (n - (qZ l).length) = n by rw [zn]; omega]
def ze (n : Nat) : Nat := if h : n <= 2 then 1 else 2 * ze ((n + 1) / 2)
termination_by n
decreasing_by omega
theorem y6 {n : Nat} (h : n <= 2) : ze n = 1 := by rw [ze, dif_pos h]
theorem QE {n : Nat} (h : 2 < n) : ze n = 2 * ze ((n + 1) / 2) := by rw [ze, dif_neg Y95]
theorem ue : ∀ (n : Nat), 2 <= n -> ze n < n /\ n <= 2 * ze n /\ 1 <= ze n
 | n, h => by
  by_cases h2 : n <= 2
  ·obtain rfl : n = 2 := by omega
   rw [y6 Y95]
   omega
  ·have := ue ((n + 1) / 2) Y95
   rw [QE Y95]
   omega
termination_by n => n
decreasing_by omega
theorem JW : ∀ (n : Nat), 2 <= n -> ∃ k, ze n = 2 ^ k
 | n, h => by
  by_cases h2 : n <= 2
  ·exact ⟨0, by rw [y6 h2, Nat.pow_zero]⟩
  ·obtain ⟨k, hk⟩ := JW ((n + 1) / 2) Y95
   exact ⟨k + 1, by rw [QE Y95, hk, Nat.pow_succ]; omega⟩
termination_by n => n
decreasing_by omega
theorem VG {a b n : Nat} (h1 : 2 ^ a < n) (h2 : n <= 2 * 2 ^ a) (h3 : 2 ^ b < n) (h4 : n <= 2 * 2 ^ b) : a = b := by
 rcases Nat.lt_trichotomy a b with h | h | h
 ·have : 2 ^ (a + 1) <= 2 ^ b := Nat.pow_le_pow_right qe Y95
  rw [Nat.pow_succ] at this
  omega
 ·exact h
 ·have : 2 ^ (b + 1) <= 2 ^ a := Nat.pow_le_pow_right qe Y95
  rw [Nat.pow_succ] at this
  omega
theorem Xh {n k : Nat} (h : 2 <= n) (h1 : 2 ^ k < n) (h2 : n <= 2 * 2 ^ k) : ze n = 2 ^ k := by
 obtain ⟨j, hj⟩ := JW n h
 have hb := ue n h
 rw [hj] at hb ⊢
 rw [VG hb.1 hb.2.1 h1 h2]
theorem xG : ∀ (n : Nat) (l : List Dg), l.length = n -> 2 <= n -> j0 l = jx (j0 (l.take (ze n))) (j0 (l.drop (ze n)))
 | n, l, hl, h => by
  by_cases h2 : n <= 2
  ·obtain rfl : n = 2 := by omega
   rw [y6 Y95]
   match l, hl with
   | [a, b], _ => rfl
  ·obtain ⟨k, hk⟩ := exq (ze ((n + 1) / 2))
   have hb := ue ((n + 1) / 2) Y95
   rw [hk] at hb
   have hk2 : ze n = 2 * k := by rw [QE Y95, hk]
   have hll : (qZ l).length = (n + 1) / 2 := by rw [zn, hl]
   have ih := xG ((n + 1) / 2) (qZ l) hll Y95
   rw [vk Y95, ih, hk, hk2]
   have hlen : (l.take (2 * k)).length = 2 * k := by rw [List.length_take]; omega
   have e1 : qZ l = qZ (l.take (2 * k)) ++ qZ (l.drop (2 * k)) := by
    rw [<- ui _ _ (by rw [hlen]; omega), List.take_append_drop]
   have e2 : (qZ (l.take (2 * k))).length = k := by rw [zn, hlen]; omega
   have e3 : (qZ l).take k = qZ (l.take (2 * k)) := by rw [e1, List.take_append_of_le_length Y95, List.take_of_length_le Y95]
   have e4 : (qZ l).drop k = qZ (l.drop (2 * k)) := by rw [e1, List.drop_append_of_le_length Y95, List.drop_of_length_le Y95, List.nil_append]
   rw [e3, e4]
   congr 1
   ·rw [<- vk Y95]
   ·by_cases h1 : 2 <= (l.drop (2 * k)).length
    ·rw [<- vk h1]
    ·rw [List.length_drop] at h1
     have : (l.drop (2 * k)).length = 1 := by rw [List.length_drop]; omega
     match l.drop (2 * k), this with
     | [a], _ => rfl
termination_by n => n
decreasing_by omega
end Go.Bl
namespace Go.Proofs.YtnafknkchbfpaaaGreatDoor
open Go.RowKit Go.Bl
set_option linter.unusedVariables false
def b8 (n : Int) : UInt8 := UInt8.ofNat (n % 256).toNat
theorem UC (n : Int) : (IntKind.u8.wrap n) = ((b8 n).toNat : Int) := by
 have h : (b8 n).toNat = (n % 256).toNat := by
  unfold b8
  rw [UInt8.toNat_ofNat']
  omega
 rw [h]
 have : IntKind.u8.wrap n = n % 256 := by
  simp [IntKind.wrap, IntKind.signed, IntKind.bits]
 rw [this]
 omega
theorem qaB (n : Int) : ((b8 n).toNat : Int) = n % 256 := by
 rw [<- UC]
 simp [IntKind.wrap, IntKind.signed, IntKind.bits]
def beK (k : Nat) (n : Int) : List UInt8 := (List.range k).map fun m => b8 (n / (256 ^ (k - 1 - m) : Nat))
theorem zf (k : Nat) (n : Int) : (beK k n).length = k := by simp [beK]
theorem qcc (n : Int) (e : Nat) (he : e <= 7) : (n % 18446744073709551616 / (256 ^ e : Nat)) % 256 = (n / (256 ^ e : Nat)) % 256 := by
 have : e = 0 ∨ e = 1 ∨ e = 2 ∨ e = 3 ∨ e = 4 ∨ e = 5 ∨ e = 6 ∨ e = 7 := by omega
 rcases this with rfl | rfl | rfl | rfl | rfl | rfl | rfl | rfl <;> omega
theorem U1 (X : Int) (e : Nat) : X / (256 ^ e : Nat) / 256 = X / (256 ^ (e + 1) : Nat) := by
 rw [Int.ediv_ediv_of_nonneg (by exact Int.natCast_nonneg _), Nat.pow_succ]
 congr 1
end Go.Proofs.YtnafknkchbfpaaaGreatDoor
namespace Go.Bl
open Go.RowKit
def zI (fn : Nat -> Nat -> Nat) : Nat -> Nat × Nat -> Nat × Nat
 | 0, p => p
 | k + 1, p => ((zI fn k p).2, (zI fn k p).1 ^^^ fn k (zI fn k p).2)
def QK (fn : Nat -> Nat -> Nat) : Nat -> Nat × Nat -> Nat × Nat
 | 0, p => p
 | k + 1, p => QK fn k (p.2 ^^^ fn k p.1, p.1)
theorem QR (a b : Nat) : a ^^^ b ^^^ b = a := by rw [Nat.xor_assoc, Nat.xor_self, Nat.xor_zero]
theorem Lh (fn : Nat -> Nat -> Nat) : ∀ (k : Nat) (p : Nat × Nat), QK fn k (zI fn k p) = p
 | 0, p => rfl
 | k + 1, p => by
  simp only [zI, QK, QR]
  exact Lh fn k p
theorem K8 (fn : Nat -> Nat -> Nat) : ∀ (k : Nat) (p : Nat × Nat), zI fn k (QK fn k p) = p
 | 0, p => rfl
 | k + 1, p => by
  simp only [zI, QK]
  rw [K8 fn k]
  simp only [QR]
theorem ym {fn : Nat -> Nat -> Nat} {w : Nat} (hf : ∀ k r, fn k r < 2 ^ w) : ∀ (k : Nat) (p : Nat × Nat), p.1 < 2 ^ w -> p.2 < 2 ^ w -> (zI fn k p).1 < 2 ^ w /\ (zI fn k p).2 < 2 ^ w
 | 0, p, h1, h2 => ⟨h1, h2⟩
 | k + 1, p, h1, h2 => by
  obtain ⟨a, b⟩ := ym hf k p h1 h2
  exact ⟨b, Nat.xor_lt_two_pow a (hf _ _)⟩
theorem UE {fn : Nat -> Nat -> Nat} {w : Nat} (hf : ∀ k r, fn k r < 2 ^ w) : ∀ (k : Nat) (p : Nat × Nat), p.1 < 2 ^ w -> p.2 < 2 ^ w -> (QK fn k p).1 < 2 ^ w /\ (QK fn k p).2 < 2 ^ w
 | 0, p, h1, h2 => ⟨h1, h2⟩
 | k + 1, p, h1, h2 => UE hf k _ (Nat.xor_lt_two_pow h2 (hf _ _)) h1
def ju (w : Nat) (fn : Nat -> Nat -> Nat) (x : Nat) : Nat := (zI fn 4 (x / 2 ^ w, x % 2 ^ w)).1 * 2 ^ w + (zI fn 4 (x / 2 ^ w, x % 2 ^ w)).2
def vQ (w : Nat) (fn : Nat -> Nat -> Nat) (x : Nat) : Nat := (QK fn 4 (x / 2 ^ w, x % 2 ^ w)).1 * 2 ^ w + (QK fn 4 (x / 2 ^ w, x % 2 ^ w)).2
theorem uN {w x : Nat} (h : x < 4 ^ w) : x / 2 ^ w < 2 ^ w /\ x % 2 ^ w < 2 ^ w := by
 have e : (4 : Nat) ^ w = 2 ^ w * 2 ^ w := by rw [show (4 : Nat) = 2 * 2 from rfl, Nat.mul_pow]
 refine ⟨Nat.div_lt_of_lt_mul (by rwa [<- e]), Nat.mod_lt _ (Nat.two_pow_pos w)⟩
theorem YB {w a b : Nat} (ha : a < 2 ^ w) (hb : b < 2 ^ w) : a * 2 ^ w + b < 4 ^ w := by
 have e : (4 : Nat) ^ w = 2 ^ w * 2 ^ w := by rw [show (4 : Nat) = 2 * 2 from rfl, Nat.mul_pow]
 rw [e]
 calc a * 2 ^ w + b < a * 2 ^ w + 2 ^ w := by omega
  _ = (a + 1) * 2 ^ w := by rw [Nat.add_mul, Nat.one_mul]
  _ <= 2 ^ w * 2 ^ w := Nat.mul_le_mul_right _ ha
theorem Vo {w a b : Nat} (hb : b < 2 ^ w) : (a * 2 ^ w + b) / 2 ^ w = a /\ (a * 2 ^ w + b) % 2 ^ w = b := by
 have hp := Nat.two_pow_pos w
 rw [Nat.mul_comm a, Nat.mul_add_div hp, Nat.mul_add_mod, Nat.div_eq_of_lt hb, Nat.mod_eq_of_lt hb]
 exact ⟨rfl, rfl⟩
theorem Z5 (w x : Nat) : x / 2 ^ w * 2 ^ w + x % 2 ^ w = x := by rw [Nat.mul_comm]; exact Nat.div_add_mod x (2 ^ w)
section
variable {w : Nat} {fn : Nat -> Nat -> Nat} (hf : ∀ k r, fn k r < 2 ^ w)
include hf
theorem xM {x : Nat} (h : x < 4 ^ w) : ju w fn x < 4 ^ w := by
 obtain ⟨h1, h2⟩ := uN h
 obtain ⟨a, b⟩ := ym hf 4 (x / 2 ^ w, x % 2 ^ w) h1 h2
 exact YB a b
theorem Vx {x : Nat} (h : x < 4 ^ w) : vQ w fn x < 4 ^ w := by
 obtain ⟨h1, h2⟩ := uN h
 obtain ⟨a, b⟩ := UE hf 4 (x / 2 ^ w, x % 2 ^ w) h1 h2
 exact YB a b
theorem QN {x : Nat} (h : x < 4 ^ w) : vQ w fn (ju w fn x) = x := by
 obtain ⟨h1, h2⟩ := uN h
 obtain ⟨a, b⟩ := ym hf 4 (x / 2 ^ w, x % 2 ^ w) h1 h2
 obtain ⟨j1, j2⟩ := Vo (a := (zI fn 4 (x / 2 ^ w, x % 2 ^ w)).1) b
 unfold vQ ju
 rw [j1, j2, show ((zI fn 4 (x / 2 ^ w, x % 2 ^ w)).1, (zI fn 4 (x / 2 ^ w, x % 2 ^ w)).2) = zI fn 4 (x / 2 ^ w, x % 2 ^ w) from rfl, Lh]
 exact Z5 w x
theorem QX {x : Nat} (h : x < 4 ^ w) : ju w fn (vQ w fn x) = x := by
 obtain ⟨h1, h2⟩ := uN h
 obtain ⟨a, b⟩ := UE hf 4 (x / 2 ^ w, x % 2 ^ w) h1 h2
 obtain ⟨j1, j2⟩ := Vo (a := (QK fn 4 (x / 2 ^ w, x % 2 ^ w)).1) b
 unfold vQ ju
 rw [j1, j2, show ((QK fn 4 (x / 2 ^ w, x % 2 ^ w)).1, (QK fn 4 (x / 2 ^ w, x % 2 ^ w)).2) = QK fn 4 (x / 2 ^ w, x % 2 ^ w) from rfl, K8]
 exact Z5 w x
end
def qV (f : Nat -> Nat) : Nat -> Nat -> Nat
 | 0, x => x
 | k + 1, x => f (qV f k x)
theorem uS (f : Nat -> Nat) : ∀ (k x : Nat), qV f (k + 1) x = qV f k (f x)
 | 0, x => rfl
 | k + 1, x => by
  show f (qV f (k + 1) x) = f (qV f k (f x))
  rw [uS f k x]
theorem LD : ∀ (N : Nat) (g : Nat -> Nat), (∀ i, i <= N -> g i < N) -> ∃ i j, i < j /\ j <= N /\ g i = g j
 | 0, g, h => absurd (h 0 (Nat.le_refl _)) Y95
 | N + 1, g, h => by
  by_cases hex : ∃ i, i < N + 1 /\ g i = g (N + 1)
  ·obtain ⟨i, hi, e⟩ := hex
   exact ⟨i, N + 1, hi, Nat.le_refl _, e⟩
  ·have hne : ∀ i, i <= N -> g i ≠ g (N + 1) := fun i hi e => hex ⟨i, by omega, e⟩
   have hl := h (N + 1) (Nat.le_refl _)
   obtain ⟨i, j, hij, hj, e⟩ := LD N (fun i => if g i < g (N + 1) then g i else g i - 1) (fun i hi => by
    have h1 := h i Y95
    have h2 := hne i hi
    show (if g i < g (N + 1) then g i else g i - 1) < N
    split <;> omega)
   refine ⟨i, j, hij, by omega, ?_⟩
   have h1 := hne i Y95
   have h2 := hne j Y95
   replace e : (if g i < g (N + 1) then g i else g i - 1) = if g j < g (N + 1) then g j else g j - 1 := e
   split at e <;> split at e <;> omega
theorem qdZ {N : Nat} {f b : Nat -> Nat} (hf : ∀ x, x < N -> f x < N) (hb : ∀ x, x < N -> b (f x) = x) {x : Nat} (hx : x < N) : ∃ p, 1 <= p /\ p <= N /\ qV f p x = x := by
 have hlt : ∀ k, qV f k x < N := fun k => by
  induction k with
  | zero => exact hx
  | succ k ih => exact hf _ ih
 obtain ⟨i, j, hij, hj, e⟩ := LD N (fun k => qV f k x) (fun k _ => hlt k)
 have key : ∀ i d, qV f i x = qV f (i + d) x -> x = qV f d x := by
  intro i
  induction i with
  | zero => intro d h; rw [Nat.zero_add] at h; exact h
  | succ i ih =>
   intro d h
   refine ih d ?_
   have h1 : f (qV f i x) = f (qV f (i + d) x) := by rw [show i + 1 + d = (i + d) + 1 by omega] at h; exact h
   rw [<- hb _ (hlt i), <- hb _ (hlt (i + d)), h1]
 refine ⟨j - i, by omega, by omega, (key i (j - i) ?_).symm⟩
 rw [show i + (j - i) = j by omega]
 exact e
theorem QO {N n : Nat} {f b : Nat -> Nat} (hf : ∀ x, x < N -> f x < N) (hb : ∀ x, x < N -> b (f x) = x) {x : Nat} (hx : x < n) (hn : n <= N) :
  ∃ K, 1 <= K /\ K <= N /\ qV f K x < n /\ ∀ j, 1 <= j -> j < K -> ¬ qV f j x < n := by
 obtain ⟨p, h1, h2, h3⟩ := qdZ hf hb (Nat.lt_of_lt_of_le hx hn)
 have hp : qV f p x < n := by rw [h3]; exact hx
 have key : ∀ m k, 1 <= k -> k <= p -> qV f k x < n -> k <= m -> ∃ K, 1 <= K /\ K <= p /\ qV f K x < n /\ ∀ j, 1 <= j -> j < K -> ¬ qV f j x < n := by
  intro m
  induction m with
  | zero => intro k a _ _ d; omega
  | succ m ih =>
   intro k a b c d
   by_cases hex : ∃ j, 1 <= j /\ j < k /\ qV f j x < n
   ·obtain ⟨j, j1, j2, j3⟩ := hex
    exact ih j j1 Y95 j3 Y95
   ·exact ⟨k, a, b, c, fun j j1 j2 j3 => hex ⟨j, j1, j2, j3⟩⟩
 obtain ⟨K, k1, k2, k3, k4⟩ := key p p h1 (Nat.le_refl _) hp (Nat.le_refl _)
 exact ⟨K, k1, by omega, k3, k4⟩
def U5 (f : Nat -> Nat) (n : Nat) : Nat -> Nat -> Nat
 | 0, x => x
 | k + 1, x => if f x < n then f x else U5 f n k (f x)
theorem JS {f : Nat -> Nat} {n : Nat} : ∀ (k K x : Nat), 1 <= K -> K <= k -> qV f K x < n -> (∀ j, 1 <= j -> j < K -> ¬ qV f j x < n) -> U5 f n k x = qV f K x
 | 0, K, x, h1, h2, _, _ => by omega
 | k + 1, K, x, h1, h2, h3, h4 => by
  rw [U5]
  by_cases hK : K = 1
  ·subst hK
   rw [if_pos (show f x < n from h3)]
   rfl
  ·rw [if_neg (show ¬ f x < n from h4 1 Y95 Y95), JS k (K - 1) (f x) Y95 Y95 ?_ ?_, <- uS, show K - 1 + 1 = K by omega]
   ·rw [<- uS, show K - 1 + 1 = K by omega]; exact h3
   ·intro j j1 j2
    rw [<- uS]
    exact h4 (j + 1) Y95 Y95
def toN (w n : Nat) (fn : Nat -> Nat -> Nat) (x : Nat) : Nat := U5 (ju w fn) n (4 ^ w) x
def JQ (w n : Nat) (fn : Nat -> Nat -> Nat) (x : Nat) : Nat := U5 (vQ w fn) n (4 ^ w) x
theorem Jr {w : Nat} {f : Nat -> Nat} (h : ∀ x, x < 4 ^ w -> f x < 4 ^ w) {x : Nat} (hx : x < 4 ^ w) : ∀ k, qV f k x < 4 ^ w
 | 0 => hx
 | k + 1 => h _ (Jr h hx k)
theorem QA {w : Nat} {f b : Nat -> Nat} (h : ∀ x, x < 4 ^ w -> b x < 4 ^ w) (hb : ∀ x, x < 4 ^ w -> f (b x) = x) {x : Nat} (hx : x < 4 ^ w) : ∀ (j k : Nat), qV f j (qV b (j + k) x) = qV b k x
 | 0, k => by rw [Nat.zero_add]; rfl
 | j + 1, k => by
  rw [uS, show j + 1 + k = (j + k) + 1 by omega]
  show qV f j (f (b (qV b (j + k) x))) = _
  rw [hb _ (Jr h hx _)]
  exact QA h hb hx j k
section
variable {w n : Nat} {fn : Nat -> Nat -> Nat} (hf : ∀ k r, fn k r < 2 ^ w) (hn : n <= 4 ^ w)
include hf hn
theorem yb {x : Nat} (hx : x < n) : ∃ K, 1 <= K /\ qV (ju w fn) K x = toN w n fn x /\ toN w n fn x < n /\ ∀ j, 1 <= j -> j < K -> ¬ qV (ju w fn) j x < n := by
 obtain ⟨K, h1, h2, h3, h4⟩ := QO (f := ju w fn) (b := vQ w fn) (fun x h => xM hf h) (fun x h => QN hf h) hx hn
 have e := JS (4 ^ w) K x h1 h2 h3 h4
 exact ⟨K, h1, e.symm, by unfold toN; rw [e]; exact h3, h4⟩
theorem yR {x : Nat} (hx : x < n) : ∃ K, 1 <= K /\ qV (vQ w fn) K x = JQ w n fn x /\ JQ w n fn x < n /\ ∀ j, 1 <= j -> j < K -> ¬ qV (vQ w fn) j x < n := by
 obtain ⟨K, h1, h2, h3, h4⟩ := QO (f := vQ w fn) (b := ju w fn) (fun x h => Vx hf h) (fun x h => QX hf h) hx hn
 have e := JS (4 ^ w) K x h1 h2 h3 h4
 exact ⟨K, h1, e.symm, by unfold JQ; rw [e]; exact h3, h4⟩
theorem qci {x : Nat} (hx : x < n) : toN w n fn (JQ w n fn x) = x := by
 obtain ⟨K, h1, h2, h3, h4⟩ := yR hf hn hx
 have hx4 : x < 4 ^ w := Nat.lt_of_lt_of_le hx hn
 have ib := QA (f := ju w fn) (b := vQ w fn) (fun x h => Vx hf h) (fun x h => QX hf h) hx4
 have hk : qV (ju w fn) K (JQ w n fn x) = x := by rw [<- h2]; exact ib K 0
 obtain ⟨M, m1, m2, m3, m4⟩ := yb hf hn h3
 have hM : M <= K := by
  rcases Nat.lt_or_ge K M with h | h
  ·exact absurd (by rw [hk]; exact hx) (m4 K h1 h)
  ·exact h
 rcases Nat.lt_or_ge M K with h | h
 ·exfalso
  exact Y94
 ·obtain rfl : M = K := by omega
  rw [<- m2]; exact hk
theorem YA {x : Nat} (hx : x < n) : JQ w n fn (toN w n fn x) = x := by
 obtain ⟨K, h1, h2, h3, h4⟩ := yb hf hn hx
 have hx4 : x < 4 ^ w := Nat.lt_of_lt_of_le hx hn
 have ib := QA (f := vQ w fn) (b := ju w fn) (fun x h => xM hf h) (fun x h => QN hf h) hx4
 have hk : qV (vQ w fn) K (toN w n fn x) = x := by rw [<- h2]; exact ib K 0
 obtain ⟨M, m1, m2, m3, m4⟩ := yR hf hn h3
 have hM : M <= K := by
  rcases Nat.lt_or_ge K M with h | h
  ·exact absurd (by rw [hk]; exact hx) (m4 K h1 h)
  ·exact h
 rcases Nat.lt_or_ge M K with h | h
 ·exfalso
  exact Y94
 ·obtain rfl : M = K := by omega
  rw [<- m2]; exact hk
theorem qbM {x y : Nat} (hx : x < n) (hy : y < n) (h : toN w n fn x = toN w n fn y) : x = y := by
 rw [<- YA hf hn hx, h, YA hf hn hy]
end
def zV : Nat -> Nat -> Nat -> Nat
 | 0, w, _ => w
 | k + 1, w, n => if 4 ^ w < n then zV k (w + 1) n else w
def jJ (n : Nat) : Nat := zV 10 1 n
end Go.Bl
namespace Go.Bl
open Go.RowKit
def KB (n : Nat) : Nat := if n = 0 then 8 else (8 - n % 8) % 8
def zu (xs : List UInt8) : List UInt8 := xs ++ List.replicate (KB xs.length) 0
theorem J2 (xs : List UInt8) : (zu xs).length = 8 * max ((xs.length + 7) / 8) 1 := by
 simp only [zu, KB, List.length_append, List.length_replicate]
 split <;> omega
def j7 : Nat -> List UInt8 -> List (List UInt8)
 | 0, _ => []
 | n + 1, l => l.take 8 :: j7 n (l.drop 8)
theorem jV : ∀ (n : Nat) (l : List UInt8), (j7 n l).length = n
 | 0, _ => rfl
 | n + 1, l => by simp [j7, jV n]
theorem vX : ∀ (n i : Nat) (l : List UInt8), i < n -> (j7 n l)[i]? = some ((l.drop (8 * i)).take 8)
 | 0, _, _, h => by omega
 | n + 1, 0, l, _ => by simp [j7]
 | n + 1, i + 1, l, h => by
  simp only [j7, List.getElem?_cons_succ]
  rw [vX n i _ Y95, List.drop_drop, show 8 + 8 * i = 8 * (i + 1) by omega]
theorem Ua (n : Nat) (l : List UInt8) (h : l.length = 8 * n) : ∀ x ∈ j7 n l, x.length = 8 := by
 intro x hx
 obtain ⟨i, hi, rfl⟩ := List.getElem_of_mem hx
 rw [jV] at hi
 have := vX n i l hi
 rw [List.getElem?_eq_getElem (by rw [jV]; exact hi)] at this
 rw [Option.some.inj this, List.length_take, List.length_drop]
 omega
def xE (data : List (List UInt8)) : List (List UInt8) := (List.range 32).map fun i => (List.range 8).map fun j => (zl (data.map fun b => b.getD j 0)).getD i 0
theorem Zg (data : List (List UInt8)) : (xE data).length = 32 := by simp [xE]
def qaF (data : List (List UInt8)) : List (List UInt8) := data ++ xE data
def zy : List (List UInt8) -> List Nat -> List (List UInt8)
 | _, [] => []
 | data, k :: sh => qaF (data.take k) ++ zy (data.drop k) sh
theorem yA (data : List (List UInt8)) : ∀ (sh : List Nat) (data : List (List UInt8)), sh.sum <= data.length -> (zy data sh).length = sh.sum + 32 * sh.length
 | [], data, h => by simp [zy]
 | k :: sh, data, h => by
  simp only [List.sum_cons] at h
  have hl : (data.take k).length = k := by rw [List.length_take]; omega
  simp only [zy, List.length_append, qaF, Zg, hl, List.sum_cons, List.length_cons]
  rw [yA data sh _ KP]
  omega
end Go.Bl
namespace Go.Bl
open Go.RowKit
def shN (n : Nat) : List Nat := if n <= 223 then [n] else [223, n - 223]
theorem yi (n : Nat) : (shN n).sum = n := by
 unfold shN
 split
 ·simp
 ·simp; omega
theorem Ub (n : Nat) : (shN n).length <= 2 := by unfold shN; split <;> simp
theorem qaK (n : Nat) (h1 : 1 <= n) (h2 : n <= 250) : ∀ k ∈ shN n, 1 <= k /\ k <= 223 := by
 unfold shN
 intro k hk
 split at hk
 ·simp at hk; omega
 ·simp at hk; omega
theorem Ja (sh : List Nat) (i : Nat) : (sh.take i).sum <= sh.sum := by
 conv => rhs; rw [<- List.take_append_drop i sh, List.sum_append]
 omega
def nB (n : Nat) : Nat := max ((n + 7) / 8) 1
def VT (xs : List UInt8) : List (List UInt8) := j7 (nB xs.length) (zu xs)
def jd (xs : List UInt8) : List (List UInt8) := zy (VT xs) (shN (nB xs.length))
theorem Kq (xs : List UInt8) : (VT xs).length = nB xs.length := jV _ _
theorem Xg (xs : List UInt8) : ∀ x ∈ VT xs, x.length = 8 := Ua _ _ (J2 xs)
end Go.Bl
namespace Go.Proofs.YtnafknkchbfpaaaGreatDoor
open Go.RowKit Go.Bl
set_option linter.unusedVariables false
def jT : List UInt8 := [109, 97, 115, 107]
def je : List UInt8 := [112, 108, 97, 99, 101]
def jw : List UInt8 := [115, 101, 110, 116, 105, 110, 101, 108]
def zi : List UInt8 := [116, 97, 103]
def Zw : List UInt8 := [115, 112, 111, 116]
def qv (m name : List UInt8) (n : Int) : List UInt8 := zm m (name ++ 0 :: beK 8 n)
theorem Zc (m name : List UInt8) (n : Int) : (qv m name n).length = 32 := rfl
def qz (m : List UInt8) (n : Int) : Nat := if m.length < 16 ∨ 64 < m.length then 9 else if n < 0 ∨ 1099511627776 < n then 1 else 0
theorem Wr (m : List UInt8) (n : Int) : qz m n <= 20 := by unfold qz; split <;> (try split) <;> decide
theorem J4 {m : List UInt8} {n : Int} (h : m.length < 16 ∨ 64 < m.length) : qz m n = 9 := by rw [qz, if_pos h]
theorem JE {m : List UInt8} {n : Int} (h : ¬ (m.length < 16 ∨ 64 < m.length)) (h2 : n < 0 ∨ 1099511627776 < n) : qz m n = 1 := by rw [qz, if_neg h, if_pos h2]
theorem Zs {m : List UInt8} {n : Int} (h : ¬ (m.length < 16 ∨ 64 < m.length)) (h2 : ¬ (n < 0 ∨ 1099511627776 < n)) : qz m n = 0 := by rw [qz, if_neg h, if_neg h2]
def zT (key : List UInt8) (i : Int) : List UInt8 := xm key (beK 8 i)
theorem xQ (key : List UInt8) (i : Int) : (zT key i).length = 8 := rfl
def zt (key : List UInt8) (i : Int) (b : List UInt8) : List UInt8 := (b.zip (zT key i)).map fun x => x.1 ^^^ x.2
theorem yj (key : List UInt8) (i : Int) (b : List UInt8) (h : b.length = 8) : (zt key i b).length = 8 := by
 rw [zt, List.length_map, List.length_zip, h, xQ]; rfl
def fnS (key : List UInt8) (w k r : Nat) : Nat := uH (xm key (b8 (k : Int) :: beK 8 (r : Int))) % 2 ^ w
theorem zW (key : List UInt8) (w k r : Nat) : fnS key w k r < 2 ^ w := Nat.mod_lt _ (Nat.two_pow_pos w)
theorem VL : ∀ (k w n : Nat), n <= 4 ^ (w + k) -> n <= 4 ^ zV k w n
 | 0, w, n, h => h
 | k + 1, w, n, h => by
  rw [zV]
  split
  ·exact VL k (w + 1) n (by rw [show w + 1 + k = w + (k + 1) by omega]; exact h)
  ·omega
theorem UP : ∀ (k w n : Nat), w <= zV k w n /\ zV k w n <= w + k
 | 0, w, n => ⟨Nat.le_refl _, Nat.le_refl _⟩
 | k + 1, w, n => by
  rw [zV]
  split
  ·have := UP k (w + 1) n
   omega
  ·omega
theorem uZ (n : Nat) (h : n <= 4194304) : n <= 4 ^ jJ n := VL 10 1 n (Nat.le_trans h qe)
theorem LB (n : Nat) : 1 <= jJ n /\ jJ n <= 11 := UP 10 1 n
theorem J8 {k w n : Nat} (h : 4 ^ w < n) : zV (k + 1) w n = zV k (w + 1) n := by rw [zV, if_pos h]
theorem Zk {k w n : Nat} (h : ¬ 4 ^ w < n) : zV k w n = w := by
 cases k with
 | zero => rfl
 | succ k => rw [zV, if_neg h]
def jU (key : List UInt8) (n i : Nat) : Nat := toN (jJ n) n (fnS key (jJ n)) i
def qdv (key : List UInt8) (n i : Nat) : Nat := JQ (jJ n) n (fnS key (jJ n)) i
section
variable {key : List UInt8} {n : Nat} (hn : n <= 4194304)
include hn
theorem yp {i : Nat} (h : i < n) : jU key n i < n := by
 obtain ⟨K, h1, h2, h3, h4⟩ := yb (zW key (jJ n)) (uZ n hn) h
 exact h3
theorem qcd {i : Nat} (h : i < n) : qdv key n i < n := by
 obtain ⟨K, h1, h2, h3, h4⟩ := yR (zW key (jJ n)) (uZ n hn) h
 exact h3
theorem VC {i : Nat} (h : i < n) : jU key n (qdv key n i) = i := qci (zW key (jJ n)) (uZ n hn) h
theorem XP {i j : Nat} (hi : i < n) (hj : j < n) (h : jU key n i = jU key n j) : i = j := qbM (zW key (jJ n)) (uZ n hn) hi hj h
end
def zk (key : List UInt8) (place : Int) (b : List UInt8) : List UInt8 := b ++ xm key (beK 8 place ++ b)
theorem UU (key : List UInt8) (place : Int) (b : List UInt8) : (zk key place b).length = b.length + 8 := by rw [zk, List.length_append, JO]
def zO (P : Nat -> Nat) (T : Nat -> List UInt8 -> List UInt8) (bs : List (List UInt8)) : Nat -> List (List UInt8)
 | 0 => List.replicate bs.length []
 | k + 1 => (zO P T bs k).set (P k) (T (P k) (bs.getD k []))
theorem yk (P : Nat -> Nat) (T : Nat -> List UInt8 -> List UInt8) (bs : List (List UInt8)) : ∀ k, (zO P T bs k).length = bs.length
 | 0 => List.length_replicate
 | k + 1 => by rw [zO, List.length_set, yk P T bs k]
theorem ZE {P : Nat -> Nat} {T : Nat -> List UInt8 -> List UInt8} {bs : List (List UInt8)} (hP : ∀ i, i < bs.length -> P i < bs.length) (hi : ∀ i j, i < bs.length -> j < bs.length -> P i = P j -> i = j) :
  ∀ (k : Nat), k <= bs.length -> ∀ i, i < k -> (zO P T bs k)[P i]? = some (T (P i) (bs.getD i []))
 | 0, _, i, h => by omega
 | k + 1, hk, i, h => by
  rw [zO]
  by_cases e : i = k
  ·subst e
   rw [List.getElem?_set_self (by rw [yk]; exact hP i Y95)]
  ·rw [List.getElem?_set_ne (fun h2 => e (hi _ _ Y95 Y95 h2.symm))]
   exact ZE hP hi k Y95 i Y95
def Jf (kM kS : List UInt8) (bs : List (List UInt8)) (s : Nat) : List (List UInt8) :=
 (bs.mapIdx fun i b => zt kM (i : Int) b) ++ (List.range s).map fun j => zT kS ((j : Nat) : Int)
theorem ya (kM kS : List UInt8) (bs : List (List UInt8)) (s : Nat) : (Jf kM kS bs s).length = bs.length + s := by simp [Jf]
def vf (m : List UInt8) (n : Int) (xs : List UInt8) (s : Nat) : List (List UInt8) :=
 let all := Jf (qv m jT n) (qv m jw n) (jd xs) s
 zO (jU (qv m je n) all.length) (fun p b => zk (qv m zi n) (p : Int) b) all all.length
end Go.Proofs.YtnafknkchbfpaaaGreatDoor
