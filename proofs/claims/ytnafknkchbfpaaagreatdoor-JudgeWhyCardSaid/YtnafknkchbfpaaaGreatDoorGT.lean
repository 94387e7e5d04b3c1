import Derived.Test.YtnafknkchbfpaaaGreatDoorGK
import Derived.Test.YtnafknkchbfpaaaGreatDoorGP
import Derived.Deep.OwnRows
import Derived.Laws.CopyOwn
set_option linter.unusedVariables false
set_option linter.unusedSimpArgs false
namespace Go.Bl
def qfg (l : List UInt8) : Nat := l.foldl (fun n c => n * 256 + c.toNat) 0
end Go.Bl
namespace Go.Bl
open Go.RowKit
def Zu (key : List UInt8) : List UInt8 := if 64 < key.length then qw key else key
theorem Xy (key : List UInt8) : (Zu key).length <= 64 := by
 unfold Zu
 split
 ·rw [jO]; decide
 ·omega
def xW (key : List UInt8) : List UInt8 := Zu key ++ List.replicate (64 - (Zu key).length) 0
theorem Zq (key : List UInt8) : (xW key).length = 64 := by
 have := Xy key
 rw [xW, List.length_append, List.length_replicate]
 omega
def uU (key : List UInt8) : List UInt8 := (xW key).map (· ^^^ 54)
def uY (key : List UInt8) : List UInt8 := (xW key).map (· ^^^ 92)
theorem Zp (key : List UInt8) : (uU key).length = 64 := by rw [uU, List.length_map, Zq]
theorem Z7 (key : List UInt8) : (uY key).length = 64 := by rw [uY, List.length_map, Zq]
def vN (key m : List UInt8) : List UInt8 := qw (uY key ++ qw (uU key ++ m))
theorem zo (key m : List UInt8) : (vN key m).length = 32 := rfl
def xh (key m : List UInt8) : List UInt8 := (vN key m).take 8
theorem vV (key m : List UInt8) : (xh key m).length = 8 := rfl
end Go.Bl
namespace Go.Bl
open Go.RowKit
abbrev Dg := List UInt8
def jr (b : List UInt8) : Dg := qw (0 :: b)
def vT (a b : Dg) : Dg := qw (1 :: (a ++ b))
theorem yr (b : List UInt8) : (jr b).length = 32 := rfl
theorem Vb (a b : Dg) : (vT a b).length = 32 := rfl
def qg (n : Nat) : Nat := if h : n <= 2 then 1 else 2 * qg ((n + 1) / 2)
termination_by n
decreasing_by omega
theorem Ql {n : Nat} (h : n <= 2) : qg n = 1 := by rw [qg, dif_pos h]
theorem U3 {n : Nat} (h : 2 < n) : qg n = 2 * qg ((n + 1) / 2) := by rw [qg, dif_neg Y44]
theorem jf : ∀ (n : Nat), 2 <= n -> qg n < n /\ n <= 2 * qg n /\ 1 <= qg n
 | n, h => by
  by_cases h2 : n <= 2
  ·obtain rfl : n = 2 := by omega
   rw [Ql Y44]
   omega
  ·have := jf ((n + 1) / 2) Y44
   rw [U3 Y44]
   omega
termination_by n => n
decreasing_by omega
theorem Qz : ∀ (n : Nat), 2 <= n -> ∃ k, qg n = 2 ^ k
 | n, h => by
  by_cases h2 : n <= 2
  ·exact ⟨0, by rw [Ql h2, Nat.pow_zero]⟩
  ·obtain ⟨k, hk⟩ := Qz ((n + 1) / 2) Y44
   exact ⟨k + 1, by rw [U3 Y44, hk, Nat.pow_succ]; omega⟩
termination_by n => n
decreasing_by omega
def jp (n i : Nat) : List (Bool × Nat × Nat) :=
 if h : n <= 1 then [] else
  if i < qg n then (true, qg n, i) :: jp (qg n) i else (false, n - qg n, i - qg n) :: jp (n - qg n) (i - qg n)
termination_by n
decreasing_by
 ·have := jf n Y44; omega
 ·have := jf n Y44; omega
theorem vh {n i : Nat} (h : n <= 1) : jp n i = [] := by rw [jp, dif_pos h]
theorem ul {n i : Nat} (h : 2 <= n) (hi : i < qg n) : jp n i = (true, qg n, i) :: jp (qg n) i := by rw [jp, dif_neg Y44, if_pos hi]
theorem zG {n i : Nat} (h : 2 <= n) (hi : ¬ i < qg n) : jp n i = (false, n - qg n, i - qg n) :: jp (n - qg n) (i - qg n) := by rw [jp, dif_neg Y44, if_neg hi]
def qT (n i : Nat) : Nat := (jp n i).length
def uB : List (Bool × Nat × Nat) -> Dg -> List Dg -> Dg
 | [], d, _ => d
 | _ :: _, d, [] => d
 | t :: r, d, p :: q => uB r (if t.1 then vT d p else vT p d) q
theorem vI : ∀ (ts : List (Bool × Nat × Nat)) (t : Bool × Nat × Nat) (d p : Dg) (q : List Dg), ts.length = q.length -> uB (ts ++ [t]) d (q ++ [p]) = if t.1 then vT (uB ts d q) p else vT p (uB ts d q)
 | [], t, d, p, [], _ => rfl
 | x :: r, t, d, p, y :: q, h => by
  simp only [List.cons_append, uB]
  exact vI r t _ p q Y60
 | [], _, _, _, _ :: _, h => by simp at h
 | _ :: _, _, _, _, [], h => by simp at h
def jR (n i : Nat) (d : Dg) (p : List Dg) : Dg := uB (jp n i).reverse d p
end Go.Bl
namespace Go.Proofs.YtnafknkchbfpaaaGreatDoor
open Go.RowKit Go.Bl
def b8 (n : Int) : UInt8 := UInt8.ofNat (n % 256).toNat
theorem QR (n : Int) : (IntKind.u8.wrap n) = ((b8 n).toNat : Int) := by
 have h : (b8 n).toNat = (n % 256).toNat := by
  unfold b8
  rw [UInt8.toNat_ofNat']
  omega
 rw [h]
 have : IntKind.u8.wrap n = n % 256 := by
  simp [IntKind.wrap, IntKind.signed, IntKind.bits]
 rw [this]
 omega
theorem Kh (n : Int) : ((b8 n).toNat : Int) = n % 256 := by
 rw [<- QR]
 simp [IntKind.wrap, IntKind.signed, IntKind.bits]
def beK (k : Nat) (n : Int) : List UInt8 := (List.range k).map fun m => b8 (n / (256 ^ (k - 1 - m) : Nat))
theorem beK_len (k : Nat) (n : Int) : (beK k n).length = k := by simp [beK]
theorem LC (n : Int) (e : Nat) (he : e <= 7) : (n % 18446744073709551616 / (256 ^ e : Nat)) % 256 = (n / (256 ^ e : Nat)) % 256 := by
 have : e = 0 ∨ e = 1 ∨ e = 2 ∨ e = 3 ∨ e = 4 ∨ e = 5 ∨ e = 6 ∨ e = 7 := by omega
 rcases this with rfl | rfl | rfl | rfl | rfl | rfl | rfl | rfl <;> omega
theorem X2 (X : Int) (e : Nat) : X / (256 ^ e : Nat) / 256 = X / (256 ^ (e + 1) : Nat) := by
 rw [Int.ediv_ediv_of_nonneg (by exact Int.natCast_nonneg _), Nat.pow_succ]
 congr 1
end Go.Proofs.YtnafknkchbfpaaaGreatDoor
namespace Go.Bl
open Go.RowKit
def zj (fn : Nat -> Nat -> Nat) : Nat -> Nat × Nat -> Nat × Nat
 | 0, p => p
 | k + 1, p => ((zj fn k p).2, (zj fn k p).1 ^^^ fn k (zj fn k p).2)
def qc8 (fn : Nat -> Nat -> Nat) : Nat -> Nat × Nat -> Nat × Nat
 | 0, p => p
 | k + 1, p => qc8 fn k (p.2 ^^^ fn k p.1, p.1)
theorem XI (a b : Nat) : a ^^^ b ^^^ b = a := by rw [Nat.xor_assoc, Nat.xor_self, Nat.xor_zero]
theorem qdh (fn : Nat -> Nat -> Nat) : ∀ (k : Nat) (p : Nat × Nat), qc8 fn k (zj fn k p) = p
 | 0, p => rfl
 | k + 1, p => by
  simp only [zj, qc8, XI]
  exact qdh fn k p
theorem QU {fn : Nat -> Nat -> Nat} {w : Nat} (hf : ∀ k r, fn k r < 2 ^ w) : ∀ (k : Nat) (p : Nat × Nat), p.1 < 2 ^ w -> p.2 < 2 ^ w -> (zj fn k p).1 < 2 ^ w /\ (zj fn k p).2 < 2 ^ w
 | 0, p, h1, h2 => ⟨h1, h2⟩
 | k + 1, p, h1, h2 => by
  obtain ⟨a, b⟩ := QU hf k p h1 h2
  exact ⟨b, Nat.xor_lt_two_pow a (hf _ _)⟩
def zm (w : Nat) (fn : Nat -> Nat -> Nat) (x : Nat) : Nat := (zj fn 4 (x / 2 ^ w, x % 2 ^ w)).1 * 2 ^ w + (zj fn 4 (x / 2 ^ w, x % 2 ^ w)).2
def qb8 (w : Nat) (fn : Nat -> Nat -> Nat) (x : Nat) : Nat := (qc8 fn 4 (x / 2 ^ w, x % 2 ^ w)).1 * 2 ^ w + (qc8 fn 4 (x / 2 ^ w, x % 2 ^ w)).2
theorem yT {w x : Nat} (h : x < 4 ^ w) : x / 2 ^ w < 2 ^ w /\ x % 2 ^ w < 2 ^ w := by
 have e : (4 : Nat) ^ w = 2 ^ w * 2 ^ w := by rw [show (4 : Nat) = 2 * 2 from rfl, Nat.mul_pow]
 refine ⟨Nat.div_lt_of_lt_mul (by rwa [<- e]), Nat.mod_lt _ (Nat.two_pow_pos w)⟩
theorem qea {w a b : Nat} (ha : a < 2 ^ w) (hb : b < 2 ^ w) : a * 2 ^ w + b < 4 ^ w := by
 have e : (4 : Nat) ^ w = 2 ^ w * 2 ^ w := by rw [show (4 : Nat) = 2 * 2 from rfl, Nat.mul_pow]
 rw [e]
 calc a * 2 ^ w + b < a * 2 ^ w + 2 ^ w := by omega
  _ = (a + 1) * 2 ^ w := by rw [Nat.add_mul, Nat.one_mul]
  _ <= 2 ^ w * 2 ^ w := Nat.mul_le_mul_right _ ha
theorem qcu {w a b : Nat} (hb : b < 2 ^ w) : (a * 2 ^ w + b) / 2 ^ w = a /\ (a * 2 ^ w + b) % 2 ^ w = b := by
 have hp := Nat.two_pow_pos w
 rw [Nat.mul_comm a, Nat.mul_add_div hp, Nat.mul_add_mod, Nat.div_eq_of_lt hb, Nat.mod_eq_of_lt hb]
 exact ⟨rfl, rfl⟩
theorem qbo (w x : Nat) : x / 2 ^ w * 2 ^ w + x % 2 ^ w = x := by rw [Nat.mul_comm]; exact Nat.div_add_mod x (2 ^ w)
section
variable {w : Nat} {fn : Nat -> Nat -> Nat} (hf : ∀ k r, fn k r < 2 ^ w)
include hf
theorem Zt {x : Nat} (h : x < 4 ^ w) : zm w fn x < 4 ^ w := by
 obtain ⟨h1, h2⟩ := yT h
 obtain ⟨a, b⟩ := QU hf 4 (x / 2 ^ w, x % 2 ^ w) h1 h2
 exact qea a b
theorem Yb {x : Nat} (h : x < 4 ^ w) : qb8 w fn (zm w fn x) = x := by
 obtain ⟨h1, h2⟩ := yT h
 obtain ⟨a, b⟩ := QU hf 4 (x / 2 ^ w, x % 2 ^ w) h1 h2
 obtain ⟨j1, j2⟩ := qcu (a := (zj fn 4 (x / 2 ^ w, x % 2 ^ w)).1) b
 unfold qb8 zm
 rw [j1, j2, show ((zj fn 4 (x / 2 ^ w, x % 2 ^ w)).1, (zj fn 4 (x / 2 ^ w, x % 2 ^ w)).2) = zj fn 4 (x / 2 ^ w, x % 2 ^ w) from rfl, qdh]
 exact qbo w x
end
def je (f : Nat -> Nat) : Nat -> Nat -> Nat
 | 0, x => x
 | k + 1, x => f (je f k x)
theorem xj (f : Nat -> Nat) : ∀ (k x : Nat), je f (k + 1) x = je f k (f x)
 | 0, x => rfl
 | k + 1, x => by
  show f (je f (k + 1) x) = f (je f k (f x))
  rw [xj f k x]
theorem qdo : ∀ (N : Nat) (g : Nat -> Nat), (∀ i, i <= N -> g i < N) -> ∃ i j, i < j /\ j <= N /\ g i = g j
 | 0, g, h => absurd (h 0 (Nat.le_refl _)) Y44
 | N + 1, g, h => by
  by_cases hex : ∃ i, i < N + 1 /\ g i = g (N + 1)
  ·obtain ⟨i, hi, e⟩ := hex
   exact ⟨i, N + 1, hi, Nat.le_refl _, e⟩
  ·have hne : ∀ i, i <= N -> g i ≠ g (N + 1) := fun i hi e => hex ⟨i, by omega, e⟩
   have hl := h (N + 1) (Nat.le_refl _)
   obtain ⟨i, j, hij, hj, e⟩ := qdo N (fun i => if g i < g (N + 1) then g i else g i - 1) (fun i hi => by
    have h1 := h i Y44
    have h2 := hne i hi
    show (if g i < g (N + 1) then g i else g i - 1) < N
    split <;> omega)
   refine ⟨i, j, hij, by omega, ?_⟩
   have h1 := hne i Y44
   have h2 := hne j Y44
   replace e : (if g i < g (N + 1) then g i else g i - 1) = if g j < g (N + 1) then g j else g j - 1 := e
   split at e <;> split at e <;> omega
theorem qfS {N : Nat} {f b : Nat -> Nat} (hf : ∀ x, x < N -> f x < N) (hb : ∀ x, x < N -> b (f x) = x) {x : Nat} (hx : x < N) : ∃ p, 1 <= p /\ p <= N /\ je f p x = x := by
 have hlt : ∀ k, je f k x < N := fun k => by
  induction k with
  | zero => exact hx
  | succ k ih => exact hf _ ih
 obtain ⟨i, j, hij, hj, e⟩ := qdo N (fun k => je f k x) (fun k _ => hlt k)
 have key : ∀ i d, je f i x = je f (i + d) x -> x = je f d x := by
  intro i
  induction i with
  | zero => intro d h; rw [Nat.zero_add] at h; exact h
  | succ i ih =>
   intro d h
   refine ih d ?_
   have h1 : f (je f i x) = f (je f (i + d) x) := by rw [show i + 1 + d = (i + d) + 1 by omega] at h; exact h
   rw [<- hb _ (hlt i), <- hb _ (hlt (i + d)), h1]
 refine ⟨j - i, by omega, by omega, (key i (j - i) ?_).symm⟩
 rw [show i + (j - i) = j by omega]
 exact e
theorem YR {N n : Nat} {f b : Nat -> Nat} (hf : ∀ x, x < N -> f x < N) (hb : ∀ x, x < N -> b (f x) = x) {x : Nat} (hx : x < n) (hn : n <= N) :
  ∃ K, 1 <= K /\ K <= N /\ je f K x < n /\ ∀ j, 1 <= j -> j < K -> ¬ je f j x < n := by
 obtain ⟨p, h1, h2, h3⟩ := qfS hf hb (Nat.lt_of_lt_of_le hx hn)
 have hp : je f p x < n := by rw [h3]; exact hx
 have key : ∀ m k, 1 <= k -> k <= p -> je f k x < n -> k <= m -> ∃ K, 1 <= K /\ K <= p /\ je f K x < n /\ ∀ j, 1 <= j -> j < K -> ¬ je f j x < n := by
  intro m
  induction m with
  | zero => intro k a _ _ d; omega
  | succ m ih =>
   intro k a b c d
   by_cases hex : ∃ j, 1 <= j /\ j < k /\ je f j x < n
   ·obtain ⟨j, j1, j2, j3⟩ := hex
    exact ih j j1 Y44 j3 Y44
   ·exact ⟨k, a, b, c, fun j j1 j2 j3 => hex ⟨j, j1, j2, j3⟩⟩
 obtain ⟨K, k1, k2, k3, k4⟩ := key p p h1 (Nat.le_refl _) hp (Nat.le_refl _)
 exact ⟨K, k1, by omega, k3, k4⟩
def L1 (f : Nat -> Nat) (n : Nat) : Nat -> Nat -> Nat
 | 0, x => x
 | k + 1, x => if f x < n then f x else L1 f n k (f x)
theorem We {f : Nat -> Nat} {n : Nat} : ∀ (k K x : Nat), 1 <= K -> K <= k -> je f K x < n -> (∀ j, 1 <= j -> j < K -> ¬ je f j x < n) -> L1 f n k x = je f K x
 | 0, K, x, h1, h2, _, _ => by omega
 | k + 1, K, x, h1, h2, h3, h4 => by
  rw [L1]
  by_cases hK : K = 1
  ·subst hK
   rw [if_pos (show f x < n from h3)]
   rfl
  ·rw [if_neg (show ¬ f x < n from h4 1 Y44 Y44), We k (K - 1) (f x) Y44 Y44 ?_ ?_, <- xj, show K - 1 + 1 = K by omega]
   ·rw [<- xj, show K - 1 + 1 = K by omega]; exact h3
   ·intro j j1 j2
    rw [<- xj]
    exact h4 (j + 1) Y44 Y44
def toN (w n : Nat) (fn : Nat -> Nat -> Nat) (x : Nat) : Nat := L1 (zm w fn) n (4 ^ w) x
theorem VV {w : Nat} {f : Nat -> Nat} (h : ∀ x, x < 4 ^ w -> f x < 4 ^ w) {x : Nat} (hx : x < 4 ^ w) : ∀ k, je f k x < 4 ^ w
 | 0 => hx
 | k + 1 => h _ (VV h hx k)
section
variable {w n : Nat} {fn : Nat -> Nat -> Nat} (hf : ∀ k r, fn k r < 2 ^ w) (hn : n <= 4 ^ w)
include hf hn
theorem ZM {x : Nat} (hx : x < n) : ∃ K, 1 <= K /\ je (zm w fn) K x = toN w n fn x /\ toN w n fn x < n /\ ∀ j, 1 <= j -> j < K -> ¬ je (zm w fn) j x < n := by
 obtain ⟨K, h1, h2, h3, h4⟩ := YR (f := zm w fn) (b := qb8 w fn) (fun x h => Zt hf h) (fun x h => Yb hf h) hx hn
 have e := We (4 ^ w) K x h1 h2 h3 h4
 exact ⟨K, h1, e.symm, by unfold toN; rw [e]; exact h3, h4⟩
end
def ur : Nat -> Nat -> Nat -> Nat
 | 0, w, _ => w
 | k + 1, w, n => if 4 ^ w < n then ur k (w + 1) n else w
def jd (n : Nat) : Nat := ur 10 1 n
end Go.Bl
namespace Go.Bl
open Go.RowKit
end Go.Bl
namespace Go.Bl
open Go.RowKit
end Go.Bl
namespace Go.Proofs.YtnafknkchbfpaaaGreatDoor
open Go.RowKit Go.Bl
def jU : List UInt8 := [109, 97, 115, 107]
def qx : List UInt8 := [112, 108, 97, 99, 101]
def qV : List UInt8 := [115, 101, 110, 116, 105, 110, 101, 108]
def jI : List UInt8 := [116, 97, 103]
def jw : List UInt8 := [115, 112, 111, 116]
def qi (m name : List UInt8) (n : Int) : List UInt8 := vN m (name ++ 0 :: beK 8 n)
theorem Jg (m name : List UInt8) (n : Int) : (qi m name n).length = 32 := rfl
def qc (m : List UInt8) (n : Int) : Nat := if m.length < 16 ∨ 64 < m.length then 9 else if n < 0 ∨ 1099511627776 < n then 1 else 0
theorem yB (m : List UInt8) (n : Int) : qc m n <= 20 := by unfold qc; split <;> (try split) <;> decide
theorem keyBad_zero {m : List UInt8} {n : Int} (h : qc m n = 0) : 16 <= m.length /\ m.length <= 64 /\ 0 <= n /\ n <= 1099511627776 := by
 unfold qc at h
 split at h
 ·cases h
 ·split at h
  ·cases h
  ·omega
theorem xr {m : List UInt8} {n : Int} (h : m.length < 16 ∨ 64 < m.length) : qc m n = 9 := by rw [qc, if_pos h]
theorem xq {m : List UInt8} {n : Int} (h : ¬ (m.length < 16 ∨ 64 < m.length)) (h2 : n < 0 ∨ 1099511627776 < n) : qc m n = 1 := by rw [qc, if_neg h, if_pos h2]
theorem JD {m : List UInt8} {n : Int} (h : ¬ (m.length < 16 ∨ 64 < m.length)) (h2 : ¬ (n < 0 ∨ 1099511627776 < n)) : qc m n = 0 := by rw [qc, if_neg h, if_neg h2]
def jD (key : List UInt8) (i : Int) : List UInt8 := xh key (beK 8 i)
theorem strL_len (key : List UInt8) (i : Int) : (jD key i).length = 8 := rfl
def fnS (key : List UInt8) (w k r : Nat) : Nat := qfg (xh key (b8 (k : Int) :: beK 8 (r : Int))) % 2 ^ w
theorem vO (key : List UInt8) (w k r : Nat) : fnS key w k r < 2 ^ w := Nat.mod_lt _ (Nat.two_pow_pos w)
theorem Yw : ∀ (k w n : Nat), n <= 4 ^ (w + k) -> n <= 4 ^ ur k w n
 | 0, w, n, h => h
 | k + 1, w, n, h => by
  rw [ur]
  split
  ·exact Yw k (w + 1) n (by rw [show w + 1 + k = w + (k + 1) by omega]; exact h)
  ·omega
theorem Yy : ∀ (k w n : Nat), w <= ur k w n /\ ur k w n <= w + k
 | 0, w, n => ⟨Nat.le_refl _, Nat.le_refl _⟩
 | k + 1, w, n => by
  rw [ur]
  split
  ·have := Yy k (w + 1) n
   omega
  ·omega
theorem uo (n : Nat) (h : n <= 4194304) : n <= 4 ^ jd n := Yw 10 1 n (Nat.le_trans h Y76)
theorem xZ (n : Nat) : 1 <= jd n /\ jd n <= 11 := Yy 10 1 n
theorem vp {k w n : Nat} (h : 4 ^ w < n) : ur (k + 1) w n = ur k (w + 1) n := by rw [ur, if_pos h]
theorem uV {k w n : Nat} (h : ¬ 4 ^ w < n) : ur k w n = w := by
 cases k with
 | zero => rfl
 | succ k => rw [ur, if_neg h]
def qH (key : List UInt8) (n i : Nat) : Nat := toN (jd n) n (fnS key (jd n)) i
section
variable {key : List UInt8} {n : Nat} (hn : n <= 4194304)
include hn
theorem vQ {i : Nat} (h : i < n) : qH key n i < n := by
 obtain ⟨K, h1, h2, h3, h4⟩ := ZM (vO key (jd n)) (uo n hn) h
 exact h3
end
def vo (key : List UInt8) (place : Int) (b : List UInt8) : List UInt8 := b ++ xh key (beK 8 place ++ b)
theorem tgdL_len (key : List UInt8) (place : Int) (b : List UInt8) : (vo key place b).length = b.length + 8 := by rw [vo, List.length_append, vV]
end Go.Proofs.YtnafknkchbfpaaaGreatDoor
