import Derived.Test.YtnafknkchbfpaaaGreatDoorGK
import Derived.Test.YtnafknkchbfpaaaGreatDoorGP
import Derived.Deep.OwnRows
import Derived.Laws.CopyOwn
set_option linter.unusedVariables false
set_option linter.unusedSimpArgs false
namespace Go.Bl
def xy (l : List UInt8) : Nat := l.foldl (fun n c => n * 256 + c.toNat) 0
theorem UE (l : List UInt8) (c : UInt8) : xy (l ++ [c]) = xy l * 256 + c.toNat := by simp [xy]
theorem Vd : ∀ (n : Nat) (l : List UInt8), l.length = n -> xy l < 256 ^ n
 | 0, l, h => by
  have : l = [] := List.eq_nil_of_length_eq_zero h
  subst this; simp [xy]
 | n + 1, l, h => by
  have hne : l ≠ [] := fun e => by subst e; simp at h
  rw [<- List.dropLast_concat_getLast hne, UE]
  have := Vd n l.dropLast (by simp [h])
  have hc := (l.getLast hne).toNat_lt
  rw [Nat.pow_succ]
  omega
theorem Zo (l : List UInt8) (j : Nat) (h : j < l.length) : xy (l.take (j + 1)) = xy (l.take j) * 256 + l[j].toNat := by
 rw [List.take_succ_eq_append_getElem h, UE]
theorem JN (a b : Nat) (ha : a < 18446744073709551616) (hb : b < 18446744073709551616) :
  bits .or .u64 (a : Int) (b : Int) = ((a ||| b : Nat) : Int) := by
 have hx : a ||| b < 2 ^ 64 := Nat.or_lt_two_pow Y66 Y66
 have h1 : (BitVec.ofInt 64 (a : Int)).toNat = a := by
  exact Y55
 have h2 : (BitVec.ofInt 64 (b : Int)).toNat = b := by
  exact Y55
 show IntKind.u64.wrap ((BitVec.ofInt 64 (a : Int) ||| BitVec.ofInt 64 (b : Int)).toNat : Int) = _
 rw [BitVec.toNat_or, h1, h2, IntKind.wrap_u64]
 omega
theorem qet (x c : Nat) (hc : c < 256) : x * 256 ||| c = x * 256 + c := by
 have := Nat.two_pow_add_eq_or_of_lt (i := 8) (b := c) (by simpa using hc) x
 rw [Nat.mul_comm x 256]
 simpa using this.symm
theorem qec (x c : Nat) (hx : x < 72057594037927936) (hc : c < 256) :
  bits .or .u64 (IntKind.u64.wrap ((x : Int) * 256)) (c : Int) = ((x * 256 + c : Nat) : Int) := by
 have e : IntKind.u64.wrap ((x : Int) * 256) = ((x * 256 : Nat) : Int) := by rw [IntKind.wrap_u64]; omega
 rw [e, JN _ _ Y66 Y66, qet x c hc]
theorem qa9 (l : List UInt8) (j : Nat) (hj : j < l.length) (h8 : j < 8) :
  bits .or .u64 (IntKind.u64.wrap ((xy (l.take j) : Nat) * 256)) (IntKind.u64.wrap ((l[j]?.getD 0).toNat : Int)) = ((xy (l.take (j + 1)) : Nat) : Int) := by
 have h1 := Vd j (l.take j) Y69
 have h2 : 256 ^ j <= 256 ^ 7 := Nat.pow_le_pow_right qa Y66
 have h3 : (256 : Nat) ^ 7 = 72057594037927936 := by decide
 have hb := (l[j]).toNat_lt
 have e : l[j]?.getD 0 = l[j] := by simp [hj]
 have e2 : IntKind.u64.wrap ((l[j]).toNat : Int) = ((l[j]).toNat : Int) := by rw [IntKind.wrap_u64]; omega
 rw [e, e2, qec _ _ Y66 Y66, Zo l j hj]
end Go.Bl
namespace Go.Bl
open Go.RowKit
def ZG (key : List UInt8) : List UInt8 := if 64 < key.length then qH key else key
theorem Xp (key : List UInt8) : (ZG key).length <= 64 := by
 unfold ZG
 split
 ·rw [vo]; decide
 ·omega
def xV (key : List UInt8) : List UInt8 := ZG key ++ List.replicate (64 - (ZG key).length) 0
theorem Zu (key : List UInt8) : (xV key).length = 64 := by
 have := Xp key
 rw [xV, List.length_append, List.length_replicate]
 omega
def vg (key : List UInt8) : List UInt8 := (xV key).map (· ^^^ 54)
def vj (key : List UInt8) : List UInt8 := (xV key).map (· ^^^ 92)
theorem ZM (key : List UInt8) : (vg key).length = 64 := by rw [vg, List.length_map, Zu]
theorem ZS (key : List UInt8) : (vj key).length = 64 := by rw [vj, List.length_map, Zu]
def jO (key m : List UInt8) : List UInt8 := qH (vj key ++ qH (vg key ++ m))
theorem ut (key m : List UInt8) : (jO key m).length = 32 := rfl
def uV (key m : List UInt8) : List UInt8 := (jO key m).take 8
theorem xF (key m : List UInt8) : (uV key m).length = 8 := rfl
end Go.Bl
namespace Go.Proofs.YtnafknkchbfpaaaGreatDoor
open Go.RowKit Go.Bl
end Go.Proofs.YtnafknkchbfpaaaGreatDoor
namespace Go.Bl
open Go.RowKit
abbrev Dg := List UInt8
def qeZ (b : List UInt8) : Dg := qH (0 :: b)
def qdP (a b : Dg) : Dg := qH (1 :: (a ++ b))
def qcs : List (Bool × Nat × Nat) -> Dg -> List Dg -> Dg
 | [], d, _ => d
 | _ :: _, d, [] => d
 | t :: r, d, p :: q => qcs r (if t.1 then qdP d p else qdP p d) q
end Go.Bl
namespace Go.Proofs.YtnafknkchbfpaaaGreatDoor
open Go.RowKit Go.Bl
def b8 (n : Int) : UInt8 := UInt8.ofNat (n % 256).toNat
theorem JT (n : Int) : (IntKind.u8.wrap n) = ((b8 n).toNat : Int) := by
 have h : (b8 n).toNat = (n % 256).toNat := by
  unfold b8
  rw [UInt8.toNat_ofNat']
  omega
 rw [h]
 have : IntKind.u8.wrap n = n % 256 := by
  simp [IntKind.wrap, IntKind.signed, IntKind.bits]
 rw [this]
 omega
theorem Wg (n : Int) : ((b8 n).toNat : Int) = n % 256 := by
 rw [<- JT]
 simp [IntKind.wrap, IntKind.signed, IntKind.bits]
def beK (k : Nat) (n : Int) : List UInt8 := (List.range k).map fun m => b8 (n / (256 ^ (k - 1 - m) : Nat))
theorem zN (k : Nat) (n : Int) : (beK k n).length = k := by simp [beK]
theorem KE (n : Int) (e : Nat) (he : e <= 7) : (n % 18446744073709551616 / (256 ^ e : Nat)) % 256 = (n / (256 ^ e : Nat)) % 256 := by
 have : e = 0 ∨ e = 1 ∨ e = 2 ∨ e = 3 ∨ e = 4 ∨ e = 5 ∨ e = 6 ∨ e = 7 := by omega
 rcases this with rfl | rfl | rfl | rfl | rfl | rfl | rfl | rfl <;> omega
theorem XC (X : Int) (e : Nat) : X / (256 ^ e : Nat) / 256 = X / (256 ^ (e + 1) : Nat) := by
 rw [Int.ediv_ediv_of_nonneg (by exact Int.natCast_nonneg _), Nat.pow_succ]
 congr 1
end Go.Proofs.YtnafknkchbfpaaaGreatDoor
namespace Go.Bl
open Go.RowKit
def zu (fn : Nat -> Nat -> Nat) : Nat -> Nat × Nat -> Nat × Nat
 | 0, p => p
 | k + 1, p => ((zu fn k p).2, (zu fn k p).1 ^^^ fn k (zu fn k p).2)
def qcx (fn : Nat -> Nat -> Nat) : Nat -> Nat × Nat -> Nat × Nat
 | 0, p => p
 | k + 1, p => qcx fn k (p.2 ^^^ fn k p.1, p.1)
theorem XV (a b : Nat) : a ^^^ b ^^^ b = a := by rw [Nat.xor_assoc, Nat.xor_self, Nat.xor_zero]
theorem qav (fn : Nat -> Nat -> Nat) : ∀ (k : Nat) (p : Nat × Nat), qcx fn k (zu fn k p) = p
 | 0, p => rfl
 | k + 1, p => by
  simp only [zu, qcx, XV]
  exact qav fn k p
theorem yH {fn : Nat -> Nat -> Nat} {w : Nat} (hf : ∀ k r, fn k r < 2 ^ w) : ∀ (k : Nat) (p : Nat × Nat), p.1 < 2 ^ w -> p.2 < 2 ^ w -> (zu fn k p).1 < 2 ^ w /\ (zu fn k p).2 < 2 ^ w
 | 0, p, h1, h2 => ⟨h1, h2⟩
 | k + 1, p, h1, h2 => by
  obtain ⟨a, b⟩ := yH hf k p h1 h2
  exact ⟨b, Nat.xor_lt_two_pow a (hf _ _)⟩
def jW (w : Nat) (fn : Nat -> Nat -> Nat) (x : Nat) : Nat := (zu fn 4 (x / 2 ^ w, x % 2 ^ w)).1 * 2 ^ w + (zu fn 4 (x / 2 ^ w, x % 2 ^ w)).2
def qa2 (w : Nat) (fn : Nat -> Nat -> Nat) (x : Nat) : Nat := (qcx fn 4 (x / 2 ^ w, x % 2 ^ w)).1 * 2 ^ w + (qcx fn 4 (x / 2 ^ w, x % 2 ^ w)).2
theorem yC {w x : Nat} (h : x < 4 ^ w) : x / 2 ^ w < 2 ^ w /\ x % 2 ^ w < 2 ^ w := by
 have e : (4 : Nat) ^ w = 2 ^ w * 2 ^ w := by rw [show (4 : Nat) = 2 * 2 from rfl, Nat.mul_pow]
 refine ⟨Nat.div_lt_of_lt_mul (by rwa [<- e]), Nat.mod_lt _ (Nat.two_pow_pos w)⟩
theorem qc7 {w a b : Nat} (ha : a < 2 ^ w) (hb : b < 2 ^ w) : a * 2 ^ w + b < 4 ^ w := by
 have e : (4 : Nat) ^ w = 2 ^ w * 2 ^ w := by rw [show (4 : Nat) = 2 * 2 from rfl, Nat.mul_pow]
 rw [e]
 calc a * 2 ^ w + b < a * 2 ^ w + 2 ^ w := by omega
  _ = (a + 1) * 2 ^ w := by rw [Nat.add_mul, Nat.one_mul]
  _ <= 2 ^ w * 2 ^ w := Nat.mul_le_mul_right _ ha
theorem qa8 {w a b : Nat} (hb : b < 2 ^ w) : (a * 2 ^ w + b) / 2 ^ w = a /\ (a * 2 ^ w + b) % 2 ^ w = b := by
 have hp := Nat.two_pow_pos w
 rw [Nat.mul_comm a, Nat.mul_add_div hp, Nat.mul_add_mod, Nat.div_eq_of_lt hb, Nat.mod_eq_of_lt hb]
 exact ⟨rfl, rfl⟩
theorem Lb (w x : Nat) : x / 2 ^ w * 2 ^ w + x % 2 ^ w = x := by rw [Nat.mul_comm]; exact Nat.div_add_mod x (2 ^ w)
section
variable {w : Nat} {fn : Nat -> Nat -> Nat} (hf : ∀ k r, fn k r < 2 ^ w)
include hf
theorem Ug {x : Nat} (h : x < 4 ^ w) : jW w fn x < 4 ^ w := by
 obtain ⟨h1, h2⟩ := yC h
 obtain ⟨a, b⟩ := yH hf 4 (x / 2 ^ w, x % 2 ^ w) h1 h2
 exact qc7 a b
theorem Yn {x : Nat} (h : x < 4 ^ w) : qa2 w fn (jW w fn x) = x := by
 obtain ⟨h1, h2⟩ := yC h
 obtain ⟨a, b⟩ := yH hf 4 (x / 2 ^ w, x % 2 ^ w) h1 h2
 obtain ⟨j1, j2⟩ := qa8 (a := (zu fn 4 (x / 2 ^ w, x % 2 ^ w)).1) b
 unfold qa2 jW
 rw [j1, j2, show ((zu fn 4 (x / 2 ^ w, x % 2 ^ w)).1, (zu fn 4 (x / 2 ^ w, x % 2 ^ w)).2) = zu fn 4 (x / 2 ^ w, x % 2 ^ w) from rfl, qav]
 exact Lb w x
end
def qX (f : Nat -> Nat) : Nat -> Nat -> Nat
 | 0, x => x
 | k + 1, x => f (qX f k x)
theorem xk (f : Nat -> Nat) : ∀ (k x : Nat), qX f (k + 1) x = qX f k (f x)
 | 0, x => rfl
 | k + 1, x => by
  show f (qX f (k + 1) x) = f (qX f k (f x))
  rw [xk f k x]
theorem qcD : ∀ (N : Nat) (g : Nat -> Nat), (∀ i, i <= N -> g i < N) -> ∃ i j, i < j /\ j <= N /\ g i = g j
 | 0, g, h => absurd (h 0 (Nat.le_refl _)) Y66
 | N + 1, g, h => by
  by_cases hex : ∃ i, i < N + 1 /\ g i = g (N + 1)
  ·obtain ⟨i, hi, e⟩ := hex
   exact ⟨i, N + 1, hi, Nat.le_refl _, e⟩
  ·have hne : ∀ i, i <= N -> g i ≠ g (N + 1) := fun i hi e => hex ⟨i, by omega, e⟩
   have hl := h (N + 1) (Nat.le_refl _)
   obtain ⟨i, j, hij, hj, e⟩ := qcD N (fun i => if g i < g (N + 1) then g i else g i - 1) (fun i hi => by
    have h1 := h i Y66
    have h2 := hne i hi
    show (if g i < g (N + 1) then g i else g i - 1) < N
    split <;> omega)
   refine ⟨i, j, hij, by omega, ?_⟩
   have h1 := hne i Y66
   have h2 := hne j Y66
   replace e : (if g i < g (N + 1) then g i else g i - 1) = if g j < g (N + 1) then g j else g j - 1 := e
   split at e <;> split at e <;> omega
theorem qeM {N : Nat} {f b : Nat -> Nat} (hf : ∀ x, x < N -> f x < N) (hb : ∀ x, x < N -> b (f x) = x) {x : Nat} (hx : x < N) : ∃ p, 1 <= p /\ p <= N /\ qX f p x = x := by
 have hlt : ∀ k, qX f k x < N := fun k => by
  induction k with
  | zero => exact hx
  | succ k ih => exact hf _ ih
 obtain ⟨i, j, hij, hj, e⟩ := qcD N (fun k => qX f k x) (fun k _ => hlt k)
 have key : ∀ i d, qX f i x = qX f (i + d) x -> x = qX f d x := by
  intro i
  induction i with
  | zero => intro d h; rw [Nat.zero_add] at h; exact h
  | succ i ih =>
   intro d h
   refine ih d ?_
   have h1 : f (qX f i x) = f (qX f (i + d) x) := by rw [show i + 1 + d = (i + d) + 1 by omega] at h; exact h
   rw [<- hb _ (hlt i), <- hb _ (hlt (i + d)), h1]
 refine ⟨j - i, by omega, by omega, (key i (j - i) ?_).symm⟩
 rw [show i + (j - i) = j by omega]
 exact e
theorem VS {N n : Nat} {f b : Nat -> Nat} (hf : ∀ x, x < N -> f x < N) (hb : ∀ x, x < N -> b (f x) = x) {x : Nat} (hx : x < n) (hn : n <= N) :
  ∃ K, 1 <= K /\ K <= N /\ qX f K x < n /\ ∀ j, 1 <= j -> j < K -> ¬ qX f j x < n := by
 obtain ⟨p, h1, h2, h3⟩ := qeM hf hb (Nat.lt_of_lt_of_le hx hn)
 have hp : qX f p x < n := by rw [h3]; exact hx
 have key : ∀ m k, 1 <= k -> k <= p -> qX f k x < n -> k <= m -> ∃ K, 1 <= K /\ K <= p /\ qX f K x < n /\ ∀ j, 1 <= j -> j < K -> ¬ qX f j x < n := by
  intro m
  induction m with
  | zero => intro k a _ _ d; omega
  | succ m ih =>
   intro k a b c d
   by_cases hex : ∃ j, 1 <= j /\ j < k /\ qX f j x < n
   ·obtain ⟨j, j1, j2, j3⟩ := hex
    exact ih j j1 Y66 j3 Y66
   ·exact ⟨k, a, b, c, fun j j1 j2 j3 => hex ⟨j, j1, j2, j3⟩⟩
 obtain ⟨K, k1, k2, k3, k4⟩ := key p p h1 (Nat.le_refl _) hp (Nat.le_refl _)
 exact ⟨K, k1, by omega, k3, k4⟩
def Kk (f : Nat -> Nat) (n : Nat) : Nat -> Nat -> Nat
 | 0, x => x
 | k + 1, x => if f x < n then f x else Kk f n k (f x)
theorem Yi {f : Nat -> Nat} {n : Nat} : ∀ (k K x : Nat), 1 <= K -> K <= k -> qX f K x < n -> (∀ j, 1 <= j -> j < K -> ¬ qX f j x < n) -> Kk f n k x = qX f K x
 | 0, K, x, h1, h2, _, _ => by omega
 | k + 1, K, x, h1, h2, h3, h4 => by
  rw [Kk]
  by_cases hK : K = 1
  ·subst hK
   rw [if_pos (show f x < n from h3)]
   rfl
  ·rw [if_neg (show ¬ f x < n from h4 1 Y66 Y66), Yi k (K - 1) (f x) Y66 Y66 ?_ ?_, <- xk, show K - 1 + 1 = K by omega]
   ·rw [<- xk, show K - 1 + 1 = K by omega]; exact h3
   ·intro j j1 j2
    rw [<- xk]
    exact h4 (j + 1) Y66 Y66
def toN (w n : Nat) (fn : Nat -> Nat -> Nat) (x : Nat) : Nat := Kk (jW w fn) n (4 ^ w) x
theorem VE {w : Nat} {f : Nat -> Nat} (h : ∀ x, x < 4 ^ w -> f x < 4 ^ w) {x : Nat} (hx : x < 4 ^ w) : ∀ k, qX f k x < 4 ^ w
 | 0 => hx
 | k + 1 => h _ (VE h hx k)
section
variable {w n : Nat} {fn : Nat -> Nat -> Nat} (hf : ∀ k r, fn k r < 2 ^ w) (hn : n <= 4 ^ w)
include hf hn
theorem ZR {x : Nat} (hx : x < n) : ∃ K, 1 <= K /\ qX (jW w fn) K x = toN w n fn x /\ toN w n fn x < n /\ ∀ j, 1 <= j -> j < K -> ¬ qX (jW w fn) j x < n := by
 obtain ⟨K, h1, h2, h3, h4⟩ := VS (f := jW w fn) (b := qa2 w fn) (fun x h => Ug hf h) (fun x h => Yn hf h) hx hn
 have e := Yi (4 ^ w) K x h1 h2 h3 h4
 exact ⟨K, h1, e.symm, by unfold toN; rw [e]; exact h3, h4⟩
end
def ur : Nat -> Nat -> Nat -> Nat
 | 0, w, _ => w
 | k + 1, w, n => if 4 ^ w < n then ur k (w + 1) n else w
def jL (n : Nat) : Nat := ur 10 1 n
end Go.Bl
namespace Go.Bl
open Go.RowKit
end Go.Bl
namespace Go.Bl
open Go.RowKit
end Go.Bl
namespace Go.Proofs.YtnafknkchbfpaaaGreatDoor
open Go.RowKit Go.Bl
def uu : List UInt8 := [109, 97, 115, 107]
def qI : List UInt8 := [112, 108, 97, 99, 101]
def jI : List UInt8 := [115, 101, 110, 116, 105, 110, 101, 108]
def zZ : List UInt8 := [116, 97, 103]
def zj : List UInt8 := [115, 112, 111, 116]
def qp (m name : List UInt8) (n : Int) : List UInt8 := jO m (name ++ 0 :: beK 8 n)
theorem QK (m name : List UInt8) (n : Int) : (qp m name n).length = 32 := rfl
def qe (m : List UInt8) (n : Int) : Nat := if m.length < 16 ∨ 64 < m.length then 9 else if n < 0 ∨ 1099511627776 < n then 1 else 0
theorem UV (m : List UInt8) (n : Int) : qe m n <= 20 := by unfold qe; split <;> (try split) <;> decide
theorem keyBad_zero {m : List UInt8} {n : Int} (h : qe m n = 0) : 16 <= m.length /\ m.length <= 64 /\ 0 <= n /\ n <= 1099511627776 := by
 unfold qe at h
 split at h
 ·cases h
 ·split at h
  ·cases h
  ·omega
theorem xi {m : List UInt8} {n : Int} (h : m.length < 16 ∨ 64 < m.length) : qe m n = 9 := by rw [qe, if_pos h]
theorem xm {m : List UInt8} {n : Int} (h : ¬ (m.length < 16 ∨ 64 < m.length)) (h2 : n < 0 ∨ 1099511627776 < n) : qe m n = 1 := by rw [qe, if_neg h, if_pos h2]
theorem Jd {m : List UInt8} {n : Int} (h : ¬ (m.length < 16 ∨ 64 < m.length)) (h2 : ¬ (n < 0 ∨ 1099511627776 < n)) : qe m n = 0 := by rw [qe, if_neg h, if_neg h2]
def j6 (key : List UInt8) (i : Int) : List UInt8 := uV key (beK 8 i)
theorem qcb (key : List UInt8) (i : Int) : (j6 key i).length = 8 := rfl
def fnS (key : List UInt8) (w k r : Nat) : Nat := xy (uV key (b8 (k : Int) :: beK 8 (r : Int))) % 2 ^ w
theorem vF (key : List UInt8) (w k r : Nat) : fnS key w k r < 2 ^ w := Nat.mod_lt _ (Nat.two_pow_pos w)
theorem Yb : ∀ (k w n : Nat), n <= 4 ^ (w + k) -> n <= 4 ^ ur k w n
 | 0, w, n, h => h
 | k + 1, w, n, h => by
  rw [ur]
  split
  ·exact Yb k (w + 1) n (by rw [show w + 1 + k = w + (k + 1) by omega]; exact h)
  ·omega
theorem Yy : ∀ (k w n : Nat), w <= ur k w n /\ ur k w n <= w + k
 | 0, w, n => ⟨Nat.le_refl _, Nat.le_refl _⟩
 | k + 1, w, n => by
  rw [ur]
  split
  ·have := Yy k (w + 1) n
   omega
  ·omega
theorem xZ (n : Nat) (h : n <= 4194304) : n <= 4 ^ jL n := Yb 10 1 n (Nat.le_trans h qa)
theorem ZA (n : Nat) : 1 <= jL n /\ jL n <= 11 := Yy 10 1 n
theorem Qn {k w n : Nat} (h : 4 ^ w < n) : ur (k + 1) w n = ur k (w + 1) n := by rw [ur, if_pos h]
theorem Qr {k w n : Nat} (h : ¬ 4 ^ w < n) : ur k w n = w := by
 cases k with
 | zero => rfl
 | succ k => rw [ur, if_neg h]
def je (key : List UInt8) (n i : Nat) : Nat := toN (jL n) n (fnS key (jL n)) i
section
variable {key : List UInt8} {n : Nat} (hn : n <= 4194304)
include hn
theorem Ja {i : Nat} (h : i < n) : je key n i < n := by
 obtain ⟨K, h1, h2, h3, h4⟩ := ZR (vF key (jL n)) (xZ n hn) h
 exact h3
end
def vL (key : List UInt8) (place : Int) (b : List UInt8) : List UInt8 := b ++ uV key (beK 8 place ++ b)
end Go.Proofs.YtnafknkchbfpaaaGreatDoor
