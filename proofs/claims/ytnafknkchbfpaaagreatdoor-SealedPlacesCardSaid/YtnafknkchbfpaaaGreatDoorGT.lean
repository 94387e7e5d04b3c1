import Derived.Laws.Bits64
import Derived.WalkArith
import Derived.Test.YtnafknkchbfpaaaGreatDoorGK
import Derived.Test.YtnafknkchbfpaaaGreatDoorGA
import Derived.Test.YtnafknkchbfpaaaGreatDoorGC
namespace Go.Bl
set_option linter.unusedVariables false
def num8 (l : List UInt8) : Nat := l.foldl (fun n c => n * 256 + c.toNat) 0
theorem num8_snoc (l : List UInt8) (c : UInt8) : num8 (l ++ [c]) = num8 l * 256 + c.toNat := by simp [num8]
theorem num8_lt : ∀ (n : Nat) (l : List UInt8), l.length = n -> num8 l < 256 ^ n
 | 0, l, h => by
  have : l = [] := List.eq_nil_of_length_eq_zero h
  subst this; simp [num8]
 | n + 1, l, h => by
  have hne : l ≠ [] := fun e => by subst e; simp at h
  rw [<- List.dropLast_concat_getLast hne, num8_snoc]
  have := num8_lt n l.dropLast (by simp [h])
  have hc := (l.getLast hne).toNat_lt
  rw [Nat.pow_succ]
  omega
theorem num8_take_succ (l : List UInt8) (j : Nat) (h : j < l.length) : num8 (l.take (j + 1)) = num8 (l.take j) * 256 + l[j].toNat := by
 rw [List.take_succ_eq_append_getElem h, num8_snoc]
theorem bits_or_u64_nat (a b : Nat) (ha : a < 18446744073709551616) (hb : b < 18446744073709551616) :
  bits .or .u64 (a : Int) (b : Int) = ((a ||| b : Nat) : Int) := by
 have hx : a ||| b < 2 ^ 64 := Nat.or_lt_two_pow (by omega) (by omega)
 have h1 : (BitVec.ofInt 64 (a : Int)).toNat = a := by
  rw [BitVec.ofInt_natCast, BitVec.toNat_ofNat]; exact Nat.mod_eq_of_lt (by omega)
 have h2 : (BitVec.ofInt 64 (b : Int)).toNat = b := by
  rw [BitVec.ofInt_natCast, BitVec.toNat_ofNat]; exact Nat.mod_eq_of_lt (by omega)
 show IntKind.u64.wrap ((BitVec.ofInt 64 (a : Int) ||| BitVec.ofInt 64 (b : Int)).toNat : Int) = _
 rw [BitVec.toNat_or, h1, h2, IntKind.wrap_u64]
 omega
theorem mul_or (x c : Nat) (hc : c < 256) : x * 256 ||| c = x * 256 + c := by
 have := Nat.two_pow_add_eq_or_of_lt (i := 8) (b := c) (by simpa using hc) x
 rw [Nat.mul_comm x 256]
 simpa using this.symm
theorem shl_or (x c : Nat) (hx : x < 72057594037927936) (hc : c < 256) :
  bits .or .u64 (IntKind.u64.wrap ((x : Int) * 256)) (c : Int) = ((x * 256 + c : Nat) : Int) := by
 have e : IntKind.u64.wrap ((x : Int) * 256) = ((x * 256 : Nat) : Int) := by rw [IntKind.wrap_u64]; omega
 rw [e, bits_or_u64_nat _ _ (by omega) (by omega), mul_or x c hc]
theorem num_step (l : List UInt8) (j : Nat) (hj : j < l.length) (h8 : j < 8) :
  bits .or .u64 (IntKind.u64.wrap ((num8 (l.take j) : Nat) * 256)) (IntKind.u64.wrap ((l[j]?.getD 0).toNat : Int)) = ((num8 (l.take (j + 1)) : Nat) : Int) := by
 have h1 := num8_lt j (l.take j) (by simp; omega)
 have h2 : 256 ^ j <= 256 ^ 7 := Nat.pow_le_pow_right (by decide) (by omega)
 have h3 : (256 : Nat) ^ 7 = 72057594037927936 := by decide
 have hb := (l[j]).toNat_lt
 have e : l[j]?.getD 0 = l[j] := by simp [hj]
 have e2 : IntKind.u64.wrap ((l[j]).toNat : Int) = ((l[j]).toNat : Int) := by rw [IntKind.wrap_u64]; omega
 rw [e, e2, shl_or _ _ (by omega) (by omega), num8_take_succ l j hj]
end Go.Bl
namespace Go.Bl
open Go.RowKit
def keyL (key : List UInt8) : List UInt8 := if 64 < key.length then shaL key else key
theorem keyL_len (key : List UInt8) : (keyL key).length <= 64 := by
 unfold keyL
 split
 ·rw [shaL_len]; decide
 ·omega
def padK (key : List UInt8) : List UInt8 := keyL key ++ List.replicate (64 - (keyL key).length) 0
theorem padK_len (key : List UInt8) : (padK key).length = 64 := by
 have := keyL_len key
 rw [padK, List.length_append, List.length_replicate]
 omega
def macI (key : List UInt8) : List UInt8 := (padK key).map (· ^^^ 54)
def macO (key : List UInt8) : List UInt8 := (padK key).map (· ^^^ 92)
theorem macI_len (key : List UInt8) : (macI key).length = 64 := by rw [macI, List.length_map, padK_len]
theorem macO_len (key : List UInt8) : (macO key).length = 64 := by rw [macO, List.length_map, padK_len]
def macL (key m : List UInt8) : List UInt8 := shaL (macO key ++ shaL (macI key ++ m))
theorem macL_len (key m : List UInt8) : (macL key m).length = 32 := rfl
def tagL (key m : List UInt8) : List UInt8 := (macL key m).take 8
theorem tagL_len (key m : List UInt8) : (tagL key m).length = 8 := rfl
end Go.Bl
namespace Go.Bl
open Go.RowKit
abbrev Dg := List UInt8
def leafL (b : List UInt8) : Dg := shaL (0 :: b)
def nodeL (a b : Dg) : Dg := shaL (1 :: (a ++ b))
def levelL : List Dg -> List Dg
 | a :: b :: r => nodeL a b :: levelL r
 | r => r
theorem levelL_len : ∀ l : List Dg, (levelL l).length = (l.length + 1) / 2
 | [] => rfl
 | [a] => by simp [levelL]
 | a :: b :: r => by
  simp only [levelL, List.length_cons, levelL_len r]
  omega
theorem levelL_append : ∀ (a b : List Dg), a.length % 2 = 0 -> levelL (a ++ b) = levelL a ++ levelL b
 | [], b, _ => rfl
 | [x], b, h => by simp at h
 | x :: y :: r, b, h => by
  simp only [List.length_cons] at h
  simp only [List.cons_append, levelL, levelL_append r b (by omega)]
def overF : Nat -> List Dg -> Dg
 | 0, l => l.headD (shaL [])
 | n + 1, l => if l.length <= 1 then l.headD (shaL []) else overF n (levelL l)
theorem overF_more : ∀ (n : Nat) (l : List Dg), l.length <= n + 1 -> overF (n + 1) l = overF n l
 | 0, l, h => by simp only [overF]; rw [if_pos (by omega)]
 | n + 1, l, h => by
  rw [overF]
  conv => rhs; rw [overF]
  split
  ·rfl
  ·rw [overF_more n _ (by rw [levelL_len]; omega)]
theorem overF_enough (l : List Dg) : ∀ (k : Nat), overF (l.length + k) l = overF l.length l
 | 0 => rfl
 | k + 1 => by rw [show l.length + (k + 1) = (l.length + k) + 1 by omega, overF_more _ _ (by omega), overF_enough l k]
def overL (l : List Dg) : Dg := overF l.length l
theorem overL_level {l : List Dg} (h : 2 <= l.length) : overL l = overL (levelL l) := by
 obtain ⟨n, hn⟩ : ∃ n, l.length = n + 1 := ⟨l.length - 1, by omega⟩
 unfold overL
 rw [hn, overF, if_neg (by omega)]
 have := overF_enough (levelL l) (n - (levelL l).length)
 rw [<- this, show (levelL l).length + (n - (levelL l).length) = n by rw [levelL_len]; omega]
end Go.Bl
namespace Go.Proofs.YtnafknkchbfpaaaGreatDoor
open Go.RowKit Go.Bl
set_option linter.unusedVariables false
def b8 (n : Int) : UInt8 := UInt8.ofNat (n % 256).toNat
theorem b8_wrap (n : Int) : (IntKind.u8.wrap n) = ((b8 n).toNat : Int) := by
 have h : (b8 n).toNat = (n % 256).toNat := by
  unfold b8
  rw [UInt8.toNat_ofNat']
  omega
 rw [h]
 have : IntKind.u8.wrap n = n % 256 := by
  simp [IntKind.wrap, IntKind.signed, IntKind.bits]
 rw [this]
 omega
theorem b8_mod (n : Int) : ((b8 n).toNat : Int) = n % 256 := by
 rw [<- b8_wrap]
 simp [IntKind.wrap, IntKind.signed, IntKind.bits]
def beK (k : Nat) (n : Int) : List UInt8 := (List.range k).map fun m => b8 (n / (256 ^ (k - 1 - m) : Nat))
theorem beK_len (k : Nat) (n : Int) : (beK k n).length = k := by simp [beK]
theorem u64_quo (n : Int) (e : Nat) (he : e <= 7) : (n % 18446744073709551616 / (256 ^ e : Nat)) % 256 = (n / (256 ^ e : Nat)) % 256 := by
 have : e = 0 ∨ e = 1 ∨ e = 2 ∨ e = 3 ∨ e = 4 ∨ e = 5 ∨ e = 6 ∨ e = 7 := by omega
 rcases this with rfl | rfl | rfl | rfl | rfl | rfl | rfl | rfl <;> omega
theorem quo_step (X : Int) (e : Nat) : X / (256 ^ e : Nat) / 256 = X / (256 ^ (e + 1) : Nat) := by
 rw [Int.ediv_ediv_of_nonneg (by exact Int.natCast_nonneg _), Nat.pow_succ]
 congr 1
end Go.Proofs.YtnafknkchbfpaaaGreatDoor
namespace Go.Bl
open Go.RowKit
def rndF (fn : Nat -> Nat -> Nat) : Nat -> Nat × Nat -> Nat × Nat
 | 0, p => p
 | k + 1, p => ((rndF fn k p).2, (rndF fn k p).1 ^^^ fn k (rndF fn k p).2)
def rndB (fn : Nat -> Nat -> Nat) : Nat -> Nat × Nat -> Nat × Nat
 | 0, p => p
 | k + 1, p => rndB fn k (p.2 ^^^ fn k p.1, p.1)
theorem nxor_cancel (a b : Nat) : a ^^^ b ^^^ b = a := by rw [Nat.xor_assoc, Nat.xor_self, Nat.xor_zero]
theorem rndB_F (fn : Nat -> Nat -> Nat) : ∀ (k : Nat) (p : Nat × Nat), rndB fn k (rndF fn k p) = p
 | 0, p => rfl
 | k + 1, p => by
  simp only [rndF, rndB, nxor_cancel]
  exact rndB_F fn k p
theorem rndF_B (fn : Nat -> Nat -> Nat) : ∀ (k : Nat) (p : Nat × Nat), rndF fn k (rndB fn k p) = p
 | 0, p => rfl
 | k + 1, p => by
  simp only [rndF, rndB]
  rw [rndF_B fn k]
  simp only [nxor_cancel]
theorem rndF_lt {fn : Nat -> Nat -> Nat} {w : Nat} (hf : ∀ k r, fn k r < 2 ^ w) : ∀ (k : Nat) (p : Nat × Nat), p.1 < 2 ^ w -> p.2 < 2 ^ w -> (rndF fn k p).1 < 2 ^ w /\ (rndF fn k p).2 < 2 ^ w
 | 0, p, h1, h2 => ⟨h1, h2⟩
 | k + 1, p, h1, h2 => by
  obtain ⟨a, b⟩ := rndF_lt hf k p h1 h2
  exact ⟨b, Nat.xor_lt_two_pow a (hf _ _)⟩
theorem rndB_lt {fn : Nat -> Nat -> Nat} {w : Nat} (hf : ∀ k r, fn k r < 2 ^ w) : ∀ (k : Nat) (p : Nat × Nat), p.1 < 2 ^ w -> p.2 < 2 ^ w -> (rndB fn k p).1 < 2 ^ w /\ (rndB fn k p).2 < 2 ^ w
 | 0, p, h1, h2 => ⟨h1, h2⟩
 | k + 1, p, h1, h2 => rndB_lt hf k _ (Nat.xor_lt_two_pow h2 (hf _ _)) h1
def stepN (w : Nat) (fn : Nat -> Nat -> Nat) (x : Nat) : Nat := (rndF fn 4 (x / 2 ^ w, x % 2 ^ w)).1 * 2 ^ w + (rndF fn 4 (x / 2 ^ w, x % 2 ^ w)).2
def backN (w : Nat) (fn : Nat -> Nat -> Nat) (x : Nat) : Nat := (rndB fn 4 (x / 2 ^ w, x % 2 ^ w)).1 * 2 ^ w + (rndB fn 4 (x / 2 ^ w, x % 2 ^ w)).2
theorem halves_lt {w x : Nat} (h : x < 4 ^ w) : x / 2 ^ w < 2 ^ w /\ x % 2 ^ w < 2 ^ w := by
 have e : (4 : Nat) ^ w = 2 ^ w * 2 ^ w := by rw [show (4 : Nat) = 2 * 2 from rfl, Nat.mul_pow]
 refine ⟨Nat.div_lt_of_lt_mul (by rwa [<- e]), Nat.mod_lt _ (Nat.two_pow_pos w)⟩
theorem join_lt {w a b : Nat} (ha : a < 2 ^ w) (hb : b < 2 ^ w) : a * 2 ^ w + b < 4 ^ w := by
 have e : (4 : Nat) ^ w = 2 ^ w * 2 ^ w := by rw [show (4 : Nat) = 2 * 2 from rfl, Nat.mul_pow]
 rw [e]
 calc a * 2 ^ w + b < a * 2 ^ w + 2 ^ w := by omega
  _ = (a + 1) * 2 ^ w := by rw [Nat.add_mul, Nat.one_mul]
  _ <= 2 ^ w * 2 ^ w := Nat.mul_le_mul_right _ ha
theorem join_div {w a b : Nat} (hb : b < 2 ^ w) : (a * 2 ^ w + b) / 2 ^ w = a /\ (a * 2 ^ w + b) % 2 ^ w = b := by
 have hp := Nat.two_pow_pos w
 rw [Nat.mul_comm a, Nat.mul_add_div hp, Nat.mul_add_mod, Nat.div_eq_of_lt hb, Nat.mod_eq_of_lt hb]
 exact ⟨rfl, rfl⟩
theorem join_self (w x : Nat) : x / 2 ^ w * 2 ^ w + x % 2 ^ w = x := by rw [Nat.mul_comm]; exact Nat.div_add_mod x (2 ^ w)
section
variable {w : Nat} {fn : Nat -> Nat -> Nat} (hf : ∀ k r, fn k r < 2 ^ w)
include hf
theorem stepN_lt {x : Nat} (h : x < 4 ^ w) : stepN w fn x < 4 ^ w := by
 obtain ⟨h1, h2⟩ := halves_lt h
 obtain ⟨a, b⟩ := rndF_lt hf 4 (x / 2 ^ w, x % 2 ^ w) h1 h2
 exact join_lt a b
theorem backN_lt {x : Nat} (h : x < 4 ^ w) : backN w fn x < 4 ^ w := by
 obtain ⟨h1, h2⟩ := halves_lt h
 obtain ⟨a, b⟩ := rndB_lt hf 4 (x / 2 ^ w, x % 2 ^ w) h1 h2
 exact join_lt a b
theorem backN_stepN {x : Nat} (h : x < 4 ^ w) : backN w fn (stepN w fn x) = x := by
 obtain ⟨h1, h2⟩ := halves_lt h
 obtain ⟨a, b⟩ := rndF_lt hf 4 (x / 2 ^ w, x % 2 ^ w) h1 h2
 obtain ⟨j1, j2⟩ := join_div (a := (rndF fn 4 (x / 2 ^ w, x % 2 ^ w)).1) b
 unfold backN stepN
 rw [j1, j2, show ((rndF fn 4 (x / 2 ^ w, x % 2 ^ w)).1, (rndF fn 4 (x / 2 ^ w, x % 2 ^ w)).2) = rndF fn 4 (x / 2 ^ w, x % 2 ^ w) from rfl, rndB_F]
 exact join_self w x
theorem stepN_backN {x : Nat} (h : x < 4 ^ w) : stepN w fn (backN w fn x) = x := by
 obtain ⟨h1, h2⟩ := halves_lt h
 obtain ⟨a, b⟩ := rndB_lt hf 4 (x / 2 ^ w, x % 2 ^ w) h1 h2
 obtain ⟨j1, j2⟩ := join_div (a := (rndB fn 4 (x / 2 ^ w, x % 2 ^ w)).1) b
 unfold backN stepN
 rw [j1, j2, show ((rndB fn 4 (x / 2 ^ w, x % 2 ^ w)).1, (rndB fn 4 (x / 2 ^ w, x % 2 ^ w)).2) = rndB fn 4 (x / 2 ^ w, x % 2 ^ w) from rfl, rndF_B]
 exact join_self w x
end
def iterN (f : Nat -> Nat) : Nat -> Nat -> Nat
 | 0, x => x
 | k + 1, x => f (iterN f k x)
theorem iterN_succ (f : Nat -> Nat) : ∀ (k x : Nat), iterN f (k + 1) x = iterN f k (f x)
 | 0, x => rfl
 | k + 1, x => by
  show f (iterN f (k + 1) x) = f (iterN f k (f x))
  rw [iterN_succ f k x]
theorem pigeon : ∀ (N : Nat) (g : Nat -> Nat), (∀ i, i <= N -> g i < N) -> ∃ i j, i < j /\ j <= N /\ g i = g j
 | 0, g, h => absurd (h 0 (Nat.le_refl _)) (by omega)
 | N + 1, g, h => by
  by_cases hex : ∃ i, i < N + 1 /\ g i = g (N + 1)
  ·obtain ⟨i, hi, e⟩ := hex
   exact ⟨i, N + 1, hi, Nat.le_refl _, e⟩
  ·have hne : ∀ i, i <= N -> g i ≠ g (N + 1) := fun i hi e => hex ⟨i, by omega, e⟩
   have hl := h (N + 1) (Nat.le_refl _)
   obtain ⟨i, j, hij, hj, e⟩ := pigeon N (fun i => if g i < g (N + 1) then g i else g i - 1) (fun i hi => by
    have h1 := h i (by omega)
    have h2 := hne i hi
    show (if g i < g (N + 1) then g i else g i - 1) < N
    split <;> omega)
   refine ⟨i, j, hij, by omega, ?_⟩
   have h1 := hne i (by omega)
   have h2 := hne j (by omega)
   replace e : (if g i < g (N + 1) then g i else g i - 1) = if g j < g (N + 1) then g j else g j - 1 := e
   split at e <;> split at e <;> omega
theorem orbit {N : Nat} {f b : Nat -> Nat} (hf : ∀ x, x < N -> f x < N) (hb : ∀ x, x < N -> b (f x) = x) {x : Nat} (hx : x < N) : ∃ p, 1 <= p /\ p <= N /\ iterN f p x = x := by
 have hlt : ∀ k, iterN f k x < N := fun k => by
  induction k with
  | zero => exact hx
  | succ k ih => exact hf _ ih
 obtain ⟨i, j, hij, hj, e⟩ := pigeon N (fun k => iterN f k x) (fun k _ => hlt k)
 have key : ∀ i d, iterN f i x = iterN f (i + d) x -> x = iterN f d x := by
  intro i
  induction i with
  | zero => intro d h; rw [Nat.zero_add] at h; exact h
  | succ i ih =>
   intro d h
   refine ih d ?_
   have h1 : f (iterN f i x) = f (iterN f (i + d) x) := by rw [show i + 1 + d = (i + d) + 1 by omega] at h; exact h
   rw [<- hb _ (hlt i), <- hb _ (hlt (i + d)), h1]
 refine ⟨j - i, by omega, by omega, (key i (j - i) ?_).symm⟩
 rw [show i + (j - i) = j by omega]
 exact e
theorem first_below {N n : Nat} {f b : Nat -> Nat} (hf : ∀ x, x < N -> f x < N) (hb : ∀ x, x < N -> b (f x) = x) {x : Nat} (hx : x < n) (hn : n <= N) :
  ∃ K, 1 <= K /\ K <= N /\ iterN f K x < n /\ ∀ j, 1 <= j -> j < K -> ¬ iterN f j x < n := by
 obtain ⟨p, h1, h2, h3⟩ := orbit hf hb (Nat.lt_of_lt_of_le hx hn)
 have hp : iterN f p x < n := by rw [h3]; exact hx
 have key : ∀ m k, 1 <= k -> k <= p -> iterN f k x < n -> k <= m -> ∃ K, 1 <= K /\ K <= p /\ iterN f K x < n /\ ∀ j, 1 <= j -> j < K -> ¬ iterN f j x < n := by
  intro m
  induction m with
  | zero => intro k a _ _ d; omega
  | succ m ih =>
   intro k a b c d
   by_cases hex : ∃ j, 1 <= j /\ j < k /\ iterN f j x < n
   ·obtain ⟨j, j1, j2, j3⟩ := hex
    exact ih j j1 (by omega) j3 (by omega)
   ·exact ⟨k, a, b, c, fun j j1 j2 j3 => hex ⟨j, j1, j2, j3⟩⟩
 obtain ⟨K, k1, k2, k3, k4⟩ := key p p h1 (Nat.le_refl _) hp (Nat.le_refl _)
 exact ⟨K, k1, by omega, k3, k4⟩
def walkF (f : Nat -> Nat) (n : Nat) : Nat -> Nat -> Nat
 | 0, x => x
 | k + 1, x => if f x < n then f x else walkF f n k (f x)
theorem walkF_eq {f : Nat -> Nat} {n : Nat} : ∀ (k K x : Nat), 1 <= K -> K <= k -> iterN f K x < n -> (∀ j, 1 <= j -> j < K -> ¬ iterN f j x < n) -> walkF f n k x = iterN f K x
 | 0, K, x, h1, h2, _, _ => by omega
 | k + 1, K, x, h1, h2, h3, h4 => by
  rw [walkF]
  by_cases hK : K = 1
  ·subst hK
   rw [if_pos (show f x < n from h3)]
   rfl
  ·rw [if_neg (show ¬ f x < n from h4 1 (by omega) (by omega)), walkF_eq k (K - 1) (f x) (by omega) (by omega) ?_ ?_, <- iterN_succ, show K - 1 + 1 = K by omega]
   ·rw [<- iterN_succ, show K - 1 + 1 = K by omega]; exact h3
   ·intro j j1 j2
    rw [<- iterN_succ]
    exact h4 (j + 1) (by omega) (by omega)
def toN (w n : Nat) (fn : Nat -> Nat -> Nat) (x : Nat) : Nat := walkF (stepN w fn) n (4 ^ w) x
def fromN (w n : Nat) (fn : Nat -> Nat -> Nat) (x : Nat) : Nat := walkF (backN w fn) n (4 ^ w) x
theorem iter_lt {w : Nat} {f : Nat -> Nat} (h : ∀ x, x < 4 ^ w -> f x < 4 ^ w) {x : Nat} (hx : x < 4 ^ w) : ∀ k, iterN f k x < 4 ^ w
 | 0 => hx
 | k + 1 => h _ (iter_lt h hx k)
theorem iter_back {w : Nat} {f b : Nat -> Nat} (h : ∀ x, x < 4 ^ w -> b x < 4 ^ w) (hb : ∀ x, x < 4 ^ w -> f (b x) = x) {x : Nat} (hx : x < 4 ^ w) : ∀ (j k : Nat), iterN f j (iterN b (j + k) x) = iterN b k x
 | 0, k => by rw [Nat.zero_add]; rfl
 | j + 1, k => by
  rw [iterN_succ, show j + 1 + k = (j + k) + 1 by omega]
  show iterN f j (f (b (iterN b (j + k) x))) = _
  rw [hb _ (iter_lt h hx _)]
  exact iter_back h hb hx j k
section
variable {w n : Nat} {fn : Nat -> Nat -> Nat} (hf : ∀ k r, fn k r < 2 ^ w) (hn : n <= 4 ^ w)
include hf hn
theorem to_first {x : Nat} (hx : x < n) : ∃ K, 1 <= K /\ iterN (stepN w fn) K x = toN w n fn x /\ toN w n fn x < n /\ ∀ j, 1 <= j -> j < K -> ¬ iterN (stepN w fn) j x < n := by
 obtain ⟨K, h1, h2, h3, h4⟩ := first_below (f := stepN w fn) (b := backN w fn) (fun x h => stepN_lt hf h) (fun x h => backN_stepN hf h) hx hn
 have e := walkF_eq (4 ^ w) K x h1 h2 h3 h4
 exact ⟨K, h1, e.symm, by unfold toN; rw [e]; exact h3, h4⟩
theorem from_first {x : Nat} (hx : x < n) : ∃ K, 1 <= K /\ iterN (backN w fn) K x = fromN w n fn x /\ fromN w n fn x < n /\ ∀ j, 1 <= j -> j < K -> ¬ iterN (backN w fn) j x < n := by
 obtain ⟨K, h1, h2, h3, h4⟩ := first_below (f := backN w fn) (b := stepN w fn) (fun x h => backN_lt hf h) (fun x h => stepN_backN hf h) hx hn
 have e := walkF_eq (4 ^ w) K x h1 h2 h3 h4
 exact ⟨K, h1, e.symm, by unfold fromN; rw [e]; exact h3, h4⟩
theorem to_from {x : Nat} (hx : x < n) : toN w n fn (fromN w n fn x) = x := by
 obtain ⟨K, h1, h2, h3, h4⟩ := from_first hf hn hx
 have hx4 : x < 4 ^ w := Nat.lt_of_lt_of_le hx hn
 have ib := iter_back (f := stepN w fn) (b := backN w fn) (fun x h => backN_lt hf h) (fun x h => stepN_backN hf h) hx4
 have hk : iterN (stepN w fn) K (fromN w n fn x) = x := by rw [<- h2]; exact ib K 0
 obtain ⟨M, m1, m2, m3, m4⟩ := to_first hf hn h3
 have hM : M <= K := by
  rcases Nat.lt_or_ge K M with h | h
  ·exact absurd (by rw [hk]; exact hx) (m4 K h1 h)
  ·exact h
 rcases Nat.lt_or_ge M K with h | h
 ·exfalso
  have := ib M (K - M)
  rw [show M + (K - M) = K by omega, h2, m2] at this
  exact h4 (K - M) (by omega) (by omega) (by rw [<- this]; exact m3)
 ·obtain rfl : M = K := by omega
  rw [<- m2]; exact hk
theorem from_to {x : Nat} (hx : x < n) : fromN w n fn (toN w n fn x) = x := by
 obtain ⟨K, h1, h2, h3, h4⟩ := to_first hf hn hx
 have hx4 : x < 4 ^ w := Nat.lt_of_lt_of_le hx hn
 have ib := iter_back (f := backN w fn) (b := stepN w fn) (fun x h => stepN_lt hf h) (fun x h => backN_stepN hf h) hx4
 have hk : iterN (backN w fn) K (toN w n fn x) = x := by rw [<- h2]; exact ib K 0
 obtain ⟨M, m1, m2, m3, m4⟩ := from_first hf hn h3
 have hM : M <= K := by
  rcases Nat.lt_or_ge K M with h | h
  ·exact absurd (by rw [hk]; exact hx) (m4 K h1 h)
  ·exact h
 rcases Nat.lt_or_ge M K with h | h
 ·exfalso
  have := ib M (K - M)
  rw [show M + (K - M) = K by omega, h2, m2] at this
  exact h4 (K - M) (by omega) (by omega) (by rw [<- this]; exact m3)
 ·obtain rfl : M = K := by omega
  rw [<- m2]; exact hk
theorem toN_inj {x y : Nat} (hx : x < n) (hy : y < n) (h : toN w n fn x = toN w n fn y) : x = y := by
 rw [<- from_to hf hn hx, h, from_to hf hn hy]
end
def bitsF : Nat -> Nat -> Nat -> Nat
 | 0, w, _ => w
 | k + 1, w, n => if 4 ^ w < n then bitsF k (w + 1) n else w
def bitsN (n : Nat) : Nat := bitsF 10 1 n
end Go.Bl
namespace Go.Bl
open Go.RowKit
def padN (n : Nat) : Nat := if n = 0 then 8 else (8 - n % 8) % 8
def padL (xs : List UInt8) : List UInt8 := xs ++ List.replicate (padN xs.length) 0
theorem padL_len (xs : List UInt8) : (padL xs).length = 8 * max ((xs.length + 7) / 8) 1 := by
 simp only [padL, padN, List.length_append, List.length_replicate]
 split <;> omega
def chunkN : Nat -> List UInt8 -> List (List UInt8)
 | 0, _ => []
 | n + 1, l => l.take 8 :: chunkN n (l.drop 8)
theorem chunkN_len : ∀ (n : Nat) (l : List UInt8), (chunkN n l).length = n
 | 0, _ => rfl
 | n + 1, l => by simp [chunkN, chunkN_len n]
theorem chunkN_get : ∀ (n i : Nat) (l : List UInt8), i < n -> (chunkN n l)[i]? = some ((l.drop (8 * i)).take 8)
 | 0, _, _, h => by omega
 | n + 1, 0, l, _ => by simp [chunkN]
 | n + 1, i + 1, l, h => by
  simp only [chunkN, List.getElem?_cons_succ]
  rw [chunkN_get n i _ (by omega), List.drop_drop, show 8 + 8 * i = 8 * (i + 1) by omega]
theorem chunkN_eight (n : Nat) (l : List UInt8) (h : l.length = 8 * n) : ∀ x ∈ chunkN n l, x.length = 8 := by
 intro x hx
 obtain ⟨i, hi, rfl⟩ := List.getElem_of_mem hx
 rw [chunkN_len] at hi
 have := chunkN_get n i l hi
 rw [List.getElem?_eq_getElem (by rw [chunkN_len]; exact hi)] at this
 rw [Option.some.inj this, List.length_take, List.length_drop]
 omega
def parB (data : List (List UInt8)) : List (List UInt8) := (List.range 32).map fun i => (List.range 8).map fun j => (parL (data.map fun b => b.getD j 0)).getD i 0
theorem parB_len (data : List (List UInt8)) : (parB data).length = 32 := by simp [parB]
def grpB (data : List (List UInt8)) : List (List UInt8) := data ++ parB data
def blkGo : List (List UInt8) -> List Nat -> List (List UInt8)
 | _, [] => []
 | data, k :: sh => grpB (data.take k) ++ blkGo (data.drop k) sh
theorem blkGo_len (data : List (List UInt8)) : ∀ (sh : List Nat) (data : List (List UInt8)), sh.sum <= data.length -> (blkGo data sh).length = sh.sum + 32 * sh.length
 | [], data, h => by simp [blkGo]
 | k :: sh, data, h => by
  simp only [List.sum_cons] at h
  have hl : (data.take k).length = k := by rw [List.length_take]; omega
  simp only [blkGo, List.length_append, grpB, parB_len, hl, List.sum_cons, List.length_cons]
  rw [blkGo_len data sh _ (by rw [List.length_drop]; omega)]
  omega
end Go.Bl
namespace Go.Bl
open Go.RowKit
def shN (n : Nat) : List Nat := if n <= 223 then [n] else [223, n - 223]
theorem shN_sum (n : Nat) : (shN n).sum = n := by
 unfold shN
 split
 ·simp
 ·simp; omega
theorem shN_len (n : Nat) : (shN n).length <= 2 := by unfold shN; split <;> simp
theorem shN_bd (n : Nat) (h1 : 1 <= n) (h2 : n <= 250) : ∀ k ∈ shN n, 1 <= k /\ k <= 223 := by
 unfold shN
 intro k hk
 split at hk
 ·simp at hk; omega
 ·simp at hk; omega
theorem sum_take_le (sh : List Nat) (i : Nat) : (sh.take i).sum <= sh.sum := by
 conv => rhs; rw [<- List.take_append_drop i sh, List.sum_append]
 omega
def nB (n : Nat) : Nat := max ((n + 7) / 8) 1
def dataL (xs : List UInt8) : List (List UInt8) := chunkN (nB xs.length) (padL xs)
def blocksL (xs : List UInt8) : List (List UInt8) := blkGo (dataL xs) (shN (nB xs.length))
theorem dataL_len (xs : List UInt8) : (dataL xs).length = nB xs.length := chunkN_len _ _
theorem dataL_eight (xs : List UInt8) : ∀ x ∈ dataL xs, x.length = 8 := chunkN_eight _ _ (padL_len xs)
end Go.Bl
namespace Go.Proofs.YtnafknkchbfpaaaGreatDoor
open Go.RowKit Go.Bl
set_option linter.unusedVariables false
def nMask : List UInt8 := [109, 97, 115, 107]
def nPlace : List UInt8 := [112, 108, 97, 99, 101]
def nSent : List UInt8 := [115, 101, 110, 116, 105, 110, 101, 108]
def nTag : List UInt8 := [116, 97, 103]
def nSpot : List UInt8 := [115, 112, 111, 116]
def subL (m name : List UInt8) (n : Int) : List UInt8 := macL m (name ++ 0 :: beK 8 n)
theorem subL_len (m name : List UInt8) (n : Int) : (subL m name n).length = 32 := rfl
def keyBad (m : List UInt8) (n : Int) : Nat := if m.length < 16 ∨ 64 < m.length then 9 else if n < 0 ∨ 1099511627776 < n then 1 else 0
theorem keyBad_le (m : List UInt8) (n : Int) : keyBad m n <= 20 := by unfold keyBad; split <;> (try split) <;> decide
theorem keyBad_len {m : List UInt8} {n : Int} (h : m.length < 16 ∨ 64 < m.length) : keyBad m n = 9 := by rw [keyBad, if_pos h]
theorem keyBad_num {m : List UInt8} {n : Int} (h : ¬ (m.length < 16 ∨ 64 < m.length)) (h2 : n < 0 ∨ 1099511627776 < n) : keyBad m n = 1 := by rw [keyBad, if_neg h, if_pos h2]
theorem keyBad_ok {m : List UInt8} {n : Int} (h : ¬ (m.length < 16 ∨ 64 < m.length)) (h2 : ¬ (n < 0 ∨ 1099511627776 < n)) : keyBad m n = 0 := by rw [keyBad, if_neg h, if_neg h2]
def strL (key : List UInt8) (i : Int) : List UInt8 := tagL key (beK 8 i)
theorem strL_len (key : List UInt8) (i : Int) : (strL key i).length = 8 := rfl
def maskL (key : List UInt8) (i : Int) (b : List UInt8) : List UInt8 := (b.zip (strL key i)).map fun x => x.1 ^^^ x.2
theorem maskL_len (key : List UInt8) (i : Int) (b : List UInt8) (h : b.length = 8) : (maskL key i b).length = 8 := by
 rw [maskL, List.length_map, List.length_zip, h, strL_len]; rfl
def fnS (key : List UInt8) (w k r : Nat) : Nat := num8 (tagL key (b8 (k : Int) :: beK 8 (r : Int))) % 2 ^ w
theorem fnS_lt (key : List UInt8) (w k r : Nat) : fnS key w k r < 2 ^ w := Nat.mod_lt _ (Nat.two_pow_pos w)
theorem bitsF_ge : ∀ (k w n : Nat), n <= 4 ^ (w + k) -> n <= 4 ^ bitsF k w n
 | 0, w, n, h => h
 | k + 1, w, n, h => by
  rw [bitsF]
  split
  ·exact bitsF_ge k (w + 1) n (by rw [show w + 1 + k = w + (k + 1) by omega]; exact h)
  ·omega
theorem bitsF_le : ∀ (k w n : Nat), w <= bitsF k w n /\ bitsF k w n <= w + k
 | 0, w, n => ⟨Nat.le_refl _, Nat.le_refl _⟩
 | k + 1, w, n => by
  rw [bitsF]
  split
  ·have := bitsF_le k (w + 1) n
   omega
  ·omega
theorem bitsN_ge (n : Nat) (h : n <= 4194304) : n <= 4 ^ bitsN n := bitsF_ge 10 1 n (Nat.le_trans h (by decide))
theorem bitsN_le (n : Nat) : 1 <= bitsN n /\ bitsN n <= 11 := bitsF_le 10 1 n
theorem bitsF_step {k w n : Nat} (h : 4 ^ w < n) : bitsF (k + 1) w n = bitsF k (w + 1) n := by rw [bitsF, if_pos h]
theorem bitsF_stop {k w n : Nat} (h : ¬ 4 ^ w < n) : bitsF k w n = w := by
 cases k with
 | zero => rfl
 | succ k => rw [bitsF, if_neg h]
def placeN (key : List UInt8) (n i : Nat) : Nat := toN (bitsN n) n (fnS key (bitsN n)) i
def numN (key : List UInt8) (n i : Nat) : Nat := fromN (bitsN n) n (fnS key (bitsN n)) i
section
variable {key : List UInt8} {n : Nat} (hn : n <= 4194304)
include hn
theorem placeN_lt {i : Nat} (h : i < n) : placeN key n i < n := by
 obtain ⟨K, h1, h2, h3, h4⟩ := to_first (fnS_lt key (bitsN n)) (bitsN_ge n hn) h
 exact h3
theorem numN_lt {i : Nat} (h : i < n) : numN key n i < n := by
 obtain ⟨K, h1, h2, h3, h4⟩ := from_first (fnS_lt key (bitsN n)) (bitsN_ge n hn) h
 exact h3
theorem placeN_numN {i : Nat} (h : i < n) : placeN key n (numN key n i) = i := to_from (fnS_lt key (bitsN n)) (bitsN_ge n hn) h
theorem placeN_inj {i j : Nat} (hi : i < n) (hj : j < n) (h : placeN key n i = placeN key n j) : i = j := toN_inj (fnS_lt key (bitsN n)) (bitsN_ge n hn) hi hj h
end
def tgdL (key : List UInt8) (place : Int) (b : List UInt8) : List UInt8 := b ++ tagL key (beK 8 place ++ b)
theorem tgdL_len (key : List UInt8) (place : Int) (b : List UInt8) : (tgdL key place b).length = b.length + 8 := by rw [tgdL, List.length_append, tagL_len]
def laidL (P : Nat -> Nat) (T : Nat -> List UInt8 -> List UInt8) (bs : List (List UInt8)) : Nat -> List (List UInt8)
 | 0 => List.replicate bs.length []
 | k + 1 => (laidL P T bs k).set (P k) (T (P k) (bs.getD k []))
theorem laidL_len (P : Nat -> Nat) (T : Nat -> List UInt8 -> List UInt8) (bs : List (List UInt8)) : ∀ k, (laidL P T bs k).length = bs.length
 | 0 => List.length_replicate
 | k + 1 => by rw [laidL, List.length_set, laidL_len P T bs k]
theorem laidL_get {P : Nat -> Nat} {T : Nat -> List UInt8 -> List UInt8} {bs : List (List UInt8)} (hP : ∀ i, i < bs.length -> P i < bs.length) (hi : ∀ i j, i < bs.length -> j < bs.length -> P i = P j -> i = j) :
  ∀ (k : Nat), k <= bs.length -> ∀ i, i < k -> (laidL P T bs k)[P i]? = some (T (P i) (bs.getD i []))
 | 0, _, i, h => by omega
 | k + 1, hk, i, h => by
  rw [laidL]
  by_cases e : i = k
  ·subst e
   rw [List.getElem?_set_self (by rw [laidL_len]; exact hP i (by omega))]
  ·rw [List.getElem?_set_ne (fun h2 => e (hi _ _ (by omega) (by omega) h2.symm))]
   exact laidL_get hP hi k (by omega) i (by omega)
def allL (kM kS : List UInt8) (bs : List (List UInt8)) (s : Nat) : List (List UInt8) :=
 (bs.mapIdx fun i b => maskL kM (i : Int) b) ++ (List.range s).map fun j => strL kS ((j : Nat) : Int)
theorem allL_len (kM kS : List UInt8) (bs : List (List UInt8)) (s : Nat) : (allL kM kS bs s).length = bs.length + s := by simp [allL]
def sealL (m : List UInt8) (n : Int) (xs : List UInt8) (s : Nat) : List (List UInt8) :=
 let all := allL (subL m nMask n) (subL m nSent n) (blocksL xs) s
 laidL (placeN (subL m nPlace n) all.length) (fun p b => tgdL (subL m nTag n) (p : Int) b) all all.length
end Go.Proofs.YtnafknkchbfpaaaGreatDoor
