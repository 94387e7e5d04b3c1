import Derived.Test.YtdloaifdpajcjaaGreatDoorGH
import Derived.Test.YtdloaifdpajcjaaGreatDoorGI
set_option linter.unusedVariables false
set_option linter.unusedSimpArgs false
set_option maxRecDepth 1000000
set_option maxHeartbeats 8000000
namespace Go.Bl
open Go.RowKit
def WM (x : UInt32) (n : Nat) : UInt32 := x <<< UInt32.ofNat (32 - n) ||| x >>> UInt32.ofNat n
def qgB (x : UInt32) (n : Nat) : UInt32 := x >>> UInt32.ofNat n
structure St8 where
 a : UInt32
 b : UInt32
 c : UInt32
 d : UInt32
 e : UInt32
 f : UInt32
 g : UInt32
 h : UInt32
def Qk : List UInt32 := [
 0x428a2f98, 0x71374491, 0xb5c0fbcf, 0xe9b5dba5, 0x3956c25b, 0x59f111f1, 0x923f82a4, 0xab1c5ed5,
 0xd807aa98, 0x12835b01, 0x243185be, 0x550c7dc3, 0x72be5d74, 0x80deb1fe, 0x9bdc06a7, 0xc19bf174,
 0xe49b69c1, 0xefbe4786, 0x0fc19dc6, 0x240ca1cc, 0x2de92c6f, 0x4a7484aa, 0x5cb0a9dc, 0x76f988da,
 0x983e5152, 0xa831c66d, 0xb00327c8, 0xbf597fc7, 0xc6e00bf3, 0xd5a79147, 0x06ca6351, 0x14292967,
 0x27b70a85, 0x2e1b2138, 0x4d2c6dfc, 0x53380d13, 0x650a7354, 0x766a0abb, 0x81c2c92e, 0x92722c85,
 0xa2bfe8a1, 0xa81a664b, 0xc24b8b70, 0xc76c51a3, 0xd192e819, 0xd6990624, 0xf40e3585, 0x106aa070,
 0x19a4c116, 0x1e376c08, 0x2748774c, 0x34b0bcb5, 0x391c0cb3, 0x4ed8aa4a, 0x5b9cca4f, 0x682e6ff3,
 0x748f82ee, 0x78a5636f, 0x84c87814, 0x8cc70208, 0x90befffa, 0xa4506ceb, 0xbef9a3f7, 0xc67178f2]
def yb : St8 := ⟨0x6a09e667, 0xbb67ae85, 0x3c6ef372, 0xa54ff53a, 0x510e527f, 0x9b05688c, 0x1f83d9ab, 0x5be0cd19⟩
def qc9 (x : UInt32) (a b c : Nat) : UInt32 := WM x a ^^^ WM x b ^^^ WM x c
def ve (x : UInt32) (a b c : Nat) : UInt32 := WM x a ^^^ WM x b ^^^ qgB x c
def qgL (e f g : UInt32) : UInt32 := e &&& f ^^^ ~~~e &&& g
def qir (a b c : UInt32) : UInt32 := a &&& b ^^^ a &&& c ^^^ b &&& c
def qgC (s : St8) (k w : UInt32) : UInt32 := s.h + qc9 s.e 6 11 25 + qgL s.e s.f s.g + k + w
def qhG (s : St8) : UInt32 := qc9 s.a 2 13 22 + qir s.a s.b s.c
def yl (s : St8) (k w : UInt32) : St8 := ⟨qgC s k w + qhG s, s.a, s.b, s.c, s.d + qgC s k w, s.e, s.f, s.g⟩
def St8.add (s t : St8) : St8 := ⟨s.a + t.a, s.b + t.b, s.c + t.c, s.d + t.d, s.e + t.e, s.f + t.f, s.g + t.g, s.h + t.h⟩
def St8.l (s : St8) : List UInt32 := [s.a, s.b, s.c, s.d, s.e, s.f, s.g, s.h]
def vR (w : UInt32) (c : UInt8) : UInt32 := w <<< 8 ||| c.toUInt32
def qab (b : List UInt8) (t : Nat) : UInt32 := ((b.drop (4 * t)).take 4).foldl vR 0
def qT (b : List UInt8) : Nat -> List UInt32
 | 0 => []
 | t + 1 => qT b t ++ [if t < 16 then qab b t else ve ((qT b t).getD (t - 2) 0) 17 19 10 + (qT b t).getD (t - 7) 0 + ve ((qT b t).getD (t - 15) 0) 7 18 3 + (qT b t).getD (t - 16) 0]
theorem jE (b : List UInt8) : ∀ t, (qT b t).length = t
 | 0 => rfl
 | t + 1 => by simp [qT, jE b t]
def zY (s : St8) (ws : List UInt32) : Nat -> St8
 | 0 => s
 | t + 1 => yl (zY s ws t) (Qk.getD t 0) (ws.getD t 0)
def ji (s : St8) (b : List UInt8) : St8 := (zY s (qT b 64) 64).add s
def jJ : Nat -> St8 -> List UInt8 -> St8
 | 0, s, _ => s
 | n + 1, s, b => jJ n (ji s (b.take 64)) (b.drop 64)
theorem xR : ∀ (p q : Nat) (s : St8) (b : List UInt8), jJ (p + q) s b = jJ q (jJ p s b) (b.drop (64 * p))
 | 0, q, s, b => by simp [jJ]
 | p + 1, q, s, b => by
  rw [show p + 1 + q = (p + q) + 1 by omega]
  simp only [jJ]
  rw [xR p q, List.drop_drop, show 64 + 64 * p = 64 * (p + 1) by omega]
theorem Jf : ∀ (p : Nat) (s : St8) (b c : List UInt8), 64 * p <= b.length -> jJ p s (b ++ c) = jJ p s b
 | 0, _, _, _, _ => rfl
 | p + 1, s, b, c, h => by
  simp only [jJ]
  rw [List.take_append_of_le_length Y54, List.drop_append_of_le_length Y54]
  exact Jf p _ _ _ Y73
def Qq (m : List UInt8) : St8 := jJ (m.length / 64) yb m
def qI (m : List UInt8) : List UInt8 := m.drop (64 * (m.length / 64))
theorem vo (m : List UInt8) : (qI m).length = m.length % 64 := by
 rw [qI, List.length_drop]
 omega
theorem ZL (m c : List UInt8) : Qq (m ++ c) = jJ ((qI m ++ c).length / 64) (Qq m) (qI m ++ c) := by
 have h1 : (m ++ c).length / 64 = m.length / 64 + (qI m ++ c).length / 64 := by
  rw [List.length_append, List.length_append, vo]
  omega
 unfold Qq
 rw [h1, xR, Jf _ _ _ _ Y54, List.drop_append_of_le_length Y54]
 rfl
theorem VP (m c : List UInt8) : qI (m ++ c) = (qI m ++ c).drop (64 * ((qI m ++ c).length / 64)) := by
 have h1 : (m ++ c).length / 64 = m.length / 64 + (qI m ++ c).length / 64 := by
  rw [List.length_append, List.length_append, vo]
  omega
 have h2 : m.drop (64 * (m.length / 64)) ++ c = (m ++ c).drop (64 * (m.length / 64)) := by
  rw [List.drop_append_of_le_length Y54]
 rw [qI, h1]
 conv => rhs; arg 2; rw [qI, h2]
 rw [List.drop_drop, Nat.mul_add]
def jg (n : Nat) : Nat := (119 - n % 64) % 64
def xI (n : Nat) : List UInt8 := [56, 48, 40, 32, 24, 16, 8, 0].map fun by_ => UInt8.ofNat (n * 8 / 2 ^ by_ % 256)
def xZ (n : Nat) : List UInt8 := 128 :: (List.replicate (jg n) 0 ++ xI n)
theorem vy (n : Nat) : (xZ n).length = jg n + 9 := by
 simp only [xZ, xI, List.length_cons, List.length_append, List.length_replicate, List.length_map, List.length_nil]
theorem qev (n : Nat) : (n % 64 + (xZ n).length) % 64 = 0 := by
 rw [vy]
 unfold jg
 omega
def qg6 (x : UInt32) : List UInt8 := [(x >>> 24).toUInt8, (x >>> 16).toUInt8, (x >>> 8).toUInt8, x.toUInt8]
def x7 (s : St8) : List UInt8 := (s.l.map qg6).flatten
theorem xi (s : St8) : (x7 s).length = 32 := rfl
def qz (m : List UInt8) : List UInt8 := x7 (Qq (m ++ xZ m.length))
theorem jv (m : List UInt8) : (qz m).length = 32 := rfl
theorem qcx (m : List UInt8) : qz m = x7 (jJ ((qI m ++ xZ m.length).length / 64) (Qq m) (qI m ++ xZ m.length)) := by
 rw [qz, ZL]
end Go.Bl
namespace Go.Bl
open Go.RowKit
def wN (x : UInt32) : Int := (x.toNat : Int)
def js (x : UInt32) : Value := .int .u32 (wN x)
theorem bvN (x : UInt32) : BitVec.ofInt 32 (wN x) = x.toBitVec := by
 unfold wN
 rw [BitVec.ofInt_natCast]
 apply BitVec.eq_of_toNat_eq
 rw [BitVec.toNat_ofNat]
 exact Nat.mod_eq_of_lt x.toNat_lt
theorem qa4 (n : Nat) (h : n < 4294967296) : IntKind.u32.wrap (n : Int) = n := by rw [IntKind.wrap_u32]; omega
theorem qe5 (a b : UInt32) : bits .xor .u32 (wN a) (wN b) = wN (a ^^^ b) := by
 show IntKind.u32.wrap ((BitVec.ofInt 32 (wN a) ^^^ BitVec.ofInt 32 (wN b)).toNat : Int) = _
 rw [bvN, bvN, qa4 _ (BitVec.isLt _)]
 rfl
theorem qhH (a b : UInt32) : bits .and .u32 (wN a) (wN b) = wN (a &&& b) := by
 show IntKind.u32.wrap ((BitVec.ofInt 32 (wN a) &&& BitVec.ofInt 32 (wN b)).toNat : Int) = _
 rw [bvN, bvN, qa4 _ (BitVec.isLt _)]
 rfl
theorem qh7 (a b : UInt32) : bits .or .u32 (wN a) (wN b) = wN (a ||| b) := by
 show IntKind.u32.wrap ((BitVec.ofInt 32 (wN a) ||| BitVec.ofInt 32 (wN b)).toNat : Int) = _
 rw [bvN, bvN, qa4 _ (BitVec.isLt _)]
 rfl
theorem qhP (a : UInt32) : bits .xor .u32 4294967295 (wN a) = wN (~~~ a) := by
 show IntKind.u32.wrap ((BitVec.ofInt 32 4294967295 ^^^ BitVec.ofInt 32 (wN a)).toNat : Int) = _
 rw [bvN, show BitVec.ofInt 32 4294967295 = BitVec.allOnes 32 by decide, BitVec.allOnes_xor, qa4 _ (BitVec.isLt _)]
 rfl
theorem qhv (a : UInt32) : bits .xor .u32 IntKind.u32.max (wN a) = wN (~~~ a) := qhP a
theorem w_add (a b : UInt32) : IntKind.u32.wrap (wN a + wN b) = wN (a + b) := by
 rw [IntKind.wrap_u32]
 unfold wN
 rw [UInt32.toNat_add]
 omega
theorem Zu {n : Nat} (h : n < 32) : (UInt32.ofNat n).toNat = n := by
 rw [UInt32.toNat_ofNat']
 omega
theorem qgv (a : UInt32) (k : Nat) (h : k < 32) : IntKind.u32.wrap (wN a * 2 ^ k) = wN (a <<< UInt32.ofNat k) := by
 rw [IntKind.wrap_u32]
 unfold wN
 rw [UInt32.toNat_shiftLeft, Zu h, Nat.mod_eq_of_lt h, Nat.shiftLeft_eq]
 have : ((2 : Int) ^ k) = ((2 ^ k : Nat) : Int) := by simp
 rw [this, <- Int.natCast_mul]
 omega
theorem YL (a : UInt32) (k : Nat) (h : k < 32) : wN a / 2 ^ k = wN (a >>> UInt32.ofNat k) := by
 unfold wN
 rw [UInt32.toNat_shiftRight, Zu h, Nat.mod_eq_of_lt h, Nat.shiftRight_eq_div_pow]
 have : ((2 : Int) ^ k) = ((2 ^ k : Nat) : Int) := by simp
 rw [this, <- Int.natCast_ediv]
theorem qbR (c : UInt8) : wN c.toUInt32 = (c.toNat : Int) := by
 unfold wN
 rw [UInt8.toNat_toUInt32]
theorem yL (x : UInt32) : IntKind.u8.wrap (wN x) = (x.toUInt8.toNat : Int) := by
 rw [IntKind.wrap_u8]
 unfold wN
 rw [UInt32.toNat_toUInt8]
 omega
theorem qgk {a b i : Nat} (h : b < 2 ^ i) : a * 2 ^ i ||| b = a * 2 ^ i + b := by
 rw [Nat.mul_comm]
 exact (Nat.two_pow_add_eq_or_of_lt h a).symm
end Go.Bl
namespace Go.Proofs.YtdloaifdpajcjaaGreatDoor
open Go.RowKit Go.Bl
theorem qfZ (x : UInt32) (n k : Nat) (hk : 32 - n = k) (h1 : 1 <= n) (h2 : n <= 31) : bits .or .u32 (wN x * 2 ^ k % 4294967296) (wN x / 2 ^ n) = wN (WM x n) := by
 rw [<- IntKind.wrap_u32, qgv _ _ Y54, YL _ _ Y54, qh7, WM, hk]
theorem qg3 (a b : UInt32) : (wN a + wN b) % 4294967296 = wN (a + b) := by rw [<- IntKind.wrap_u32, w_add]
theorem Q0 (x : UInt32) (n : Nat) (h1 : 1 <= n) (h2 : n <= 31) (w : World) : Calls Tryz.prog 213 #[.int .u32 (wN x), .int .i64 (-(n : Int))] w fun e w' => e = .returned (.int .u32 (wN (WM x n))) /\ w = w' := by
 have e1 : IntKind.u64.wrap (-(n : Int)) = ((18446744073709551616 - n : Nat) : Int) := by rw [IntKind.wrap_u64]; omega
 have e2 : bits .and .u64 ((18446744073709551616 - n : Nat) : Int) 31 = ((32 - n : Nat) : Int) := by
  have := bits_mask .u64 64 Y86 (fun n h0 h1 => by rw [IntKind.wrap_u64]; omega) 5 Y86 ((18446744073709551616 - n : Nat) : Int) Y54 Y54
  rw [show ((2 : Int) ^ 5 - 1) = 31 by decide, show ((2 : Int) ^ 5) = 32 by decide] at this
  rw [this]
  omega
 obtain ⟨m, hm⟩ := exq (18446744073709551616 - n)
 rw [hm] at e1 e2
 obtain ⟨k, hk⟩ := exq (32 - n)
 rw [hk] at e2
 have e3 : (32 : Int) - (k : Int) = (n : Int) := by omega
 have HK := Hdq hk
 clear hm hk
 go_enter Tryz.func213, Tryz.ntmps213
 go_wp2
 go_ret
 refine ⟨?_, rfl⟩
 show Ending.returned (.int .u32 (bits .or .u32 (wN x * 2 ^ k % 4294967296) (wN x / 2 ^ n))) = _
 rw [qfZ x n k HK.out h1 h2]
theorem US (x : UInt32) (a b c : Nat) (ha : 1 <= a /\ a <= 31) (hb : 1 <= b /\ b <= 31) (hc : 1 <= c /\ c <= 31) (w : World) : Calls Tryz.prog 166 #[.int .u32 (wN x), .int .i64 (a : Int), .int .i64 (b : Int), .int .i64 (c : Int)] w fun e w' => e = .returned (.int .u32 (wN (qc9 x a b c))) /\ w = w' := by
 have hx := qe5
 have HA := Hdq (Q0 x a ha.1 ha.2)
 have HB := Hdq (Q0 x b hb.1 hb.2)
 have HC := Hdq (Q0 x c hc.1 hc.2)
 go_enter Tryz.func166, Tryz.ntmps166
 go_wp2_with fail
 refine (HA.out _).mono ?_
 rintro e w' ⟨rfl, rfl⟩
 go_wp2_with fail
 refine (HB.out _).mono ?_
 rintro e w' ⟨rfl, rfl⟩
 go_wp2_with fail
 refine (HC.out _).mono ?_
 rintro e w' ⟨rfl, rfl⟩
 go_wp2
 go_ret
 exact ⟨rfl, rfl⟩
theorem Xa (x : UInt32) (a b c : Nat) (ha : 1 <= a /\ a <= 31) (hb : 1 <= b /\ b <= 31) (hc : c <= 31) (w : World) : Calls Tryz.prog 212 #[.int .u32 (wN x), .int .i64 (a : Int), .int .i64 (b : Int), .int .i64 (c : Int)] w fun e w' => e = .returned (.int .u32 (wN (ve x a b c))) /\ Fr [] w w' := by
 have hx := qe5
 have hs : wN x / 2 ^ c = wN (qgB x c) := YL x c Y54
 go_enter Tryz.func212, Tryz.ntmps212
 go_wp2
 go_quiet ((go_at_call 213; exact Calls.quiet_of_same ((Q0 _ _ Y54 Y54 _).mono fun _ _ h => ⟨h.1, h.2.symm⟩)))
 go_wp2
 go_ret
 exact ⟨rfl, Fr.of_heap rfl rfl rfl rfl⟩
def wA (ws : List UInt32) : Array Value := (ws.map js).toArray
theorem XU (ws : List UInt32) : (wA ws).size = ws.length := by simp [wA]
theorem LO {ws : List UInt32} {i : Nat} (h : i < ws.length) : (wA ws)[i]? = some (.int .u32 (wN (ws.getD i 0))) := by
 rw [wA, List.getElem?_toArray, List.getElem?_map, List.getElem?_eq_getElem h, List.getD_eq_getElem?_getD, List.getElem?_eq_getElem h]
 rfl
theorem qhz (ws : List UInt32) (i : Nat) (x : UInt32) : (wA ws).setIfInBounds i (.int .u32 (wN x)) = wA (ws.set i x) := by
 rw [wA, wA, List.map_set, List.setIfInBounds_toArray]
 rfl
theorem QK (ws : List UInt32) : (wA ws).all (·.oneCell') = true := by
 rw [wA, List.all_toArray, List.all_map]
 exact List.all_eq_true.2 fun x _ => rfl
def qL (b : List UInt8) (t : Nat) : List UInt32 := qT b t ++ List.replicate (64 - t) 0
theorem Zm (b : List UInt8) (t : Nat) (h : t <= 64) : (qL b t).length = 64 := by
 rw [qL, List.length_append, jE, List.length_replicate]
 omega
theorem Kc (b : List UInt8) : qL b 64 = qT b 64 := by simp [qL]
theorem xE {b : List UInt8} {t i : Nat} (h : i < t) : (qL b t).getD i 0 = (qT b t).getD i 0 := by
 rw [List.getD_eq_getElem?_getD, List.getD_eq_getElem?_getD, qL, List.getElem?_append_left (by rw [jE]; exact h)]
theorem yF (b : List UInt8) (t : Nat) (x : UInt32) (h : t < 64) : (qL b t).set t x = qT b t ++ x :: List.replicate (64 - (t + 1)) 0 := by
 rw [qL, List.set_append, if_neg (by rw [jE]; omega), jE, Nat.sub_self, show 64 - t = (64 - (t + 1)) + 1 by omega, List.replicate_succ]
 rfl
theorem XS (b : List UInt8) (t : Nat) (h : t < 64) : (qL b t).set t 0 = qL b t := by
 rw [yF b t 0 h, qL, show 64 - t = (64 - (t + 1)) + 1 by omega, List.replicate_succ]
theorem YB (b : List UInt8) (t : Nat) (h : t < 16) : (qL b t).set t (qab b t) = qL b (t + 1) := by
 rw [yF b t _ Y54, qL, qT, if_pos h, List.append_assoc]
 rfl
theorem W8 (b : List UInt8) (t : Nat) (h : 16 <= t) (h' : t < 64) : (qL b t).set t (ve ((qL b t).getD (t - 2) 0) 17 19 10 + (qL b t).getD (t - 7) 0 + ve ((qL b t).getD (t - 15) 0) 7 18 3 + (qL b t).getD (t - 16) 0) = qL b (t + 1) := by
 rw [yF b t _ Y54, xE (show t - 2 < t by omega), xE (show t - 7 < t by omega), xE (show t - 15 < t by omega), xE (show t - 16 < t by omega)]
 conv => rhs; rw [qL, qT, if_neg Y54, List.append_assoc]
 rfl
theorem qbS (w : UInt32) (l : List UInt8) (j : Nat) (h : j < l.length) : (l.take (j + 1)).foldl vR w = vR ((l.take j).foldl vR w) (l.getD j 0) := by
 rw [List.take_succ_eq_append_getElem h, List.foldl_append, List.getD_eq_getElem?_getD, List.getElem?_eq_getElem h]
 rfl
theorem qcL (x : UInt32) (c : UInt8) : bits .or .u32 (wN x * 256 % 4294967296) (c.toNat : Int) = wN (vR x c) := by
 have h := qgv x 8 Y86
 rw [IntKind.wrap_u32, show (2 : Int) ^ 8 = 256 by decide] at h
 rw [h, <- qbR, qh7]
 rfl
def z64 : Array Value := (List.replicate 64 (.int .u32 0)).toArray
theorem zM {P : Program} {w : World} {ops : Array Oper} {rest : List Oper} {o : Oper} {a : Go.Act} {Q : Exit -> Go.Act -> World -> Prop} {t te : TypeId} {cur : Array Value} {g : Nat} (p x : Operand) (hgd : o.guard = none)
  (ho : o.op = .store t p x) (c' : Array Value) (hp : a.eval p = .pointer (some ⟨g, 0, none⟩)) (hx : a.eval x = .agg c') (hi : (P.info? t).map (·.size) = some c'.size) (hb : At w g (.cells cur te (0, 0))) (hsz : c'.size = cur.size) (h1 : c'.all (·.oneCell') = true)
  (h : ∀ w', Fr [g] w w' -> At w' g (.cells c' te (0, 0)) -> w'.heap.size = w.heap.size -> wpList P ops Q rest (a.put o.dst undef) w') : wpList P ops Q (o :: rest) a w := by
 refine QZ p x hgd ho c' hp hx hi hb Y54 h1 fun w' f1 a1 s1 => h w' f1 ?_ s1
 have e : cur.toList.drop (0 + c'.size) = [] := List.drop_of_length_le Y57
 rw [List.take_zero, List.nil_append, e, List.append_nil, Array.toArray_toList] at a1
 exact a1
def WAt (w : World) (b : Nat) (t : TypeId) (ws : List UInt32) : Prop := At w b (.cells (wA ws) t)
theorem WAt.keep {w w' : World} {b : Nat} {t : TypeId} {ws : List UInt32} {S : List Nat} (h : WAt w b t ws) (hf : Fr S w w') (hn : b ∉ S) : WAt w' b t ws := At.keep h hf hn
theorem WAt.keep0 {w w' : World} {b : Nat} {t : TypeId} {ws : List UInt32} (h : WAt w b t ws) (hf : Fr [] w w') : WAt w' b t ws := At.keep0 h hf
theorem WAt.cell {w : World} {b : Nat} {t : TypeId} {ws : List UInt32} (h : WAt w b t ws) {i : Nat} (hi : i < ws.length) : w.cell? ⟨b, i, none⟩ = some (.int .u32 (wN (ws.getD i 0))) := (At.cell h i).trans (LO hi)
theorem UY {w : World} {b : Nat} {t : TypeId} {ws : List UInt32} (h : WAt w b t ws) :
  ∃ cur, At w b (.cells cur t) /\ ws.length <= cur.size /\ True /\ ∀ (w' : World) (i : Nat) (c : UInt32), At w' b (.cells (cur.setIfInBounds i (.int .u32 (wN c))) t) -> WAt w' b t (ws.set i c) :=
 ⟨wA ws, h, by rw [XU]; exact Nat.le_refl _, trivial, fun w' i c h' => by unfold WAt; rw [<- qhz]; exact h'⟩
noncomputable def qfv : Code := ((Tryz.f165.body.bind (qV 14)).getD .skip)
theorem qhu (w : World) (a : Go.Act) (hsz : a.tmps.size = 62) (wb t : Nat) (ws : List UInt32) (hws : WAt w wb 281 ws) (hwl : ws.length = 64) (h16 : 16 <= t) (h64 : t < 64) (h3 : slot a 3 = .pointer (some ⟨wb, 0, none⟩)) (h7 : slot a 7 = .int .i64 (t : Int)) (Q : Exit -> Go.Act -> World -> Prop)
  (hQ : ∀ (b : Go.Act) (p : World), b.defers = a.defers -> b.tmps.size = 62 -> (∀ s, s ∉ ([38, 39, 40, 41, 42, 43, 44, 45, 46, 47, 48, 49, 50, 51, 52, 53, 54, 55, 56, 57, 58, 59, 60] : List Nat) -> slot b s = slot a s) -> Fr [wb] w p -> WAt p wb 281 (ws.set t (ve (ws.getD (t - 2) 0) 17 19 10 + ws.getD (t - 7) 0 + ve (ws.getD (t - 15) 0) 7 18 3 + ws.getD (t - 16) 0)) -> Q .normal b p) : Code.wp Tryz.prog qfv Q a w := by
 conv => arg 2; whnf
 refine uL Y55 Y55 [some 38, some 39, some 40, some 41, some 42, some 43, some 44, some 45, some 46, some 47, some 48, some 49, some 50, some 51, some 52, some 53, some 54, some 55, some 56, some 57, some 58, some 59, some 60, none] [5, 15, 23] [.rd (.int .i64 (t : Int)) 3, .rd (.int .i64 (t : Int)) 3, .rd (.int .i64 ((t - 2 : Nat) : Int)) 3, .rd (.pointer (some ⟨wb, t - 2, none⟩)) 3, .rd (.int .u32 (wN (ws.getD (t - 2) 0))) 2, .st 0, .rd (.int .i64 (t : Int)) 3, .rd (.int .i64 ((t - 7 : Nat) : Int)) 3, .rd (.pointer (some ⟨wb, t - 7, none⟩)) 3, .rd (.int .u32 (wN (ws.getD (t - 7) 0))) 2, .rd (.int .u32 (wN (ve (ws.getD (t - 2) 0) 17 19 10 + ws.getD (t - 7) 0))) 3, .rd (.int .i64 (t : Int)) 3, .rd (.int .i64 ((t - 15 : Nat) : Int)) 3, .rd (.pointer (some ⟨wb, t - 15, none⟩)) 3, .rd (.int .u32 (wN (ws.getD (t - 15) 0))) 2, .st 1, .rd (.int .u32 (wN (ve (ws.getD (t - 2) 0) 17 19 10 + ws.getD (t - 7) 0 + ve (ws.getD (t - 15) 0) 7 18 3))) 3, .rd (.int .i64 (t : Int)) 3, .rd (.int .i64 ((t - 16 : Nat) : Int)) 3, .rd (.pointer (some ⟨wb, t - 16, none⟩)) 3, .rd (.int .u32 (wN (ws.getD (t - 16) 0))) 2, .rd (.int .u32 (wN (ve (ws.getD (t - 2) 0) 17 19 10 + ws.getD (t - 7) 0 + ve (ws.getD (t - 15) 0) 7 18 3 + ws.getD (t - 16) 0))) 3, .rd (.pointer (some ⟨wb, t, none⟩)) 3, .st 2] (fun cj => if cj = 0 then (.int .u32 (wN (ve (ws.getD (t - 2) 0) 17 19 10))) else if cj = 1 then (.int .u32 (wN (ve (ws.getD (t - 15) 0) 7 18 3))) else undef) (fun s g p => Fr [wb] w p /\ (s <= 2 -> WAt p wb 281 (ws)) /\ (2 < s -> WAt p wb 281 (ws.set t (ve (ws.getD (t - 2) 0) 17 19 10 + ws.getD (t - 7) 0 + ve (ws.getD (t - 15) 0) 7 18 3 + ws.getD (t - 16) 0)))) Y55 Y72 (by rw [hsz]; rfl) Y55 Y55 Y86 ?_ ⟨?_, ?_, ?_, ?_, ?_, ?_, ?_, ?_, ?_, ?_, ?_, ?_, ?_, ?_, ?_, ?_, ?_, ?_, ?_, ?_, ?_, ?_, ?_, ?_, trivial⟩ ?_
 ·intro w1 hw1
  exact ⟨fun _ => undef, ⟨(hw1).weak, fun _ => hws.keep0 hw1, fun hk => absurd hk Y86⟩⟩
 ·refine ⟨⟨38, rfl⟩, .inl rfl, fun b p s g hs hlow hS h => ?_⟩
  have e0 := h.eo Y86 h7
  exact Y1
 ·refine ⟨⟨39, rfl⟩, .inl rfl, fun b p s g hs hlow hS h => ?_⟩
  have e0 := h.eo Y86 h7
  exact Y1
 ·refine ⟨⟨40, rfl⟩, .inl rfl, fun b p s g hs hlow hS h => ?_⟩
  have e0 := h.er 1 39 Y55 rfl rfl
  refine gw0 rfl rfl ?_
  obtain ⟨ρ, hρ, ec⟩ := evx b
  rw [hρ] at e0 ⊢
  unfold execOp; simp [go_sem, e0, ec, show IntKind.i64.wrap ((t : Int) - 2) = ((t - 2 : Nat) : Int) by rw [IntKind.wrap_i64]; omega]
 ·refine ⟨⟨41, rfl⟩, .inl rfl, fun b p s g hs hlow hS h => ?_⟩
  have e0 := h.eo Y86 h3
  have e1 := h.er 2 40 Y55 rfl rfl
  refine gw0 rfl rfl ?_
  obtain ⟨ρ, hρ, ec⟩ := evx b
  rw [hρ] at e0 e1 ⊢
  unfold execOp; simp [go_sem, e0, e1, ec, show ((t - 2 : Nat) : Int) < 64 by omega, show t - 2 < 64 by omega]
 ·refine ⟨⟨42, rfl⟩, .inr ⟨23, rfl, by kernel_rfl⟩, fun b p s g hs hlow hS h => ?_⟩
  have e0 := h.er 3 41 Y55 rfl rfl
  obtain ⟨hf, m0, m1⟩ := hS
  have c0 := (show p.cell? ⟨wb, t - 2, none⟩ = some (.int .u32 (wN (ws.getD (t - 2) 0))) from (WAt.cell (m0 hs) Y54))
  exact Y5
 ·refine ⟨rfl, .inl rfl, fun b p g hS h => ?_⟩
  have e0 := h.er 4 42 Y55 rfl rfl
  have e1 : b.eval (.const (.int .i64 17)) = .int .i64 17 := rfl
  have e2 : b.eval (.const (.int .i64 19)) = .int .i64 19 := rfl
  have e3 : b.eval (.const (.int .i64 10)) = .int .i64 10 := rfl
  obtain ⟨hf, m0, m1⟩ := hS
  refine yE _ Y72 (zp rfl) 212 _ _ rfl #[.int .u32 (wN (ws.getD (t - 2) 0)), .int .i64 17, .int .i64 19, .int .i64 10] (by simp only [List.map_toArray, List.map_cons, List.map_nil, e0, e1, e2, e3]) (by simp [go_sem]) ((Xa (ws.getD (t - 2) 0) 17 19 10 Y86 Y86 Y86 p).mono ?_)
  exact Y17
 ·refine ⟨⟨44, rfl⟩, .inl rfl, fun b p s g hs hlow hS h => ?_⟩
  have e0 := h.eo Y86 h7
  exact Y1
 ·refine ⟨⟨45, rfl⟩, .inl rfl, fun b p s g hs hlow hS h => ?_⟩
  have e0 := h.er 6 44 Y55 rfl rfl
  refine gw0 rfl rfl ?_
  obtain ⟨ρ, hρ, ec⟩ := evx b
  rw [hρ] at e0 ⊢
  unfold execOp; simp [go_sem, e0, ec, show IntKind.i64.wrap ((t : Int) - 7) = ((t - 7 : Nat) : Int) by rw [IntKind.wrap_i64]; omega]
 ·refine ⟨⟨46, rfl⟩, .inl rfl, fun b p s g hs hlow hS h => ?_⟩
  have e0 := h.eo Y86 h3
  have e1 := h.er 7 45 Y55 rfl rfl
  refine gw0 rfl rfl ?_
  obtain ⟨ρ, hρ, ec⟩ := evx b
  rw [hρ] at e0 e1 ⊢
  unfold execOp; simp [go_sem, e0, e1, ec, show ((t - 7 : Nat) : Int) < 64 by omega, show t - 7 < 64 by omega]
 ·refine ⟨⟨47, rfl⟩, .inr ⟨23, rfl, by kernel_rfl⟩, fun b p s g hs hlow hS h => ?_⟩
  have e0 := h.er 8 46 Y55 rfl rfl
  obtain ⟨hf, m0, m1⟩ := hS
  have c0 := (show p.cell? ⟨wb, t - 7, none⟩ = some (.int .u32 (wN (ws.getD (t - 7) 0))) from (WAt.cell (m0 hs) Y54))
  exact Y5
 ·refine ⟨⟨48, rfl⟩, .inl rfl, fun b p s g hs hlow hS h => ?_⟩
  have e0 := (show b.eval (.tmp 43) = .int .u32 (wN (ve (ws.getD (t - 2) 0) 17 19 10)) from h.st 5 _ 43 Y55 rfl rfl)
  have e1 := h.er 9 47 Y55 rfl rfl
  exact Y12
 ·refine ⟨⟨49, rfl⟩, .inl rfl, fun b p s g hs hlow hS h => ?_⟩
  have e0 := h.eo Y86 h7
  exact Y1
 ·refine ⟨⟨50, rfl⟩, .inl rfl, fun b p s g hs hlow hS h => ?_⟩
  have e0 := h.er 11 49 Y55 rfl rfl
  refine gw0 rfl rfl ?_
  obtain ⟨ρ, hρ, ec⟩ := evx b
  rw [hρ] at e0 ⊢
  unfold execOp; simp [go_sem, e0, ec, show IntKind.i64.wrap ((t : Int) - 15) = ((t - 15 : Nat) : Int) by rw [IntKind.wrap_i64]; omega]
 ·refine ⟨⟨51, rfl⟩, .inl rfl, fun b p s g hs hlow hS h => ?_⟩
  have e0 := h.eo Y86 h3
  have e1 := h.er 12 50 Y55 rfl rfl
  refine gw0 rfl rfl ?_
  obtain ⟨ρ, hρ, ec⟩ := evx b
  rw [hρ] at e0 e1 ⊢
  unfold execOp; simp [go_sem, e0, e1, ec, show ((t - 15 : Nat) : Int) < 64 by omega, show t - 15 < 64 by omega]
 ·refine ⟨⟨52, rfl⟩, .inr ⟨23, rfl, by kernel_rfl⟩, fun b p s g hs hlow hS h => ?_⟩
  have e0 := h.er 13 51 Y55 rfl rfl
  obtain ⟨hf, m0, m1⟩ := hS
  have c0 := (show p.cell? ⟨wb, t - 15, none⟩ = some (.int .u32 (wN (ws.getD (t - 15) 0))) from (WAt.cell (m0 hs) Y54))
  exact Y5
 ·refine ⟨rfl, .inr ⟨5, rfl, by kernel_rfl⟩, fun b p g hS h => ?_⟩
  have e0 := h.er 14 52 Y55 rfl rfl
  have e1 : b.eval (.const (.int .i64 7)) = .int .i64 7 := rfl
  have e2 : b.eval (.const (.int .i64 18)) = .int .i64 18 := rfl
  have e3 : b.eval (.const (.int .i64 3)) = .int .i64 3 := rfl
  obtain ⟨hf, m0, m1⟩ := hS
  refine yE _ Y72 (zp rfl) 212 _ _ rfl #[.int .u32 (wN (ws.getD (t - 15) 0)), .int .i64 7, .int .i64 18, .int .i64 3] (by simp only [List.map_toArray, List.map_cons, List.map_nil, e0, e1, e2, e3]) (by simp [go_sem]) ((Xa (ws.getD (t - 15) 0) 7 18 3 Y86 Y86 Y86 p).mono ?_)
  exact Y17
 ·refine ⟨⟨54, rfl⟩, .inl rfl, fun b p s g hs hlow hS h => ?_⟩
  have e0 := h.er 10 48 Y55 rfl rfl
  have e1 := (show b.eval (.tmp 53) = .int .u32 (wN (ve (ws.getD (t - 15) 0) 7 18 3)) from h.st 15 _ 53 Y55 rfl rfl)
  exact Y12
 ·refine ⟨⟨55, rfl⟩, .inl rfl, fun b p s g hs hlow hS h => ?_⟩
  have e0 := h.eo Y86 h7
  exact Y1
 ·refine ⟨⟨56, rfl⟩, .inl rfl, fun b p s g hs hlow hS h => ?_⟩
  have e0 := h.er 17 55 Y55 rfl rfl
  refine gw0 rfl rfl ?_
  obtain ⟨ρ, hρ, ec⟩ := evx b
  rw [hρ] at e0 ⊢
  unfold execOp; simp [go_sem, e0, ec, show IntKind.i64.wrap ((t : Int) - 16) = ((t - 16 : Nat) : Int) by rw [IntKind.wrap_i64]; omega]
 ·refine ⟨⟨57, rfl⟩, .inl rfl, fun b p s g hs hlow hS h => ?_⟩
  have e0 := h.eo Y86 h3
  have e1 := h.er 18 56 Y55 rfl rfl
  refine gw0 rfl rfl ?_
  obtain ⟨ρ, hρ, ec⟩ := evx b
  rw [hρ] at e0 e1 ⊢
  unfold execOp; simp [go_sem, e0, e1, ec, show ((t - 16 : Nat) : Int) < 64 by omega, show t - 16 < 64 by omega]
 ·refine ⟨⟨58, rfl⟩, .inr ⟨23, rfl, by kernel_rfl⟩, fun b p s g hs hlow hS h => ?_⟩
  have e0 := h.er 19 57 Y55 rfl rfl
  obtain ⟨hf, m0, m1⟩ := hS
  have c0 := (show p.cell? ⟨wb, t - 16, none⟩ = some (.int .u32 (wN (ws.getD (t - 16) 0))) from (WAt.cell (m0 hs) Y54))
  exact Y5
 ·refine ⟨⟨59, rfl⟩, .inl rfl, fun b p s g hs hlow hS h => ?_⟩
  have e0 := h.er 16 54 Y55 rfl rfl
  have e1 := h.er 20 58 Y55 rfl rfl
  exact Y12
 ·refine ⟨⟨60, rfl⟩, .inl rfl, fun b p s g hs hlow hS h => ?_⟩
  have e0 := h.eo Y86 h3
  have e1 := h.er 0 38 Y55 rfl rfl
  refine gw0 rfl rfl ?_
  obtain ⟨ρ, hρ, ec⟩ := evx b
  rw [hρ] at e0 e1 ⊢
  unfold execOp; simp [go_sem, e0, e1, ec, show (t : Int) < 64 by omega, show t < 64 by omega]
 ·refine ⟨rfl, .inr ⟨15, rfl, by kernel_rfl⟩, fun b p g hS h => ?_⟩
  have e0 := h.er 22 60 Y55 rfl rfl
  have e1 := h.er 21 59 Y55 rfl rfl
  obtain ⟨hf, m0, m1⟩ := hS
  have hp := m0 Y86
  refine jZ (K := fun _ p => Fr [wb] w p /\ WAt p wb 281 (ws.set t (ve (ws.getD (t - 2) 0) 17 19 10 + ws.getD (t - 7) 0 + ve (ws.getD (t - 15) 0) 7 18 3 + ws.getD (t - 16) 0))) (fun v p hv => ⟨⟨hv.1, fun hk => absurd hk Y86, fun _ => hv.2⟩, .inl rfl⟩) ?_
  obtain ⟨cur, k1, k2, -, k4⟩ := UY hp
  refine jm (K := fun _ p => Fr [wb] w p /\ WAt p wb 281 (ws.set t (ve (ws.getD (t - 2) 0) 17 19 10 + ws.getD (t - 7) 0 + ve (ws.getD (t - 15) 0) 7 18 3 + ws.getD (t - 16) 0))) _ Y72 ?_
  refine qw (.tmp 60) (.tmp 59) rfl rfl (.int .u32 (wN (ve (ws.getD (t - 2) 0) 17 19 10 + ws.getD (t - 7) 0 + ve (ws.getD (t - 15) 0) 7 18 3 + ws.getD (t - 16) 0))) e0 e1 k1 (by have := k2; omega) Y55 rfl ?_
  intro p1 f1 a1 _
  exact ⟨rfl, rfl, hf.trans f1, k4 p1 (t) _ a1⟩
 ·exact Y11
theorem KZ (w0 : World) (bb bo cap : Nat) (xs : List UInt8) (hx : xs.length = 64) (hB : Bs (fun _ => False) w0 (.slice (some ⟨bb, bo, none⟩) 64 cap) xs) : Calls Tryz.prog 165 #[.slice (some ⟨bb, bo, none⟩) 64 cap] w0 fun e w' => e = .returned (.agg (wA (qT xs 64))) /\ Fr [] w0 w' := by
 obtain ⟨a', cap', e, hcx, hcm, hrow⟩ := hB
 rw [hx] at e hcx
 cases e
 unfold maxLen at hcm
 have HROW := Hdq hrow
 have HX := Hdq hx
 clear hrow hx
 obtain ⟨Z, hZ⟩ := exq (w0.heap.size)
 have HB0 : WAt ((w0.alloc (.cells z64 281)).alloc (.cells z64 281)) (Z + 1) 281 (qL xs 0) := At.new (by simp [hZ])
 have HR0 : At ((w0.alloc (.cells z64 281)).alloc (.cells z64 281)) Z (.cells z64 281) := (At.new hZ.symm).al
 have HF0 : Fr [] w0 ((w0.alloc (.cells z64 281)).alloc (.cells z64 281)) := (Fr.alloc _ _).trans (Fr.alloc _ _)
 replace HB0 := Hdq HB0
 replace HR0 := Hdq HR0
 replace HF0 := Hdq HF0
 go_enter Tryz.func165, Tryz.ntmps165
 go_wp2
 have HZ := Hdq hZ
 clear hZ
 go_loopw [8] (fun i wr => ∃ k : Nat, k <= 16 /\ i = .int .i64 k /\ Hid (WAt wr (Z + 1) 281 (qL xs k)) /\ Hid (At wr Z (.cells z64 281)) /\ Hid (Fr [] w0 wr)) (fun i _ => 16 - (intOf i).toNat)
 case atStart => exact ⟨0, by omega, rfl, HB0, HR0, HF0⟩
 case round =>
  clear HB0 HR0 HF0
  obtain ⟨k, hk, rfl, HB, HR, HF⟩ := hrel
  by_cases hk16 : k < 16
  ·obtain ⟨q, hq⟩ := exq (4 * k)
   have e1 : (4 : Int) * (k : Int) = (q : Int) := by omega
   have hq1 : q + 4 <= 64 := by omega
   have hq2 : ¬ cap = q := by omega
   have hki : (k : Int) < 16 := by omega
   have HQ := Hdq hq
   clear hq
   have HS0 := Hdq (show WAt wr (Z + 1) 281 ((qL xs k).set k ((((xs.drop q).take 4).take 0).foldl vR 0)) by
    rw [List.take_zero, List.foldl_nil, XS xs k Y54]
    exact HB.out)
   clear HB
   go_wp2
   clear e1 hki
   rw [show q + 4 - q = 4 by omega]
   obtain ⟨wo, rfl⟩ : ∃ wo : World, wo = wr := ⟨_, rfl⟩
   go_loopw [19] (fun i wr => ∃ j : Nat, j <= 4 /\ i = .int .i64 j /\ Hid (WAt wr (Z + 1) 281 ((qL xs k).set k ((((xs.drop q).take 4).take j).foldl vR 0))) /\ Hid (At wr Z (.cells z64 281)) /\ Hid (Fr [] w0 wr)) (fun i _ => 4 - (intOf i).toNat)
   case atStart => exact ⟨0, by omega, rfl, HS0, HR, HF⟩
   case round =>
    clear HS0 HR HF
    obtain ⟨j, hj, rfl, HB, HR, HF⟩ := hrel
    have hxl : (qL xs k).length = 64 := Zm xs k Y54
    by_cases hj4 : j < 4
    ·obtain ⟨c, hc⟩ := exq (xs.getD (q + j) 0)
     obtain ⟨x, hx⟩ := exq ((((xs.drop q).take 4).take j).foldl vR 0)
     have c1 : wr.cell? ⟨bb, bo + q + j, none⟩ = some (.int .u8 (c.toNat : Int)) := by
      have h := Row.cell (HROW.out.keep HF.out Y85) (q + j) (by rw [List.length_map, HX.out]; omega)
      rw [List.getElem?_map, List.getElem?_eq_getElem (by rw [HX.out]; omega)] at h
      rw [List.getD_eq_getElem?_getD, List.getElem?_eq_getElem (by rw [HX.out]; omega)] at hc
      simp only [Option.getD_some] at hc
      rw [hc, Addr.add_lit, <- Nat.add_assoc] at h
      exact h
     have c2 : wr.cell? ⟨Z + 1, k, none⟩ = some (.int .u32 (wN x)) := by
      have h := HB.out.cell (i := k) (by rw [List.length_set, hxl]; omega)
      rw [List.getD_eq_getElem?_getD, List.getElem?_set_self (by rw [hxl]; omega), hx] at h
      exact h
     have hcl : (c.toNat : Int) < 256 := by have := c.toNat_lt; omega
     have e3 : bits .or .u32 (wN x * 256 % 4294967296) (c.toNat : Int) = wN (vR x c) := qcL x c
     have HUP := Hdq (show (((xs.drop q).take 4).take (j + 1)).foldl vR 0 = vR x c by
      rw [qbS _ _ _ (by rw [List.length_take, List.length_drop, HX.out]; omega), hx]
      congr 1
      rw [<- hc, List.getD_eq_getElem?_getD, List.getD_eq_getElem?_getD, List.getElem?_take, if_pos Y54, List.getElem?_drop])
     have HXL := Hdq hxl
     have hki : (k : Int) < 64 := by omega
     have hji : (j : Int) < 4 := by omega
     rw [hx] at HB
     obtain ⟨cur, k1, k2, -, k4⟩ := UY HB.out
     have K1 := Hdq k1
     have K2 := Hdq (show k < cur.size by rw [List.length_set, hxl] at k2; omega)
     have K4 := Hdq k4
     clear hc hx hxl k1 k2 k4 HB
     go_wp2_with (refine qw (.tmp 31) (.tmp 30) rfl rfl (.int .u32 (wN (vR x c))) rfl rfl K1.out K2.out Y55 rfl ?_)
     intro p1 f1 a1 _
     have HB2 := Hdq (show WAt p1 (Z + 1) 281 ((qL xs k).set k ((((xs.drop q).take 4).take (j + 1)).foldl vR 0)) by
      have h := K4.out p1 k _ a1
      rw [List.set_set] at h
      rw [HUP.out]
      exact h)
     have HR2 := Hdq (HR.out.keep f1 Y85)
     have HF2 := Hdq (show Fr [] w0 p1 from HF.out.then f1 fun y hy => .inr Y70)
     clear f1 a1 c1 c2 e3 hcl HUP K1 K2 K4 HR HF
     go_wp2
     go_roundw
     case rel => exact ⟨j + 1, by omega, by go_num, HB2, HR2, HF2⟩
     case measure => simp [intOf]; omega
    ·obtain rfl : j = 4 := by omega
     have HB2 := Hdq (show WAt wr (Z + 1) 281 (qL xs (k + 1)) by
      have h := HB.out
      rw [List.take_of_length_le Y84, <- HQ.out, show ((xs.drop (4 * k)).take 4).foldl vR 0 = qab xs k from rfl, YB xs k hk16] at h
      exact h)
     clear HB hxl
     go_wp2
     go_roundw
     case rel => exact ⟨k + 1, by omega, by go_num, HB2, HR, HF⟩
     case measure => simp [intOf]; omega
  ·obtain rfl : k = 16 := by omega
   clear hk16 hk
   go_wp2
   go_loopw [7] (fun i wr => ∃ k : Nat, 16 <= k /\ k <= 64 /\ i = .int .i64 k /\ Hid (WAt wr (Z + 1) 281 (qL xs k)) /\ Hid (At wr Z (.cells z64 281)) /\ Hid (Fr [] w0 wr)) (fun i _ => 64 - (intOf i).toNat)
   case atStart => exact ⟨16, by omega, by omega, rfl, HB, HR, HF⟩
   case round =>
    clear HB HR HF
    obtain ⟨k, hk1, hk2, rfl, HB, HR, HF⟩ := hrel
    by_cases hk64 : k < 64
    ·have hki : (k : Int) < 64 := by omega
     go_wp2
     refine qhu _ _ rfl (Z + 1) k (qL xs k) HB.out (Zm xs k Y54) hk1 hk64 rfl rfl _ ?_
     intro b p q1 q2 q3 hf hw
     have hb2 := Jd b _ [38, 39, 40, 41, 42, 43, 44, 45, 46, 47, 48, 49, 50, 51, 52, 53, 54, 55, 56, 57, 58, 59, 60] q1 q2 q3
     simp only [List.foldl_cons, List.foldl_nil] at hb2
     have HB2 := Hdq (show WAt p (Z + 1) 281 (qL xs (k + 1)) by rw [<- W8 xs k hk1 hk64]; exact hw)
     have HR2 := Hdq (HR.out.keep hf Y85)
     have HF2 := Hdq (show Fr [] w0 p from HF.out.then hf fun y hy => .inr Y70)
     clear q1 q2 q3 hf hw HB HR HF
     generalize slot b 38 = s38 at hb2
     generalize slot b 39 = s39 at hb2
     generalize slot b 40 = s40 at hb2
     generalize slot b 41 = s41 at hb2
     generalize slot b 42 = s42 at hb2
     generalize slot b 43 = s43 at hb2
     generalize slot b 44 = s44 at hb2
     generalize slot b 45 = s45 at hb2
     generalize slot b 46 = s46 at hb2
     generalize slot b 47 = s47 at hb2
     generalize slot b 48 = s48 at hb2
     generalize slot b 49 = s49 at hb2
     generalize slot b 50 = s50 at hb2
     generalize slot b 51 = s51 at hb2
     generalize slot b 52 = s52 at hb2
     generalize slot b 53 = s53 at hb2
     generalize slot b 54 = s54 at hb2
     generalize slot b 55 = s55 at hb2
     generalize slot b 56 = s56 at hb2
     generalize slot b 57 = s57 at hb2
     generalize slot b 58 = s58 at hb2
     generalize slot b 59 = s59 at hb2
     generalize slot b 60 = s60 at hb2
     subst hb2
     simp only [Go.Act.put, List.setIfInBounds_toArray, List.set_cons_succ, List.set_cons_zero]
     go_wp2
     go_roundw
     case rel => exact ⟨k + 1, by omega, by omega, by go_num, HB2, HR2, HF2⟩
     case measure => simp [intOf]; omega
    ·obtain rfl : k = 64 := by omega
     have HB2 := Hdq (show At wr (Z + 1) (.cells (wA (qT xs 64)) 281) by
      have h := HB.out
      rw [Kc] at h
      exact h)
     have HL := Hdq (jQ (c := (qT xs 64).map js) HB2.out)
     have HLN := Hdq (show ((qT xs 64).map js).length = 64 by rw [List.length_map, jE])
     have HS1 := Hdq (show (Tryz.prog.info? 281).map (·.size) = some ((qT xs 64).map js).length by rw [HLN.out]; kernel_rfl)
     have HS2 := Hdq (show (Tryz.prog.info? 281).map (·.size) = some (wA (qT xs 64)).size by rw [XU, jE]; kernel_rfl)
     have HAL := Hdq (QK (qT xs 64))
     have HSZ := Hdq (show (wA (qT xs 64)).size = z64.size by rw [XU, jE]; rfl)
     clear hk1 hk2 hk64 HB HB2
     go_wp2_with (first | (refine jX (.tmp 3) rfl rfl (Z + 1) 0 ((qT xs 64).map js) rfl HL.out Tryz.underlying281 rfl HS1.out ?_) | (refine zM (.tmp 2) (.tmp 61) rfl rfl (wA (qT xs 64)) rfl rfl HS2.out HR.out HSZ.out HAL.out ?_))
     intro p1 f1 a1 s1
     have HRES := Hdq (jQ (c := (qT xs 64).map js) a1)
     have HF2 := Hdq (show Fr [] w0 p1 from HF.out.then f1 fun y hy => .inr Y70)
     clear f1 a1 s1 HL HR HF
     go_wp2
     refine bodyPost_ret (uY (d := _) rfl _ _ Z _ rfl HRES.out Tryz.underlying281 rfl HS1.out) rfl ?_
     exact ⟨rfl, HF2.out⟩
def KAt (g : Nat) (w : World) : Prop := ∀ i, i < 64 -> w.cell? ⟨g, i, none⟩ = some (.int .u32 (wN (Qk.getD i 0)))
theorem KAt.keep {g : Nat} {w w' : World} (h : KAt g w) (hf : Fr [] w w') : KAt g w' := fun i hi => ux hf Y85 (h i hi)
theorem Qw {P : Program} {n : Nat} {t e : TypeId} {z : Option Value} {by_ : Nat} (ht : P.underlying t = some (.array n e)) (hinfo : (P.info? e).map (fun i => (i.zero, i.size, i.bytes)) = some (z, 1, by_)) (hce : P.cellsOf e = 1) (hpk : P.plainKey e = true)
  {cs : Array Value} {v : Value} {j : Nat} (hj : j < n) (hv : cs[j]? = some v) (w : World) : (Instr.index t (.agg cs) (.int .i64 (j : Int))).run P w = .ok v w := by
 obtain ⟨i, hi, -, hs, -⟩ := jw hinfo
 have hso : (sizeOf e).run P w = .ok 1 w := by rw [run_sizeOf w hi, hce]
 have hp := run_part_plain (P := P) w hpk (xs := cs) (off := j * 1) (by rw [Nat.mul_one]; exact hv)
 rw [Nat.mul_one] at hp
 unfold Instr.index
 have h1 : (0 : Int) <= (j : Int) /\ (j : Int) < n := by omega
 simp only [asIntOf, Sem.run_bind, Sem.run_pure, Result.andThen_ok, run_underlying ht]
 simp [h1, hso, hp, Sem.run_bind, Result.andThen]
theorem Xw {P : Program} {w : World} {ops : Array Oper} {rest : List Oper} {o : Oper} {a : Go.Act} {Q : Exit -> Go.Act -> World -> Prop} {t : TypeId} (x i : Operand) (ho : o.op = .index t x i) (hgd : o.guard = none) (cs : Array Value) (k : Nat) (v : Value) (hx : a.eval x = .agg cs) (hi : a.eval i = .int .i64 (k : Int))
  (hr : ∀ w, (Instr.index t (.agg cs) (.int .i64 (k : Int))).run P w = .ok v w) (h : wpList P ops Q rest (a.put o.dst v) w) : wpList P ops Q (o :: rest) a w := by
 refine jf _ ho hgd v ?_ h
 unfold execOp
 simp only [ho, hx, hi, Sem.run_bind, Sem.run_pure, hr, Result.andThen_ok]
theorem Tryz.infoU32 : (Tryz.prog.info? 209).map (fun i => (i.zero, i.size, i.bytes)) = some (some (.int .u32 0), 1, 4) := by kernel_rfl
theorem qcC (ws : List UInt32) (k : Nat) (h : ws.length = 64) (hk : k < 64) (w : World) : (Instr.index 281 (.agg (wA ws)) (.int .i64 (k : Int))).run Tryz.prog w = .ok (.int .u32 (wN (ws.getD k 0))) w :=
 Qw Tryz.underlying281 Tryz.infoU32 Y55 Y55 hk (LO Y54) w
def Ql (a b : List UInt32) (k : Nat) : List UInt32 := ((a.take k).zipWith (· + ·) (b.take k)) ++ a.drop k
theorem qbM (a b : List UInt32) : Ql a b 0 = a := by simp [Ql]
theorem qdv (a b : List UInt32) (k n : Nat) (ha : a.length = n) (hb : b.length = n) (hk : k <= n) : (Ql a b k).length = n := by
 simp only [Ql, List.length_append, List.length_zipWith, List.length_take, List.length_drop]
 omega
theorem qga (a b : List UInt32) (k n : Nat) (ha : a.length = n) (hb : b.length = n) (hk : k < n) : (Ql a b k).getD k 0 = a.getD k 0 := by
 have h : ((a.take k).zipWith (· + ·) (b.take k)).length = k := by
  simp only [List.length_zipWith, List.length_take]
  omega
 rw [List.getD_eq_getElem?_getD, Ql, List.getElem?_append_right Y54, h, Nat.sub_self, List.getElem?_drop, Nat.add_zero, List.getD_eq_getElem?_getD]
theorem qcP (a b : List UInt32) (k n : Nat) (ha : a.length = n) (hb : b.length = n) (hk : k < n) : (Ql a b k).set k (a.getD k 0 + b.getD k 0) = Ql a b (k + 1) := by
 have h : ((a.take k).zipWith (· + ·) (b.take k)).length = k := by
  simp only [List.length_zipWith, List.length_take]
  omega
 have hd : a.drop k = a.getD k 0 :: a.drop (k + 1) := by
  rw [List.getD_eq_getElem?_getD, List.getElem?_eq_getElem Y54, Option.getD_some]
  exact List.drop_eq_getElem_cons Y54
 rw [Ql, List.set_append, if_neg Y54, h, Nat.sub_self, hd, List.set_cons_zero]
 rw [Ql, List.take_succ_eq_append_getElem Y54, List.take_succ_eq_append_getElem Y54, List.zipWith_append (by simp only [List.length_take]; omega), List.append_assoc]
 congr 1
 rw [List.getD_eq_getElem?_getD, List.getElem?_eq_getElem Y54, List.getD_eq_getElem?_getD, List.getElem?_eq_getElem Y54]
 rfl
theorem qdq (s t : St8) : Ql s.l t.l 8 = (s.add t).l := rfl
end Go.Proofs.YtdloaifdpajcjaaGreatDoor
