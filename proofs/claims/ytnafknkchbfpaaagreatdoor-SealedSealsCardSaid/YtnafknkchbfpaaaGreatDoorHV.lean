import Derived.Test.YtnafknkchbfpaaaGreatDoorGD
set_option maxRecDepth 1000000
set_option maxHeartbeats 8000000
namespace Go.Bl
open Go.RowKit
set_option linter.unusedVariables false
def rm1 (a b : Nat) : Nat -> Nat
 | 0 => 0
 | i + 1 => if b / 2 ^ i % 2 = 1 then rm1 a b i ^^^ a * 2 ^ i else rm1 a b i
def rm2 (p : Nat) : Nat -> Nat
 | 0 => p
 | k + 1 => if rm2 p k / 2 ^ (14 - k) % 2 = 1 then rm2 p k ^^^ 285 * 2 ^ (6 - k) else rm2 p k
def zz (a b : Nat) : Nat := rm2 (rm1 a b 8) 7
theorem x11 (P Q m : Nat) : (P ^^^ m) ^^^ (Q ^^^ m) = P ^^^ Q := Nat.eq_of_testBit_eq fun i => by
 exact Y74
theorem x10 (P Q m : Nat) : (P ^^^ m) ^^^ Q = (P ^^^ Q) ^^^ m := Nat.eq_of_testBit_eq fun i => by
 exact Y74
theorem x01 (P Q m : Nat) : P ^^^ (Q ^^^ m) = (P ^^^ Q) ^^^ m := Nat.eq_of_testBit_eq fun i => by
 exact Y74
theorem x22 (P Q m n : Nat) : (P ^^^ m) ^^^ (Q ^^^ n) = (P ^^^ Q) ^^^ (m ^^^ n) := Nat.eq_of_testBit_eq fun i => by
 simp only [Nat.testBit_xor]; cases P.testBit i <;> cases Q.testBit i <;> cases m.testBit i <;> cases n.testBit i <;> rfl
theorem Zt (a c i : Nat) : (a ^^^ c) * 2 ^ i = a * 2 ^ i ^^^ c * 2 ^ i := by
 rw [<- Nat.shiftLeft_eq, <- Nat.shiftLeft_eq, <- Nat.shiftLeft_eq, Nat.shiftLeft_xor_distrib]
theorem YC (a c b : Nat) : ∀ i, rm1 (a ^^^ c) b i = rm1 a b i ^^^ rm1 c b i
 | 0 => by simp [rm1]
 | i + 1 => by
  simp only [rm1]
  rw [YC a c b i]
  split
  ·rw [Zt, x22]
  ·rfl
theorem Wd (P Q i : Nat) : ((P ^^^ Q) / 2 ^ i % 2 = 1) ↔ ¬ ((P / 2 ^ i % 2 = 1) ↔ (Q / 2 ^ i % 2 = 1)) := by
 have h := Nat.testBit_xor P Q i
 rw [Nat.testBit_eq_decide_div_mod_eq, Nat.testBit_eq_decide_div_mod_eq, Nat.testBit_eq_decide_div_mod_eq] at h
 by_cases h1 : P / 2 ^ i % 2 = 1 <;> by_cases h2 : Q / 2 ^ i % 2 = 1 <;> simp [h1, h2] at h ⊢ <;> omega
theorem YJ (p q : Nat) : ∀ k, rm2 (p ^^^ q) k = rm2 p k ^^^ rm2 q k
 | 0 => rfl
 | k + 1 => by
  simp only [rm2]
  rw [YJ p q k]
  have hb := Wd (rm2 p k) (rm2 q k) (14 - k)
  by_cases h1 : rm2 p k / 2 ^ (14 - k) % 2 = 1 <;> by_cases h2 : rm2 q k / 2 ^ (14 - k) % 2 = 1
  ·rw [if_pos h1, if_pos h2, if_neg Vu, x11]
  ·rw [if_pos h1, if_neg h2, if_pos Vu, x10]
  ·rw [if_neg h1, if_pos h2, if_pos Vu, x01]
  ·rw [if_neg h1, if_neg h2, if_neg Vu]
theorem Ke (a c b : Nat) : zz (a ^^^ c) b = zz a b ^^^ zz c b := by
 unfold zz
 rw [YC, YJ]
def yQ (x : Nat) : Nat := if 2 * x / 256 % 2 = 1 then (2 * x) ^^^ 285 else 2 * x
theorem Lb (x y : Nat) : yQ (x ^^^ y) = yQ x ^^^ yQ y := by
 have hb := Wd (2 * x) (2 * y) 8
 have h2 : 2 * (x ^^^ y) = (2 * x) ^^^ (2 * y) := by have := Zt x y 1; simpa [Nat.mul_comm] using this
 unfold yQ
 rw [h2]
 simp only [show (2 : Nat) ^ 8 = 256 from rfl] at hb
 by_cases h1 : 2 * x / 256 % 2 = 1 <;> by_cases h2 : 2 * y / 256 % 2 = 1
 ·rw [if_pos h1, if_pos h2, if_neg Vu, x11]
 ·rw [if_pos h1, if_neg h2, if_pos Vu, x10]
 ·rw [if_neg h1, if_pos h2, if_pos Vu, x01]
 ·rw [if_neg h1, if_neg h2, if_neg Vu]
theorem Vc (a : UInt8) : (dbl a).toNat = yQ a.toNat := by
 have := a.toNat_lt
 rw [YI]
 unfold yQ
 by_cases h : 256 <= 2 * a.toNat
 ·rw [if_pos h, if_pos Y95]
 ·rw [if_neg h, if_neg Y95]
def UF (a : Nat) : List Nat := (List.range 8).filterMap fun i => if a / 2 ^ i % 2 = 1 then some (2 ^ i) else none
def Uu (l : List Nat) : Nat := l.foldr (· ^^^ ·) 0
theorem Vz : ((List.range 256).all fun a => decide (Uu (UF a) = a)) = true := by decide +kernel
theorem U7 (a : Nat) : ∀ x ∈ UF a, ∃ i, i < 8 /\ x = 2 ^ i := by
 intro x hx
 obtain ⟨i, hi, h⟩ := List.mem_filterMap.1 hx
 split at h
 ·cases h; exact ⟨i, List.mem_range.1 hi, rfl⟩
 ·cases h
theorem UL (b : Nat) : ∀ i, rm1 0 b i = 0
 | 0 => rfl
 | i + 1 => by simp [rm1, UL b i]
theorem UZ : ∀ k, rm2 0 k = 0
 | 0 => rfl
 | k + 1 => by simp [rm2, UZ k]
theorem XV (b : Nat) : zz 0 b = 0 := by unfold zz; rw [UL, UZ]
theorem xd (b : Nat) : ∀ l : List Nat, zz (Uu l) b = Uu (l.map fun x => zz x b)
 | [] => XV b
 | x :: l => by
  show zz (x ^^^ Uu l) b = zz x b ^^^ Uu (l.map fun x => zz x b)
  rw [Ke, xd b l]
theorem Z7 : ∀ l : List Nat, yQ (Uu l) = Uu (l.map yQ)
 | [] => rfl
 | x :: l => by
  show yQ (x ^^^ Uu l) = yQ x ^^^ Uu (l.map yQ)
  rw [Lb, Z7 l]
theorem qay : ((List.range 8).all fun i => (List.range 256).all fun b => decide (zz (2 ^ i) (yQ b) = yQ (zz (2 ^ i) b))) = true := by decide +kernel
theorem qbg : ((List.range 8).all fun i => decide (zz (2 ^ i) 1 = 2 ^ i)) = true := by decide +kernel
theorem U0 : ((List.range 256).all fun a => decide (zz a 0 = 0)) = true := by decide +kernel
theorem KO (a b : Nat) (ha : a < 256) (hb : b < 256) : zz a (yQ b) = yQ (zz a b) := by
 have h := of_decide_eq_true (List.all_eq_true.1 Vz a (List.mem_range.2 ha))
 rw [<- h, xd, xd, Z7, List.map_map]
 congr 1
 refine List.map_congr_left fun x hx => ?_
 obtain ⟨i, hi, rfl⟩ := U7 a x hx
 exact of_decide_eq_true (List.all_eq_true.1 (List.all_eq_true.1 qay i (List.mem_range.2 hi)) b (List.mem_range.2 hb))
theorem Wu (a : Nat) (ha : a < 256) : zz a 1 = a := by
 have h := of_decide_eq_true (List.all_eq_true.1 Vz a (List.mem_range.2 ha))
 conv => rhs; rw [<- h]
 rw [<- h, xd, h]
 congr 1
 have : (UF a).map (fun x => zz x 1) = (UF a).map id := List.map_congr_left fun x hx => by
  obtain ⟨i, hi, rfl⟩ := U7 a x hx
  exact of_decide_eq_true (List.all_eq_true.1 qbg i (List.mem_range.2 hi))
 rw [this, List.map_id]
theorem XA (a : UInt8) (k : Nat) : zz a.toNat (jA k).toNat = (Nat.repeat dbl k a).toNat := by
 induction k with
 | zero => exact Wu _ a.toNat_lt
 | succ k ih =>
  show zz a.toNat (dbl (jA k)).toNat = (dbl (Nat.repeat dbl k a)).toNat
  rw [Vc, KO _ _ a.toNat_lt (jA k).toNat_lt, ih, Vc]
theorem LP : dbl 0 = 0 := by decide
theorem UX (i : Nat) : Nat.repeat dbl i 0 = 0 := by
 induction i with
 | zero => rfl
 | succ i ih => show dbl (Nat.repeat dbl i 0) = 0; rw [ih, LP]
theorem VH (i k : Nat) : Nat.repeat dbl i (jA k) = jA (k + i) := by
 induction i with
 | zero => rfl
 | succ i ih => show dbl (Nat.repeat dbl i (jA k)) = _; rw [ih]; rfl
theorem WL (a b : UInt8) : zz a.toNat b.toNat = (qX a b).toNat := by
 by_cases hb : b = 0
 ·subst hb
  have h0 : qX a 0 = 0 := by simp [qX]
  rw [h0]
  exact of_decide_eq_true (List.all_eq_true.1 U0 a.toNat (List.mem_range.2 a.toNat_lt))
 ·obtain ⟨h1, h2⟩ := vN b hb
  have := XA a (yF b)
  rw [h1] at this
  rw [this]
  by_cases ha : a = 0
  ·subst ha; rw [UX]; simp [qX]
  ·obtain ⟨h3, h4⟩ := vN a ha
   conv => lhs; rw [<- h3]
   rw [VH]
   simp [qX, ha, hb]
end Go.Bl
namespace Go.Proofs.YtnafknkchbfpaaaGreatDoor
open Go.RowKit Go.Bl
set_option linter.unusedVariables false
theorem Jl (n j : Nat) : (((n : Int) / 2 ^ j).tmod 2 == 1) = decide (n / 2 ^ j % 2 = 1) := by
 have h : ((n : Int) / 2 ^ j) = ((n / 2 ^ j : Nat) : Int) := by simp
 rw [h, show (2 : Int) = ((2 : Nat) : Int) from rfl, <- Int.ofNat_tmod]
 by_cases hc : n / 2 ^ j % 2 = 1
 ·simp [hc]
 ·rw [decide_eq_false hc]
  simp only [beq_eq_false_iff_ne]
  omega
theorem qas (P x j : Nat) (hP : P < 65536) (hx : x * 2 ^ j < 65536) : bits .xor .i64 (P : Int) (wrap64 ((x : Int) * 2 ^ j)) = ((P ^^^ x * 2 ^ j : Nat) : Int) /\ P ^^^ x * 2 ^ j < 65536 := by
 have h : ((x : Int) * 2 ^ j) = ((x * 2 ^ j : Nat) : Int) := by simp
 rw [h, show wrap64 ((x * 2 ^ j : Nat) : Int) = ((x * 2 ^ j : Nat) : Int) by unfold wrap64; omega, ve _ _ hP hx]
 exact ⟨rfl, Nat.xor_lt_two_pow (n := 16) hP hx⟩
theorem Yv (x j : Nat) (hx : x < 512) (hj : j < 8) : x * 2 ^ j < 65536 := by
 have h : 2 ^ j <= 2 ^ 7 := Nat.pow_le_pow_right Y95 Y95
 calc x * 2 ^ j <= x * 2 ^ 7 := Nat.mul_le_mul_left _ h
  _ < 65536 := by omega
theorem U4 (w : World) (a b : UInt8) : Calls Tryz.prog 160 #[u8v a, u8v b] w fun e w' => e = .returned (u8v (qX a b)) /\ Fr [] w w' := by
 have HG := Hdq (WL a b)
 have hna := a.toNat_lt
 have hnb := b.toNat_lt
 have hng := (qX a b).toNat_lt
 unfold u8v
 obtain ⟨x, hx⟩ := exq (a.toNat)
 obtain ⟨y, hy⟩ := exq (b.toNat)
 obtain ⟨z, hz⟩ := exq ((qX a b).toNat)
 rw [hx, hy, hz] at HG
 rw [hx] at hna ⊢
 rw [hy] at hnb ⊢
 rw [hz] at hng ⊢
 clear hx hy hz
 go_enter Tryz.func160, Tryz.ntmps160
 go_wp2
 go_loopw [5, 6] (fun p i wr => ∃ (j : Nat) (P : Nat), j <= 8 /\ i = .int .i64 j /\ p = .int .i64 P /\ P < 65536 /\ Hid (P = rm1 x y j) /\ wr = w) (fun _ i _ => 8 - (intOf i).toNat)
 case atStart => exact ⟨0, 0, by omega, rfl, rfl, by omega, Hdq rfl, rfl⟩
 case round =>
  obtain ⟨j, P, hj, rfl, rfl, hP, HP, rfl⟩ := hrel
  by_cases hjn : j < 8
  ·have HX := Hdq (qas P x j hP (Yv x j Y95 hjn))
   by_cases hc : y / 2 ^ j % 2 = 1
   ·have hb : (((y : Int) / 2 ^ j).tmod 2 == 1) = true := by rw [Jl]; exact decide_eq_true hc
    have HP' := Hdq (show P ^^^ x * 2 ^ j = rm1 x y (j + 1) by
     show _ = if y / 2 ^ j % 2 = 1 then rm1 x y j ^^^ x * 2 ^ j else rm1 x y j
     rw [if_pos hc, <- HP.out])
    clear hc HP
    go_wp2
    rw [HX.out.1]
    constructor
    ·exact ⟨j + 1, P ^^^ x * 2 ^ j, by omega, by go_num, rfl, HX.out.2, HP', trivial⟩
    ·simp [intOf]; omega
   ·have hb : (((y : Int) / 2 ^ j).tmod 2 == 1) = false := by rw [Jl]; exact decide_eq_false hc
    have HP' := Hdq (show P = rm1 x y (j + 1) by
     show _ = if y / 2 ^ j % 2 = 1 then rm1 x y j ^^^ x * 2 ^ j else rm1 x y j
     rw [if_neg hc, <- HP.out])
    clear hc HP
    go_wp2
    constructor
    ·exact ⟨j + 1, P, by omega, by go_num, rfl, hP, HP', trivial⟩
    ·simp [intOf]; omega
  ·obtain rfl : j = 8 := by omega
   go_wp2
   go_loopw [5, 7] (fun p i wr2 => ∃ (k m : Nat) (R : Nat), k + m = 14 /\ 7 <= m /\ i = .int .i64 m /\ p = .int .i64 R /\ R < 65536 /\ Hid (R = rm2 P k) /\ wr2 = wr) (fun _ i _ => (intOf i).toNat)
   case atStart => exact ⟨0, 14, P, by omega, by omega, rfl, rfl, hP, Hdq rfl, rfl⟩
   case round =>
    obtain ⟨k, m, R, hk, hm, rfl, rfl, hR, HR, rfl⟩ := hrel
    by_cases hmn : 8 <= m
    ·have HX := Hdq (qas R 285 (m - 8) hR (Yv 285 (m - 8) Y95 Y95))
     by_cases hc : R / 2 ^ m % 2 = 1
     ·have hb : (((R : Int) / 2 ^ m).tmod 2 == 1) = true := by rw [Jl]; exact decide_eq_true hc
      have HP' := Hdq (show R ^^^ 285 * 2 ^ (m - 8) = rm2 P (k + 1) by
       show _ = if rm2 P k / 2 ^ (14 - k) % 2 = 1 then rm2 P k ^^^ 285 * 2 ^ (6 - k) else rm2 P k
       rw [<- HR.out, show 14 - k = m by omega, show 6 - k = m - 8 by omega, if_pos hc])
      clear hc HR
      go_wp2
      have e : bits .xor .i64 (R : Int) (wrap64 (285 * 2 ^ (m - 8))) = ((R ^^^ 285 * 2 ^ (m - 8) : Nat) : Int) := HX.out.1
      rw [e]
      constructor
      ·exact ⟨k + 1, m - 1, _, by omega, by omega, by go_num, rfl, HX.out.2, HP', trivial⟩
      ·simp [intOf]; omega
     ·have hb : (((R : Int) / 2 ^ m).tmod 2 == 1) = false := by rw [Jl]; exact decide_eq_false hc
      have HP' := Hdq (show R = rm2 P (k + 1) by
       show _ = if rm2 P k / 2 ^ (14 - k) % 2 = 1 then rm2 P k ^^^ 285 * 2 ^ (6 - k) else rm2 P k
       rw [<- HR.out, show 14 - k = m by omega, show 6 - k = m - 8 by omega, if_neg hc])
      clear hc HR
      go_wp2
      constructor
      ·exact ⟨k + 1, m - 1, R, by omega, by omega, by go_num, rfl, hR, HP', trivial⟩
      ·simp [intOf]; omega
    ·obtain rfl : m = 7 := by omega
     obtain rfl : k = 7 := by omega
     have HE := Hdq (show R = z by rw [<- HG.out, HR.out, HP.out]; rfl)
     go_wp2
     go_ret
     refine ⟨?_, Fr.refl _ _⟩
     refine congrArg (fun q => Ending.returned (.int .u8 q)) ?_
     have := HE.out
     omega
end Go.Proofs.YtnafknkchbfpaaaGreatDoor
namespace Go.Bl
open Go.RowKit
theorem qaW (l : List UInt8) (i m : Nat) (x : UInt8) (hi : i < l.length) : (jY l i x).getD m 0 = if m = i then l.getD m 0 ^^^ x else l.getD m 0 := by
 unfold jY
 by_cases h : m = i
 ·subst h
  simp [List.getD_eq_getElem?_getD, hi]
 ·simp [List.getD_eq_getElem?_getD, List.getElem?_set_ne (Ne.symm h), h]
def zJ (b : UInt8) (i : Nat) : Nat -> List UInt8 -> List UInt8
 | 0, r => r
 | k + 1, r => jY (zJ b i k r) (i + k) (qX b (vu.getD (32 - k) 0))
theorem xk (b : UInt8) (i : Nat) : ∀ (k : Nat) (r : List UInt8), (zJ b i k r).length = r.length
 | 0, _ => rfl
 | k + 1, r => by simp only [zJ]; rw [vL, xk b i k r]
theorem Ze (b : UInt8) (i m : Nat) : ∀ (k : Nat) (r : List UInt8), i + k <= r.length -> (zJ b i k r).getD m 0 = if i <= m /\ m < i + k then r.getD m 0 ^^^ qX b (vu.getD (32 - (m - i)) 0) else r.getD m 0
 | 0, r, _ => by rw [if_neg Y95]; rfl
 | k + 1, r, h => by
  simp only [zJ]
  rw [qaW _ _ _ _ (by rw [xk]; omega), Ze b i m k r Y95]
  by_cases hm : m = i + k
  ·subst hm
   rw [if_pos rfl, if_neg Y95, if_pos Y95, show i + k - i = k by omega]
  ·rw [if_neg hm]
   by_cases h2 : i <= m /\ m < i + k
   ·rw [if_pos h2, if_pos Y95]
   ·rw [if_neg h2, if_neg Y95]
def zv (D : List UInt8) : Nat -> List UInt8
 | 0 => D
 | i + 1 => zJ ((zv D i).getD i 0) i 33 (zv D i)
theorem uO (D : List UInt8) : ∀ i, (zv D i).length = D.length
 | 0 => rfl
 | i + 1 => by simp only [zv]; rw [xk, uO D i]
theorem VA (P : List UInt8) (c : UInt8) (m : Nat) (hP : P.length = 32) (hm : m < 32) : (uh P c).getD m 0 = (if m < 31 then P.getD (m + 1) 0 else 0) ^^^ qX (c ^^^ P.getD 0 0) (vu.getD (31 - m) 0) := by
 have h0 : P.headD 0 = P.getD 0 0 := by cases P <;> rfl
 unfold uh
 rw [h0]
 simp only [List.getD_eq_getElem?_getD, List.getElem?_mapIdx]
 by_cases h : m < 31
 ·rw [if_pos h, List.getElem?_append_left (by simp [hP]; omega)]
  have : P.tail[m]? = P[m + 1]? := by cases P <;> simp
  obtain ⟨x, hx⟩ : ∃ x, P[m + 1]? = some x := ⟨_, List.getElem?_eq_getElem Y95⟩
  rw [this, hx]
  simp
 ·obtain rfl : m = 31 := by omega
  rw [if_neg h, List.getElem?_append_right (by simp [hP])]
  simp [hP]
theorem QQ (n m : Nat) : (List.replicate n (0 : UInt8)).getD m 0 = 0 := by
 rw [List.getD_eq_getElem?_getD, List.getElem?_replicate]
 split <;> rfl
theorem qdn (a b c : UInt8) : a ^^^ b ^^^ c = a ^^^ (b ^^^ c) := UInt8.xor_assoc ..
theorem YQ (data : List UInt8) : ∀ i, i <= data.length -> ∀ m, i + m < data.length + 32 -> (zv (data ++ List.replicate 32 0) i).getD (i + m) 0 = (data ++ List.replicate 32 0).getD (i + m) 0 ^^^ (if m < 32 then (zl (data.take i)).getD m 0 else 0)
 | 0, _, m, hm => by
  simp only [zv, List.take_zero, zl, List.foldl_nil, QQ]
  simp only [ite_self, UInt8.xor_zero]
 | i + 1, hi, m, hm => by
  have ih := YQ data i Y95
  have hP : (zl (data.take i)).length = 32 := zE _
  have hc : data[i]? = some (data.getD i 0) := by
   rw [List.getD_eq_getElem?_getD, List.getElem?_eq_getElem Y95]; rfl
  have hby : (zv (data ++ List.replicate 32 0) i).getD i 0 = data.getD i 0 ^^^ (zl (data.take i)).getD 0 0 := by
   have := ih 0 Y95
   rw [Nat.add_zero, if_pos Y95] at this
   rw [this]
   congr 1
   simp [List.getD_eq_getElem?_getD, List.getElem?_append_left (show i < data.length by omega)]
  simp only [zv]
  rw [Ze _ _ _ _ _ (by rw [uO]; simp; omega), hby]
  have h2 := ih (m + 1) Y95
  rw [show i + (m + 1) = i + 1 + m by omega] at h2
  rw [h2, ZL data i _ hc]
  by_cases hm32 : m < 32
  ·rw [if_pos Y95, if_pos hm32, VA _ _ _ hP hm32, qdn, show 32 - (i + 1 + m - i) = 31 - m by omega]
   congr 2
   by_cases h31 : m < 31
   ·rw [if_pos Y95, if_pos h31]
   ·rw [if_neg Y95, if_neg h31]
  ·rw [if_neg Y95, if_neg Y95, if_neg hm32]
theorem qcy (data : List UInt8) : (zv (data ++ List.replicate 32 0) data.length).drop data.length = zl data := by
 have hl := uO (data ++ List.replicate 32 0) data.length
 simp only [List.length_append, List.length_replicate] at hl
 apply List.ext_getElem?
 intro m
 have hP := zE data
 rcases Nat.lt_or_ge m 32 with h | h
 ·have := YQ data data.length (Nat.le_refl _) m Y95
  rw [if_pos h, List.take_length] at this
  have h0 : (data ++ List.replicate 32 (0 : UInt8)).getD (data.length + m) 0 = 0 := by
   have := QQ 32 m
   rw [List.getD_eq_getElem?_getD] at this
   rw [List.getD_eq_getElem?_getD, List.getElem?_append_right Y95, Nat.add_sub_cancel_left]
   exact this
  rw [h0] at this
  simp only [List.getD_eq_getElem?_getD, UInt8.zero_xor] at this
  rw [List.getElem?_drop]
  rw [List.getElem?_eq_getElem Y95, List.getElem?_eq_getElem Y95] at this ⊢
  simpa using this
 ·rw [List.getElem?_eq_none KP, List.getElem?_eq_none Y95]
def uy (root : UInt8) : List UInt8 -> Nat -> List UInt8 -> List UInt8
 | [], _, nx => nx
 | c :: g, i, nx => uy root g (i + 1) (jY (jY nx i (qX c root)) (i + 1) c)
theorem JZ (root : UInt8) : ∀ (g : List UInt8) (k i : Nat) (c : UInt8) (nx : List UInt8), g[k]? = some c -> uy root (g.take (k + 1)) i nx = jY (jY (uy root (g.take k) i nx) (i + k) (qX c root)) (i + k + 1) c
 | [], k, i, c, nx, h => by simp at h
 | d :: g, 0, i, c, nx, h => by simp at h; subst h; simp [uy]
 | d :: g, k + 1, i, c, nx, h => by
  simp only [List.take_succ_cons, uy]
  rw [JZ root g k (i + 1) c _ XX, show i + 1 + k = i + (k + 1) by omega]
theorem QF (root : UInt8) : ∀ (g : List UInt8) (i : Nat) (nx : List UInt8), (uy root g i nx).length = nx.length
 | [], _, _ => rfl
 | c :: g, i, nx => by simp only [uy]; rw [QF root g, vL, vL]
def yf : Nat -> List UInt8 × UInt8
 | 0 => ([1], 1)
 | j + 1 => (uy (yf j).2 (yf j).1 0 (List.replicate ((yf j).1.length + 1) 0), qX (yf j).2 2)
theorem Zb : ∀ j, (yf j).1.length = j + 1
 | 0 => rfl
 | j + 1 => by
  show (uy _ _ _ _).length = _
  rw [QF, List.length_replicate, Zb j]
theorem LK : (yf 32).1 = vu := by decide +kernel
end Go.Bl
