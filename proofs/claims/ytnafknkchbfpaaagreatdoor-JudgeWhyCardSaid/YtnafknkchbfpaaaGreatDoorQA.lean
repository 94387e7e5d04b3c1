import Derived.Test.YtnafknkchbfpaaaGreatDoorPN
set_option linter.unusedVariables false
set_option linter.unusedSimpArgs false
set_option maxRecDepth 1000000
set_option maxHeartbeats 8000000
namespace Go.Bl
open Go.RowKit Go.Proofs
attribute [local irreducible] qw
set_option cbv.maxSteps 50000000
open Go.Proofs.YtnafknkchbfpaaaGreatDoor (vd xX Uu VB V8)
def wP (x : UInt32) : PV := .v (.int .u32 (wN x))
theorem qaY : Uq = uj.l.map wP := rfl
theorem KO : Uq.length = 8 := rfl
theorem Jq : vM = shaK.map wP := by rw [vM, List.map_map]; rfl
theorem XK : shaK.length = 64 := rfl
attribute [local irreducible] Uq vM zK shaK
abbrev wH (h : Hh) (x : UInt32) : PV := .v (.int .u32 (h _ fun _ => wN x))
theorem KM (a b : UInt32) : zx .xor .u32 (wN a) (wN b) = wN (a ^^^ b) := LL a b
theorem qcj (a b : UInt32) : zx .and .u32 (wN a) (wN b) = wN (a &&& b) := qeB a b
theorem qeD (a b : UInt32) : zx .or .u32 (wN a) (wN b) = wN (a ||| b) := qfa a b
theorem qb9 (a : UInt32) : zx .xor .u32 (if IntKind.u32.signed = true then -1 else IntKind.u32.max) (wN a) = wN (~~~ a) := qeE a
theorem WA (a : UInt32) (n : Nat) (m : Int) (hm : m = n) (h : n < 32) : (wN a).fdiv (2 ^ min m.toNat IntKind.u32.bits) = wN (a >>> UInt32.ofNat n) := by
 subst hm
 rw [Int.toNat_natCast, show min n IntKind.u32.bits = n from Nat.min_eq_left (by show n <= 32; omega), Int.fdiv_eq_ediv_of_nonneg _ (Int.le_of_lt (Int.pow_pos Y76)), UM a n h]
theorem Xn (a : UInt32) (n : Nat) (m : Int) (hm : m = n) (h : n < 32) : IntKind.u32.wrap (wN a * 2 ^ min m.toNat IntKind.u32.bits) = wN (a <<< UInt32.ofNat n) := by
 subst hm
 rw [Int.toNat_natCast, show min n IntKind.u32.bits = n from Nat.min_eq_left (by show n <= 32; omega), qcv a n h]
theorem jS (Z : Ad) (h : Hh) (hh : ∀ α g, h α g = g ()) (x : UInt32) (n : Nat) (m : Int) (hm : m = n) (h1 : 1 <= n) (h2 : n < 32) : qb Z 81 [.pv (wH h x), .pv (.v (.int .u64 m))] (.pv (wH h (ZK x n))) [.any, .any] := by
 have e1 := WA x n m hm h2
 have e2 := Xn x (32 - n) (IntKind.u64.wrap (32 - m)) (by subst hm; rw [qS Y44 Y44]; omega) Y44
 have e3 : zx .or .u32 (wN (x >>> UInt32.ofNat n)) (wN (x <<< UInt32.ofNat (32 - n))) = wN (ZK x n) := by rw [qeD, qaq]
 have e4 : 0 <= m := by omega
 have e5 : 0 <= IntKind.u64.wrap (32 - m) := by subst hm; rw [qS Y44 Y44]; omega
 clear hm
 refine qh Z h hh ⟨Tryz.func81, Tryz.ntmps81⟩ rfl rfl rfl rfl rfl fun C hC => ?_
 unfold Tryz.f81
 cbv
 repeat' first
  | exact s0
  | apply And.intro
  | exact sq
  | trivial
  | exact sx
  | (refine sy fun e => ?_; cbv)
theorem qeF (l : List UInt8) (q : Nat) (h : q + 4 <= l.length) : (l.drop q).take 4 = [l.getD q 0, l.getD (q + 1) 0, l.getD (q + 2) 0, l.getD (q + 3) 0] := by
 have e : ∀ i, i < l.length -> l.drop i = l.getD i 0 :: l.drop (i + 1) := fun i hi => by
  rw [List.getD_eq_getElem?_getD, List.getElem?_eq_getElem hi]
  exact List.drop_eq_getElem_cons hi
 rw [e q Y44, e (q + 1) Y44, e (q + 2) Y44, e (q + 3) Y44]
 rfl
theorem qer (X : List UInt8) (o t q : Nat) (hq : o + 4 * t = q) (ht : t < 16) (hl : q + 4 <= X.length) : ((X.getD q 0).toUInt32 <<< UInt32.ofNat 24 ||| (X.getD (q + 1) 0).toUInt32 <<< UInt32.ofNat 16 ||| (X.getD (q + 2) 0).toUInt32 <<< UInt32.ofNat 8 ||| (X.getD (q + 3) 0).toUInt32) = Qy ((X.drop o).take 64) t := by
 rw [qcw, Qy, List.drop_take, List.take_take, Nat.min_eq_left Y44, List.drop_drop, hq, qeF X q hl]
def wsL (c : List UInt8) (t : Nat) : List UInt32 := qp c t ++ List.replicate (64 - t) 0
theorem Xl (c : List UInt8) (t : Nat) (h : t <= 64) : (wsL c t).length = 64 := by simp [wsL, qP]; omega
theorem J3 (c : List UInt8) (t i : Nat) (h : i < t) : (wsL c t)[i]? = some ((qp c t).getD i 0) := by
 rw [wsL, List.getElem?_append_left (by rw [qP]; exact h), List.getD_eq_getElem?_getD, List.getElem?_eq_getElem (by rw [qP]; exact h)]
 rfl
theorem LQ (c : List UInt8) (t : Nat) (h : t < 64) {y : UInt32} (hy : qp c (t + 1) = qp c t ++ [y]) : wsL c (t + 1) = (wsL c t).set t y := by
 have e : List.replicate (64 - t) (0 : UInt32) = 0 :: List.replicate (64 - (t + 1)) 0 := by rw [show 64 - t = (64 - (t + 1)) + 1 by omega]; rfl
 rw [wsL, wsL, hy, e, List.set_append_right _ _ (by rw [qP]; exact Nat.le_refl _), qP, Nat.sub_self]
 simp
theorem ZH {α : Type} {i : Nat} {y : α} {xs : List α} (h : i < xs.length) : splice i [y] xs = xs.set i y := by
 rw [splice, List.set_eq_take_append_cons_drop, if_pos h]
 simp
theorem LI {M : List UInt8} {Q : Nat} {d : UInt8} (h : M[Q]? = some d) : (List.drop 0 ((List.map u8P M).getD Q noP).cells).getD 0 noP = u8P d := by simp [List.getD_eq_getElem?_getD, h]; rfl
theorem y6 {W : List UInt32} {i : Nat} {x : UInt32} (h : W[i]? = some x) : (List.drop i (List.map wP W)).getD 0 noP = wP x := by simp [List.getD_eq_getElem?_getD, List.getElem?_drop, h]
theorem uz (x : UInt32) : (wP x).int = wN x := rfl
theorem vq {α : Type} {l : List α} {i : Nat} {x : α} (h : l[i]? = some x) : ∀ q : i < l.length, l[i]'q = x := fun q => by rwa [List.getElem?_eq_getElem q, Option.some_inj] at h
theorem qdM (c : UInt8) : IntKind.u32.wrap (c.toNat : Int) = wN c.toUInt32 := by
 have := c.toNat_lt
 rw [UU, qbD Y44 Y44]
theorem Zn (c : List UInt8) (t : Nat) : qp c (t + 1) = qp c t ++ [if t < 16 then Qy c t else zu ((qp c t).getD (t - 2) 0) 17 19 10 + (qp c t).getD (t - 7) 0 + zu ((qp c t).getD (t - 15) 0) 7 18 3 + (qp c t).getD (t - 16) 0] := rfl
theorem qaJ (c : List UInt8) : qp c 0 = [] := rfl
theorem jK (s : St8) (ws : List UInt32) : qB s ws 0 = s := rfl
theorem VL (s : St8) (ws : List UInt32) (t : Nat) : qB s ws (t + 1) = jo (qB s ws t) (shaK.getD t 0) (ws.getD t 0) := rfl
theorem qb1 (s : St8) (b : List UInt8) : qZ 1 s b = qU s (b.take 64) := rfl
theorem qch (s : St8) (b : List UInt8) : qZ 0 s b = s := rfl
theorem KB (s : St8) (b : List UInt8) : qU s b = (qB s (qp b 64) 64).add s := rfl
attribute [local irreducible] qp qB qZ qU
theorem sl1 {α : Type} {off : Nat} {c : α} {X : List α} (h : off < X.length) : (splice off [c] X).length = X.length := by simp [splice]; omega
theorem sl0 {α : Type} {off : Nat} {c : α} {X : List α} : (splice off [c] X).length = min off X.length + 1 + (X.length - (off + 1)) := by simp [splice]; omega
theorem yL {α : Type} (pre cs rest : List α) {off : Nat} (h : pre.length = off) : splice off cs (pre ++ rest) = (pre ++ cs) ++ rest.drop cs.length := by
 subst h
 simp [splice, List.drop_append]
theorem qe3 {α : Type} {A R : List α} {a b c d x y z w : α} {p p1 p2 p3 : Nat} (h : A.length = p) (h1 : p + 1 = p1) (h2 : p + 2 = p2) (h3 : p + 3 = p3) : splice p3 [w] (splice p2 [z] (splice p1 [y] (splice p [x] (A ++ a :: b :: c :: d :: R)))) = A ++ [x, y, z, w] ++ R := by
 rw [yL A [x] _ h, yL (A ++ [x]) [y] _ (by simp [h, h1]), yL (A ++ [x] ++ [y]) [z] _ (by simp [h, <- h2]), yL (A ++ [x] ++ [y] ++ [z]) [w] _ (by simp [h, <- h3])]
 simp
def dE (O : List UInt8) (k : Nat) : List UInt8 := O.take (4 * k) ++ List.replicate (32 - 4 * k) 0
theorem qeJ {O : List UInt8} (h : O.length = 32) {k : Nat} (hk : k <= 8) : (dE O k).length = 32 := by simp [dE, h]; omega
theorem qfv {O : List UInt8} (h : O.length = 32) {k p p1 p2 p3 : Nat} (hk : k < 8) (h0 : 4 * k = p) (h1 : p + 1 = p1) (h2 : p + 2 = p2) (h3 : p + 3 = p3) : splice p3 [u8P (O.getD p3 0)] (splice p2 [u8P (O.getD p2 0)] (splice p1 [u8P (O.getD p1 0)] (splice p [u8P (O.getD p 0)] ((dE O k).map u8P)))) = (dE O (k + 1)).map u8P := by
 have e : List.replicate (32 - 4 * k) (0 : UInt8) = 0 :: 0 :: 0 :: 0 :: List.replicate (32 - 4 * (k + 1)) 0 := by rw [show 32 - 4 * k = (32 - 4 * (k + 1)) + 1 + 1 + 1 + 1 by omega]; rfl
 have t : O.take (4 * (k + 1)) = O.take (4 * k) ++ [O.getD p 0, O.getD p1 0, O.getD p2 0, O.getD p3 0] := by
  rw [show 4 * (k + 1) = 4 * k + 4 by omega, List.take_add, h0, qeF O p Y44, h1, h2, h3]
 rw [dE, e, List.map_append, List.map_cons, List.map_cons, List.map_cons, List.map_cons, qe3 (by simp [h]; omega) h1 h2 h3, dE, t]
 simp
theorem qbr (S : St8) (k j : Nat) (m : Int) (hk : k < 8) (hj : j < 4) (hm : m = ((24 - 8 * j : Nat) : Int)) : IntKind.u8.wrap ((wN (S.l.getD k 0)).fdiv (2 ^ min m.toNat IntKind.u32.bits)) = (((uI S).getD (4 * k + j) 0).toNat : Int) := by
 subst hm
 rw [Int.toNat_natCast, show min (24 - 8 * j) IntKind.u32.bits = 24 - 8 * j from Nat.min_eq_left (by show _ <= 32; omega), Int.fdiv_eq_ediv_of_nonneg _ (Int.le_of_lt (Int.pow_pos Y76)), V8 S k j hk hj]
theorem qe7 (S : St8) (k : Nat) (hk : k < 8) : IntKind.u8.wrap (wN (S.l.getD k 0)) = (((uI S).getD (4 * k + 3) 0).toNat : Int) := by
 have := V8 S k 3 hk Y76
 simpa using this
theorem yl (Z : Ad) (h : Hh) (hh : ∀ α g, h α g = g ()) (m : List UInt8) (hm : m.length <= 100000000) : qb Z 31 [.pv (bH h m)] (.pv (aH h u8P (qw m))) [.any] := by
 obtain ⟨N, hN⟩ := exq (m.length)
 have zl := vd N
 obtain ⟨K, hK⟩ : ∃ K, (m ++ zT N).length = 64 * K := ⟨(m ++ zT N).length / 64, by have := Wq N; rw [List.length_append, hN]; omega⟩
 rw [hN] at hm
 replace hK := Hdq hK
 refine qh Z h hh ⟨Tryz.func31, Tryz.ntmps31⟩ rfl rfl rfl rfl rfl fun C hC => ?_
 unfold Tryz.f31
 cbv
 repeat' first
  | exact s0
  | apply And.intro
  | exact sq
  | trivial
  | exact sx
  | (refine sy fun e => ?_; cbv)
 refine ⟨Nat, fun j => ⟨[(0, some (.pv (bH h m))), (2, some (.ref 992 0 0)), (3, some (.own 990))], [(992, some (.var 57 (h _ fun _ => List.replicate 32 (u8P 0)) false)), (990, some (.row 5 1 (h _ fun _ => (m ++ 128 :: List.replicate j 0).map u8P) false))]⟩, fun j => j <= qJ N, fun j => qJ N - j, 0, [], by omega, trivial, ⟨[(992, 2), (990, 31)], rfl, rfl, ⟨?_, ?_, trivial⟩, ?_, ?_, ?_, trivial⟩, ?_⟩
 ·exact sp
 ·exact sp
 ·exact sp
 ·exact sp
 ·exact sp
 intro j hj
 dsimp only
 obtain ⟨X, hX⟩ := exq (m ++ 128 :: List.replicate j 0)
 have lX : X.length = N + 1 + j := by rw [<- hX]; simp [hN]; omega
 obtain ⟨L, hL⟩ := exq (N + 1 + j)
 rw [hL] at lX
 have tL : Int.tmod (L : Int) 64 = ((L % 64 : Nat) : Int) := by rw [Int.tmod_eq_emod_of_nonneg Y44]; omega
 obtain ⟨q, hq⟩ := exq (L % 64)
 rw [hq] at tL
 have lm : L <= 100000100 := by omega
 by_cases hz : j < qJ N
 ·have hq' : (q : Int) ≠ 56 := by unfold qJ at hz; omega
  have hX2 : m ++ 128 :: List.replicate (j + 1) 0 = X ++ [0] := by rw [<- hX, List.replicate_succ']; simp
  rw [hX]
  clear hX hL hq
  cbv
  repeat' first
   | exact s0
   | apply And.intro
   | exact sq
   | trivial
   | (refine sz fun e => ?_; simp [hh, lX, tL, hq'] at e <;> (try simp only [natc] at *) <;> omega)
   | (refine sy fun e => ?_; cbv)
  refine ⟨j + 1, by omega, by show qJ N - (j + 1) < qJ N - j; omega, ⟨[(990, 38)], rfl, rfl, ⟨?_, ?_, trivial⟩, ?_, ?_, ?_, trivial⟩⟩
  ·exact sp
  ·cbv; simp only [hh, hX2]; simp
  ·exact sp
  ·exact sp
  ·exact sp
 ·have hq' : (q : Int) = 56 := by unfold qJ at hz hj; omega
  obtain rfl : j = qJ N := by omega
  have w8 : IntKind.u64.wrap (IntKind.u64.wrap (N : Int) * 8) = (N : Int) * 8 := by rw [qS (x := (N : Int)) Y44 Y44, qS Y44 Y44]
  obtain ⟨Y, hY⟩ := exq (X)
  rw [hX, hY]
  have hM : m ++ zT N = Y ++ zK N := by rw [<- hY, <- hX, zT]; simp
  rw [hM] at hK
  rw [hY] at lX
  replace hM := Hdq hM
  clear hX hY hL hq hz hj
  cbv
  repeat' first
   | exact s0
   | apply And.intro
   | exact sq
   | trivial
   | (refine sz fun e => ?_; simp [hh, lX, tL, hq'] at e <;> (try simp only [natc] at *) <;> omega)
   | (refine sy fun e => ?_; cbv)
  refine ⟨Nat, fun j => ⟨[(2, some (.ref 992 0 0)), (3, some (.own 990)), (4, some (.pv (kH h .u64 (nI N * 8)))), (5, some (.pv (iH h (7 - nI j))))], [(992, some (.var 57 (h _ fun _ => List.replicate 32 (u8P 0)) false)), (990, some (.row 5 1 (h _ fun _ => (Y ++ (zK N).take j).map u8P) false))]⟩, fun j => j <= 8, fun j => 8 - j, 0, [], by omega, trivial, ⟨[], rfl, rfl, ⟨?_, ?_, trivial⟩, ?_, ?_, ?_, ?_, trivial⟩, ?_⟩
  ·exact sp
  ·exact sp
  ·exact sp
  ·exact sp
  ·exact sp
  ·exact sp
  intro j hj
  dsimp only
  have hle : ((zK N).take j).length = j := by rw [List.length_take, xX]; omega
  by_cases hj8 : j < 8
  ·have v8 : IntKind.u8.wrap (((N : Int) * 8).fdiv (2 ^ min (IntKind.u64.wrap (IntKind.i64.wrap (8 * (7 - (j : Int))))).toNat IntKind.u64.bits)) = ((((zK N).getD j 0).toNat : Nat) : Int) := by
    have e1 : IntKind.u64.wrap (IntKind.i64.wrap (8 * (7 - (j : Int)))) = ((56 - 8 * j : Nat) : Int) := by rw [wrap_i64 Y44 Y44, qS Y44 Y44]; omega
    rw [e1, Int.toNat_natCast, show min (56 - 8 * j) IntKind.u64.bits = 56 - 8 * j from Nat.min_eq_left (by show _ <= 64; omega), Int.fdiv_eq_ediv_of_nonneg _ (Int.le_of_lt (Int.pow_pos Y76))]
    have e2 : ((N : Int) * 8) / 2 ^ (56 - 8 * j) = ((N * 8 / 2 ^ (56 - 8 * j) : Nat) : Int) := by simp
    rw [e2, IntKind.wrap_u8, Uu N j hj8]
   have hw : 0 <= IntKind.u64.wrap (IntKind.i64.wrap (8 * (7 - (j : Int)))) := by rw [wrap_i64 Y44 Y44, qS Y44 Y44]; omega
   have up := VB N j hj8
   obtain ⟨c, hc⟩ := exq ((zK N).getD j 0)
   rw [hc] at v8 up
   have up' : Y ++ (zK N).take (j + 1) = (Y ++ (zK N).take j) ++ [c] := by rw [up, List.append_assoc]
   obtain ⟨V, hV⟩ := exq (Y ++ (zK N).take j)
   have lV : V.length = L + j := by rw [<- hV, List.length_append, lX, hle]
   rw [hV] at up' ⊢
   clear hV up hc hK hM tL hle lX
   cbv
   repeat' first
    | exact s0
    | apply And.intro
    | exact sq
    | trivial
    | (refine sz fun e => ?_; simp [hh, lV, hw] at e <;> (try simp only [natc] at *) <;> omega)
    | (refine sy fun e => ?_; cbv)
   refine ⟨j + 1, by omega, by show 8 - (j + 1) < 8 - j; omega, ⟨[(990, 55)], rfl, rfl, ⟨?_, ?_, trivial⟩, ?_, ?_, ?_, ?_, trivial⟩⟩
   ·exact sp
   ·cbv; simp only [hh, up', nI, natc, v8]; simp [u8P, u8v]
   ·exact sp
   ·exact sp
   ·exact sp
   ·cbv
    simp only [hh, nI, natc]
    rw [wrap_i64 Y44 Y44]
    exact Y13
  ·obtain rfl : j = 8 := by omega
   rw [List.take_of_length_le (show (zK N).length <= 8 by rw [xX]; exact Nat.le_refl _)]
   obtain ⟨M, hV⟩ := exq (Y ++ zK N)
   rw [hV] at hK hM ⊢
   replace hK := hK.out
   have g1 := KO
   have g2 := qaY
   clear hV tL hle lX hq' w8
   cbv
   repeat' first
    | exact s0
    | apply And.intro
    | exact sq
    | trivial
    | (refine sz fun e => ?_; simp [hh, hK, g1] at e <;> (try simp only [natc] at *) <;> omega)
    | (refine sy fun e => ?_; cbv)
   refine ⟨Nat, fun k => ⟨[(2, some (.ref 992 0 0)), (3, some (.own 990)), (6, some (.ref 991 0 0)), (7, some (.pv (nH h (64 * k))))], [(992, some (.var 57 (h _ fun _ => List.replicate 32 (u8P 0)) false)), (990, some (.row 5 1 (h _ fun _ => M.map u8P) false)), (991, some (.var 157 (h _ fun _ => ((qZ k uj M).l.map wP)) false))]⟩, fun k => k <= K, fun k => K - k, 0, [], by omega, trivial, ⟨[(991, 6)], rfl, rfl, ⟨?_, ?_, ?_, trivial⟩, ?_, ?_, ?_, ?_, trivial⟩, ?_⟩
   ·exact sp
   ·exact sp
   ·cbv; simp only [hh, qch, g2]; rfl
   ·exact sp
   ·exact sp
   ·exact sp
   ·exact sp
   intro k hk
   dsimp only
   by_cases hkK : k < K
   ·obtain ⟨o, ho⟩ := exq (64 * k)
    obtain ⟨S, hS⟩ := exq (qZ k uj M)
    obtain ⟨c, hc⟩ := exq ((M.drop o).take 64)
    have lc : c.length = 64 := by rw [<- hc]; simp; omega
    have hnx : qZ (k + 1) uj M = qU S c := by rw [vf k 1, hS, ho]; rw [qb1, hc]
    have hoM : o + 64 <= M.length := by omega
    have hMl : M.length <= 100001000 := by rw [<- hM.out, List.length_append, zZ, hN]; omega
    obtain ⟨ML, hML⟩ := exq (M.length)
    rw [hML] at hoM hMl hK
    have hko : (o : Int) < (ML : Int) := by omega
    rw [ho, hS]
    replace ho := Hdq ho
    replace hS := Hdq hS
    replace hc := Hdq hc
    replace hK := Hdq hK
    replace hnx := Hdq hnx
    clear hN g1 g2
    cbv
    repeat' first
     | exact s0
     | apply And.intro
     | exact sq
     | trivial
     | (refine sz fun e => ?_; simp [hh, hML, hko] at e <;> (try simp only [natc] at *) <;> omega)
     | (refine sy fun e => ?_; cbv)
    refine ⟨Nat, fun t => ⟨[(2, some (.ref 992 0 0)), (3, some (.own 990)), (6, some (.ref 991 0 0)), (7, some (.pv (nH h o))), (8, some (.ref 993 0 0)), (9, some (.pv (nH h t)))], [(992, some (.var 57 (h _ fun _ => List.replicate 32 (u8P 0)) false)), (990, some (.row 5 1 (h _ fun _ => M.map u8P) false)), (991, some (.var 157 (h _ fun _ => (S.l.map wP)) false)), (993, some (.var 158 (h _ fun _ => (wsL c t).map wP) false))]⟩, fun t => t <= 16, fun t => 16 - t, 0, [], by omega, trivial, ⟨[(993, 8)], rfl, rfl, ⟨?_, ?_, ?_, ?_, trivial⟩, ?_, ?_, ?_, ?_, ?_, ?_, trivial⟩, ?_⟩
    ·exact sp
    ·exact sp
    ·exact sp
    ·cbv; simp only [hh, wsL, qaJ, List.nil_append]; rfl
    ·exact sp
    ·exact sp
    ·exact sp
    ·exact sp
    ·exact sp
    ·exact sp
    intro t ht
    dsimp only
    by_cases ht : t < 16
    ·have lw := Xl c t Y44
     obtain ⟨y, hy⟩ := exq (Qy c t)
     obtain ⟨FT, hF⟩ := exq (4 * t)
     obtain ⟨Q, hQ⟩ := exq (o + FT)
     have hwo := qer M o t Q Y44 ht Y44
     rw [hc.out, hy] at hwo
     obtain ⟨Q1, hQ1⟩ := exq (Q + 1)
     obtain ⟨Q2, hQ2⟩ := exq (Q + 2)
     obtain ⟨Q3, hQ3⟩ := exq (Q + 3)
     rw [hQ1, hQ2, hQ3] at hwo
     have hst := LQ c t Y44 (y := y) (by rw [Zn, if_pos ht, hy])
     obtain ⟨W, hW⟩ := exq (wsL c t)
     rw [hW] at lw hst
     have hsp : splice t [PV.v (.int .u32 (wN y))] (W.map wP) = (wsL c (t + 1)).map wP := by rw [ZH (by simp [lw]; omega), hst, List.map_set]; rfl
     have i1 : IntKind.i64.wrap (4 * (t : Int)) = (FT : Int) := by rw [wrap_i64 Y44 Y44]; omega
     have i2 : IntKind.i64.wrap ((o : Int) + (FT : Int)) = (Q : Int) := by rw [wrap_i64 Y44 Y44]; omega
     have i3 : IntKind.i64.wrap ((Q : Int) + 1) = (Q1 : Int) := by rw [wrap_i64 Y44 Y44]; omega
     have i4 : IntKind.i64.wrap ((Q : Int) + 2) = (Q2 : Int) := by rw [wrap_i64 Y44 Y44]; omega
     have i5 : IntKind.i64.wrap ((Q : Int) + 3) = (Q3 : Int) := by rw [wrap_i64 Y44 Y44]; omega
     have b0 : M[Q]? = some (M.getD Q 0) := by rw [List.getD_eq_getElem?_getD, List.getElem?_eq_getElem Y44]; rfl
     have b1 : M[Q1]? = some (M.getD Q1 0) := by rw [List.getD_eq_getElem?_getD, List.getElem?_eq_getElem Y44]; rfl
     have b2 : M[Q2]? = some (M.getD Q2 0) := by rw [List.getD_eq_getElem?_getD, List.getElem?_eq_getElem Y44]; rfl
     have b3 : M[Q3]? = some (M.getD Q3 0) := by rw [List.getD_eq_getElem?_getD, List.getElem?_eq_getElem Y44]; rfl
     obtain ⟨d0, e0⟩ := exq (M.getD Q 0)
     obtain ⟨d1, e1⟩ := exq (M.getD Q1 0)
     obtain ⟨d2, e2⟩ := exq (M.getD Q2 0)
     obtain ⟨d3, e3⟩ := exq (M.getD Q3 0)
     rw [e0] at b0 hwo
     rw [e1] at b1 hwo
     rw [e2] at b2 hwo
     rw [e3] at b3 hwo
     have z0 : Q < ML /\ Q1 < ML /\ Q2 < ML /\ Q3 < ML := by omega
     obtain ⟨z0, z1, z2, z3⟩ := z0
     rw [hW]
     clear hW hst hF hQ hQ1 hQ2 hQ3 e0 e1 e2 e3 hy
     replace hsp := Hdq hsp
     replace hwo := Hdq hwo
     cbv
     repeat' first
      | exact s0
      | apply And.intro
      | exact sq
      | (refine fun (_ : PUnit) => ?_; simp [hh, *, i1, i2, i3, i4, i5, b0, b1, b2, b3]; done)
      | trivial
      | (refine sz fun e => ?_; simp [hh, ht] at e <;> (try simp only [natc] at *) <;> omega)
      | (refine sy fun e => ?_; cbv)
     refine ⟨t + 1, by omega, by show 16 - (t + 1) < 16 - t; omega, ⟨[], rfl, rfl, ⟨?_, ?_, ?_, ?_, trivial⟩, ?_, ?_, ?_, ?_, ?_, ?_, trivial⟩⟩
     ·exact sp
     ·exact sp
     ·exact sp
     ·cbv
      simp only [hh, nI, natc, Int.toNat_natCast, Nat.zero_add, Nat.add_zero, i1, i2, i3, i4, i5, LI b0, LI b1, LI b2, LI b3, u8P_int, qdM, Xn _ 24 24 rfl Y76, Xn _ 16 16 rfl Y76, Xn _ 8 8 rfl Y76, qeD, cells_v, <- hsp.out, <- hwo.out]
     ·exact sp
     ·exact sp
     ·exact sp
     ·exact sp
     ·exact sp
     ·exact sp
    ·obtain rfl : t = 16 := by omega
     cbv
     repeat' first
      | exact s0
      | apply And.intro
      | exact sq
      | trivial
      | exact sx
      | (refine sy fun e => ?_; cbv)
     refine ⟨Nat, fun t => ⟨[(2, some (.ref 992 0 0)), (3, some (.own 990)), (6, some (.ref 991 0 0)), (7, some (.pv (nH h o))), (8, some (.ref 993 0 0)), (10, some (.pv (nH h t)))], [(992, some (.var 57 (h _ fun _ => List.replicate 32 (u8P 0)) false)), (990, some (.row 5 1 (h _ fun _ => M.map u8P) false)), (991, some (.var 157 (h _ fun _ => (S.l.map wP)) false)), (993, some (.var 158 (h _ fun _ => (wsL c t).map wP) false))]⟩, fun t => 16 <= t /\ t <= 64, fun t => 64 - t, 16, [], by omega, trivial, ⟨[], rfl, rfl, ⟨?_, ?_, ?_, ?_, trivial⟩, ?_, ?_, ?_, ?_, ?_, ?_, trivial⟩, ?_⟩
     ·exact sp
     ·exact sp
     ·exact sp
     ·exact sp
     ·exact sp
     ·exact sp
     ·exact sp
     ·exact sp
     ·exact sp
     ·exact sp
     intro t ht
     dsimp only
     obtain ⟨h16, h64⟩ := ht
     by_cases ht : t < 64
     ·have lw := Xl c t Y44
      obtain ⟨t2, ht2⟩ : ∃ t2, t2 + 2 = t := ⟨t - 2, by omega⟩
      obtain ⟨t7, ht7⟩ : ∃ t7, t7 + 7 = t := ⟨t - 7, by omega⟩
      obtain ⟨t15, ht15⟩ : ∃ t15, t15 + 15 = t := ⟨t - 15, by omega⟩
      obtain ⟨t16, ht16⟩ : ∃ t16, t16 + 16 = t := ⟨t - 16, by omega⟩
      have b2 := J3 c t t2 Y44
      have b7 := J3 c t t7 Y44
      have b15 := J3 c t t15 Y44
      have b16 := J3 c t t16 Y44
      have hst0 := LQ c t ht (y := zu ((qp c t).getD t2 0) 17 19 10 + (qp c t).getD t7 0 + zu ((qp c t).getD t15 0) 7 18 3 + (qp c t).getD t16 0) (by rw [Zn, if_neg Y44, show t - 2 = t2 by omega, show t - 7 = t7 by omega, show t - 15 = t15 by omega, show t - 16 = t16 by omega])
      obtain ⟨x2, e2⟩ := exq ((qp c t).getD t2 0)
      obtain ⟨x7, e7⟩ := exq ((qp c t).getD t7 0)
      obtain ⟨x15, e15⟩ := exq ((qp c t).getD t15 0)
      obtain ⟨x16, e16⟩ := exq ((qp c t).getD t16 0)
      rw [e2] at b2 hst0
      rw [e7] at b7 hst0
      rw [e15] at b15 hst0
      rw [e16] at b16 hst0
      obtain ⟨W, hW⟩ := exq (wsL c t)
      rw [hW] at lw hst0 b2 b7 b15 b16
      have hsp : splice t [PV.v (.int .u32 (wN (zu x2 17 19 10 + x7 + zu x15 7 18 3 + x16)))] (W.map wP) = (wsL c (t + 1)).map wP := by rw [ZH (by simp [lw]; omega), hst0, List.map_set]; rfl
      have i2 : IntKind.i64.wrap ((t : Int) - 2) = (t2 : Int) := by rw [wrap_i64 Y44 Y44]; omega
      have i7 : IntKind.i64.wrap ((t : Int) - 7) = (t7 : Int) := by rw [wrap_i64 Y44 Y44]; omega
      have i15 : IntKind.i64.wrap ((t : Int) - 15) = (t15 : Int) := by rw [wrap_i64 Y44 Y44]; omega
      have i16 : IntKind.i64.wrap ((t : Int) - 16) = (t16 : Int) := by rw [wrap_i64 Y44 Y44]; omega
      have z0 : t2 < 64 /\ t7 < 64 /\ t15 < 64 /\ t16 < 64 := by omega
      obtain ⟨z2, z7, z15, z16⟩ := z0
      have c1 := jS Z h hh x2 17 17 rfl Y76 Y76
      have c2 := jS Z h hh x2 19 19 rfl Y76 Y76
      have c3 := jS Z h hh x15 7 7 rfl Y76 Y76
      have c4 := jS Z h hh x15 18 18 rfl Y76 Y76
      have g2 := vq b2
      have g7 := vq b7
      have g15 := vq b15
      have g16 := vq b16
      rw [hW]
      clear hW hst0 e2 e7 e15 e16 ht2 ht7 ht15 ht16
      replace hsp := Hdq hsp
      cbv
      repeat' first
       | exact s0
       | apply And.intro
       | exact sq
       | (refine fun (_ : PUnit) => ?_; simp [hh, *, i2, i7, i15, i16, g2, g7, g15, g16, wP]; done)
       | trivial
       | (refine sz fun e => ?_; simp [hh, ht] at e <;> (try simp only [natc] at *) <;> omega)
       | (refine sy fun e => ?_; cbv)
       | (refine ⟨_, _, _, hC _ _ _ _ c1, ?_⟩; cbv; clear c1)
       | (refine ⟨_, _, _, hC _ _ _ _ c2, ?_⟩; cbv; clear c2)
       | (refine ⟨_, _, _, hC _ _ _ _ c3, ?_⟩; cbv; clear c3)
       | (refine ⟨_, _, _, hC _ _ _ _ c4, ?_⟩; cbv; clear c4)
      refine ⟨t + 1, by omega, by show 64 - (t + 1) < 64 - t; omega, ⟨[], rfl, rfl, ⟨?_, ?_, ?_, ?_, trivial⟩, ?_, ?_, ?_, ?_, ?_, ?_, trivial⟩⟩
      ·exact sp
      ·exact sp
      ·exact sp
      ·cbv
       simp only [hh, nI, natc, Int.toNat_natCast, Nat.zero_add, Nat.add_zero, i2, i7, i15, i16, y6 b2, y6 b7, y6 b15, y6 b16, uz, w_add, KM, WA _ 10 10 rfl Y76, WA _ 3 3 rfl Y76, cells_v, <- hsp.out, zu, qcY]
      ·exact sp
      ·exact sp
      ·exact sp
      ·exact sp
      ·exact sp
      ·exact sp
     ·obtain rfl : t = 64 := by omega
      have lw := Xl c 64 Y44
      obtain ⟨W, hW⟩ := exq (wsL c 64)
      have hW2 : qp c 64 = W := by rw [<- hW, wsL]; simp
      replace hW2 := Hdq hW2
      rw [hW] at lw ⊢
      clear hW
      obtain ⟨Sl, hSl⟩ := exq (S.l)
      have sl : Sl.length = 8 := by rw [<- hSl]; rfl
      have u0 : Sl[0]? = some S.a := by rw [<- hSl]; rfl
      have v0 := vq u0
      have u1 : Sl[1]? = some S.b := by rw [<- hSl]; rfl
      have v1 := vq u1
      have u2 : Sl[2]? = some S.c := by rw [<- hSl]; rfl
      have v2 := vq u2
      have u3 : Sl[3]? = some S.d := by rw [<- hSl]; rfl
      have v3 := vq u3
      have u4 : Sl[4]? = some S.e := by rw [<- hSl]; rfl
      have v4 := vq u4
      have u5 : Sl[5]? = some S.f := by rw [<- hSl]; rfl
      have v5 := vq u5
      have u6 : Sl[6]? = some S.g := by rw [<- hSl]; rfl
      have v6 := vq u6
      have u7 : Sl[7]? = some S.h := by rw [<- hSl]; rfl
      have v7 := vq u7
      rw [hSl]
      replace hSl := Hdq hSl
      cbv
      repeat' first
       | exact s0
       | apply And.intro
       | exact sq
       | (refine fun (_ : PUnit) => ?_; simp [hh, *, wP, v0, v1, v2, v3, v4, v5, v6, v7]; done)
       | trivial
       | exact sx
       | (refine sy fun e => ?_; cbv)
      refine ⟨Nat, fun t => ⟨[(2, some (.ref 992 0 0)), (3, some (.own 990)), (6, some (.ref 991 0 0)), (7, some (.pv (nH h o))), (8, some (.ref 993 0 0)), (13, some (.pv (wH h (qB S W t).a))), (14, some (.pv (wH h (qB S W t).b))), (15, some (.pv (wH h (qB S W t).c))), (16, some (.pv (wH h (qB S W t).d))), (17, some (.pv (wH h (qB S W t).e))), (18, some (.pv (wH h (qB S W t).f))), (19, some (.pv (wH h (qB S W t).g))), (20, some (.pv (wH h (qB S W t).h))), (21, some (.pv (nH h t)))], [(992, some (.var 57 (h _ fun _ => List.replicate 32 (u8P 0)) false)), (990, some (.row 5 1 (h _ fun _ => M.map u8P) false)), (991, some (.var 157 (h _ fun _ => (Sl.map wP)) false)), (993, some (.var 158 (h _ fun _ => W.map wP) false))]⟩, fun t => t <= 64, fun t => 64 - t, 0, [], by omega, trivial, ⟨[], rfl, rfl, ⟨?_, ?_, ?_, ?_, trivial⟩, ?_, ?_, ?_, ?_, ?_, ?_, ?_, ?_, ?_, ?_, ?_, ?_, ?_, ?_, trivial⟩, ?_⟩
      ·exact sp
      ·exact sp
      ·exact sp
      ·exact sp
      ·exact sp
      ·exact sp
      ·exact sp
      ·exact sp
      ·exact sp
      ·cbv
       simp only [hh, jK, Nat.zero_add, Nat.add_zero, Int.toNat_zero, show (Int.toNat 0) = 0 from rfl, y6 u0, uz]
      ·cbv
       simp only [hh, jK, Nat.zero_add, Nat.add_zero, Int.toNat_zero, show (Int.toNat 1) = 1 from rfl, y6 u1, uz]
      ·cbv
       simp only [hh, jK, Nat.zero_add, Nat.add_zero, Int.toNat_zero, show (Int.toNat 2) = 2 from rfl, y6 u2, uz]
      ·cbv
       simp only [hh, jK, Nat.zero_add, Nat.add_zero, Int.toNat_zero, show (Int.toNat 3) = 3 from rfl, y6 u3, uz]
      ·cbv
       simp only [hh, jK, Nat.zero_add, Nat.add_zero, Int.toNat_zero, show (Int.toNat 4) = 4 from rfl, y6 u4, uz]
      ·cbv
       simp only [hh, jK, Nat.zero_add, Nat.add_zero, Int.toNat_zero, show (Int.toNat 5) = 5 from rfl, y6 u5, uz]
      ·cbv
       simp only [hh, jK, Nat.zero_add, Nat.add_zero, Int.toNat_zero, show (Int.toNat 6) = 6 from rfl, y6 u6, uz]
      ·cbv
       simp only [hh, jK, Nat.zero_add, Nat.add_zero, Int.toNat_zero, show (Int.toNat 7) = 7 from rfl, y6 u7, uz]
      ·exact sp
      intro t ht
      dsimp only
      by_cases ht6 : t < 64
      ·obtain ⟨x, hx⟩ := exq (W.getD t 0)
       obtain ⟨kk, hk'⟩ : ∃ x, shaK.getD t 0 = x := ⟨_, rfl⟩
       have hnr : qB S W (t + 1) = jo (qB S W t) kk x := by rw [VL, hx, hk']
       have bx : W[t]? = some x := by rw [<- hx, List.getD_eq_getElem?_getD, List.getElem?_eq_getElem Y44]; rfl
       have bk : shaK[t]? = some kk := by rw [<- hk', List.getD_eq_getElem?_getD, List.getElem?_eq_getElem (by rw [XK]; omega)]; rfl
       have gk : (List.drop t vM).getD 0 noP = wP kk := by rw [Jq]; exact y6 bk
       have gx := vq bx
       have gl : vM.length = 64 := by rw [Jq, List.length_map, XK]
       have gA : vM[t]? = some (wP kk) := by rw [Jq, List.getElem?_map, bk]; rfl
       have hG : gV Z 21 = some vM := rfl
       obtain ⟨A, hA⟩ := exq (vM)
       rw [hA] at gk gl gA hG
       clear hA
       have gg := vq gA
       obtain ⟨G, hGv⟩ := exq (gV Z)
       rw [hGv] at hG ⊢
       clear hGv
       obtain ⟨V, hV⟩ := exq (qB S W t)
       rw [hV] at hnr ⊢
       replace hnr := Hdq hnr
       have c1 := jS Z h hh V.e 6 6 rfl Y76 Y76
       have c2 := jS Z h hh V.e 11 11 rfl Y76 Y76
       have c3 := jS Z h hh V.e 25 25 rfl Y76 Y76
       have c4 := jS Z h hh V.a 2 2 rfl Y76 Y76
       have c5 := jS Z h hh V.a 13 13 rfl Y76 Y76
       have c6 := jS Z h hh V.a 22 22 rfl Y76 Y76
       clear hV hx hk' bk u0 u1 u2 u3 u4 u5 u6 u7 v0 v1 v2 v3 v4 v5 v6 v7
       replace gk := Hdq gk
       replace hG := Hdq hG
       cbv
       repeat' first
        | exact s0
        | apply And.intro
        | exact sq
        | (refine fun (_ : PUnit) => ?_; simp [hh, *, gx, gg, wP]; done)
        | trivial
        | (refine sz fun e => ?_; simp [hh, ht6] at e <;> (try simp only [natc] at *) <;> omega)
        | (refine sy fun e => ?_; cbv)
        | (refine ⟨_, _, _, hC _ _ _ _ c1, ?_⟩; cbv; clear c1)
        | (refine ⟨_, _, _, hC _ _ _ _ c2, ?_⟩; cbv; clear c2)
        | (refine ⟨_, _, _, hC _ _ _ _ c3, ?_⟩; cbv; clear c3)
        | (refine ⟨_, _, _, hC _ _ _ _ c4, ?_⟩; cbv; clear c4)
        | (refine ⟨_, _, _, hC _ _ _ _ c5, ?_⟩; cbv; clear c5)
        | (refine ⟨_, _, _, hC _ _ _ _ c6, ?_⟩; cbv; clear c6)
        | (rw [hG.out]; cbv)
       refine ⟨t + 1, by omega, by show 64 - (t + 1) < 64 - t; omega, ⟨[], rfl, rfl, ⟨?_, ?_, ?_, ?_, trivial⟩, ?_, ?_, ?_, ?_, ?_, ?_, ?_, ?_, ?_, ?_, ?_, ?_, ?_, ?_, trivial⟩⟩
       ·exact sp
       ·exact sp
       ·exact sp
       ·exact sp
       ·exact sp
       ·exact sp
       ·exact sp
       ·exact sp
       ·exact sp
       ·cbv; simp only [hh, nI, natc, Int.toNat_natCast, Nat.zero_add, Nat.add_zero, Nat.mul_one, hnr.out, y6 bx, gk.out, uz, w_add, KM, qcj, qb9, jo, Lr, qcB, XO, K0, qeW]
       ·cbv; simp only [hh, hnr.out, jo]
       ·cbv; simp only [hh, hnr.out, jo]
       ·cbv; simp only [hh, hnr.out, jo]
       ·cbv; simp only [hh, nI, natc, Int.toNat_natCast, Nat.zero_add, Nat.add_zero, Nat.mul_one, hnr.out, y6 bx, gk.out, uz, w_add, KM, qcj, qb9, jo, Lr, qcB, XO, K0, qeW]
       ·cbv; simp only [hh, hnr.out, jo]
       ·cbv; simp only [hh, hnr.out, jo]
       ·cbv; simp only [hh, hnr.out, jo]
       ·exact sp
      ·obtain rfl : t = 64 := by omega
       obtain ⟨V, hV⟩ := exq (qB S W 64)
       have hnx2 : qZ (k + 1) uj M = V.add S := by rw [hnx.out, KB, hW2.out, hV]
       rw [hV]
       clear hV
       cbv
       repeat' first
        | exact s0
        | apply And.intro
        | exact sq
        | (refine fun (_ : PUnit) => ?_; simp [hh, *, wP, splice, v0, v1, v2, v3, v4, v5, v6, v7]; done)
        | trivial
        | exact sx
        | (refine sy fun e => ?_; cbv)
       have hsl : (V.add S).l = [S.a + V.a, S.b + V.b, S.c + V.c, S.d + V.d, S.e + V.e, S.f + V.f, S.g + V.g, S.h + V.h] := by simp [St8.add, St8.l, UInt32.add_comm]
       have hSl2 : Sl = [S.a, S.b, S.c, S.d, S.e, S.f, S.g, S.h] := hSl.out.symm
       have hok : ((64 * (k + 1) : Nat) : Int) = (o : Int) + 64 := by have := ho.out; omega
       refine ⟨k + 1, by omega, by show K - (k + 1) < K - k; omega, ⟨[], rfl, rfl, ⟨?_, ?_, ?_, trivial⟩, ?_, ?_, ?_, ?_, trivial⟩⟩
       ·exact sp
       ·exact sp
       ·cbv
        simp only [hh, hnx2, hsl, hSl2, List.map_cons, List.map_nil, Nat.zero_add, Nat.add_zero, cells_v]
        simp [splice, wP, w_add]
       ·exact sp
       ·exact sp
       ·exact sp
       ·cbv
        simp only [hh, nI, natc, hok]
        rw [wrap_i64 Y44 Y44]
   ·obtain rfl : k = K := by omega
    obtain ⟨S, hS⟩ := exq (qZ k uj M)
    have hE : qw m = uI S := by rw [qw, xM, hN, hM.out, hK, Nat.mul_div_cancel_left k Y76, hS]
    obtain ⟨Sl, hSl⟩ := exq (S.l)
    have sl : Sl.length = 8 := by rw [<- hSl]; rfl
    rw [hS, hSl, hE]
    replace hE := Hdq hE
    replace hS := Hdq hS
    have hK2 : M.length = 64 * k := hK
    clear hS hE g1 g2
    cbv
    repeat' first
     | exact s0
     | apply And.intro
     | exact sq
     | trivial
     | (refine sz fun e => ?_; simp [hh, hK2] at e <;> (try simp only [natc] at *) <;> omega)
     | (refine sy fun e => ?_; cbv)
    obtain ⟨O, hO⟩ := exq (uI S)
    have lO : O.length = 32 := by rw [<- hO]; rfl
    have ob0 := fun k7 (hk7 : k7 < 8) => qbr S k7 0 24 hk7 Y76 rfl
    have ob1 := fun k7 (hk7 : k7 < 8) => qbr S k7 1 16 hk7 Y76 rfl
    have ob2 := fun k7 (hk7 : k7 < 8) => qbr S k7 2 8 hk7 Y76 rfl
    have ob3 := fun k7 (hk7 : k7 < 8) => qe7 S k7 hk7
    rw [hO]
    rw [hO, hSl] at ob0 ob1 ob2 ob3
    clear hO hSl
    replace ob0 := Hdq ob0
    replace ob1 := Hdq ob1
    replace ob2 := Hdq ob2
    replace ob3 := Hdq ob3
    refine ⟨Nat, fun k7 => ⟨[(2, some (.ref 992 0 0)), (24, some (.ref 994 0 0)), (272, some (.pv (.a (h _ fun _ => Sl.map wP)))), (273, some (.pv (nH h k7)))], [(992, some (.var 57 (h _ fun _ => List.replicate 32 (u8P 0)) false)), (994, some (.var 57 (h _ fun _ => (dE O k7).map u8P) false))]⟩, fun k7 => k7 <= 8, fun k7 => 8 - k7, 0, [], by omega, trivial, ⟨[(994, 24)], rfl, rfl, ⟨?_, ?_, trivial⟩, ?_, ?_, ?_, ?_, trivial⟩, ?_⟩
    ·exact sp
    ·exact sp
    ·exact sp
    ·exact sp
    ·exact sp
    ·exact sp
    intro k7 hk7
    dsimp only
    have lD := qeJ lO hk7
    by_cases h8 : k7 < 8
    ·have up := fun {p p1 p2 p3} h0 h1 h2 h3 => qfv (p := p) (p1 := p1) (p2 := p2) (p3 := p3) lO h8 h0 h1 h2 h3
     have q0 := ob0.out k7 h8
     have q1 := ob1.out k7 h8
     have q2 := ob2.out k7 h8
     have q3 := ob3.out k7 h8
     obtain ⟨p, hp⟩ := exq (4 * k7)
     obtain ⟨p1, hp1⟩ := exq (p + 1)
     obtain ⟨p2, hp2⟩ := exq (p + 2)
     obtain ⟨p3, hp3⟩ := exq (p + 3)
     replace up := up hp hp1 hp2 hp3
     rw [hp, Nat.add_zero] at q0
     rw [hp, hp1] at q1
     rw [hp, hp2] at q2
     rw [hp, hp3] at q3
     have i0 : IntKind.i64.wrap (4 * (k7 : Int)) = (p : Int) := by rw [wrap_i64 Y44 Y44]; omega
     have i1 : IntKind.i64.wrap ((p : Int) + 1) = (p1 : Int) := by rw [wrap_i64 Y44 Y44]; omega
     have i2 : IntKind.i64.wrap ((p : Int) + 2) = (p2 : Int) := by rw [wrap_i64 Y44 Y44]; omega
     have i3 : IntKind.i64.wrap ((p : Int) + 3) = (p3 : Int) := by rw [wrap_i64 Y44 Y44]; omega
     have z0 : p < 32 /\ p1 < 32 /\ p2 < 32 /\ p3 < 32 := by omega
     obtain ⟨z0, z1, z2, z3⟩ := z0
     obtain ⟨x, hx⟩ := exq (Sl.getD k7 0)
     have bx : Sl[k7]? = some x := by rw [<- hx, List.getD_eq_getElem?_getD, List.getElem?_eq_getElem Y44]; rfl
     have gx := vq bx
     rw [hx] at q0 q1 q2 q3
     obtain ⟨D, hD⟩ := exq (dE O k7)
     rw [hD] at up lD ⊢
     obtain ⟨c0, e0⟩ := exq (O.getD p 0)
     obtain ⟨c1, e1⟩ := exq (O.getD p1 0)
     obtain ⟨c2, e2⟩ := exq (O.getD p2 0)
     obtain ⟨c3, e3⟩ := exq (O.getD p3 0)
     rw [e0] at up q0
     rw [e1] at up q1
     rw [e2] at up q2
     rw [e3] at up q3
     clear e0 e1 e2 e3 hD hx hp hp1 hp2 hp3
     replace up := Hdq up
     cbv
     repeat' first
      | exact s0
      | apply And.intro
      | exact sq
      | (refine fun (_ : PUnit) => ?_; simp [hh, *, gx, wP, sl1, i0, i1, i2, i3]; done)
      | trivial
      | (refine sz fun e => ?_; simp [hh, h8] at e <;> (try simp only [natc] at *) <;> omega)
      | (refine sy fun e => ?_; cbv)
      | (refine fun (_ : PUnit) => ?_; simp [hh, *, wP, sl0]; omega)
     refine ⟨k7 + 1, by omega, by show 8 - (k7 + 1) < 8 - k7; omega, ⟨[], rfl, rfl, ⟨?_, ?_, trivial⟩, ?_, ?_, ?_, ?_, trivial⟩⟩
     ·exact sp
     ·cbv
      simp only [hh, nI, natc, Int.toNat_natCast, Nat.zero_add, Nat.add_zero, Nat.mul_one, i0, i1, i2, i3, y6 bx, uz, q0, q1, q2, q3, cells_v, <- up.out]
      try rfl
     ·exact sp
     ·exact sp
     ·exact sp
     ·exact sp
    ·obtain rfl : k7 = 8 := by omega
     have hO8 : dE O 8 = O := by rw [dE, List.take_of_length_le Y44]; simp
     rw [hO8]
     clear hO8 lD
     cbv
     repeat' first
      | exact s0
      | apply And.intro
      | exact sq
      | trivial
      | (refine sz fun e => ?_; simp [hh, lO] at e <;> (try simp only [natc] at *) <;> omega)
      | (refine sy fun e => ?_; cbv)
end Go.Bl
namespace Go.Bl
open Go.RowKit Go.Proofs
attribute [local irreducible] qw
attribute [simp] jO
theorem Lx (x c : UInt8) {n : Int} (hn : n = (c.toNat : Int)) : zx .xor .u8 (x.toNat : Int) n = ((x ^^^ c).toNat : Int) := by rw [hn]; exact qbX x c
theorem yf (Z : Ad) (h : Hh) (hh : ∀ α g, h α g = g ()) (k m : List UInt8) (hk : k.length <= 90000000) (hm : m.length <= 90000000) : qb Z 102 [.pv (bH h k), .pv (bH h m)] (.pv (aH h u8P (vN k m))) [.any, .any] := by
 have lq := Xy k
 obtain ⟨q, hq⟩ := exq (Zu k)
 have c0 := yl Z h hh k Y44
 refine qdJ [17] Z h hh ⟨Tryz.func102, Tryz.ntmps102⟩ rfl rfl rfl rfl rfl fun C hC => ?_
 unfold Tryz.f102
 cbv
 repeat' first
  | exact s0
  | apply And.intro
  | exact sq
  | trivial
  | exact sx
  | (refine sy fun e => ?_; cbv)
 refine ⟨Unit, fun _ => ⟨[(1, some (.pv (bH h m))), (4, some (.ref 991 0 0)), (5, some (.own 990))], [(990, some (.row 5 1 (h _ fun _ => (q).map u8P) false)), (991, some (.var 57 (h _ fun _ => List.replicate 32 (u8P 0)) false))]⟩, fun _ => True, ?_, fun _ _ => ?_⟩
 repeat' first
  | exact s0
  | apply And.intro
  | exact sq
  | trivial
  | (refine fun (e : (_ : Bool) = _) => ?_; first | (exfalso; simp [hh] at e; done) | (exfalso; simp [hh] at e; (try simp only [natc] at *); omega) | (have ev := Ev.mk e; (try simp only [hh, nI, decide_eq_true_eq, decide_eq_false_iff_not, Bool.not_eq_true, beq_iff_eq, beq_eq_false_iff_ne, bne_iff_ne, natc] at e); cbv))
  | (exfalso; (try simp only [natc] at *); omega)
 ·have n1 : 64 < k.length := qK (a := 64) (by simpa using e)
  clear e
  repeat' first
   | exact s0
   | apply And.intro
   | exact sq
   | trivial
   | exact sx
   | (refine sy fun e => ?_; cbv)
   | (refine ⟨_, _, _, hC _ _ _ _ c0, ?_⟩; cbv; clear c0)
  refine ⟨(), trivial, [(990, 22), (991, 4)], rfl, rfl, ⟨?_, ?_, trivial⟩, rfl, rfl, rfl, trivial⟩
  ·cbv
   simp [hh, <- hq, Zu, n1]
  ·exact sp
 ·have n1 : ¬ 64 < k.length := Nat.not_lt.2 (ge_nat (a := 64) (by simpa using e))
  clear e
  refine ⟨(), trivial, [(990, 14), (991, 4)], rfl, rfl, ⟨?_, ?_, trivial⟩, rfl, rfl, rfl, trivial⟩
  ·cbv
   simp [hh, <- hq, Zu, n1]
  ·exact sp
 ·clear c0
  have hp : q ++ List.replicate (64 - q.length) 0 = xW k := by rw [xW, hq]
  have lp := Zq k
  rw [hq] at lq
  have em : vN k m = qw ((xW k).map (· ^^^ 92) ++ qw ((xW k).map (· ^^^ 54) ++ m)) := rfl
  rw [em]
  clear hq em
  obtain ⟨pk, hpk⟩ := exq (xW k)
  rw [hpk] at hp lp ⊢
  clear hpk
  have c1 := yl Z h hh (pk.map (· ^^^ 54) ++ m) Y46
  have c2 := yl Z h hh (pk.map (· ^^^ 92) ++ qw (pk.map (· ^^^ 54) ++ m)) Y46
  have lx : ∀ c : UInt8, (pk.map (· ^^^ c)).length = 64 := fun c => by simp [lp]
  replace hp := Hdq hp
  cbv
  refine ⟨Nat, fun j => ⟨[(1, some (.pv (bH h m))), (4, some (.ref 991 0 0)), (5, some (.own 990))], [(990, some (.row 5 1 (h _ fun _ => (q ++ List.replicate j 0).map u8P) false)), (991, some (.var 57 (h _ fun _ => List.replicate 32 (u8P 0)) false))]⟩, fun j => j <= (64 - q.length), fun j => (64 - q.length) - j, 0, [], by omega, trivial, ⟨[], rfl, rfl, ⟨?_, ?_, trivial⟩, ?_, ?_, ?_, trivial⟩, ?_⟩
  ·exact sp
  ·exact sp
  ·exact sp
  ·exact sp
  ·exact sp
  intro j hj
  dsimp only
  cbv
  repeat' first
   | exact s0
   | apply And.intro
   | exact sq
   | trivial
   | (refine fun (e : (_ : Bool) = _) => ?_; first | (exfalso; simp [hh] at e; done) | (exfalso; simp [hh] at e; (try simp only [natc] at *); omega) | (have ev := Ev.mk e; (try simp only [hh, nI, decide_eq_true_eq, decide_eq_false_iff_not, Bool.not_eq_true, beq_iff_eq, beq_eq_false_iff_ne, bne_iff_ne, natc] at e); cbv))
   | (exfalso; (try simp only [natc] at *); omega)
  ·have e' : j < 64 - q.length := by
    have : ((q.length + j : Nat) : Int) < 64 := by simpa using e
    omega
   refine ⟨j + 1, by omega, by show (64 - q.length) - (j + 1) < (64 - q.length) - j; omega, ⟨[(990, 28)], rfl, rfl, ⟨?_, ?_, trivial⟩, ?_, ?_, ?_, trivial⟩⟩
   ·cbv; simp only [hh]; rw [List.replicate_succ']; simp
   ·exact sp
   ·exact sp
   ·exact sp
   ·exact sp
  ·have e' : j = 64 - q.length := by
    have : (64 : Int) <= ((q.length + j : Nat) : Int) := by simpa using e
    omega
   subst e'
   rw [hp.out]
   clear e
   refine ⟨Nat, fun i => ⟨[(1, some (.pv (bH h m))), (4, some (.ref 991 0 0)), (7, some (.own 992)), (8, some (.own 993)), (31, some (.own 990)), (32, some (.pv (nH h 64))), (33, some (.pv (nH h i)))], [(990, some (.row 5 1 (h _ fun _ => pk.map u8P) false)), (991, some (.var 57 (h _ fun _ => List.replicate 32 (u8P 0)) false)), (992, some (.row 5 1 (h _ fun _ => ((pk.take i).map (· ^^^ 54)).map u8P) false)), (993, some (.row 5 1 (h _ fun _ => ((pk.take i).map (· ^^^ 92)).map u8P) false))]⟩, fun i => i <= 64, fun i => 64 - i, 0, [], by omega, trivial, ⟨[(992, 29), (993, 30)], rfl, rfl, ⟨?_, ?_, ?_, ?_, trivial⟩, ?_, ?_, ?_, ?_, ?_, ?_, ?_, trivial⟩, ?_⟩
   ·exact sp
   ·exact sp
   ·exact sp
   ·exact sp
   ·exact sp
   ·exact sp
   ·exact sp
   ·exact sp
   ·exact sp
   ·exact sp
   ·exact sp
   intro i hi
   dsimp only
   cbv
   refine ⟨fun _ => rfl, fun e => ?_, fun e => ?_⟩ <;> simp only [hh, nI, decide_eq_true_eq, decide_eq_false_iff_not, natc] at e
   ·have e' : i < 64 := qK e
    have ei : i < pk.length := by omega
    have x1 : zx .xor .u8 (pk[i].toNat : Int) 54 = ((pk[i] ^^^ 54).toNat : Int) := Lx _ _ rfl
    have x2 : zx .xor .u8 (pk[i].toNat : Int) 92 = ((pk[i] ^^^ 92).toNat : Int) := Lx _ _ rfl
    cbv
    repeat' first
     | exact s0
     | apply And.intro
     | exact sq
     | trivial
     | exact sx
     | (refine sy fun e => ?_; cbv)
    refine ⟨i + 1, by omega, by show 64 - (i + 1) < 64 - i; omega, ⟨[(992, 41), (993, 46)], rfl, rfl, ⟨?_, ?_, ?_, ?_, trivial⟩, ?_, ?_, ?_, ?_, ?_, ?_, ?_, trivial⟩⟩
    ·exact sp
    ·exact sp
    ·cbv
     simp [hh, ei]
     rw [List.take_succ_eq_append_getElem (by simpa using ei)]
     simpa [u8P, u8v] using x1
    ·cbv
     simp [hh, ei]
     rw [List.take_succ_eq_append_getElem (by simpa using ei)]
     simpa [u8P, u8v] using x2
    ·exact sp
    ·exact sp
    ·exact sp
    ·exact sp
    ·exact sp
    ·exact sp
    ·exact sp
   ·have e' : i = 64 := Nat.le_antisymm hi (ge_nat (b := 64) e)
    subst e'
    have tk : pk.take 64 = pk := List.take_of_length_le Y44
    rw [tk]
    clear tk
    cbv
    repeat' first
     | exact s0
     | apply And.intro
     | exact sq
     | trivial
     | exact sx
     | (refine sy fun e => ?_; cbv)
     | (refine ⟨_, _, _, hC _ _ _ _ c1, ?_⟩; cbv; clear c1)
     | (refine ⟨_, _, _, hC _ _ _ _ c2, ?_⟩; cbv; clear c2)
end Go.Bl
