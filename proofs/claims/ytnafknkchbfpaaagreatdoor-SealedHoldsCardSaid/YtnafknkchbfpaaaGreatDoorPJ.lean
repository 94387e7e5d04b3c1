import Derived.Test.YtnafknkchbfpaaaGreatDoorShBl
import Derived.Lib.ItoaNum
import Derived.Test.YtnafknkchbfpaaaGreatDoorPI
import Derived.Test.YtnafknkchbfpaaaGreatDoorHG
set_option maxRecDepth 1000000
set_option maxHeartbeats 8000000
namespace Go.Bl
open Go.RowKit Go.Proofs
set_option maxRecDepth 100000
set_option maxHeartbeats 8000000
theorem U4 (Z : Ad) (h : Hh) (hh : ∀ α g, h α g = g ()) (n i : Int) : jw Z 83 [.pv (iH h n), .pv (iH h i)] (.pv (tH h (decide (n <= 512 /\ 0 <= i /\ i < n)))) [.any, .any] := by
 refine uu Z h hh ⟨Tryz.func83, Tryz.ntmps83⟩ rfl rfl rfl rfl rfl fun C hC => ?_
 unfold Tryz.f83
 cbv
 repeat' first
  | apply And.intro
  | exact .inr trivial
  | exact .inr rfl
  | (refine fun (_ : PUnit) => ?_; first | (simp_all [hh]; done) | (simp_all [hh]; omega))
  | trivial
  | (intro e; first | rw [e] | skip; cbv)
theorem qb2 {a b n : Nat} (h1 : 2 ^ a <= n) (h2 : n < 2 ^ (a + 1)) (h3 : 2 ^ b <= n) (h4 : n < 2 ^ (b + 1)) : a = b := by
 rcases Nat.lt_trichotomy a b with h | h | h
 ·have := Nat.pow_le_pow_right (n := 2) qd (show a + 1 <= b by omega); omega
 ·exact h
 ·have := Nat.pow_le_pow_right (n := 2) qd (show b + 1 <= a by omega); omega
theorem Ky {n : Nat} (h : 2 <= n) (hn : n <= 2 ^ 62) : qi n = 2 ^ (Lib.bitLen (n - 1) - 1) /\ 1 <= Lib.bitLen (n - 1) /\ Lib.bitLen (n - 1) <= 62 := by
 obtain ⟨k, hk⟩ := Ur n h
 obtain ⟨h1, h2, -⟩ := qO n h
 obtain ⟨h3, h4, h5⟩ := Lib.bitLenAux_bounds 64 (n - 1) Y62 Y62
 change 1 <= Lib.bitLen (n - 1) at h3
 change 2 ^ (Lib.bitLen (n - 1) - 1) <= n - 1 at h4
 change n - 1 < 2 ^ Lib.bitLen (n - 1) at h5
 have e := qb2 (a := k) (b := Lib.bitLen (n - 1) - 1) (n := n - 1) Y62 (by rw [Nat.pow_succ]; omega) h4 (by rwa [Nat.sub_add_cancel h3])
 refine ⟨by rw [hk, e], h3, ?_⟩
 rcases Nat.lt_or_ge 62 (Lib.bitLen (n - 1)) with h | h
 ·have := Nat.pow_le_pow_right (n := 2) qd (show 62 <= Lib.bitLen (n - 1) - 1 by omega); omega
 ·exact h
theorem qdb (Z : Ad) (h : Hh) (hh : ∀ α g, h α g = g ()) (n : Nat) (hn : n <= 2 ^ 62) : jw Z 162 [.pv (kH h .u64 (nI n))] (.pv (nH h (Lib.bitLen n))) [.any] := by
 simp only [nH, kH, hh, nI]
 exact qdd Tryz.func162 rfl rfl rfl fun w => Tryz.bits_Len n w Y62 Y62
def spl (n : Nat) : Nat := if n < 2 then 0 else qi n
theorem LU (Z : Ad) (h : Hh) (hh : ∀ α g, h α g = g ()) (n : Nat) (hn : n <= 2 ^ 32) : jw Z 132 [.pv (nH h n)] (.pv (nH h (spl n))) [.any] := by
 refine uu Z h hh ⟨Tryz.func132, Tryz.ntmps132⟩ rfl rfl rfl rfl rfl fun C hC => ?_
 unfold Tryz.f132
 cbv
 refine ⟨fun _ => rfl, fun e => ?_, fun e => ?_⟩ <;> simp only [hh, nI, decide_eq_true_eq, decide_eq_false_iff_not] at e
 ·have e' : n < 2 := Int.ofNat_lt.1 e
  cbv
  exact ⟨.inr trivial, fun _ => by simp only [hh, nI, spl]; rw [if_pos e']; rfl, trivial⟩
 ·have e' : ¬ n < 2 := fun q => e (Int.ofNat_lt.2 q)
  obtain ⟨e1, e2, e3⟩ := Ky (n := n) Y62 Y62
  have e4 : ((n - 1 : Nat) : Int) = (n : Int) - 1 := by omega
  have e5 : ((Lib.bitLen (n - 1) - 1 : Nat) : Int) = (Lib.bitLen (n - 1) : Int) - 1 := by omega
  have e6 : 2 ^ (Lib.bitLen (n - 1) - 1) < 2 ^ 62 := Nat.pow_lt_pow_right qd Y62
  cbv
  refine ⟨fun _ => rfl, _, _, _, hC _ _ _ _ (qdb Z h hh (n - 1) Y62), ?_⟩
  cbv
  refine ⟨fun _ => ?_, fun _ => rfl, fun _ => ?_, .inr trivial, fun _ => ?_, trivial⟩ <;> simp (disch := omega) only [hh, nI, jo, qbO, e4]
  ·omega
  ·rw [<- e5, show spl n = qi n from if_neg e', e1, Int.toNat_natCast, Nat.min_eq_left (by show _ <= 64; omega), show (1 : Int) * 2 ^ (Lib.bitLen (n - 1) - 1) = ((2 ^ (Lib.bitLen (n - 1) - 1) : Nat) : Int) by simp, jo Y62 Y62]
def vl (x : Bool × Nat × Nat) : PV := .a [.v (.bool x.1), .v (.int .i64 x.2.1), .v (.int .i64 x.2.2)]
@[simp] theorem turnP_w (x : Bool × Nat × Nat) : (vl x).cells.length = 3 := rfl
theorem Jr (Z : Ad) (h : Hh) (hh : ∀ α g, h α g = g ()) (n i : Nat) (hn : n <= 512) (hi : i < n) : jw Z 85 [.pv (nH h n), .pv (nH h i)] (.own 165 3 (h _ fun _ => (jy n i).map vl)) [.any, .any] := by
 refine uu Z h hh ⟨Tryz.func85, Tryz.ntmps85⟩ rfl rfl rfl rfl rfl fun C hC => ?_
 unfold Tryz.f85
 cbv
 refine ⟨Nat × Nat × List (Bool × Nat × Nat), fun x => ⟨[(0, some (.pv (nH h x.1))), (1, some (.pv (nH h x.2.1))), (5, some (.own 990))], [(990, some (.row 165 3 (h _ fun _ => x.2.2.map vl) false))]⟩,
  fun x => x.2.1 < x.1 /\ x.2.2.length + x.1 <= 512 /\ x.2.2 ++ jy x.1 x.2.1 = jy n i, fun x => x.1, (n, i, []), [(5, 990, 165, 3)], ⟨hi, by simpa using hn, rfl⟩, ⟨rfl, by decide, rfl, trivial⟩, ⟨[], rfl, rfl, ⟨?_, trivial⟩, rfl, rfl, rfl, trivial⟩, ?_⟩
 ·cbv; simp [hh]
 ·rintro ⟨m, j, out⟩ ⟨h1, h2, h3⟩
  dsimp only at h1 h2 h3 ⊢
  cbv
  refine ⟨fun _ => rfl, fun e => ?_, fun e => ?_⟩ <;> simp only [hh, nI, decide_eq_true_eq, decide_eq_false_iff_not] at e
  ·have e' : 2 <= m := by have := Int.ofNat_lt.1 e; omega
   obtain ⟨b1, b2, b3⟩ := qO m e'
   have es : spl m = qi m := if_neg Y62
   refine ⟨_, _, _, hC _ _ _ _ (LU Z h hh m Y62), ?_⟩
   cbv
   refine ⟨fun _ => rfl, fun _ => rfl, fun e2 => ?_, fun e2 => ?_⟩ <;> simp only [hh, nI, decide_eq_true_eq, decide_eq_false_iff_not] at e2
   ·have e3 : j < qi m := by rw [<- es]; exact Int.ofNat_lt.1 e2
    repeat' first
     | exact .inr rfl
     | apply And.intro
     | (refine fun (_ : PUnit) => ?_; first | rfl | (simp [hh]; done) | (simp [hh]; omega))
     | trivial
    refine ⟨(qi m, j, out ++ [(true, qi m, j)]), ⟨e3, by simp; omega, by rw [<- h3, zB e' e3]; simp⟩, b1, [(990, 29)], rfl, rfl, ⟨?_, trivial⟩, ?_, rfl, rfl, trivial⟩
    ·cbv; simp [hh, vl, es, e3]
    ·cbv; simp [hh, es]
   ·have e3 : ¬ j < qi m := by rw [<- es]; exact fun q => e2 (Int.ofNat_lt.2 q)
    cbv
    repeat' first
     | exact .inr rfl
     | apply And.intro
     | (refine fun (_ : PUnit) => ?_; first | rfl | (simp [hh]; done) | (simp [hh]; omega))
     | trivial
    refine ⟨(m - qi m, j - qi m, out ++ [(false, m - qi m, j - qi m)]), ⟨by show j - qi m < m - qi m; omega, by simp; omega, by rw [<- h3, zj e' e3]; simp⟩, by show m - qi m < m; omega, [(990, 29)], rfl, rfl, ⟨?_, trivial⟩, ?_, ?_, rfl, trivial⟩
    ·cbv; simp (disch := omega) [hh, vl, es, e3, jo]; omega
    all_goals cbv
    all_goals simp (disch := omega) [hh, es, jo]
    all_goals omega
  ·have e' : m <= 1 := by rcases Nat.lt_or_ge 1 m with q | q; exact absurd (Int.ofNat_lt.2 q) e; exact q
   cbv
   rw [uO e', List.append_nil] at h3
   exact ⟨.inr trivial, fun _ => ⟨rfl, rfl, by simp only [hh]; rw [h3]⟩, trivial⟩
theorem XI (Z : Ad) (h : Hh) (hh : ∀ α g, h α g = g ()) (n i : Nat) (hn : n <= 512) (hi : i < n) : jw Z 136 [.pv (nH h n), .pv (nH h i)] (.pv (nH h (yV n i))) [.any, .any] := by
 refine uu Z h hh ⟨Tryz.func136, Tryz.ntmps136⟩ rfl rfl rfl rfl rfl fun C hC => ?_
 unfold Tryz.f136
 cbv
 refine ⟨_, _, _, hC _ _ _ _ (U4 Z h hh n i), ?_⟩
 have e : decide ((n : Int) <= 512 /\ 0 <= (i : Int) /\ (i : Int) < n) = true := by simp; omega
 cbv
 refine ⟨fun _ => rfl, fun _ => rfl, fun e1 => ?_, fun e1 => ?_⟩
 ·simp only [hh, e] at e1; cases e1
 ·refine ⟨_, _, _, hC _ _ _ _ (Jr Z h hh n i hn hi), ?_⟩
  cbv
  exact ⟨fun _ => rfl, fun _ => rfl, .inr trivial, fun _ => by simp [hh, yV], trivial⟩
end Go.Bl
namespace Go.Bl
open Go.RowKit
def vW (ts : List (Bool × Nat × Nat)) (d : Dg) (ps : List Dg) (k : Nat) : Dg := uk (ts.take k) d (ps.take k)
def UF (ts : List (Bool × Nat × Nat)) (d : Dg) (ps : List Dg) (k : Nat) : List UInt8 := 1 :: (if (ts.getD k (false, 0, 0)).1 then vW ts d ps k ++ ps.getD k [] else ps.getD k [] ++ vW ts d ps k)
theorem yD {ts : List (Bool × Nat × Nat)} {d : Dg} {ps : List Dg} {k : Nat} (hl : ts.length = ps.length) (hk : k < ts.length) : vW ts d ps (k + 1) = jf (UF ts d ps k) := by
 have h1 : ts.take (k + 1) = ts.take k ++ [ts[k]] := List.take_succ_eq_append_getElem hk
 have h2 : ps.take (k + 1) = ps.take k ++ [ps[k]'(hl ▸ hk)] := List.take_succ_eq_append_getElem (hl ▸ hk)
 have e1 : ts.getD k (false, 0, 0) = ts[k] := by simp [List.getD_eq_getElem?_getD, hk]
 have e2 : ps.getD k [] = ps[k]'(hl ▸ hk) := by simp [List.getD_eq_getElem?_getD, hl ▸ hk]
 rw [vW, h1, h2, vq _ _ _ _ _ (by rw [List.length_take, List.length_take, hl]), UF, e1, e2]
 cases ts[k].1 <;> rfl
theorem qcD {ts : List (Bool × Nat × Nat)} {d : Dg} {ps : List Dg} (hl : ts.length = ps.length) : vW ts d ps ts.length = uk ts d ps := by
 rw [vW, List.take_length, hl, List.take_length]
theorem LP {ts : List (Bool × Nat × Nat)} {d : Dg} {ps : List Dg} (hl : ts.length = ps.length) (hd : d.length = 32) : ∀ k, k <= ts.length -> (vW ts d ps k).length = 32
 | 0, _ => by simp [vW, uk, hd]
 | k + 1, h => by rw [yD hl h]; exact jY _
def xL (ts : List (Bool × Nat × Nat)) (leaf : List UInt8) (ps : List Dg) (k : Nat) : List (List UInt8) := (0 :: leaf) :: (List.range k).map (UF ts (qS leaf) ps)
theorem UI (ts : List (Bool × Nat × Nat)) (leaf : List UInt8) (ps : List Dg) (k : Nat) : xL ts leaf ps (k + 1) = xL ts leaf ps k ++ [UF ts (qS leaf) ps k] := by simp [xL, List.range_succ]
@[simp] theorem wayL_len (ts : List (Bool × Nat × Nat)) (leaf : List UInt8) (ps : List Dg) (k : Nat) : (xL ts leaf ps k).length = k + 1 := by simp [xL]
theorem vF : ∀ (n i : Nat), 1 <= n -> (jy n i).length + 1 <= n
 | n, i, h => by
  by_cases h1 : n <= 1
  ·rw [uO h1]; exact h
  ·have hb := qO n Y62
   by_cases hi : i < qi n
   ·rw [zB Y62 hi, List.length_cons]
    have := vF (qi n) i hb.2.2
    omega
   ·rw [zj Y62 hi, List.length_cons]
    have := vF (n - qi n) (i - qi n) Y62
    omega
termination_by n => n
decreasing_by
 ·omega
 ·omega
theorem qav {ts : List (Bool × Nat × Nat)} {leaf : List UInt8} {ps : List Dg} (hl : ts.length = ps.length) :
  (xL ts leaf ps ts.length).length = ts.length + 1 /\ jf ((xL ts leaf ps ts.length).getD ts.length []) = uk ts (qS leaf) ps := by
 refine ⟨by simp [xL], ?_⟩
 rw [<- qcD hl]
 cases h : ts.length with
 | zero => simp [xL, vW, uk, qS]
 | succ k =>
  rw [yD hl Y62]
  congr 1
  simp [xL, List.getD_eq_getElem?_getD]
theorem Ks {ts : List (Bool × Nat × Nat)} {leaf : List UInt8} {ps : List Dg} (hl : ts.length = ps.length) (hp : ∀ p ∈ ps, p.length = 32) : ((xL ts leaf ps ts.length).getD ts.length []).length <= leaf.length + 66 := by
 cases h : ts.length with
 | zero => simp [xL]
 | succ k =>
  have e : (xL ts leaf ps (k + 1)).getD (k + 1) [] = UF ts (qS leaf) ps k := by simp [xL, List.getD_eq_getElem?_getD]
  have h1 : (vW ts (qS leaf) ps k).length = 32 := LP hl (vK _) k Y62
  have h2 : (ps.getD k []).length = 32 := by
   rw [List.getD_eq_getElem?_getD, List.getElem?_eq_getElem (show k < ps.length by omega)]
   exact hp _ (List.getElem_mem _)
  rw [e, UF, List.length_cons]
  split <;> rw [List.length_append] <;> omega
end Go.Bl
namespace Go.Bl
open Go.RowKit Go.Proofs
attribute [local irreducible] jf
@[simp] theorem aP_cells (d : List UInt8) : (aP d).cells = d.map u8P := rfl
theorem LX (Z : Ad) (xs ys : List PV) (e : ys = xs.reverse) : jw Z 165 [.own 165 3 xs] (.tup []) [.own 165 3 ys] := by
 subst e; exact qcL Z xs
theorem Yk (Z : Ad) (h : Hh) (hh : ∀ α g, h α g = g ()) (n i : Nat) (hn : n <= 512) (hi : i < n) (leaf : List UInt8) (hl : leaf.length <= 10000000) (ps : List Dg) (hp : ∀ p ∈ ps, p.length = 32) (hps : ps.length = yV n i) :
  jw Z 137 [.pv (nH h n), .pv (nH h i), .pv (bH h leaf), .pv (lH h aP ps)] (.own 22 1 (h _ fun _ => (xL (jy n i).reverse leaf ps ps.length).map bP)) [.any, .any, .any, .any] := by
 obtain ⟨ts, hts⟩ : ∃ ts, ts = (jy n i).reverse := ⟨_, rfl⟩
 have hT : ts.length = ps.length := by rw [hts, List.length_reverse]; exact hps.symm
 have h512 : ts.length <= 512 := by rw [hts, List.length_reverse]; have := vF n i Y62; omega
 refine uu Z h hh ⟨Tryz.func137, Tryz.ntmps137⟩ rfl rfl rfl rfl rfl fun C hC => ?_
 unfold Tryz.f137
 cbv
 refine ⟨_, _, _, hC _ _ _ _ (Jr Z h hh n i hn hi), ?_⟩
 cbv
 refine ⟨fun _ => rfl, fun _ => rfl, _, _, _, hC _ _ _ _ (LX Z (h _ fun _ => (jy n i).map vl) (h _ fun _ => ts.map vl) (by simp [hh, hts])), ?_⟩
 cbv
 refine ⟨fun _ => by simp, ?_⟩
 refine ⟨_, _, _, hC _ _ _ _ (U2 Z h hh leaf Y62), ?_⟩
 cbv
 repeat' first
  | exact .inr trivial
  | apply And.intro
  | (refine fun (_ : PUnit) => ?_; exact sg)
  | trivial
 refine ⟨_, _, _, hC _ _ _ _ (Ys Z h hh leaf Y62), ?_⟩
 cbv
 repeat' first
  | exact .inr trivial
  | apply And.intro
  | (refine fun (_ : PUnit) => ?_; exact sg)
  | trivial
 have HT := Hdq hts
 clear hts hps
 refine ⟨Nat, fun k => ⟨[(3, some (.pv (lH h aP ps))), (10, some (.own 990)), (11, some (.ref 991 0 0)), (25, some (.own 992)), (26, some (.pv (nH h ts.length))), (27, some (.pv (nH h k)))],
   [(990, some (.row 22 1 (h _ fun _ => (xL ts leaf ps k).map bP) false)), (991, some (.var 58 (h _ fun _ => (vW ts (qS leaf) ps k).map u8P) false)), (992, some (.row 165 3 (h _ fun _ => ts.map vl) false))]⟩,
  fun k => k <= ts.length, fun k => ts.length - k, 0, [], Nat.zero_le _, trivial, ⟨[(990, 22), (991, 11), (992, 17)], rfl, rfl, ⟨?_, ?_, rfl, trivial⟩, rfl, rfl, rfl, rfl, ?_, ?_, trivial⟩, ?_⟩
 ·cbv; simp [hh, xL]
 ·cbv; simp [hh, vW, uk, qS]
 ·cbv; simp [hh]
 ·cbv; simp [hh]
 ·intro k hk
  cbv
  refine ⟨fun _ => rfl, fun e => ?_, fun e => ?_⟩ <;> simp only [hh, nI, decide_eq_true_eq, decide_eq_false_iff_not] at e
  ·have e' : k < ts.length := Jq e
   have ep : k < ps.length := hT ▸ e'
   have p32 : ps[k].length = 32 := hp _ (List.getElem_mem ep)
   have d32 : (vW ts (qS leaf) ps k).length = 32 := LP hT (vK _) k hk
   cbv
   repeat' first
    | exact .inr trivial
    | apply And.intro
    | (refine fun (_ : PUnit) => ?_; exact sg)
    | trivial
   refine ⟨_, _, _, hC _ _ _ _ (Vr Z h hh ps[k] (vW ts (qS leaf) ps k) p32 d32), ?_⟩
   cbv
   repeat' first
    | exact .inr trivial
    | apply And.intro
    | (refine fun (_ : PUnit) => ?_; exact sg)
    | trivial
   ·intro e1
    have e2 : ts[k].1 = true := by simpa [hh, e', vl] using e1
    have hB : UF ts (qS leaf) ps k = 1 :: (vW ts (qS leaf) ps k ++ ps[k]) := by simp [UF, e', ep, e2]
    clear e1
    repeat' first
     | exact .inr trivial
     | apply And.intro
     | (refine fun (_ : PUnit) => ?_; exact sg)
     | trivial
    refine ⟨_, _, _, hC _ _ _ _ (Vr Z h hh (vW ts (qS leaf) ps k) ps[k] d32 p32), ?_⟩
    cbv
    repeat' first
     | exact .inr trivial
     | apply And.intro
     | (refine fun (_ : PUnit) => ?_; exact sg)
     | trivial
    refine ⟨_, _, _, hC _ _ _ _ (J8 Z h hh [1 :: (vW ts (qS leaf) ps k ++ ps[k])] Y65), ?_⟩
    cbv
    repeat' first
     | exact .inr trivial
     | apply And.intro
     | (refine fun (_ : PUnit) => ?_; exact sg)
     | trivial
    refine ⟨k + 1, e', by show ts.length - (k + 1) < ts.length - k; omega, [(990, 49)], rfl, rfl, ⟨?_, ?_, rfl, trivial⟩, rfl, rfl, rfl, rfl, rfl, ?_, trivial⟩
    ·cbv; simp [hh, UI, hB]
    ·cbv; simp [hh, yD hT e', hB, d32]
    ·cbv; simp (disch := omega) [hh, jo]
   ·intro e1
    have e2 : ts[k].1 = false := by simpa [hh, e', vl] using e1
    have hB : UF ts (qS leaf) ps k = 1 :: (ps[k] ++ vW ts (qS leaf) ps k) := by simp [UF, e', ep, e2]
    clear e1
    repeat' first
     | exact .inr trivial
     | apply And.intro
     | (refine fun (_ : PUnit) => ?_; exact sg)
     | trivial
    refine ⟨_, _, _, hC _ _ _ _ (J8 Z h hh [1 :: (ps[k] ++ vW ts (qS leaf) ps k)] Y65), ?_⟩
    cbv
    repeat' first
     | exact .inr trivial
     | apply And.intro
     | (refine fun (_ : PUnit) => ?_; exact sg)
     | trivial
    refine ⟨k + 1, e', by show ts.length - (k + 1) < ts.length - k; omega, [(990, 49)], rfl, rfl, ⟨?_, ?_, rfl, trivial⟩, rfl, rfl, rfl, rfl, rfl, ?_, trivial⟩
    ·cbv; simp [hh, UI, hB]
    ·cbv; simp [hh, yD hT e', hB, d32]
    ·cbv; simp (disch := omega) [hh, jo]
  ·have e' : ts.length <= k := Uo e
   obtain rfl : k = ts.length := Nat.le_antisymm hk e'
   cbv
   exact ⟨.inr trivial, fun _ => ⟨rfl, rfl, by simp only [hh]; rw [<- HT.out, hT]⟩, trivial⟩
theorem qbF (Z : Ad) (h : Hh) (hh : ∀ α g, h α g = g ()) (n i : Nat) (hn : n <= 512) (hi : i < n) (leaf : List UInt8) (hl : leaf.length <= 10000000) (ps : List Dg) (hp : ∀ p ∈ ps, p.length = 32) (hps : ps.length = yV n i) :
  jw Z 88 [.pv (nH h n), .pv (nH h i), .pv (bH h leaf), .pv (lH h aP ps)] (.tup [.pv (aH h u8P (JE n i (qS leaf) ps)), .pv (.v .nilIface)]) [.any, .any, .any, .any] := by
 refine uu Z h hh ⟨Tryz.func88, Tryz.ntmps88⟩ rfl rfl rfl rfl rfl fun C hC => ?_
 unfold Tryz.f88
 cbv
 refine ⟨_, _, _, hC _ _ _ _ (XI Z h hh n i hn hi), ?_⟩
 cbv
 repeat' first
  | exact .inr trivial
  | apply And.intro
  | (refine fun (_ : PUnit) => ?_; exact sg)
  | trivial
 ·intro e
  simp only [hh, nI, decide_eq_true_eq] at e
  exact absurd e (Int.not_lt.2 (Int.natCast_nonneg _))
 ·intro e
  clear e
  repeat' first
   | exact .inr trivial
   | apply And.intro
   | (refine fun (_ : PUnit) => ?_; exact sg)
   | trivial
  ·intro e
   simp only [hh, nI, List.length_map, hps, bne_self_eq_false] at e
   cases e
  ·intro e
   clear e
   have hb := Yk Z h hh n i hn hi leaf hl ps hp hps
   have hT : (jy n i).reverse.length = ps.length := by rw [List.length_reverse]; exact hps.symm
   obtain ⟨up, hup⟩ := exq (xL (jy n i).reverse leaf ps ps.length)
   have hu : up.length = ps.length + 1 := by rw [<- hup, wayL_len]
   have hs := Ks (leaf := leaf) hT hp
   have hl2 := (qav (leaf := leaf) hT).2
   rw [hT, hup] at hs hl2
   have h5 : ps.length <= 512 := by rw [hps]; have := vF n i Y62; unfold yV; omega
   have hw : IntKind.i64.wrap (ps.length : Int) = (ps.length : Int) := jo Y62 Y62
   have hlt : ps.length < up.length := by rw [hu]; exact Nat.lt_succ_self _
   have hg : up[ps.length]'hlt = up.getD ps.length [] := by rw [List.getD_eq_getElem?_getD, List.getElem?_eq_getElem hlt]; rfl
   rw [hup] at hb
   obtain ⟨b, hbe⟩ := exq (up.getD ps.length [])
   rw [hbe] at hg hs hl2
   have hl3 : JE n i (qS leaf) ps = jf b := hl2.symm
   clear hup hps hT hbe hp hl2
   refine ⟨_, _, _, hC _ _ _ _ hb, ?_⟩
   cbv
   clear hb
   repeat' first
    | exact .inr trivial
    | exact .inr rfl
    | apply And.intro
    | (refine fun (_ : PUnit) => ?_; exact sg)
    | trivial
   refine ⟨_, _, _, hC _ _ _ _ (J8 Z h hh [b] Y65), ?_⟩
   cbv
   repeat' first
    | exact .inr trivial
    | exact .inr rfl
    | apply And.intro
    | (refine fun (_ : PUnit) => ?_; exact sg)
    | trivial
theorem W0 (Z : Ad) (h : Hh) (hh : ∀ α g, h α g = g ()) (root : Dg) (n i : Nat) (hn : n <= 512) (hi : i < n) (leaf : List UInt8) (hl : leaf.length <= 10000000) (ps : List Dg) (hp : ∀ p ∈ ps, p.length = 32) (hps : ps.length = yV n i) (hr : root.length = 32) (hok : JE n i (qS leaf) ps = root) :
  jw Z 34 [.pv (aH h u8P root), .pv (nH h n), .pv (nH h i), .pv (bH h leaf), .pv (lH h aP ps)] (.pv (.v .nilIface)) [.any, .any, .any, .any, .any] := by
 refine uu Z h hh ⟨Tryz.func34, Tryz.ntmps34⟩ rfl rfl rfl rfl rfl fun C hC => ?_
 unfold Tryz.f34
 cbv
 have hb := qbF Z h hh n i hn hi leaf hl ps hp hps
 rw [hok] at hb
 refine ⟨_, _, _, hC _ _ _ _ hb, ?_⟩
 cbv
 clear hb hok hps
 repeat' first
  | exact .inr trivial
  | exact .inr rfl
  | apply And.intro
  | (refine fun (_ : PUnit) => ?_; exact sg)
  | trivial
  | (refine fun (e : (_ : Bool) = _) => ?_; first | (cases e; done) | skip; cbv)
 rename_i e
 simp [hh, hr] at e
end Go.Bl
namespace Go.Bl
open Go.RowKit Go.Proofs
attribute [local irreducible] jf
theorem LB : ∀ (ds : List (List UInt8)), (ds.map aP).flatMap PV.cells = (ds.flatMap fun d => d).map u8P
 | [] => rfl
 | d :: ds => by rw [List.map_cons, List.flatMap_cons, LB ds, List.flatMap_cons, List.map_append]; rfl
open Go.Proofs.YtnafknkchbfpaaaGreatDoor in
theorem KO {A : Nat -> Prop} {w : World} {ds : List (List UInt8)} {v : Value} (hd : ∀ d ∈ ds, d.length = 32) (h : je A w (.l (ds.map aP)) v) : RdK (fun _ => False) 32 w v (dgK ds) := by
 cases h with
 | l h h1 h2 h3 h4 h5 h6 =>
  rename_i ad cap s us
  rw [LB] at h
  have := Q6 h
  subst this
  rw [List.length_map] at h4
  refine ⟨⟨ad, cap, by rw [jU, List.length_map], by rw [jU]; exact h4, h5, ?_⟩, fun r hr => ?_⟩
  ·have e : (dgK ds).flatten = (ds.flatMap fun d => d).map u8v := by
    rw [dgK, <- List.flatMap_def, List.map_flatMap]
   rw [e]
   exact h6.mono (S := []) (Fr.refl _ _) qf fun b hb => hb.elim
  ·obtain ⟨d, hm, rfl⟩ := List.mem_map.1 hr
   rw [List.length_map, hd d hm]
theorem YC (Z : Ad) (h : Hh) (hh : ∀ α g, h α g = g ()) (ds : List (List UInt8)) (hd : ∀ d ∈ ds, d.length = 32) (hn : ds.length <= 100000) (h1 : 1 <= ds.length) : jw Z 86 [.pv (lH h aP ds)] (.pv (aH h u8P (jx ds))) [.any] := by
 simp only [lH, aH, hh]
 exact LL Tryz.func86 rfl rfl (fun A w => qda _) fun A w u hA he hr => Go.Proofs.YtnafknkchbfpaaaGreatDoor.over_any w u ds (KO hd hr) hd hn (Jg he) h1
theorem qax (Z : Ad) (xs ys : List PV) (e : ys = xs.reverse) : jw Z 87 [.own 58 32 xs] (.tup []) [.own 58 32 ys] := by
 subst e; exact qcX Z xs
attribute [local simp] qaX vl
theorem qbE (Z : Ad) (h : Hh) (hh : ∀ α g, h α g = g ()) (ls : List (List UInt8)) (i : Nat) (hn : ls.length <= 512) (hi : i < ls.length) (hw : ∀ l ∈ ls, l.length <= 10000000) :
  jw Z 33 [.pv (lH h bP ls), .pv (nH h i)] (.tup [.own 58 32 (h _ fun _ => (zD (ls.map qS) i).map aP), .pv (.v .nilIface)]) [.any, .any] := by
 refine uu Z h hh ⟨Tryz.func33, Tryz.ntmps33⟩ rfl rfl rfl rfl rfl fun C hC => ?_
 unfold Tryz.f33
 cbv
 repeat' first
  | exact .inr trivial
  | exact .inr rfl
  | apply And.intro
  | (refine fun (_ : PUnit) => ?_; exact sg)
  | trivial
  | (refine fun (e : (_ : Bool) = _) => ?_; first | (cases e; done) | skip; cbv)
 refine ⟨_, _, _, hC _ _ _ _ (U4 Z h hh ls.length i), ?_⟩
 have et : decide ((ls.length : Int) <= 512 /\ 0 <= (i : Int) /\ (i : Int) < ls.length) = true := by simp; omega
 cbv
 refine ⟨fun _ => by simp [hh], fun _ => rfl, fun e => ?_, fun e => ?_⟩
 ·simp only [hh, et] at e; cases e
 ·clear e et
  have hls : (ls.map fun l => aP (jf (0 :: l))) = (ls.map qS).map aP := by rw [List.map_map]; rfl
  obtain ⟨L, hL⟩ := exq (ls.map qS)
  have hLl : L.length = ls.length := by rw [<- hL, List.length_map]
  have hL32 : ∀ d ∈ L, d.length = 32 := by rw [<- hL]; intro d hd; obtain ⟨l, -, rfl⟩ := List.mem_map.1 hd; exact vK l
  have hc := (Kb Z h hh ls Y62 hw).plain
  rw [hls, hL] at hc
  rw [hL]
  clear hls hL hw
  refine ⟨_, _, _, hC _ _ _ _ hc, ?_⟩
  cbv
  clear hc
  refine ⟨fun _ => rfl, ?_⟩
  refine ⟨_, _, _, hC _ _ _ _ (Jr Z h hh ls.length i hn hi).plain, ?_⟩
  cbv
  obtain ⟨ts, hts⟩ := exq (jy ls.length i)
  rw [hts]
  have h512 : ts.length <= 512 := by rw [<- hts]; have := vF ls.length i Y62; omega
  refine ⟨fun _ => by simp [hh], fun _ => rfl, ?_⟩
  refine ⟨Nat × List Dg × Nat × List Dg, fun x => ⟨[(6, some (.pv (lH h aP x.2.1))), (7, some (.own 990)), (22, some (.pv (lH h vl ts))), (23, some (.pv (nH h ts.length))), (24, some (.pv (nH h x.1)))],
    [(990, some (.row 58 32 (h _ fun _ => x.2.2.2.map aP) false))]⟩,
   fun x => x.1 <= ts.length /\ ts.drop x.1 = jy x.2.1.length x.2.2.1 /\ x.2.2.1 < x.2.1.length /\ x.2.1.length <= 512 /\ (∀ d ∈ x.2.1, d.length = 32) /\ x.2.2.2 ++ (zD x.2.1 x.2.2.1).reverse = (zD L i).reverse /\ x.2.2.2.length + x.2.1.length <= 512,
   fun x => ts.length - x.1, (0, L, i, []), [(7, 990, 58, 32)], ⟨Nat.zero_le _, by rw [hLl, hts]; rfl, by rw [hLl]; exact hi, by rw [hLl]; exact hn, hL32, rfl, by rw [hLl]; simpa using hn⟩, ⟨rfl, by decide, rfl, trivial⟩, ⟨[], rfl, rfl, ⟨?_, trivial⟩, rfl, rfl, rfl, ?_, ?_, trivial⟩, ?_⟩
  ·cbv; simp [hh]
  ·cbv; simp [hh]
  ·cbv; simp [hh]
  ·rintro ⟨k, l, j, out⟩ ⟨h1, h2, h3, h4, h5, h6, h7⟩
   dsimp only at h1 h2 h3 h4 h5 h6 h7 ⊢
   cbv
   refine ⟨fun _ => rfl, fun e => ?_, fun e => ?_⟩ <;> simp only [hh, nI, decide_eq_true_eq, decide_eq_false_iff_not] at e
   ·have e' : k < ts.length := Jq e
    have hd : ts.drop k = ts[k] :: ts.drop (k + 1) := List.drop_eq_getElem_cons e'
    rw [hd] at h2
    have m2 : 2 <= l.length := by
     rcases Nat.lt_or_ge l.length 2 with q | q
     ·rw [uO Y62] at h2; cases h2
     ·exact q
    obtain ⟨b1, b2, b3⟩ := qO l.length m2
    by_cases hj : j < qi l.length
    ·rw [zB m2 hj] at h2
     have et : ts[k] = (true, qi l.length, j) := (List.cons.inj h2).1
     have ed := (List.cons.inj h2).2
     have E' := Hdq (And.intro ed h6)
     clear h2 hd ed h6 hLl hL32 hts
     repeat' first
      | exact .inr trivial
      | exact .inr rfl
      | apply And.intro
      | (refine fun (_ : PUnit) => ?_; exact sg)
      | trivial
     ·intro e1
      clear e1
      repeat' first
       | exact .inr trivial
       | exact .inr rfl
       | apply And.intro
       | (refine fun (_ : PUnit) => ?_; exact sg)
       | trivial
      have o32 : (jx (l.drop (qi l.length))).length = 32 := Go.Proofs.YtnafknkchbfpaaaGreatDoor.overL_32 _ (fun d hd => h5 d (List.mem_of_mem_drop hd)) Y65
      refine ⟨_, _, _, hC _ _ _ _ (YC Z h hh (l.drop (qi l.length)) (fun d hd => h5 d (List.mem_of_mem_drop hd)) Y65 Y65), ?_⟩
      cbv
      repeat' first
       | exact .inr trivial
       | exact .inr rfl
       | apply And.intro
       | (refine fun (_ : PUnit) => ?_; exact sg)
       | trivial
      obtain ⟨ed, h6⟩ := E'.out
      rw [xw m2 hj, List.reverse_append] at h6
      refine ⟨(k + 1, l.take (qi l.length), j, out ++ [jx (l.drop (qi l.length))]), ⟨e', ?_, ?_, ?_, fun d hd => h5 d (List.mem_of_mem_take hd), ?_, ?_⟩, by show ts.length - (k + 1) < ts.length - k; omega, [(990, 38)], rfl, rfl, ⟨?_, trivial⟩, ?_, rfl, rfl, rfl, ?_, trivial⟩
      ·dsimp only; rw [ed]; congr 1; simp; omega
      ·dsimp only; simp; omega
      ·dsimp only; simp; omega
      ·dsimp only; rw [<- h6]; simp
      ·dsimp only; simp; omega
      ·cbv; simp [hh, *, aP]
      ·cbv; simp [hh, *]
      ·cbv; simp (disch := omega) [hh, jo]
     ·intro e1
      simp [hh, e', vl, et] at e1
    ·rw [zj m2 hj] at h2
     have et : ts[k] = (false, l.length - qi l.length, j - qi l.length) := (List.cons.inj h2).1
     have ed := (List.cons.inj h2).2
     have hwr : IntKind.i64.wrap ((l.length : Int) - ((l.length - qi l.length : Nat) : Int)) = (qi l.length : Int) := by rw [jo Y62 Y62]; omega
     have E' := Hdq (And.intro ed h6)
     clear h2 hd ed h6 hLl hL32 hts
     repeat' first
      | exact .inr trivial
      | exact .inr rfl
      | apply And.intro
      | (refine fun (_ : PUnit) => ?_; exact sg)
      | trivial
     ·intro e1
      simp [hh, e', vl, et] at e1
     ·intro e1
      clear e1
      repeat' first
       | exact .inr trivial
       | exact .inr rfl
       | apply And.intro
       | (refine fun (_ : PUnit) => ?_; exact sg)
       | trivial
      have o32 : (jx (l.take (qi l.length))).length = 32 := Go.Proofs.YtnafknkchbfpaaaGreatDoor.overL_32 _ (fun d hd => h5 d (List.mem_of_mem_take hd)) Y65
      refine ⟨_, _, _, hC _ _ _ _ (YC Z h hh (l.take (qi l.length)) (fun d hd => h5 d (List.mem_of_mem_take hd)) Y65 Y65), ?_⟩
      cbv
      repeat' first
       | exact .inr trivial
       | exact .inr rfl
       | apply And.intro
       | (refine fun (_ : PUnit) => ?_; exact sg)
       | trivial
      obtain ⟨ed, h6⟩ := E'.out
      rw [vh m2 hj, List.reverse_append] at h6
      refine ⟨(k + 1, l.drop (qi l.length), j - qi l.length, out ++ [jx (l.take (qi l.length))]), ⟨e', ?_, ?_, ?_, fun d hd => h5 d (List.mem_of_mem_drop hd), ?_, ?_⟩, by show ts.length - (k + 1) < ts.length - k; omega, [(990, 53)], rfl, rfl, ⟨?_, trivial⟩, ?_, rfl, rfl, rfl, ?_, trivial⟩
      ·dsimp only; rw [ed]; congr 1; simp
      ·dsimp only; simp; omega
      ·dsimp only; simp; omega
      ·dsimp only; rw [<- h6]; simp
      ·dsimp only; simp; omega
      ·cbv; simp [hh, *, aP]
      ·cbv; simp [hh, *]
      ·cbv; simp (disch := omega) [hh, jo]
   ·have e' : ts.length <= k := Uo e
    have hkk : k = ts.length := Nat.le_antisymm h1 e'
    rw [hkk, List.drop_length] at h2
    have hl1 : l.length <= 1 := by
     rcases Nat.lt_or_ge 1 l.length with q | q
     ·by_cases hj : j < qi l.length
      ·rw [zB q hj] at h2; cases h2
      ·rw [zj q hj] at h2; cases h2
     ·exact q
    rw [yB hl1, List.reverse_nil, List.append_nil] at h6
    cbv
    refine ⟨_, _, _, hC _ _ _ _ (qax Z (h _ fun _ => out.map aP) (h _ fun _ => (zD L i).map aP) (by simp [hh, h6])), ?_⟩
    cbv
    repeat' first
     | exact .inr trivial
     | exact .inr rfl
     | apply And.intro
     | (refine fun (_ : PUnit) => ?_; exact sg)
     | trivial
end Go.Bl
