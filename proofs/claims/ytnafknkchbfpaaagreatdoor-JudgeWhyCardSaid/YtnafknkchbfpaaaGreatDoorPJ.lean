import Derived.Test.YtnafknkchbfpaaaGreatDoorSStr
import Derived.Lib.ItoaNum
import Derived.Test.YtnafknkchbfpaaaGreatDoorHI
set_option linter.unusedVariables false
set_option linter.unusedSimpArgs false
set_option maxRecDepth 1000000
set_option maxHeartbeats 8000000
namespace Go.Bl
open Go.RowKit Go.Proofs
theorem U6 (Z : Ad) (h : Hh) (hh : ∀ α g, h α g = g ()) (n i : Int) : qb Z 83 [.pv (iH h n), .pv (iH h i)] (.pv (tH h (decide (n <= 512 /\ 0 <= i /\ i < n)))) [.any, .any] := by
 refine qh Z h hh ⟨Tryz.func83, Tryz.ntmps83⟩ rfl rfl rfl rfl rfl fun C hC => ?_
 unfold Tryz.f83
 cbv
 repeat' first
  | apply And.intro
  | exact s0
  | (refine fun (_ : PUnit) => ?_; first | exact ⟨rfl⟩ | (simp_all [hh]; done) | (simp_all [hh]; omega))
  | trivial
  | (intro e; first | rw [e] | skip; cbv)
theorem qdr {a b n : Nat} (h1 : 2 ^ a <= n) (h2 : n < 2 ^ (a + 1)) (h3 : 2 ^ b <= n) (h4 : n < 2 ^ (b + 1)) : a = b := by
 rcases Nat.lt_trichotomy a b with h | h | h
 ·have := Nat.pow_le_pow_right (n := 2) Y76 (show a + 1 <= b by omega); omega
 ·exact h
 ·have := Nat.pow_le_pow_right (n := 2) Y76 (show b + 1 <= a by omega); omega
theorem Ks {n : Nat} (h : 2 <= n) (hn : n <= 2 ^ 62) : qg n = 2 ^ (Lib.bitLen (n - 1) - 1) /\ 1 <= Lib.bitLen (n - 1) /\ Lib.bitLen (n - 1) <= 62 := by
 obtain ⟨k, hk⟩ := Qz n h
 obtain ⟨h1, h2, -⟩ := jf n h
 obtain ⟨h3, h4, h5⟩ := Lib.bitLenAux_bounds 64 (n - 1) Y44 Y44
 change 1 <= Lib.bitLen (n - 1) at h3
 change 2 ^ (Lib.bitLen (n - 1) - 1) <= n - 1 at h4
 change n - 1 < 2 ^ Lib.bitLen (n - 1) at h5
 have e := qdr (a := k) (b := Lib.bitLen (n - 1) - 1) (n := n - 1) Y44 (by rw [Nat.pow_succ]; omega) h4 (by rwa [Nat.sub_add_cancel h3])
 refine ⟨by rw [hk, e], h3, ?_⟩
 rcases Nat.lt_or_ge 62 (Lib.bitLen (n - 1)) with h | h
 ·have := Nat.pow_le_pow_right (n := 2) Y76 (show 62 <= Lib.bitLen (n - 1) - 1 by omega); omega
 ·exact h
theorem qcb (Z : Ad) (h : Hh) (hh : ∀ α g, h α g = g ()) (n : Nat) (hn : n <= 2 ^ 62) : qb Z 162 [.pv (kH h .u64 (nI n))] (.pv (nH h (Lib.bitLen n))) [.any] := by
 simp only [nH, kH, hh, nI]
 exact qdN Tryz.func162 rfl rfl rfl fun w => Tryz.bits_Len n w Y44 Y44
def spl (n : Nat) : Nat := if n < 2 then 0 else qg n
theorem qaQ (Z : Ad) (h : Hh) (hh : ∀ α g, h α g = g ()) (n : Nat) (hn : n <= 2 ^ 32) : qb Z 132 [.pv (nH h n)] (.pv (nH h (spl n))) [.any] := by
 refine qh Z h hh ⟨Tryz.func132, Tryz.ntmps132⟩ rfl rfl rfl rfl rfl fun C hC => ?_
 unfold Tryz.f132
 cbv
 refine ⟨fun _ => rfl, fun e => ?_, fun e => ?_⟩ <;> simp only [hh, nI, decide_eq_true_eq, decide_eq_false_iff_not] at e
 ·have e' : n < 2 := Int.ofNat_lt.1 e
  cbv
  exact ⟨.inr trivial, fun _ => by simp only [hh, nI, spl]; rw [if_pos e']; rfl, trivial⟩
 ·have e' : ¬ n < 2 := fun q => e (Int.ofNat_lt.2 q)
  obtain ⟨e1, e2, e3⟩ := Ks (n := n) Y44 Y44
  have e4 : ((n - 1 : Nat) : Int) = (n : Int) - 1 := by omega
  have e5 : ((Lib.bitLen (n - 1) - 1 : Nat) : Int) = (Lib.bitLen (n - 1) : Int) - 1 := by omega
  have e6 : 2 ^ (Lib.bitLen (n - 1) - 1) < 2 ^ 62 := Nat.pow_lt_pow_right Y76 Y44
  cbv
  refine ⟨fun _ => rfl, _, _, _, hC _ _ _ _ (qcb Z h hh (n - 1) Y44), ?_⟩
  cbv
  refine ⟨fun _ => ?_, fun _ => rfl, fun _ => ?_, .inr trivial, fun _ => ?_, trivial⟩ <;> simp (disch := omega) only [hh, nI, wrap_i64, qS, e4]
  ·omega
  ·rw [<- e5, show spl n = qg n from if_neg e', e1, Int.toNat_natCast, Nat.min_eq_left (by show _ <= 64; omega), show (1 : Int) * 2 ^ (Lib.bitLen (n - 1) - 1) = ((2 ^ (Lib.bitLen (n - 1) - 1) : Nat) : Int) by simp, wrap_i64 Y44 Y44]
def xV (x : Bool × Nat × Nat) : PV := .a [.v (.bool x.1), .v (.int .i64 x.2.1), .v (.int .i64 x.2.2)]
@[simp] theorem turnP_w (x : Bool × Nat × Nat) : (xV x).cells.length = 3 := rfl
theorem Vp (Z : Ad) (h : Hh) (hh : ∀ α g, h α g = g ()) (n i : Nat) (hn : n <= 512) (hi : i < n) : qb Z 85 [.pv (nH h n), .pv (nH h i)] (.own 165 3 (h _ fun _ => (jp n i).map xV)) [.any, .any] := by
 refine qh Z h hh ⟨Tryz.func85, Tryz.ntmps85⟩ rfl rfl rfl rfl rfl fun C hC => ?_
 unfold Tryz.f85
 cbv
 refine ⟨Nat × Nat × List (Bool × Nat × Nat), fun x => ⟨[(0, some (.pv (nH h x.1))), (1, some (.pv (nH h x.2.1))), (5, some (.own 990))], [(990, some (.row 165 3 (h _ fun _ => x.2.2.map xV) false))]⟩,
  fun x => x.2.1 < x.1 /\ x.2.2.length + x.1 <= 512 /\ x.2.2 ++ jp x.1 x.2.1 = jp n i, fun x => x.1, (n, i, []), [(5, 990, 165, 3)], ⟨hi, by simpa using hn, rfl⟩, ⟨rfl, by decide, rfl, trivial⟩, ⟨[], rfl, rfl, ⟨?_, trivial⟩, rfl, rfl, rfl, trivial⟩, ?_⟩
 ·cbv; simp [hh]
 ·rintro ⟨m, j, out⟩ ⟨h1, h2, h3⟩
  dsimp only at h1 h2 h3 ⊢
  cbv
  refine ⟨fun _ => rfl, fun e => ?_, fun e => ?_⟩ <;> simp only [hh, nI, decide_eq_true_eq, decide_eq_false_iff_not] at e
  ·have e' : 2 <= m := by have := Int.ofNat_lt.1 e; omega
   obtain ⟨b1, b2, b3⟩ := jf m e'
   have es : spl m = qg m := if_neg Y44
   refine ⟨_, _, _, hC _ _ _ _ (qaQ Z h hh m Y44), ?_⟩
   cbv
   refine ⟨fun _ => rfl, fun _ => rfl, fun e2 => ?_, fun e2 => ?_⟩ <;> simp only [hh, nI, decide_eq_true_eq, decide_eq_false_iff_not] at e2
   ·have e3 : j < qg m := by rw [<- es]; exact Int.ofNat_lt.1 e2
    repeat' first
     | exact .inr rfl
     | apply And.intro
     | (refine fun (_ : PUnit) => ?_; first | exact ⟨rfl⟩ | rfl | (simp [hh]; done) | (simp [hh]; omega))
     | trivial
    refine ⟨(qg m, j, out ++ [(true, qg m, j)]), ⟨e3, by simp; omega, by rw [<- h3, ul e' e3]; simp⟩, b1, [(990, 29)], rfl, rfl, ⟨?_, trivial⟩, ?_, rfl, rfl, trivial⟩
    ·cbv; simp [hh, xV, es, e3]
    ·cbv; simp [hh, es]
   ·have e3 : ¬ j < qg m := by rw [<- es]; exact fun q => e2 (Int.ofNat_lt.2 q)
    cbv
    repeat' first
     | exact .inr rfl
     | apply And.intro
     | (refine fun (_ : PUnit) => ?_; first | exact ⟨rfl⟩ | rfl | (simp [hh]; done) | (simp [hh]; omega))
     | trivial
    refine ⟨(m - qg m, j - qg m, out ++ [(false, m - qg m, j - qg m)]), ⟨by show j - qg m < m - qg m; omega, by simp; omega, by rw [<- h3, zG e' e3]; simp⟩, by show m - qg m < m; omega, [(990, 29)], rfl, rfl, ⟨?_, trivial⟩, ?_, ?_, rfl, trivial⟩
    ·cbv; simp (disch := omega) [hh, xV, es, e3, wrap_i64]; omega
    all_goals cbv
    all_goals simp (disch := omega) [hh, es, wrap_i64]
    all_goals omega
  ·have e' : m <= 1 := by rcases Nat.lt_or_ge 1 m with q | q; exact absurd (Int.ofNat_lt.2 q) e; exact q
   cbv
   rw [vh e', List.append_nil] at h3
   exact ⟨.inr trivial, fun _ => ⟨rfl, rfl, by simp only [hh]; rw [h3]⟩, trivial⟩
theorem JN (Z : Ad) (h : Hh) (hh : ∀ α g, h α g = g ()) (n i : Nat) (hn : n <= 512) (hi : i < n) : qb Z 136 [.pv (nH h n), .pv (nH h i)] (.pv (nH h (qT n i))) [.any, .any] := by
 refine qh Z h hh ⟨Tryz.func136, Tryz.ntmps136⟩ rfl rfl rfl rfl rfl fun C hC => ?_
 unfold Tryz.f136
 cbv
 refine ⟨_, _, _, hC _ _ _ _ (U6 Z h hh n i), ?_⟩
 have e : decide ((n : Int) <= 512 /\ 0 <= (i : Int) /\ (i : Int) < n) = true := by simp; omega
 cbv
 refine ⟨fun _ => rfl, fun _ => rfl, fun e1 => ?_, fun e1 => ?_⟩
 ·simp only [hh, e] at e1; cases e1
 ·refine ⟨_, _, _, hC _ _ _ _ (Vp Z h hh n i hn hi), ?_⟩
  cbv
  exact ⟨fun _ => rfl, fun _ => rfl, .inr trivial, fun _ => by simp [hh, qT], trivial⟩
end Go.Bl
namespace Go.Bl
open Go.RowKit
def xA (ts : List (Bool × Nat × Nat)) (d : Dg) (ps : List Dg) (k : Nat) : Dg := uB (ts.take k) d (ps.take k)
def UD (ts : List (Bool × Nat × Nat)) (d : Dg) (ps : List Dg) (k : Nat) : List UInt8 := 1 :: (if (ts.getD k (false, 0, 0)).1 then xA ts d ps k ++ ps.getD k [] else ps.getD k [] ++ xA ts d ps k)
theorem yP {ts : List (Bool × Nat × Nat)} {d : Dg} {ps : List Dg} {k : Nat} (hl : ts.length = ps.length) (hk : k < ts.length) : xA ts d ps (k + 1) = qw (UD ts d ps k) := by
 have h1 : ts.take (k + 1) = ts.take k ++ [ts[k]] := List.take_succ_eq_append_getElem hk
 have h2 : ps.take (k + 1) = ps.take k ++ [ps[k]'(hl ▸ hk)] := List.take_succ_eq_append_getElem (hl ▸ hk)
 have e1 : ts.getD k (false, 0, 0) = ts[k] := by simp [List.getD_eq_getElem?_getD, hk]
 have e2 : ps.getD k [] = ps[k]'(hl ▸ hk) := by simp [List.getD_eq_getElem?_getD, hl ▸ hk]
 rw [xA, h1, h2, vI _ _ _ _ _ (by rw [List.length_take, List.length_take, hl]), UD, e1, e2]
 cases ts[k].1 <;> rfl
theorem YX {ts : List (Bool × Nat × Nat)} {d : Dg} {ps : List Dg} (hl : ts.length = ps.length) : xA ts d ps ts.length = uB ts d ps := by
 rw [xA, List.take_length, hl, List.take_length]
theorem Xb {ts : List (Bool × Nat × Nat)} {d : Dg} {ps : List Dg} (hl : ts.length = ps.length) (hd : d.length = 32) : ∀ k, k <= ts.length -> (xA ts d ps k).length = 32
 | 0, _ => by simp [xA, uB, hd]
 | k + 1, h => by rw [yP hl h]; exact jO _
def xF (ts : List (Bool × Nat × Nat)) (leaf : List UInt8) (ps : List Dg) (k : Nat) : List (List UInt8) := (0 :: leaf) :: (List.range k).map (UD ts (jr leaf) ps)
theorem UK (ts : List (Bool × Nat × Nat)) (leaf : List UInt8) (ps : List Dg) (k : Nat) : xF ts leaf ps (k + 1) = xF ts leaf ps k ++ [UD ts (jr leaf) ps k] := by simp [xF, List.range_succ]
@[simp] theorem wayL_len (ts : List (Bool × Nat × Nat)) (leaf : List UInt8) (ps : List Dg) (k : Nat) : (xF ts leaf ps k).length = k + 1 := by simp [xF]
theorem uN : ∀ (n i : Nat), 1 <= n -> (jp n i).length + 1 <= n
 | n, i, h => by
  by_cases h1 : n <= 1
  ·rw [vh h1]; exact h
  ·have hb := jf n Y44
   by_cases hi : i < qg n
   ·rw [ul Y44 hi, List.length_cons]
    have := uN (qg n) i hb.2.2
    omega
   ·rw [zG Y44 hi, List.length_cons]
    have := uN (n - qg n) (i - qg n) Y44
    omega
termination_by n => n
decreasing_by
 ·omega
 ·omega
theorem UH {ts : List (Bool × Nat × Nat)} {leaf : List UInt8} {ps : List Dg} (hl : ts.length = ps.length) :
  (xF ts leaf ps ts.length).length = ts.length + 1 /\ qw ((xF ts leaf ps ts.length).getD ts.length []) = uB ts (jr leaf) ps := by
 refine ⟨by simp [xF], ?_⟩
 rw [<- YX hl]
 cases h : ts.length with
 | zero => simp [xF, xA, uB, jr]
 | succ k =>
  rw [yP hl Y44]
  congr 1
  simp [xF, List.getD_eq_getElem?_getD]
theorem Kj {ts : List (Bool × Nat × Nat)} {leaf : List UInt8} {ps : List Dg} (hl : ts.length = ps.length) (hp : ∀ p ∈ ps, p.length = 32) : ((xF ts leaf ps ts.length).getD ts.length []).length <= leaf.length + 66 := by
 cases h : ts.length with
 | zero => simp [xF]
 | succ k =>
  have e : (xF ts leaf ps (k + 1)).getD (k + 1) [] = UD ts (jr leaf) ps k := by simp [xF, List.getD_eq_getElem?_getD]
  have h1 : (xA ts (jr leaf) ps k).length = 32 := Xb hl (yr _) k Y44
  have h2 : (ps.getD k []).length = 32 := by
   rw [List.getD_eq_getElem?_getD, List.getElem?_eq_getElem (show k < ps.length by omega)]
   exact hp _ (List.getElem_mem _)
  rw [e, UD, List.length_cons]
  split <;> rw [List.length_append] <;> omega
end Go.Bl
namespace Go.Bl
open Go.RowKit Go.Proofs
attribute [local irreducible] qw
@[simp] theorem aP_cells (d : List UInt8) : (aP d).cells = d.map u8P := rfl
theorem qba (Z : Ad) (xs ys : List PV) (e : ys = xs.reverse) : qb Z 165 [.own 165 3 xs] (.tup []) [.own 165 3 ys] := by
 subst e; exact qc3 Z xs
theorem Yq (Z : Ad) (h : Hh) (hh : ∀ α g, h α g = g ()) (n i : Nat) (hn : n <= 512) (hi : i < n) (leaf : List UInt8) (hl : leaf.length <= 10000000) (ps : List Dg) (hp : ∀ p ∈ ps, p.length = 32) (hps : ps.length = qT n i) :
  qb Z 137 [.pv (nH h n), .pv (nH h i), .pv (bH h leaf), .pv (lH h aP ps)] (.own 22 1 (h _ fun _ => (xF (jp n i).reverse leaf ps ps.length).map bP)) [.any, .any, .any, .any] := by
 obtain ⟨ts, hts⟩ : ∃ ts, ts = (jp n i).reverse := ⟨_, rfl⟩
 have hT : ts.length = ps.length := by rw [hts, List.length_reverse]; exact hps.symm
 have h512 : ts.length <= 512 := by rw [hts, List.length_reverse]; have := uN n i Y44; omega
 refine qh Z h hh ⟨Tryz.func137, Tryz.ntmps137⟩ rfl rfl rfl rfl rfl fun C hC => ?_
 unfold Tryz.f137
 cbv
 refine ⟨_, _, _, hC _ _ _ _ (Vp Z h hh n i hn hi), ?_⟩
 cbv
 refine ⟨fun _ => rfl, fun _ => rfl, _, _, _, hC _ _ _ _ (qba Z (h _ fun _ => (jp n i).map xV) (h _ fun _ => ts.map xV) (by simp [hh, hts])), ?_⟩
 cbv
 refine ⟨fun _ => by simp, ?_⟩
 refine ⟨_, _, _, hC _ _ _ _ (UP Z h hh leaf Y44), ?_⟩
 cbv
 repeat' first
  | exact .inr trivial
  | apply And.intro
  | exact sq
  | trivial
 refine ⟨_, _, _, hC _ _ _ _ (qcy Z h hh leaf Y44), ?_⟩
 cbv
 repeat' first
  | exact .inr trivial
  | apply And.intro
  | exact sq
  | trivial
 have HT := Hdq hts
 clear hts hps
 refine ⟨Nat, fun k => ⟨[(3, some (.pv (lH h aP ps))), (10, some (.own 990)), (11, some (.ref 991 0 0)), (25, some (.own 992)), (26, some (.pv (nH h ts.length))), (27, some (.pv (nH h k)))],
   [(990, some (.row 22 1 (h _ fun _ => (xF ts leaf ps k).map bP) false)), (991, some (.var 58 (h _ fun _ => (xA ts (jr leaf) ps k).map u8P) false)), (992, some (.row 165 3 (h _ fun _ => ts.map xV) false))]⟩,
  fun k => k <= ts.length, fun k => ts.length - k, 0, [], Nat.zero_le _, trivial, ⟨[(990, 22), (991, 11), (992, 17)], rfl, rfl, ⟨?_, ?_, rfl, trivial⟩, rfl, rfl, rfl, rfl, ?_, ?_, trivial⟩, ?_⟩
 ·cbv; simp [hh, xF]
 ·cbv; simp [hh, xA, uB, jr]
 ·cbv; simp [hh]
 ·cbv; simp [hh]
 ·intro k hk
  cbv
  refine ⟨fun _ => rfl, fun e => ?_, fun e => ?_⟩ <;> simp only [hh, nI, decide_eq_true_eq, decide_eq_false_iff_not] at e
  ·have e' : k < ts.length := qK e
   have ep : k < ps.length := hT ▸ e'
   have p32 : ps[k].length = 32 := hp _ (List.getElem_mem ep)
   have d32 : (xA ts (jr leaf) ps k).length = 32 := Xb hT (yr _) k hk
   cbv
   repeat' first
    | exact .inr trivial
    | apply And.intro
    | exact sq
    | trivial
   refine ⟨_, _, _, hC _ _ _ _ (VA Z h hh ps[k] (xA ts (jr leaf) ps k) p32 d32), ?_⟩
   cbv
   repeat' first
    | exact .inr trivial
    | apply And.intro
    | exact sq
    | trivial
   ·intro e1
    have e2 : ts[k].1 = true := by simpa [hh, e', xV] using e1
    have hB : UD ts (jr leaf) ps k = 1 :: (xA ts (jr leaf) ps k ++ ps[k]) := by simp [UD, e', ep, e2]
    clear e1
    repeat' first
     | exact .inr trivial
     | apply And.intro
     | exact sq
     | trivial
    refine ⟨_, _, _, hC _ _ _ _ (VA Z h hh (xA ts (jr leaf) ps k) ps[k] d32 p32), ?_⟩
    cbv
    repeat' first
     | exact .inr trivial
     | apply And.intro
     | exact sq
     | trivial
    refine ⟨_, _, _, hC _ _ _ _ (xu Z h hh [1 :: (xA ts (jr leaf) ps k ++ ps[k])] Y46), ?_⟩
    cbv
    repeat' first
     | exact .inr trivial
     | apply And.intro
     | exact sq
     | trivial
    refine ⟨k + 1, e', by show ts.length - (k + 1) < ts.length - k; omega, [(990, 49)], rfl, rfl, ⟨?_, ?_, rfl, trivial⟩, rfl, rfl, rfl, rfl, rfl, ?_, trivial⟩
    ·cbv; simp [hh, UK, hB]
    ·cbv; simp [hh, yP hT e', hB, d32]
    ·cbv; simp (disch := omega) [hh, wrap_i64]
   ·intro e1
    have e2 : ts[k].1 = false := by simpa [hh, e', xV] using e1
    have hB : UD ts (jr leaf) ps k = 1 :: (ps[k] ++ xA ts (jr leaf) ps k) := by simp [UD, e', ep, e2]
    clear e1
    repeat' first
     | exact .inr trivial
     | apply And.intro
     | exact sq
     | trivial
    refine ⟨_, _, _, hC _ _ _ _ (xu Z h hh [1 :: (ps[k] ++ xA ts (jr leaf) ps k)] Y46), ?_⟩
    cbv
    repeat' first
     | exact .inr trivial
     | apply And.intro
     | exact sq
     | trivial
    refine ⟨k + 1, e', by show ts.length - (k + 1) < ts.length - k; omega, [(990, 49)], rfl, rfl, ⟨?_, ?_, rfl, trivial⟩, rfl, rfl, rfl, rfl, rfl, ?_, trivial⟩
    ·cbv; simp [hh, UK, hB]
    ·cbv; simp [hh, yP hT e', hB, d32]
    ·cbv; simp (disch := omega) [hh, wrap_i64]
  ·have e' : ts.length <= k := ge_nat e
   obtain rfl : k = ts.length := Nat.le_antisymm hk e'
   cbv
   exact ⟨.inr trivial, fun _ => ⟨rfl, rfl, by simp only [hh]; rw [<- HT.out, hT]⟩, trivial⟩
theorem Wb (Z : Ad) (h : Hh) (hh : ∀ α g, h α g = g ()) (n i : Nat) (hn : n <= 512) (hi : i < n) (leaf : List UInt8) (hl : leaf.length <= 10000000) (ps : List Dg) (hp : ∀ p ∈ ps, p.length = 32) (hps : ps.length = qT n i) :
  qb Z 88 [.pv (nH h n), .pv (nH h i), .pv (bH h leaf), .pv (lH h aP ps)] (.tup [.pv (aH h u8P (jR n i (jr leaf) ps)), .pv (.v .nilIface)]) [.any, .any, .any, .any] := by
 refine qh Z h hh ⟨Tryz.func88, Tryz.ntmps88⟩ rfl rfl rfl rfl rfl fun C hC => ?_
 unfold Tryz.f88
 cbv
 refine ⟨_, _, _, hC _ _ _ _ (JN Z h hh n i hn hi), ?_⟩
 cbv
 repeat' first
  | exact .inr trivial
  | apply And.intro
  | exact sq
  | trivial
 ·intro e
  simp only [hh, nI, decide_eq_true_eq] at e
  exact absurd e (Int.not_lt.2 (Int.natCast_nonneg _))
 ·intro e
  clear e
  repeat' first
   | exact .inr trivial
   | apply And.intro
   | exact sq
   | trivial
  ·intro e
   simp only [hh, nI, List.length_map, hps, bne_self_eq_false] at e
   cases e
  ·intro e
   clear e
   have hb := Yq Z h hh n i hn hi leaf hl ps hp hps
   have hT : (jp n i).reverse.length = ps.length := by rw [List.length_reverse]; exact hps.symm
   obtain ⟨up, hup⟩ := exq (xF (jp n i).reverse leaf ps ps.length)
   have hu : up.length = ps.length + 1 := by rw [<- hup, wayL_len]
   have hs := Kj (leaf := leaf) hT hp
   have hl2 := (UH (leaf := leaf) hT).2
   rw [hT, hup] at hs hl2
   have h5 : ps.length <= 512 := by rw [hps]; have := uN n i Y44; unfold qT; omega
   have hw : IntKind.i64.wrap (ps.length : Int) = (ps.length : Int) := wrap_i64 Y44 Y44
   have hlt : ps.length < up.length := by rw [hu]; exact Nat.lt_succ_self _
   have hg : up[ps.length]'hlt = up.getD ps.length [] := by rw [List.getD_eq_getElem?_getD, List.getElem?_eq_getElem hlt]; rfl
   rw [hup] at hb
   obtain ⟨b, hbe⟩ := exq (up.getD ps.length [])
   rw [hbe] at hg hs hl2
   have hl3 : jR n i (jr leaf) ps = qw b := hl2.symm
   clear hup hps hT hbe hp hl2
   refine ⟨_, _, _, hC _ _ _ _ hb, ?_⟩
   cbv
   clear hb
   repeat' first
    | exact s0
    | apply And.intro
    | exact sq
    | trivial
   refine ⟨_, _, _, hC _ _ _ _ (xu Z h hh [b] Y46), ?_⟩
   cbv
   repeat' first
    | exact s0
    | apply And.intro
    | exact sq
    | trivial
theorem KG (Z : Ad) (h : Hh) (hh : ∀ α g, h α g = g ()) (root : Dg) (n i : Nat) (hn : n <= 512) (hi : i < n) (leaf : List UInt8) (hl : leaf.length <= 10000000) (ps : List Dg) (hp : ∀ p ∈ ps, p.length = 32) (hps : ps.length = qT n i) (hr : root.length = 32) (hok : jR n i (jr leaf) ps = root) :
  qb Z 34 [.pv (aH h u8P root), .pv (nH h n), .pv (nH h i), .pv (bH h leaf), .pv (lH h aP ps)] (.pv (.v .nilIface)) [.any, .any, .any, .any, .any] := by
 refine qh Z h hh ⟨Tryz.func34, Tryz.ntmps34⟩ rfl rfl rfl rfl rfl fun C hC => ?_
 unfold Tryz.f34
 cbv
 have hb := Wb Z h hh n i hn hi leaf hl ps hp hps
 rw [hok] at hb
 refine ⟨_, _, _, hC _ _ _ _ hb, ?_⟩
 cbv
 clear hb hok hps
 repeat' first
  | exact s0
  | apply And.intro
  | exact sq
  | trivial
  | (refine fun (e : (_ : Bool) = _) => ?_; first | (cases e; done) | skip; cbv)
 rename_i e
 simp [hh, hr] at e
end Go.Bl
namespace Go.Proofs.YtnafknkchbfpaaaGreatDoor
open Go.RowKit Go.Bl
theorem Vg : chk ⟨0, 0, 1, 1, 1, 0⟩ = 0 := by
 have h2 : blk 0 = 33 := by decide
 simp [chk, jj, h2]
 omega
end Go.Proofs.YtnafknkchbfpaaaGreatDoor
namespace Go.Bl
open Go.RowKit Go.Proofs
attribute [local irreducible] qw
attribute [local simp] YA xV
end Go.Bl
