import Derived.Test.YtdloaifdpajcjaaGreatDoorSStr
import Derived.Lib.ItoaNum
import Derived.Test.YtdloaifdpajcjaaGreatDoorPI
import Derived.Test.YtdloaifdpajcjaaGreatDoorPT
import Derived.Test.YtdloaifdpajcjaaGreatDoorHG
set_option maxRecDepth 1000000
set_option maxHeartbeats 8000000
set_option linter.unusedVariables false
set_option linter.unusedSimpArgs false
set_option maxRecDepth 1000000
set_option maxHeartbeats 8000000
namespace Go.Bl
open Go.RowKit
def vU (ts : List (Bool × Nat × Nat)) (d : Dg) (ps : List Dg) (k : Nat) : Dg := zO (ts.take k) d (ps.take k)
def Jr (ts : List (Bool × Nat × Nat)) (d : Dg) (ps : List Dg) (k : Nat) : List UInt8 := 1 :: (if (ts.getD k (false, 0, 0)).1 then vU ts d ps k ++ ps.getD k [] else ps.getD k [] ++ vU ts d ps k)
theorem xB {ts : List (Bool × Nat × Nat)} {d : Dg} {ps : List Dg} {k : Nat} (hl : ts.length = ps.length) (hk : k < ts.length) : vU ts d ps (k + 1) = qz (Jr ts d ps k) := by
 have h1 : ts.take (k + 1) = ts.take k ++ [ts[k]] := List.take_succ_eq_append_getElem hk
 have h2 : ps.take (k + 1) = ps.take k ++ [ps[k]'(hl ▸ hk)] := List.take_succ_eq_append_getElem (hl ▸ hk)
 have e1 : ts.getD k (false, 0, 0) = ts[k] := by simp [List.getD_eq_getElem?_getD, hk]
 have e2 : ps.getD k [] = ps[k]'(hl ▸ hk) := by simp [List.getD_eq_getElem?_getD, hl ▸ hk]
 rw [vU, h1, h2, vE _ _ _ _ _ (by rw [List.length_take, List.length_take, hl]), Jr, e1, e2]
 cases ts[k].1 <;> rfl
theorem Vy {ts : List (Bool × Nat × Nat)} {d : Dg} {ps : List Dg} (hl : ts.length = ps.length) : vU ts d ps ts.length = zO ts d ps := by
 rw [vU, List.take_length, hl, List.take_length]
theorem Jo {ts : List (Bool × Nat × Nat)} {d : Dg} {ps : List Dg} (hl : ts.length = ps.length) (hd : d.length = 32) : ∀ k, k <= ts.length -> (vU ts d ps k).length = 32
 | 0, _ => by simp [vU, zO, hd]
 | k + 1, h => by rw [xB hl h]; exact jv _
def zi (ts : List (Bool × Nat × Nat)) (leaf : List UInt8) (ps : List Dg) (k : Nat) : List (List UInt8) := (0 :: leaf) :: (List.range k).map (Jr ts (qy leaf) ps)
theorem XG (ts : List (Bool × Nat × Nat)) (leaf : List UInt8) (ps : List Dg) (k : Nat) : zi ts leaf ps (k + 1) = zi ts leaf ps k ++ [Jr ts (qy leaf) ps k] := by simp [zi, List.range_succ]
@[simp] theorem wayL_len (ts : List (Bool × Nat × Nat)) (leaf : List UInt8) (ps : List Dg) (k : Nat) : (zi ts leaf ps k).length = k + 1 := by simp [zi]
theorem zW : ∀ (n i : Nat), 1 <= n -> (jo n i).length + 1 <= n
 | n, i, h => by
  by_cases h1 : n <= 1
  ·rw [um h1]; exact h
  ·have hb := qO n Y54
   by_cases hi : i < qf n
   ·rw [zZ Y54 hi, List.length_cons]
    have := zW (qf n) i hb.2.2
    omega
   ·rw [zv Y54 hi, List.length_cons]
    have := zW (n - qf n) (i - qf n) Y54
    omega
termination_by n => n
decreasing_by
 ·omega
 ·omega
theorem XB {ts : List (Bool × Nat × Nat)} {leaf : List UInt8} {ps : List Dg} (hl : ts.length = ps.length) :
  (zi ts leaf ps ts.length).length = ts.length + 1 /\ qz ((zi ts leaf ps ts.length).getD ts.length []) = zO ts (qy leaf) ps := by
 refine ⟨by simp [zi], ?_⟩
 rw [<- Vy hl]
 cases h : ts.length with
 | zero => simp [zi, vU, zO, qy]
 | succ k =>
  rw [xB hl Y54]
  congr 1
  simp [zi, List.getD_eq_getElem?_getD]
theorem LZ {ts : List (Bool × Nat × Nat)} {leaf : List UInt8} {ps : List Dg} (hl : ts.length = ps.length) (hp : ∀ p ∈ ps, p.length = 32) : ((zi ts leaf ps ts.length).getD ts.length []).length <= leaf.length + 66 := by
 cases h : ts.length with
 | zero => simp [zi]
 | succ k =>
  have e : (zi ts leaf ps (k + 1)).getD (k + 1) [] = Jr ts (qy leaf) ps k := by simp [zi, List.getD_eq_getElem?_getD]
  have h1 : (vU ts (qy leaf) ps k).length = 32 := Jo hl (zx _) k Y54
  have h2 : (ps.getD k []).length = 32 := by
   rw [List.getD_eq_getElem?_getD, List.getElem?_eq_getElem (show k < ps.length by omega)]
   exact hp _ (List.getElem_mem _)
  rw [e, Jr, List.length_cons]
  split <;> rw [List.length_append] <;> omega
end Go.Bl
namespace Go.Bl
open Go.RowKit Go.Proofs
theorem JT (Z : Ad) (h : Hh) (hh : ∀ α g, h α g = g ()) (n i : Int) : qi Z 40 [.pv (iH h n), .pv (iH h i)] (.pv (tH h (decide (n <= 512 /\ 0 <= i /\ i < n)))) [.any, .any] := by
 refine qB Z h hh ⟨Tryz.func40, Tryz.ntmps40⟩ rfl rfl rfl rfl rfl fun C hC => ?_
 unfold Tryz.f40
 cbv
 repeat' first
  | apply And.intro
  | exact s0
  | (refine fun (_ : PUnit) => ?_; first | exact ⟨rfl⟩ | (simp_all [hh]; done) | (simp_all [hh]; omega))
  | trivial
  | (intro e; first | rw [e] | skip; cbv)
theorem qdG {a b n : Nat} (h1 : 2 ^ a <= n) (h2 : n < 2 ^ (a + 1)) (h3 : 2 ^ b <= n) (h4 : n < 2 ^ (b + 1)) : a = b := by
 rcases Nat.lt_trichotomy a b with h | h | h
 ·have := Nat.pow_le_pow_right (n := 2) Y86 (show a + 1 <= b by omega); omega
 ·exact h
 ·have := Nat.pow_le_pow_right (n := 2) Y86 (show b + 1 <= a by omega); omega
theorem LW {n : Nat} (h : 2 <= n) (hn : n <= 2 ^ 62) : qf n = 2 ^ (Lib.bitLen (n - 1) - 1) /\ 1 <= Lib.bitLen (n - 1) /\ Lib.bitLen (n - 1) <= 62 := by
 obtain ⟨k, hk⟩ := Uk n h
 obtain ⟨h1, h2, -⟩ := qO n h
 obtain ⟨h3, h4, h5⟩ := Lib.bitLenAux_bounds 64 (n - 1) Y54 Y54
 change 1 <= Lib.bitLen (n - 1) at h3
 change 2 ^ (Lib.bitLen (n - 1) - 1) <= n - 1 at h4
 change n - 1 < 2 ^ Lib.bitLen (n - 1) at h5
 have e := qdG (a := k) (b := Lib.bitLen (n - 1) - 1) (n := n - 1) Y54 (by rw [Nat.pow_succ]; omega) h4 (by rwa [Nat.sub_add_cancel h3])
 refine ⟨by rw [hk, e], h3, ?_⟩
 rcases Nat.lt_or_ge 62 (Lib.bitLen (n - 1)) with h | h
 ·have := Nat.pow_le_pow_right (n := 2) Y86 (show 62 <= Lib.bitLen (n - 1) - 1 by omega); omega
 ·exact h
theorem qde (Z : Ad) (h : Hh) (hh : ∀ α g, h α g = g ()) (n : Nat) (hn : n <= 2 ^ 62) : qi Z 162 [.pv (kH h .u64 (nI n))] (.pv (nH h (Lib.bitLen n))) [.any] := by
 simp only [nH, kH, hh, nI]
 exact qfg Tryz.func162 rfl rfl rfl fun w => Tryz.bits_Len n w Y54 Y54
def spl (n : Nat) : Nat := if n < 2 then 0 else qf n
theorem qcj (Z : Ad) (h : Hh) (hh : ∀ α g, h α g = g ()) (n : Nat) (hn : n <= 2 ^ 32) : qi Z 95 [.pv (nH h n)] (.pv (nH h (spl n))) [.any] := by
 refine qB Z h hh ⟨Tryz.func95, Tryz.ntmps95⟩ rfl rfl rfl rfl rfl fun C hC => ?_
 unfold Tryz.f95
 cbv
 refine ⟨fun _ => rfl, fun e => ?_, fun e => ?_⟩ <;> simp only [hh, nI, decide_eq_true_eq, decide_eq_false_iff_not] at e
 ·have e' : n < 2 := Int.ofNat_lt.1 e
  cbv
  exact ⟨.inr trivial, fun _ => by simp only [hh, nI, spl]; rw [if_pos e']; rfl, trivial⟩
 ·have e' : ¬ n < 2 := fun q => e (Int.ofNat_lt.2 q)
  obtain ⟨e1, e2, e3⟩ := LW (n := n) Y54 Y54
  have e4 : ((n - 1 : Nat) : Int) = (n : Int) - 1 := by omega
  have e5 : ((Lib.bitLen (n - 1) - 1 : Nat) : Int) = (Lib.bitLen (n - 1) : Int) - 1 := by omega
  have e6 : 2 ^ (Lib.bitLen (n - 1) - 1) < 2 ^ 62 := Nat.pow_lt_pow_right Y86 Y54
  cbv
  refine ⟨fun _ => rfl, _, _, _, hC _ _ _ _ (qde Z h hh (n - 1) Y54), ?_⟩
  cbv
  refine ⟨fun _ => ?_, fun _ => rfl, fun _ => ?_, .inr trivial, fun _ => ?_, trivial⟩ <;> simp (disch := omega) only [hh, nI, wrap_i64, xa, e4]
  ·omega
  ·rw [<- e5, show spl n = qf n from if_neg e', e1, Int.toNat_natCast, Nat.min_eq_left (by show _ <= 64; omega), show (1 : Int) * 2 ^ (Lib.bitLen (n - 1) - 1) = ((2 ^ (Lib.bitLen (n - 1) - 1) : Nat) : Int) by simp, wrap_i64 Y54 Y54]
def vQ (x : Bool × Nat × Nat) : PV := .a [.v (.bool x.1), .v (.int .i64 x.2.1), .v (.int .i64 x.2.2)]
@[simp] theorem turnP_w (x : Bool × Nat × Nat) : (vQ x).cells.length = 3 := rfl
theorem JP (Z : Ad) (h : Hh) (hh : ∀ α g, h α g = g ()) (n i : Nat) (hn : n <= 512) (hi : i < n) : qi Z 42 [.pv (nH h n), .pv (nH h i)] (.own 108 3 (h _ fun _ => (jo n i).map vQ)) [.any, .any] := by
 refine qB Z h hh ⟨Tryz.func42, Tryz.ntmps42⟩ rfl rfl rfl rfl rfl fun C hC => ?_
 unfold Tryz.f42
 cbv
 refine ⟨Nat × Nat × List (Bool × Nat × Nat), fun x => ⟨[(0, some (.pv (nH h x.1))), (1, some (.pv (nH h x.2.1))), (5, some (.own 990))], [(990, some (.row 108 3 (h _ fun _ => x.2.2.map vQ) false))]⟩,
  fun x => x.2.1 < x.1 /\ x.2.2.length + x.1 <= 512 /\ x.2.2 ++ jo x.1 x.2.1 = jo n i, fun x => x.1, (n, i, []), [(5, 990, 108, 3)], ⟨hi, by simpa using hn, rfl⟩, ⟨rfl, by decide, rfl, trivial⟩, ⟨[], rfl, rfl, ⟨?_, trivial⟩, rfl, rfl, rfl, trivial⟩, ?_⟩
 ·cbv; simp [hh]
 ·rintro ⟨m, j, out⟩ ⟨h1, h2, h3⟩
  dsimp only at h1 h2 h3 ⊢
  cbv
  refine ⟨fun _ => rfl, fun e => ?_, fun e => ?_⟩ <;> simp only [hh, nI, decide_eq_true_eq, decide_eq_false_iff_not] at e
  ·have e' : 2 <= m := by have := Int.ofNat_lt.1 e; omega
   obtain ⟨b1, b2, b3⟩ := qO m e'
   have es : spl m = qf m := if_neg Y54
   refine ⟨_, _, _, hC _ _ _ _ (qcj Z h hh m Y54), ?_⟩
   cbv
   refine ⟨fun _ => rfl, fun _ => rfl, fun e2 => ?_, fun e2 => ?_⟩ <;> simp only [hh, nI, decide_eq_true_eq, decide_eq_false_iff_not] at e2
   ·have e3 : j < qf m := by rw [<- es]; exact Int.ofNat_lt.1 e2
    repeat' first
     | exact .inr rfl
     | apply And.intro
     | (refine fun (_ : PUnit) => ?_; first | exact ⟨rfl⟩ | rfl | (simp [hh]; done) | (simp [hh]; omega))
     | trivial
    refine ⟨(qf m, j, out ++ [(true, qf m, j)]), ⟨e3, by simp; omega, by rw [<- h3, zZ e' e3]; simp⟩, b1, [(990, 29)], rfl, rfl, ⟨?_, trivial⟩, ?_, rfl, rfl, trivial⟩
    ·cbv; simp [hh, vQ, es, e3]
    ·cbv; simp [hh, es]
   ·have e3 : ¬ j < qf m := by rw [<- es]; exact fun q => e2 (Int.ofNat_lt.2 q)
    cbv
    repeat' first
     | exact .inr rfl
     | apply And.intro
     | (refine fun (_ : PUnit) => ?_; first | exact ⟨rfl⟩ | rfl | (simp [hh]; done) | (simp [hh]; omega))
     | trivial
    refine ⟨(m - qf m, j - qf m, out ++ [(false, m - qf m, j - qf m)]), ⟨by show j - qf m < m - qf m; omega, by simp; omega, by rw [<- h3, zv e' e3]; simp⟩, by show m - qf m < m; omega, [(990, 29)], rfl, rfl, ⟨?_, trivial⟩, ?_, ?_, rfl, trivial⟩
    ·cbv; simp (disch := omega) [hh, vQ, es, e3, wrap_i64]; omega
    all_goals cbv
    all_goals simp (disch := omega) [hh, es, wrap_i64]
    all_goals omega
  ·have e' : m <= 1 := by rcases Nat.lt_or_ge 1 m with q | q; exact absurd (Int.ofNat_lt.2 q) e; exact q
   cbv
   rw [um e', List.append_nil] at h3
   exact ⟨.inr trivial, fun _ => ⟨rfl, rfl, by simp only [hh]; rw [h3]⟩, trivial⟩
theorem Zn (Z : Ad) (h : Hh) (hh : ∀ α g, h α g = g ()) (n i : Nat) (hn : n <= 512) (hi : i < n) : qi Z 164 [.pv (nH h n), .pv (nH h i)] (.pv (nH h (zH n i))) [.any, .any] := by
 refine qB Z h hh ⟨Tryz.func164, Tryz.ntmps164⟩ rfl rfl rfl rfl rfl fun C hC => ?_
 unfold Tryz.f164
 cbv
 refine ⟨_, _, _, hC _ _ _ _ (JT Z h hh n i), ?_⟩
 have e : decide ((n : Int) <= 512 /\ 0 <= (i : Int) /\ (i : Int) < n) = true := by simp; omega
 cbv
 refine ⟨fun _ => rfl, fun _ => rfl, fun e1 => ?_, fun e1 => ?_⟩
 ·simp only [hh, e] at e1; cases e1
 ·refine ⟨_, _, _, hC _ _ _ _ (JP Z h hh n i hn hi), ?_⟩
  cbv
  exact ⟨fun _ => rfl, fun _ => rfl, .inr trivial, fun _ => by simp [hh, zH], trivial⟩
end Go.Bl
namespace Go.Bl
open Go.RowKit Go.Proofs
attribute [local irreducible] qz
@[simp] theorem aP_cells (d : List UInt8) : (aP d).cells = d.map u8P := rfl
theorem qb2 (Z : Ad) (xs ys : List PV) (e : ys = xs.reverse) : qi Z 102 [.own 108 3 xs] (.tup []) [.own 108 3 ys] := by
 subst e; exact qej Z xs
theorem yx (Z : Ad) (h : Hh) (hh : ∀ α g, h α g = g ()) (n i : Nat) (hn : n <= 512) (hi : i < n) (leaf : List UInt8) (hl : leaf.length <= 10000000) (ps : List Dg) (hp : ∀ p ∈ ps, p.length = 32) (hps : ps.length = zH n i) :
  qi Z 48 [.pv (nH h n), .pv (nH h i), .pv (bH h leaf), .pv (lH h aP ps)] (.own 22 1 (h _ fun _ => (zi (jo n i).reverse leaf ps ps.length).map bP)) [.any, .any, .any, .any] := by
 obtain ⟨ts, hts⟩ : ∃ ts, ts = (jo n i).reverse := ⟨_, rfl⟩
 have hT : ts.length = ps.length := by rw [hts, List.length_reverse]; exact hps.symm
 have h512 : ts.length <= 512 := by rw [hts, List.length_reverse]; have := zW n i Y54; omega
 refine qB Z h hh ⟨Tryz.func48, Tryz.ntmps48⟩ rfl rfl rfl rfl rfl fun C hC => ?_
 unfold Tryz.f48
 cbv
 refine ⟨_, _, _, hC _ _ _ _ (JP Z h hh n i hn hi), ?_⟩
 cbv
 refine ⟨fun _ => rfl, fun _ => rfl, _, _, _, hC _ _ _ _ (qb2 Z (h _ fun _ => (jo n i).map vQ) (h _ fun _ => ts.map vQ) (by simp [hh, hts])), ?_⟩
 cbv
 refine ⟨fun _ => by simp, ?_⟩
 refine ⟨_, _, _, hC _ _ _ _ (Xe Z h hh leaf Y54), ?_⟩
 cbv
 repeat' first
  | exact .inr trivial
  | apply And.intro
  | exact sq
  | trivial
 refine ⟨_, _, _, hC _ _ _ _ (KM Z h hh leaf Y54), ?_⟩
 cbv
 repeat' first
  | exact .inr trivial
  | apply And.intro
  | exact sq
  | trivial
 have HT := Hdq hts
 clear hts hps
 refine ⟨Nat, fun k => ⟨[(3, some (.pv (lH h aP ps))), (10, some (.own 990)), (11, some (.ref 991 0 0)), (25, some (.own 992)), (26, some (.pv (nH h ts.length))), (27, some (.pv (nH h k)))],
   [(990, some (.row 22 1 (h _ fun _ => (zi ts leaf ps k).map bP) false)), (991, some (.var 36 (h _ fun _ => (vU ts (qy leaf) ps k).map u8P) false)), (992, some (.row 108 3 (h _ fun _ => ts.map vQ) false))]⟩,
  fun k => k <= ts.length, fun k => ts.length - k, 0, [], Nat.zero_le _, trivial, ⟨[(990, 22), (991, 11), (992, 17)], rfl, rfl, ⟨?_, ?_, rfl, trivial⟩, rfl, rfl, rfl, rfl, ?_, ?_, trivial⟩, ?_⟩
 ·cbv; simp [hh, zi]
 ·cbv; simp [hh, vU, zO, qy]
 ·cbv; simp [hh]
 ·cbv; simp [hh]
 ·intro k hk
  cbv
  refine ⟨fun _ => rfl, fun e => ?_, fun e => ?_⟩ <;> simp only [hh, nI, decide_eq_true_eq, decide_eq_false_iff_not] at e
  ·have e' : k < ts.length := jI e
   have ep : k < ps.length := hT ▸ e'
   have p32 : ps[k].length = 32 := hp _ (List.getElem_mem ep)
   have d32 : (vU ts (qy leaf) ps k).length = 32 := Jo hT (zx _) k hk
   cbv
   repeat' first
    | exact .inr trivial
    | apply And.intro
    | exact sq
    | trivial
   refine ⟨_, _, _, hC _ _ _ _ (JC Z h hh ps[k] (vU ts (qy leaf) ps k) p32 d32), ?_⟩
   cbv
   repeat' first
    | exact .inr trivial
    | apply And.intro
    | exact sq
    | trivial
   ·intro e1
    have e2 : ts[k].1 = true := by simpa [hh, e', vQ] using e1
    have hB : Jr ts (qy leaf) ps k = 1 :: (vU ts (qy leaf) ps k ++ ps[k]) := by simp [Jr, e', ep, e2]
    clear e1
    repeat' first
     | exact .inr trivial
     | apply And.intro
     | exact sq
     | trivial
    refine ⟨_, _, _, hC _ _ _ _ (JC Z h hh (vU ts (qy leaf) ps k) ps[k] d32 p32), ?_⟩
    cbv
    repeat' first
     | exact .inr trivial
     | apply And.intro
     | exact sq
     | trivial
    refine ⟨_, _, _, hC _ _ _ _ (ue Z h hh [1 :: (vU ts (qy leaf) ps k ++ ps[k])] Y57), ?_⟩
    cbv
    repeat' first
     | exact .inr trivial
     | apply And.intro
     | exact sq
     | trivial
    refine ⟨k + 1, e', by show ts.length - (k + 1) < ts.length - k; omega, [(990, 49)], rfl, rfl, ⟨?_, ?_, rfl, trivial⟩, rfl, rfl, rfl, rfl, rfl, ?_, trivial⟩
    ·cbv; simp [hh, XG, hB]
    ·cbv; simp [hh, xB hT e', hB, d32]
    ·cbv; simp (disch := omega) [hh, wrap_i64]
   ·intro e1
    have e2 : ts[k].1 = false := by simpa [hh, e', vQ] using e1
    have hB : Jr ts (qy leaf) ps k = 1 :: (ps[k] ++ vU ts (qy leaf) ps k) := by simp [Jr, e', ep, e2]
    clear e1
    repeat' first
     | exact .inr trivial
     | apply And.intro
     | exact sq
     | trivial
    refine ⟨_, _, _, hC _ _ _ _ (ue Z h hh [1 :: (ps[k] ++ vU ts (qy leaf) ps k)] Y57), ?_⟩
    cbv
    repeat' first
     | exact .inr trivial
     | apply And.intro
     | exact sq
     | trivial
    refine ⟨k + 1, e', by show ts.length - (k + 1) < ts.length - k; omega, [(990, 49)], rfl, rfl, ⟨?_, ?_, rfl, trivial⟩, rfl, rfl, rfl, rfl, rfl, ?_, trivial⟩
    ·cbv; simp [hh, XG, hB]
    ·cbv; simp [hh, xB hT e', hB, d32]
    ·cbv; simp (disch := omega) [hh, wrap_i64]
  ·have e' : ts.length <= k := jN e
   obtain rfl : k = ts.length := Nat.le_antisymm hk e'
   cbv
   exact ⟨.inr trivial, fun _ => ⟨rfl, rfl, by simp only [hh]; rw [<- HT.out, hT]⟩, trivial⟩
def qdO : List PV := List.replicate 32 (u8P 0)
theorem KB (Z : Ad) (h : Hh) (hh : ∀ α g, h α g = g ()) (n i : Nat) (hn : n <= 512) (hi : i < n) (leaf : List UInt8) (hl : leaf.length <= 10000000) (ps : List Dg) (hp : ∀ p ∈ ps, p.length = 32) (hps : ps.length = zH n i) :
  qi Z 101 [.pv (nH h n), .pv (nH h i), .pv (bH h leaf), .pv (lH h aP ps)] (.tup [.pv (aH h u8P (vl n i (qy leaf) ps)), .pv (.v .nilIface)]) [.any, .any, .any, .any] := by
 refine qB Z h hh ⟨Tryz.func101, Tryz.ntmps101⟩ rfl rfl rfl rfl rfl fun C hC => ?_
 unfold Tryz.f101
 cbv
 refine ⟨_, _, _, hC _ _ _ _ (Zn Z h hh n i hn hi), ?_⟩
 cbv
 repeat' first
  | exact .inr trivial
  | apply And.intro
  | exact sq
  | trivial
 ·intro e
  simp only [hh, nI, decide_eq_true_eq] at e
  exact absurd e (Int.not_lt.2 (Int.natCast_nonneg _))
 ·intro e
  clear e
  repeat' first
   | exact .inr trivial
   | apply And.intro
   | exact sq
   | trivial
  ·intro e
   simp only [hh, nI, List.length_map, hps, bne_self_eq_false] at e
   cases e
  ·intro e
   clear e
   have hb := yx Z h hh n i hn hi leaf hl ps hp hps
   have hT : (jo n i).reverse.length = ps.length := by rw [List.length_reverse]; exact hps.symm
   obtain ⟨up, hup⟩ := exq (zi (jo n i).reverse leaf ps ps.length)
   have hu : up.length = ps.length + 1 := by rw [<- hup, wayL_len]
   have hs := LZ (leaf := leaf) hT hp
   have hl2 := (XB (leaf := leaf) hT).2
   rw [hT, hup] at hs hl2
   have h5 : ps.length <= 512 := by rw [hps]; have := zW n i Y54; unfold zH; omega
   have hw : IntKind.i64.wrap (ps.length : Int) = (ps.length : Int) := wrap_i64 Y54 Y54
   have hlt : ps.length < up.length := by rw [hu]; exact Nat.lt_succ_self _
   have hg : up[ps.length]'hlt = up.getD ps.length [] := by rw [List.getD_eq_getElem?_getD, List.getElem?_eq_getElem hlt]; rfl
   rw [hup] at hb
   obtain ⟨b, hbe⟩ := exq (up.getD ps.length [])
   rw [hbe] at hg hs hl2
   have hl3 : vl n i (qy leaf) ps = qz b := hl2.symm
   clear hup hps hT hbe hp hl2
   refine ⟨_, _, _, hC _ _ _ _ hb, ?_⟩
   cbv
   clear hb
   repeat' first
    | exact s0
    | apply And.intro
    | exact sq
    | trivial
   refine ⟨_, _, _, hC _ _ _ _ (ue Z h hh [b] Y57), ?_⟩
   cbv
   repeat' first
    | exact s0
    | apply And.intro
    | exact sq
    | trivial
theorem Ue (Z : Ad) (h : Hh) (hh : ∀ α g, h α g = g ()) (root : Dg) (n i : Nat) (hn : n <= 512) (hi : i < n) (leaf : List UInt8) (hl : leaf.length <= 10000000) (ps : List Dg) (hp : ∀ p ∈ ps, p.length = 32) (hps : ps.length = zH n i) (hr : root.length = 32) (hok : vl n i (qy leaf) ps = root) :
  qi Z 47 [.pv (aH h u8P root), .pv (nH h n), .pv (nH h i), .pv (bH h leaf), .pv (lH h aP ps)] (.pv (.v .nilIface)) [.any, .any, .any, .any, .any] := by
 refine qB Z h hh ⟨Tryz.func47, Tryz.ntmps47⟩ rfl rfl rfl rfl rfl fun C hC => ?_
 unfold Tryz.f47
 cbv
 have hb := KB Z h hh n i hn hi leaf hl ps hp hps
 rw [hok] at hb
 refine ⟨_, _, _, hC _ _ _ _ hb, ?_⟩
 cbv
 clear hb hok hps
 repeat' first
  | exact s0
  | apply And.intro
  | exact sq
  | trivial
  | (refine fun (e : (_ : Bool) = _) => ?_; first | (cases e; done) | skip; cbv)
 rename_i e
 simp [hh, hr] at e
end Go.Bl
namespace Go.Bl
open Go.RowKit Go.Proofs
attribute [local irreducible] qz
theorem qaa (Z : Ad) (h : Hh) (hh : ∀ α g, h α g = g ()) (ds : List Dg) : qi Z 97 [.pv (lH h aP ds), .pv (.v (.int .i64 2))] (.pv (.f (.func 163) [] [.p [lH h aP ds], .p [.v (.int .i64 2)]])) [.any, .any] := by
 refine qB Z h hh ⟨Tryz.func97, Tryz.ntmps97⟩ rfl rfl rfl rfl rfl fun C hC => ?_
 unfold Tryz.f97
 cbv
 repeat' first
  | exact s0
  | apply And.intro
  | exact sq
  | trivial
  | exact sx
  | (refine sy fun e => ?_; cbv)
theorem qdV {ds : List Dg} (hd : ∀ d ∈ ds, d.length = 32) : xc 32 (ds.map aP) := fun x hx => by
 obtain ⟨d, hq, rfl⟩ := List.mem_map.1 hx
 show (d.map u8P).length = 32
 rw [List.length_map]; exact hd d hq
theorem LV (Z : Ad) (h : Hh) (hh : ∀ α g, h α g = g ()) (ds : List Dg) (hd : ∀ d ∈ ds, d.length = 32) (hn : ds.length <= 1000000) (h1 : 1 <= ds.length) : qi Z 96 [.pv (lH h aP ds)] (.own 36 32 (h _ fun _ => ds.map aP)) [.any] := by
 have h0 : ds ≠ [] := by rintro rfl; simp at h1
 have hA : xc 32 (ds.map aP) := qdV fun d hq => hd d hq
 refine qB Z h hh ⟨Tryz.func96, Tryz.ntmps96⟩ rfl rfl rfl rfl rfl fun C hC => ?_
 unfold Tryz.f96
 cbv
 repeat' first
  | exact s0
  | apply And.intro
  | exact sq
  | trivial
  | exact sx
  | (refine sy fun e => ?_; cbv)
  | (refine fun (_ : PUnit) => ⟨by simp only [hh]; exact hA, by simp only [hh, List.length_nil, List.length_map]; omega, by simp only [hh, List.length_nil, List.length_map, maxLen]; omega, by simp⟩)
theorem UC : ∀ {l : List Dg} {k : Nat} (h : 2 * k + 1 < l.length), (qH l)[k]? = some (Ud (l[2 * k]'Y54) l[2 * k + 1])
 | a :: b :: r, 0, _ => rfl
 | a :: b :: r, k + 1, h => by
  have ih := UC (l := r) (k := k) (by simp at h; omega)
  simp only [qH, List.getElem?_cons_succ, ih]
  congr 1
 | [a], k, h => by simp at h
 | [], k, h => by simp at h
theorem ZP : ∀ {l : List Dg} {k : Nat} (h : 2 * k + 1 = l.length), (qH l)[k]? = some (l[2 * k]'Y54)
 | [a], 0, _ => rfl
 | a :: b :: r, k + 1, h => by
  have ih := ZP (l := r) (k := k) (by simp at h; omega)
  simp only [qH, List.getElem?_cons_succ, ih]
  congr 1
 | [a], k + 1, h => by simp at h
 | a :: b :: r, 0, h => by simp at h
 | [], k, h => by simp at h
theorem LD (Z : Ad) (h : Hh) (hh : ∀ α g, h α g = g ()) (ds : List Dg) (hd : ∀ d ∈ ds, d.length = 32) (hl : ds.length <= 100000) (h1 : 1 <= ds.length) : qi Z 163 [.itr [.p [lH h aP ds], .p [.v (.int .i64 2)]] (Zw (ds.map aP))] .any [] := by
 simp only [lH, hh]
 exact qbD Z (ds.map aP) (fun x hx => by obtain ⟨y, hy, rfl⟩ := List.mem_map.1 hx; show (y.map u8P).length = 32; rw [List.length_map]; exact hd y hy) (by simpa using hl) Y69
theorem Vz (Z : Ad) (h : Hh) (hh : ∀ α g, h α g = g ()) (ds : List (List UInt8)) (hd : ∀ d ∈ ds, d.length = 32) (hn : ds.length <= 100000) (h1 : 1 <= ds.length) : qi Z 43 [.pv (lH h aP ds)] (.pv (aH h u8P (jA ds))) [.any] := by
 have c1 := LV Z h hh ds hd Y54 h1
 have l0 : ds.length ≠ 0 := by omega
 have z0 : qdO.length = 32 := List.length_replicate
 refine qB Z h hh ⟨Tryz.func43, Tryz.ntmps43⟩ rfl rfl rfl rfl rfl fun C hC => ?_
 unfold Tryz.f43
 cbv
 repeat' first
  | exact s0
  | apply And.intro
  | exact sq
  | trivial
  | (refine sz fun e => ?_; simp [hh, l0] at e; done)
  | (refine sy fun e => ?_; cbv)
  | (refine ⟨_, _, _, hC _ _ _ _ c1, ?_⟩; cbv; clear c1)
 refine ⟨List Dg, fun r => ⟨[(2, some (.ref 993 0 0)), (3, some (.own 991))], [(993, some (.var 36 (h _ fun _ => qdO) false)), (991, some (.row 36 32 (h _ fun _ => r.map aP) false))]⟩,
  fun r => jA r = jA ds /\ (∀ d ∈ r, d.length = 32) /\ 1 <= r.length /\ r.length <= 100000, fun r => r.length, ds, [], ⟨rfl, hd, h1, hn⟩, trivial, ⟨[(993, 2), (991, 11)], rfl, rfl, ⟨?_, sp, trivial⟩, sp, sp, trivial⟩, ?_⟩
 ·cbv
 ·rintro r ⟨r1, r2, r3, r4⟩
  dsimp only
  have R := Hdq (And.intro r1 (And.intro r2 (And.intro r3 r4)))
  by_cases n1 : 1 < r.length
  ·have c2 := qaa Z h hh r
   have c3 := LD Z h hh r r2 r4 r3
   have hlv := ze r
   clear r1 r2
   cbv
   repeat' first
    | exact s0
    | apply And.intro
    | exact sq
    | (refine fun (_ : PUnit) => ?_; simp [hh, *, aP]; done)
    | trivial
    | (refine sz fun e => ?_; simp [hh, n1] at e <;> (try simp only [qD] at *) <;> omega)
    | (refine sy fun e => ?_; cbv)
    | (refine ⟨_, _, _, hC _ _ _ _ c2, ?_⟩; cbv; clear c2)
   refine ⟨163, [.p [lH h aP r], .p [.v (.int .i64 2)]], Zw (r.map aP), [(2, some (.ref 998 0 0)), (4, some (.ref 1998 0 0)), (16, some (.pv (.f (.func 163) [] [.p [lH h aP r], .p [.v (.int .i64 2)]])))],
    fun k => [(998, some (.var 36 (h _ fun _ => qdO) false)), (1998, some (.box 51 [.own 990] false)), (990, some (.row 36 32 (h _ fun _ => ((qH r).take k).map aP) false))],
    fun _ => True, [(1004000, 990, 36, 32)], hC _ _ _ _ c3, by cbv, rfl, rfl, ⟨rfl, by decide, rfl, trivial⟩, ⟨[(998, 993), (1998, 4)], rfl, rfl, ⟨sp, sp, sp, trivial⟩, sp, sp, sp, trivial⟩, trivial, fun k x hx _ => ?_, fun _ => ?_⟩
   ·obtain ⟨hk, hx⟩ := YO hx
    rw [List.length_map] at hk
    obtain ⟨-, r2, -, -⟩ := R.out
    have tk : ((qH r).take k).length = k := by rw [List.length_take]; omega
    rcases Nat.lt_or_ge (2 * k + 1) r.length with q | q
    ·have lv := UC q
     have hp : (r.drop (2 * k)).take 2 = [r[2 * k], r[2 * k + 1]] := by
      rw [List.drop_eq_getElem_cons (show 2 * k < r.length by omega), List.drop_eq_getElem_cons q]; rfl
     obtain ⟨a, ha⟩ := exq (r[2 * k]'Y54)
     obtain ⟨b, hb⟩ := exq (r[2 * k + 1])
     have a2 : a.length = 32 := by rw [<- ha]; exact r2 _ (List.getElem_mem _)
     have b2 : b.length = 32 := by rw [<- hb]; exact r2 _ (List.getElem_mem _)
     rw [ha, hb] at hp lv
     have c4 := qdd Z h hh a b a2 b2
     obtain ⟨nd, hnd⟩ := exq (qz (1 :: (a ++ b)))
     have n32 : nd.length = 32 := by rw [<- hnd]; exact jv _
     have hl2 : (qH r).take (k + 1) = (qH r).take k ++ [nd] := by
      rw [List.take_add_one, lv, <- hnd]; rfl
     rw [hnd] at c4
     have hx' : x = [lH h aP [a, b]] := by rw [hx, <- List.map_drop, <- List.map_take, hp]; simp only [lH, hh]
     subst hx'
     have HL := Hdq hl2
     clear hx hp lv ha hb hnd hl2
     refine ⟨rfl, ?_⟩
     cbv
     repeat' first
      | exact s0
      | apply And.intro
      | exact sq
      | (refine fun (_ : PUnit) => ?_; simp [hh, *, aP]; done)
      | trivial
      | (refine sz fun e => ?_; simp [hh, n1] at e <;> (try simp only [qD] at *) <;> omega)
      | (refine sy fun e => ?_; cbv)
      | (refine ⟨_, _, _, hC _ _ _ _ c4, ?_⟩; cbv; clear c4)
     refine ⟨[(990, 30)], rfl, rfl, ⟨sp, sp, ?_, trivial⟩, trivial⟩
     cbv
     simp only [hh]
     rw [HL.out, List.map_append]
     simp [hh, aP, n32]
    ·have lv := ZP (l := r) (k := k) Y54
     have hp : (r.drop (2 * k)).take 2 = [r[2 * k]] := by
      rw [List.drop_eq_getElem_cons (show 2 * k < r.length by omega), List.drop_eq_nil_of_le Y54]; rfl
     obtain ⟨a, ha⟩ := exq (r[2 * k]'Y54)
     have a2 : a.length = 32 := by rw [<- ha]; exact r2 _ (List.getElem_mem _)
     rw [ha] at hp lv
     have hl2 : (qH r).take (k + 1) = (qH r).take k ++ [a] := by
      rw [List.take_add_one, lv]; rfl
     have hx' : x = [lH h aP [a]] := by rw [hx, <- List.map_drop, <- List.map_take, hp]; simp only [lH, hh]
     subst hx'
     have HL := Hdq hl2
     clear hx hp lv ha hl2
     refine ⟨rfl, ?_⟩
     cbv
     repeat' first
      | exact s0
      | apply And.intro
      | exact sq
      | (refine fun (_ : PUnit) => ?_; simp [hh, *, aP]; done)
      | trivial
      | (refine sz fun e => ?_; simp [hh, n1] at e <;> (try simp only [qD] at *) <;> omega)
      | (refine sy fun e => ?_; cbv)
     refine ⟨[(990, 36)], rfl, rfl, ⟨sp, sp, ?_, trivial⟩, trivial⟩
     cbv
     simp only [hh]
     rw [HL.out, List.map_append]
     simp [hh, aP, a2]
   ·have hN : (Zw (r.map aP)).length = (qH r).length := by rw [twosL_len, List.length_map, hlv]
    rw [hN]
    obtain ⟨M, hM⟩ := exq ((qH r).length)
    rw [hM]
    cbv
    repeat' first
     | exact s0
     | apply And.intro
     | exact sq
     | (refine fun (_ : PUnit) => ?_; simp [hh, *, aP]; done)
     | trivial
     | (refine sz fun e => ?_; simp [hh, n1] at e <;> (try simp only [qD] at *) <;> omega)
     | (refine sy fun e => ?_; cbv)
    obtain ⟨r1, r2, r3, r4⟩ := R.out
    refine ⟨qH r, ⟨by rw [<- vP Y54, r1], Go.Proofs.YtdloaifdpajcjaaGreatDoor.levelL_32 r r2, by omega, by omega⟩, by omega, ⟨[(993, 998), (991, 990)], rfl, rfl, ⟨sp, ?_, trivial⟩, sp, sp, trivial⟩⟩
    cbv
    rw [List.take_of_length_le Y54]
  ·have e1 : r.length = 1 := by omega
   obtain ⟨d, rfl⟩ : ∃ d, r = [d] := by
    match r, e1 with
    | [d], _ => exact ⟨d, rfl⟩
   have d2 : d.length = 32 := r2 d Y85
   rw [<- r1, qb4]
   clear r1 r2 r3 r4 n1 R
   cbv
   repeat' first
    | exact s0
    | apply And.intro
    | exact sq
    | (refine fun (_ : PUnit) => ?_; simp [hh, *, aP]; done)
    | trivial
    | (refine sz fun e => ?_; simp [hh, d2] at e <;> (try simp only [qD] at *) <;> omega)
    | (refine sy fun e => ?_; cbv)
end Go.Bl
namespace Go.Bl
open Go.RowKit Go.Proofs
attribute [local irreducible] qz
theorem qcG (Z : Ad) (xs ys : List PV) (e : ys = xs.reverse) : qi Z 44 [.own 36 32 xs] (.tup []) [.own 36 32 ys] := by
 subst e; exact qeW Z xs
attribute [local simp] qcE vQ
theorem W0 (Z : Ad) (h : Hh) (hh : ∀ α g, h α g = g ()) (ls : List (List UInt8)) (i : Nat) (hn : ls.length <= 512) (hi : i < ls.length) (hw : ∀ l ∈ ls, l.length <= 10000000) :
  qi Z 9 [.pv (lH h bP ls), .pv (nH h i)] (.tup [.own 36 32 (h _ fun _ => (jF (ls.map qy) i).map aP), .pv (.v .nilIface)]) [.any, .any] := by
 refine qB Z h hh ⟨Tryz.func9, Tryz.ntmps9⟩ rfl rfl rfl rfl rfl fun C hC => ?_
 unfold Tryz.f9
 cbv
 repeat' first
  | exact s0
  | apply And.intro
  | exact sq
  | trivial
  | (refine fun (e : (_ : Bool) = _) => ?_; first | (cases e; done) | skip; cbv)
 refine ⟨_, _, _, hC _ _ _ _ (JT Z h hh ls.length i), ?_⟩
 have et : decide ((ls.length : Int) <= 512 /\ 0 <= (i : Int) /\ (i : Int) < ls.length) = true := by simp; omega
 cbv
 refine ⟨fun _ => by simp [hh], fun _ => rfl, fun e => ?_, fun e => ?_⟩
 ·simp only [hh, et] at e; cases e
 ·clear e et
  have hls : (ls.map fun l => aP (qz (0 :: l))) = (ls.map qy).map aP := by rw [List.map_map]; rfl
  obtain ⟨L, hL⟩ := exq (ls.map qy)
  have hLl : L.length = ls.length := by rw [<- hL, List.length_map]
  have hL32 : ∀ d ∈ L, d.length = 32 := by rw [<- hL]; intro d hd; obtain ⟨l, -, rfl⟩ := List.mem_map.1 hd; exact zx l
  have hc := (Uf Z h hh ls Y54 hw).plain
  rw [hls, hL] at hc
  rw [hL]
  clear hls hL hw
  refine ⟨_, _, _, hC _ _ _ _ hc, ?_⟩
  cbv
  clear hc
  refine ⟨fun _ => rfl, ?_⟩
  refine ⟨_, _, _, hC _ _ _ _ (JP Z h hh ls.length i hn hi).plain, ?_⟩
  cbv
  obtain ⟨ts, hts⟩ := exq (jo ls.length i)
  rw [hts]
  have h512 : ts.length <= 512 := by rw [<- hts]; have := zW ls.length i Y54; omega
  refine ⟨fun _ => by simp [hh], fun _ => rfl, ?_⟩
  refine ⟨Nat × List Dg × Nat × List Dg, fun x => ⟨[(6, some (.pv (lH h aP x.2.1))), (7, some (.own 990)), (22, some (.pv (lH h vQ ts))), (23, some (.pv (nH h ts.length))), (24, some (.pv (nH h x.1)))],
    [(990, some (.row 36 32 (h _ fun _ => x.2.2.2.map aP) false))]⟩,
   fun x => x.1 <= ts.length /\ ts.drop x.1 = jo x.2.1.length x.2.2.1 /\ x.2.2.1 < x.2.1.length /\ x.2.1.length <= 512 /\ (∀ d ∈ x.2.1, d.length = 32) /\ x.2.2.2 ++ (jF x.2.1 x.2.2.1).reverse = (jF L i).reverse /\ x.2.2.2.length + x.2.1.length <= 512,
   fun x => ts.length - x.1, (0, L, i, []), [(7, 990, 36, 32)], ⟨Nat.zero_le _, by rw [hLl, hts]; rfl, by rw [hLl]; exact hi, by rw [hLl]; exact hn, hL32, rfl, by rw [hLl]; simpa using hn⟩, ⟨rfl, by decide, rfl, trivial⟩, ⟨[], rfl, rfl, ⟨?_, trivial⟩, rfl, rfl, rfl, ?_, ?_, trivial⟩, ?_⟩
  ·cbv; simp [hh]
  ·cbv; simp [hh]
  ·cbv; simp [hh]
  ·rintro ⟨k, l, j, out⟩ ⟨h1, h2, h3, h4, h5, h6, h7⟩
   dsimp only at h1 h2 h3 h4 h5 h6 h7 ⊢
   cbv
   refine ⟨fun _ => rfl, fun e => ?_, fun e => ?_⟩ <;> simp only [hh, nI, decide_eq_true_eq, decide_eq_false_iff_not] at e
   ·have e' : k < ts.length := jI e
    have hd : ts.drop k = ts[k] :: ts.drop (k + 1) := List.drop_eq_getElem_cons e'
    rw [hd] at h2
    have m2 : 2 <= l.length := by
     rcases Nat.lt_or_ge l.length 2 with q | q
     ·rw [um Y54] at h2; cases h2
     ·exact q
    obtain ⟨b1, b2, b3⟩ := qO l.length m2
    by_cases hj : j < qf l.length
    ·rw [zZ m2 hj] at h2
     have et : ts[k] = (true, qf l.length, j) := (List.cons.inj h2).1
     have ed := (List.cons.inj h2).2
     have E' := Hdq (And.intro ed h6)
     clear h2 hd ed h6 hLl hL32 hts
     repeat' first
      | exact s0
      | apply And.intro
      | exact sq
      | trivial
     ·intro e1
      clear e1
      repeat' first
       | exact s0
       | apply And.intro
       | exact sq
       | trivial
      have o32 : (jA (l.drop (qf l.length))).length = 32 := Go.Proofs.YtdloaifdpajcjaaGreatDoor.overL_32 _ (fun d hd => h5 d (List.mem_of_mem_drop hd)) Y57
      refine ⟨_, _, _, hC _ _ _ _ (Vz Z h hh (l.drop (qf l.length)) (fun d hd => h5 d (List.mem_of_mem_drop hd)) Y57 Y57), ?_⟩
      cbv
      repeat' first
       | exact s0
       | apply And.intro
       | exact sq
       | trivial
      obtain ⟨ed, h6⟩ := E'.out
      rw [xJ m2 hj, List.reverse_append] at h6
      refine ⟨(k + 1, l.take (qf l.length), j, out ++ [jA (l.drop (qf l.length))]), ⟨e', ?_, ?_, ?_, fun d hd => h5 d (List.mem_of_mem_take hd), ?_, ?_⟩, by show ts.length - (k + 1) < ts.length - k; omega, [(990, 38)], rfl, rfl, ⟨?_, trivial⟩, ?_, rfl, rfl, rfl, ?_, trivial⟩
      ·dsimp only; rw [ed]; congr 1; simp; omega
      ·dsimp only; simp; omega
      ·dsimp only; simp; omega
      ·dsimp only; rw [<- h6]; simp
      ·dsimp only; simp; omega
      ·cbv; simp [hh, *, aP]
      ·cbv; simp [hh, *]
      ·cbv; simp (disch := omega) [hh, wrap_i64]
     ·intro e1
      simp [hh, e', vQ, et] at e1
    ·rw [zv m2 hj] at h2
     have et : ts[k] = (false, l.length - qf l.length, j - qf l.length) := (List.cons.inj h2).1
     have ed := (List.cons.inj h2).2
     have hwr : IntKind.i64.wrap ((l.length : Int) - ((l.length - qf l.length : Nat) : Int)) = (qf l.length : Int) := by rw [wrap_i64 Y54 Y54]; omega
     have E' := Hdq (And.intro ed h6)
     clear h2 hd ed h6 hLl hL32 hts
     repeat' first
      | exact s0
      | apply And.intro
      | exact sq
      | trivial
     ·intro e1
      simp [hh, e', vQ, et] at e1
     ·intro e1
      clear e1
      repeat' first
       | exact s0
       | apply And.intro
       | exact sq
       | trivial
      have o32 : (jA (l.take (qf l.length))).length = 32 := Go.Proofs.YtdloaifdpajcjaaGreatDoor.overL_32 _ (fun d hd => h5 d (List.mem_of_mem_take hd)) Y57
      refine ⟨_, _, _, hC _ _ _ _ (Vz Z h hh (l.take (qf l.length)) (fun d hd => h5 d (List.mem_of_mem_take hd)) Y57 Y57), ?_⟩
      cbv
      repeat' first
       | exact s0
       | apply And.intro
       | exact sq
       | trivial
      obtain ⟨ed, h6⟩ := E'.out
      rw [vH m2 hj, List.reverse_append] at h6
      refine ⟨(k + 1, l.drop (qf l.length), j - qf l.length, out ++ [jA (l.take (qf l.length))]), ⟨e', ?_, ?_, ?_, fun d hd => h5 d (List.mem_of_mem_drop hd), ?_, ?_⟩, by show ts.length - (k + 1) < ts.length - k; omega, [(990, 53)], rfl, rfl, ⟨?_, trivial⟩, ?_, rfl, rfl, rfl, ?_, trivial⟩
      ·dsimp only; rw [ed]; congr 1; simp
      ·dsimp only; simp; omega
      ·dsimp only; simp; omega
      ·dsimp only; rw [<- h6]; simp
      ·dsimp only; simp; omega
      ·cbv; simp [hh, *, aP]
      ·cbv; simp [hh, *]
      ·cbv; simp (disch := omega) [hh, wrap_i64]
   ·have e' : ts.length <= k := jN e
    have hkk : k = ts.length := Nat.le_antisymm h1 e'
    rw [hkk, List.drop_length] at h2
    have hl1 : l.length <= 1 := by
     rcases Nat.lt_or_ge 1 l.length with q | q
     ·by_cases hj : j < qf l.length
      ·rw [zZ q hj] at h2; cases h2
      ·rw [zv q hj] at h2; cases h2
     ·exact q
    rw [y6 hl1, List.reverse_nil, List.append_nil] at h6
    cbv
    refine ⟨_, _, _, hC _ _ _ _ (qcG Z (h _ fun _ => out.map aP) (h _ fun _ => (jF L i).map aP) (by simp [hh, h6])), ?_⟩
    cbv
    repeat' first
     | exact s0
     | apply And.intro
     | exact sq
     | trivial
end Go.Bl
namespace Go.Proofs.YtdloaifdpajcjaaGreatDoor
open Go.RowKit Go.Bl
theorem Zg (n : Nat) : qR n = (shN n).map (fun k : Nat => (k : Int)) := by
 unfold qR shN
 split
 ·rfl
 ·simp; omega
theorem qbb (n : Nat) : yH (n : Int) = nB n := by unfold yH nB; simp
def UI (bs : List Nat) (rows : List (List UInt8)) : List (Value × List UInt8) := List.zipWith (fun b r => (sl8 b, r)) bs rows
theorem WP : ∀ (bs : List Nat) (rows : List (List UInt8)), bs.length = rows.length -> (UI bs rows).map (·.1) = bs.map sl8
 | [], [], _ => rfl
 | b :: bs, r :: rows, h => by
  have := WP bs rows Y62
  simp only [UI, List.zipWith_cons_cons, List.map_cons] at this ⊢
  rw [this]
theorem WB : ∀ (bs : List Nat) (rows : List (List UInt8)), bs.length = rows.length -> (UI bs rows).map (·.2) = rows
 | [], [], _ => rfl
 | b :: bs, r :: rows, h => by
  have := WB bs rows Y62
  simp only [UI, List.zipWith_cons_cons, List.map_cons] at this ⊢
  rw [this]
theorem qd0 {base : Nat} {w : World} {bs : List Nat} {rows : List (List UInt8)} (h : Rws base w bs rows) (h8 : ∀ r ∈ rows, r.length = 8) : ∀ x ∈ UI bs rows, BsT w x.1 x.2 := by
 intro x hx
 obtain ⟨i, hi, rfl⟩ := List.getElem_of_mem hx
 have hl := h.len
 simp only [UI, List.length_zipWith] at hi
 simp only [UI, List.getElem_zipWith]
 exact qfy h h8 i _ _ (List.getElem?_eq_getElem Y54) (List.getElem?_eq_getElem Y54)
theorem Ut (data : List (List UInt8)) : ∀ r ∈ J7 data, r.length = 8 := by
 intro r hr
 obtain ⟨i, -, rfl⟩ := List.mem_map.1 hr
 simp
theorem qgc {A : Nat -> Prop} {w : World} {a : Option Addr} {n cap : Nat} {us : List Value} (h : Vs A w (.slice a n cap) us) (k : Nat) (hk : k <= n) : Vs A w (.slice a k cap) (us.take k) := by
 obtain ⟨a', cap', h1, h2, h3, h4⟩ := h
 cases h1
 exact ⟨a, cap, by rw [List.length_take, Nat.min_eq_left hk], by rw [List.length_take]; omega, h3, h4.take k⟩
theorem qgK {A : Nat -> Prop} {w : World} {a : Option Addr} {n cap : Nat} {us : List Value} (h : Vs A w (.slice a n cap) us) (k : Nat) (hk : k <= n) : Vs A w (.slice (if cap = k then a else a.map (·.add k)) (n - k) (cap - k)) (us.drop k) := by
 obtain ⟨a', cap', h1, h2, h3, h4⟩ := h
 cases h1
 refine ⟨_, cap - k, by rw [List.length_drop], by rw [List.length_drop]; omega, by omega, ?_⟩
 have := h4.cut k cap 1 (fun e => by subst e; simp; omega)
 simpa using this
theorem qe1 (data : List (List UInt8)) (sh : List Nat) (i k : Nat) (h : sh[i]? = some k) (hs : sh.sum <= data.length) :
  uR data (sh.take (i + 1)) = uR data (sh.take i) ++ qgi ((data.drop (sh.take i).sum).take k) := by
 induction sh generalizing data i with
 | nil => simp at h
 | cons x sh ih =>
  cases i with
  | zero => simp at h; subst h; simp [uR]
  | succ i =>
   simp only [List.sum_cons] at hs
   simp only [List.take_succ_cons, uR, List.sum_cons, List.append_assoc]
   rw [ih (data.drop x) i Y62 Y73, List.drop_drop]
theorem qbj : ∀ (sh : List Nat) (data : List (List UInt8)), (∀ b ∈ data, b.length = 8) -> ∀ b ∈ uR data sh, b.length = 8
 | [], data, h, b, hb => by simp [uR] at hb
 | k :: sh, data, h, b, hb => by
  simp only [uR, qgi, List.mem_append] at hb
  rcases hb with (hb | hb) | hb
  ·exact h b (List.mem_of_mem_take hb)
  ·exact Ut _ b hb
  ·exact qbj sh _ (fun x hx => h x (List.mem_of_mem_drop hx)) b hb
theorem Jj (xs : List UInt8) : ∀ b ∈ qF xs, b.length = 8 := qbj _ _ (W6 xs)
theorem bl_len {p : Par} {xs : List UInt8} (h : (xs.length : Int) = p.size) (ho : qU p 0) : ((qF xs).length : Int) = blk p.size := by
 have hl : (qF xs).length = nB xs.length + 32 * (shN (nB xs.length)).length := by
  unfold qF
  rw [yY [] _ _ (by rw [Qd, VX]; exact Nat.le_refl _), Qd]
 rw [hl]
 unfold blk
 rw [<- h, qbb, Zg]
 unfold shN
 split <;> simp [Qj] <;> omega
theorem qgU {kM kS : List UInt8} {bs : List (List UInt8)} {s : Nat} (h : ∀ b ∈ bs, b.length = 8) : ∀ b ∈ Q1 kM kS bs s, b.length = 8 := by
 intro b hb
 rcases List.mem_append.1 hb with hb | hb
 ·obtain ⟨i, hi, rfl⟩ := List.mem_mapIdx.1 hb
  exact y8 _ _ _ (h _ (List.getElem_mem hi))
 ·obtain ⟨j, -, rfl⟩ := List.mem_map.1 hb
  rfl
theorem Ki {P : Nat -> Nat} {T : Nat -> List UInt8 -> List UInt8} {bs : List (List UInt8)} {M : Nat} (h : ∀ p i, (T p (bs.getD i [])).length <= M) : ∀ k, ∀ x ∈ uf P T bs k, x.length <= M
 | 0, x, hx => by
  obtain ⟨-, rfl⟩ := List.mem_replicate.1 hx
  exact Nat.zero_le _
 | k + 1, x, hx => by
  rw [uf] at hx
  rcases List.mem_or_eq_of_mem_set hx with hx | rfl
  ·exact Ki h k x hx
  ·exact h _ _
theorem sealL_len (m xs : List UInt8) (n : Int) (s : Nat) : (zc m n xs s).length = (qF xs).length + s := by
 unfold zc
 rw [zV, yg]
theorem seal_row (m xs : List UInt8) (n : Int) (s : Nat) (hN : (qF xs).length + s <= 4194304) (i : Nat) (hi : i < (qF xs).length + s) :
  ∃ b : List UInt8, b.length = 8 /\ (zc m n xs s)[i]? = some (jL (qg m jd n) (i : Int) b) := by
 obtain ⟨all, ha⟩ := exq (Q1 (qg m qS n) (qg m qG n) (qF xs) s)
 have hl : all.length = (qF xs).length + s := by rw [<- ha, yg]
 have hP := fun j (hj : j < all.length) => jO (key := qg m ql n) (n := all.length) Y54 hj
 have hinj := fun a c (h1 : a < all.length) (h2 : c < all.length) h => LG (key := qg m ql n) (n := all.length) Y54 h1 h2 h
 have hn := qgg (key := qg m ql n) (n := all.length) Y54 (i := i) Y54
 have hp := Wf (key := qg m ql n) (n := all.length) Y54 (i := i) Y54
 have h := Xv (P := qA (qg m ql n) all.length) (T := fun p b => jL (qg m jd n) (p : Int) b) hP hinj all.length (Nat.le_refl _) _ hn
 refine ⟨all.getD (qhA (qg m ql n) all.length i) [], ?_, ?_⟩
 ·rw [List.getD_eq_getElem?_getD, List.getElem?_eq_getElem hn]
  exact qgU (Jj xs) _ (by rw [ha]; exact List.getElem_mem hn)
 ·rw [hp] at h
  unfold zc
  simp only [ha]
  exact h
theorem Xs : chk ⟨0, 0, 1, 1, 1, 0⟩ = 0 := by
 have h2 : blk 0 = 33 := by decide
 simp [chk, qU, h2]
 omega
def qhU (m : List UInt8) (n x : Int) (xs : List UInt8) : Bool := decide (qj m n = 0 /\ xs.length = 16 /\ (0 <= x /\ x < 512) /\ xs.drop 8 = JN (qg m jd n) (beK 8 x ++ xs.take 8))
end Go.Proofs.YtdloaifdpajcjaaGreatDoor
