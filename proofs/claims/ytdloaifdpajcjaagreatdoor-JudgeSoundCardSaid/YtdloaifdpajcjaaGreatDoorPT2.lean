import Derived.Test.YtdloaifdpajcjaaGreatDoorPS
import Derived.Test.YtdloaifdpajcjaaGreatDoorQD
set_option linter.unusedVariables false
set_option linter.unusedSimpArgs false
namespace Go.Bl
open Go.RowKit
def xW (a b : List (List UInt8)) : Nat -> Option Nat
 | 0 => none
 | n + 1 => if a.getD n [] ≠ b.getD n [] then some n else xW a b n
theorem Jb : ∀ {a b : List (List UInt8)} {n : Nat}, xW a b n = none -> ∀ j < n, a.getD j [] = b.getD j []
 | _, _, 0, _, j, hj => by omega
 | a, b, n + 1, h, j, hj => by
  rw [xW] at h
  split at h
  ·cases h
  ·rename_i e
   rcases Nat.lt_or_ge j n with q | q
   ·exact Jb h j q
   ·obtain rfl : j = n := by omega
    exact Classical.not_not.1 e
theorem xS : ∀ {a b : List (List UInt8)} {n k : Nat}, xW a b n = some k -> k < n /\ a.getD k [] ≠ b.getD k [] /\ ∀ j < n, k < j -> a.getD j [] = b.getD j []
 | _, _, 0, _, h => by cases h
 | a, b, n + 1, k, h => by
  rw [xW] at h
  split at h
  ·rename_i e
   cases h
   exact ⟨by omega, e, fun j h1 h2 => by omega⟩
  ·rename_i e
   obtain ⟨h1, h2, h3⟩ := xS h
   refine ⟨by omega, h2, fun j q1 q2 => ?_⟩
   rcases Nat.lt_or_ge j n with q | q
   ·exact h3 j q q2
   ·obtain rfl : j = n := by omega
    exact Classical.not_not.1 e
theorem qax {ts : List (Bool × Nat × Nat)} {leaf : List UInt8} {ps : List Dg} (hl : ts.length = ps.length) {j : Nat} (hj : j <= ts.length) :
  qz ((zi ts leaf ps ts.length).getD j []) = vU ts (qy leaf) ps j := by
 cases j with
 | zero => simp [zi, vU, zO, qy]
 | succ i =>
  rw [xB hl Y54]
  congr 1
  simp [zi, List.getD_eq_getElem?_getD, show i < ts.length by omega]
theorem Xn {ts : List (Bool × Nat × Nat)} {leaf : List UInt8} {ps : List Dg} {i : Nat} (hi : i < ts.length) :
  (zi ts leaf ps ts.length).getD (i + 1) [] = Jr ts (qy leaf) ps i := by
 simp [zi, List.getD_eq_getElem?_getD, hi]
theorem qgO {ts : List (Bool × Nat × Nat)} {la lb : List UInt8} {pa pb : List Dg} (ha : ts.length = pa.length) (hb : ts.length = pb.length)
  (h32a : ∀ p ∈ pa, p.length = 32) (h32b : ∀ p ∈ pb, p.length = 32)
  (hr : zO ts (qy la) pa = zO ts (qy lb) pb) (hne : la ≠ lb) :
  ∃ j, xW (zi ts la pa ts.length) (zi ts lb pb ts.length) (ts.length + 1) = some j /\ j <= ts.length /\
   (zi ts la pa ts.length).getD j [] ≠ (zi ts lb pb ts.length).getD j [] /\
   qz ((zi ts la pa ts.length).getD j []) = qz ((zi ts lb pb ts.length).getD j []) := by
 cases h : xW (zi ts la pa ts.length) (zi ts lb pb ts.length) (ts.length + 1) with
 | none =>
  have := Jb h 0 Y54
  simp [zi] at this
  exact absurd this hne
 | some j =>
  obtain ⟨h1, h2, h3⟩ := xS h
  refine ⟨j, rfl, by omega, h2, ?_⟩
  rw [qax ha Y54, qax hb Y54]
  rcases Nat.lt_or_ge j ts.length with q | q
  ·have e := h3 (j + 1) Y54 Y54
   rw [Xn q, Xn q, Jr, Jr, List.cons.injEq] at e
   have q1 := Jo ha (zx la) j Y54
   have q2 := Jo hb (zx lb) j Y54
   have q3 : (pa.getD j []).length = 32 := by
    rw [List.getD_eq_getElem?_getD, List.getElem?_eq_getElem (show j < pa.length by omega)]
    exact h32a _ (List.getElem_mem _)
   have q4 : (pb.getD j []).length = 32 := by
    rw [List.getD_eq_getElem?_getD, List.getElem?_eq_getElem (show j < pb.length by omega)]
    exact h32b _ (List.getElem_mem _)
   have e2 := e.2
   split at e2
   ·exact (List.append_inj e2 Y54).1
   ·exact (List.append_inj e2 Y54).2
  ·obtain rfl : j = ts.length := by omega
   rw [Vy ha, Vy hb]
   exact hr
end Go.Bl
namespace Go.Bl
open Go.RowKit Go.Proofs
set_option maxRecDepth 100000
set_option maxHeartbeats 8000000
attribute [local irreducible] qz
theorem Lz (Z : Ad) (h : Hh) (hh : ∀ α g, h α g = g ()) (ls : List (List UInt8)) (i : Nat) (hi : i < ls.length) (leaf : List UInt8) (ps qs : List Dg) (a b : List (List UInt8)) (j : Nat) (hj : j < a.length) (hjb : a.length = b.length) (hne : a.getD j [] ≠ b.getD j []) (heq : ∀ k, j < k -> k < a.length -> a.getD k [] = b.getD k []) (hsh : a.length <= 600) (ha : ∀ x ∈ a, x.length <= 1000000) (hb : ∀ x ∈ b, x.length <= 1000000) (R : Dg)
  (c1 : qi Z 9 [.pv (lH h bP ls), .pv (nH h i)] (.tup [.own 36 32 (h _ fun _ => qs.map aP), .pv (.v .nilIface)]) [.any, .any])
  (c2 : qi Z 46 [.pv (bH h ls[i]), .pv (bH h leaf)] (.pv (tH h false)) [.any, .any])
  (c3 : qi Z 35 [.pv (lH h bP ls)] (.pv (aH h u8P R)) [.any])
  (c4 : qi Z 47 [.pv (aH h u8P R), .pv (nH h ls.length), .pv (nH h i), .pv (bH h leaf), .pv (lH h aP ps)] (.pv (.v .nilIface)) [.any, .any, .any, .any, .any])
  (c5 : qi Z 48 [.pv (nH h ls.length), .pv (nH h i), .pv (bH h ls[i]), .pv (lH h aP qs)] (.own 22 1 (h _ fun _ => a.map bP)) [.any, .any, .any, .any])
  (c6 : qi Z 48 [.pv (nH h ls.length), .pv (nH h i), .pv (bH h leaf), .pv (lH h aP ps)] (.own 22 1 (h _ fun _ => b.map bP)) [.any, .any, .any, .any]) :
  qi Z 11 [.pv (lH h bP ls), .pv (nH h i), .pv (bH h leaf), .pv (lH h aP ps)] (.tup [.pv (bH h (a.getD j [])), .pv (bH h (b.getD j [])), .pv (.v (.bool true))]) [.any, .any, .any, .any] := by
 have c7 := qf8 Z h hh a
 have c8 := qd4 Z h hh a Y54
 have i0 : ¬ (i : Int) < 0 := by omega
 have W := Hdq (And.intro hne (And.intro heq (And.intro ha hb)))
 clear hne heq ha hb
 refine qB Z h hh ⟨Tryz.func11, Tryz.ntmps11⟩ rfl rfl rfl rfl rfl fun C hC => ?_
 unfold Tryz.f11
 cbv
 repeat' first
  | exact s0
  | apply And.intro
  | exact sq
  | trivial
  | exact sx
  | (refine sy fun e => ?_; cbv)
  | (refine ⟨_, _, _, hC _ _ _ _ c1, ?_⟩; cbv; clear c1)
  | (refine ⟨_, _, _, hC _ _ _ _ c2, ?_⟩; cbv; clear c2)
  | (refine ⟨_, _, _, hC _ _ _ _ c3, ?_⟩; cbv; clear c3)
  | (refine ⟨_, _, _, hC _ _ _ _ c4, ?_⟩; cbv; clear c4)
  | (refine ⟨_, _, _, hC _ _ _ _ c5, ?_⟩; cbv; clear c5)
  | (refine ⟨_, _, _, hC _ _ _ _ c6, ?_⟩; cbv; clear c6)
  | (refine ⟨_, _, _, hC _ _ _ _ c7, ?_⟩; cbv; clear c7)
 refine ⟨105, [.p [lH h bP a]], bwL (a.map bP), [(8, some (.ref 998 0 0)), (9, some (.ref 1998 0 0)), (10, some (.ref 2998 0 0)), (14, some (.ref 3998 0 0)), (60, some (.pv (.f (.func 105) [] [.p [lH h bP a]])))],
  fun _ => [(998, some (.box 22 [.nil] false)), (1998, some (.box 22 [.nil] false)), (2998, some (.box 4 [.pv (.v (.bool false))] false)), (3998, some (.box 35 [.own 4998] false)), (4998, some (.row 22 1 (h _ fun _ => b.map bP) false))],
  fun k => ∀ m, a.length - k <= m -> m < a.length -> a.getD m [] = b.getD m [], [], hC _ _ _ _ c8, by cbv, rfl, rfl, trivial, ⟨[(998, 8), (1998, 9), (2998, 10), (3998, 14), (4998, 58)], rfl, rfl, ⟨?_, ?_, ?_, ?_, ?_, trivial⟩, ?_, ?_, ?_, ?_, ?_, trivial⟩, fun m h1 h2 => by omega, fun k x hx hI => ?_, fun hI => ?_⟩
 iterate 10 (· cbv)
 ·obtain ⟨hk, hx⟩ := qe0 hx
  rw [List.length_map] at hk hx
  obtain ⟨hne, heq, ha, hb⟩ := W.out
  obtain ⟨m, hm⟩ := exq (a.length - 1 - k)
  rw [hm] at hx
  have hma : m < a.length := by omega
  have hmb : m < b.length := by omega
  have ga : a.getD m [] = a[m] := by rw [List.getD_eq_getElem?_getD, List.getElem?_eq_getElem hma]; rfl
  have gb : b.getD m [] = b[m] := by rw [List.getD_eq_getElem?_getD, List.getElem?_eq_getElem hmb]; rfl
  have c9 := yD Z h hh a[m] b[m] (by have := ha _ (List.getElem_mem hma); omega) (by have := hb _ (List.getElem_mem hmb); omega)
  have hx' : x = [nH h m, bH h a[m]] := by
   rw [hx]; simp [hh, List.getD_eq_getElem?_getD, hma]
  subst hx'
  clear hx
  have m0 : ¬ (m : Int) < 0 := by omega
  by_cases q : a[m] = b[m]
  ·rw [show (a[m] == b[m]) = true by rw [q]; exact beq_self_eq_true _] at c9
   have hI' : ∀ m', a.length - (k + 1) <= m' -> m' < a.length -> a.getD m' [] = b.getD m' [] := fun m' h1 h2 => by
    by_cases e : m' = m
    ·rw [e, ga, gb, q]
    ·exact hI m' Y54 h2
   replace hI' := Hdq hI'
   clear q ga gb hne heq ha hb hI
   refine ⟨rfl, ?_⟩
   cbv
   repeat' first
    | exact s0
    | apply And.intro
    | exact sq
    | trivial
    | exact sx
    | (refine sy fun e => ?_; cbv)
    | (refine ⟨_, _, _, hC _ _ _ _ c9, ?_⟩; cbv; clear c9)
   exact ⟨[], rfl, rfl, ⟨sp, sp, sp, sp, sp, trivial⟩, trivial⟩
  ·rw [show (a[m] == b[m]) = false by rw [beq_eq_false_iff_ne]; exact q] at c9
   have hmj : m = j := by
    rcases Nat.lt_trichotomy m j with g | g | g
    ·exact absurd (hI j Y54 hj) hne
    ·exact g
    ·have := heq m g hma
     rw [ga, gb] at this
     exact absurd this q
   have ga' : a.getD j [] = a[m] := by rw [<- hmj]; exact ga
   have gb' : b.getD j [] = b[m] := by rw [<- hmj]; exact gb
   rw [ga', gb']
   clear q ga gb hne heq ha hb hI hmj ga' gb' W
   refine ⟨rfl, ?_⟩
   cbv
   repeat' first
    | exact s0
    | apply And.intro
    | exact sq
    | trivial
    | exact sx
    | (refine sy fun e => ?_; cbv)
    | (refine ⟨_, _, _, hC _ _ _ _ c9, ?_⟩; cbv; clear c9)
   refine ⟨[(998, some (.box 22 [.pv (bH h a[m])] false)), (1998, some (.box 22 [.pv (bH h b[m])] false)), (2998, some (.box 4 [.pv (.v (.bool true))] false))], rfl, ⟨[], rfl, rfl, ⟨sp, sp, sp, trivial⟩, trivial⟩, ?_⟩
   cbv
   repeat' first
    | exact s0
    | apply And.intro
    | exact sq
    | trivial
   trace_state
 ·exfalso
  exact W.out.1 (hI j (by rw [bwL_len, List.length_map]; omega) hj)
theorem Wm {ts : List (Bool × Nat × Nat)} {leaf : List UInt8} {ps : List Dg} (hl : ts.length = ps.length) (hp : ∀ p ∈ ps, p.length = 32) : ∀ x ∈ zi ts leaf ps ts.length, x.length <= leaf.length + 66 := by
 intro x hx
 rcases List.mem_cons.1 hx with rfl | hx
 ·simp
 ·obtain ⟨k, hk, rfl⟩ := List.mem_map.1 hx
  have hk := List.mem_range.1 hk
  have q1 := Jo hl (zx leaf) k Y54
  have q2 : (ps.getD k []).length = 32 := by
   rw [List.getD_eq_getElem?_getD, List.getElem?_eq_getElem (show k < ps.length by omega)]
   exact hp _ (List.getElem_mem _)
  unfold Jr
  split <;> simp only [List.length_cons, List.length_append] <;> omega
theorem qbV (Z : Ad) (h : Hh) (hh : ∀ α g, h α g = g ()) (ls : List (List UInt8)) (i : Nat) (hn : ls.length <= 512) (hi : i < ls.length) (hw : ∀ l ∈ ls, l.length <= 10000) (leaf : List UInt8) (hl : leaf.length <= 10000) (ps : List Dg) (hp : ∀ p ∈ ps, p.length = 32) (hps : ps.length = zH ls.length i)
  (hr : vl ls.length i (qy leaf) ps = jA (ls.map qy)) (hne : ls[i] ≠ leaf) : ∃ a b : List UInt8, a ≠ b /\ qz a = qz b /\ a.length <= 20000 /\ b.length <= 20000 /\
   qi Z 11 [.pv (lH h bP ls), .pv (nH h i), .pv (bH h leaf), .pv (lH h aP ps)] (.tup [.pv (bH h a), .pv (bH h b), .pv (.v (.bool true))]) [.any, .any, .any, .any] := by
 have hli : (ls[i]).length <= 10000 := hw _ (List.getElem_mem hi)
 have h32 : ∀ d ∈ ls.map qy, d.length = 32 := fun d hd => by obtain ⟨l, -, rfl⟩ := List.mem_map.1 hd; exact zx l
 have hq32 := Go.Proofs.YtdloaifdpajcjaaGreatDoor.pathL_32 ls.length (ls.map qy) i (List.length_map _) h32
 have hql := uz ls.length (ls.map qy) i (List.length_map _)
 have hfq := QG ls.length (ls.map qy) i (qy ls[i]) (List.length_map _) (by rw [List.getElem?_map, List.getElem?_eq_getElem hi]; rfl)
 obtain ⟨ts, hts⟩ : ∃ ts, ts = (jo ls.length i).reverse := ⟨_, rfl⟩
 have tl : ts.length = zH ls.length i := by rw [hts, List.length_reverse]; rfl
 have tle := zW ls.length i Y54
 have t5 : ts.length <= 512 := by rw [tl]; unfold zH; omega
 obtain ⟨j, j1, j2, j3, j4⟩ := qgO (ts := ts) (la := ls[i]) (lb := leaf) (pa := jF (ls.map qy) i) (pb := ps) (by rw [hql, tl]) (by rw [hps, tl]) hq32 hp (by
  rw [hts]; exact hfq.trans hr.symm) hne
 obtain ⟨j5, -, j6⟩ := xS j1
 have c5 := yx Z h hh ls.length i hn hi ls[i] Y54 (jF (ls.map qy) i) hq32 hql
 have c6 := yx Z h hh ls.length i hn hi leaf Y54 ps hp hps
 rw [<- hts, hql, <- tl] at c5
 rw [<- hts, hps, <- tl] at c6
 have sa := Wm (leaf := ls[i]) (show ts.length = (jF (ls.map qy) i).length by rw [hql, tl]) hq32
 have sb := Wm (leaf := leaf) (show ts.length = ps.length by rw [hps, tl]) hp
 have la := wayL_len ts ls[i] (jF (ls.map qy) i) ts.length
 have lb := wayL_len ts leaf ps ts.length
 obtain ⟨A, hA⟩ := exq (zi ts ls[i] (jF (ls.map qy) i) ts.length)
 obtain ⟨B, hB⟩ := exq (zi ts leaf ps ts.length)
 rw [hA] at c5 sa la j3 j4 j6
 rw [hB] at c6 sb lb j3 j4 j6
 have ga : A.getD j [] ∈ A := by
  rw [List.getD_eq_getElem?_getD, List.getElem?_eq_getElem (show j < A.length by omega)]; exact List.getElem_mem _
 have gb : B.getD j [] ∈ B := by
  rw [List.getD_eq_getElem?_getD, List.getElem?_eq_getElem (show j < B.length by omega)]; exact List.getElem_mem _
 have c2 := yD Z h hh ls[i] leaf Y54 Y54
 rw [show (ls[i] == leaf) = false by rw [beq_eq_false_iff_ne]; exact hne] at c2
 refine ⟨A.getD j [], B.getD j [], j3, j4, by have := sa _ ga; omega, by have := sb _ gb; omega, ?_⟩
 exact Lz Z h hh ls i hi leaf ps (jF (ls.map qy) i) A B j Y54 Y54 j3 (fun k h1 h2 => j6 k Y54 h1) Y54 (fun x hx => by have := sa x hx; omega) (fun x hx => by have := sb x hx; omega) (jA (ls.map qy))
  (W0 Z h hh ls i hn hi fun l hl => by have := hw l hl; omega) c2 (Kh Z h hh ls Y54 Y54 fun l hl => by have := hw l hl; omega)
  (Ue Z h hh (jA (ls.map qy)) ls.length i hn hi leaf Y54 ps hp hps (Go.Proofs.YtdloaifdpajcjaaGreatDoor.overL_32 _ h32 (by rw [List.length_map]; omega)) hr) c5 c6
end Go.Bl
