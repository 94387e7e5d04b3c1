import Derived.Test.YtnafknkchbfpaaaGreatDoorQB
import Derived.Test.YtnafknkchbfpaaaGreatDoorPQ
set_option linter.unusedVariables false
set_option linter.unusedSimpArgs false
set_option maxRecDepth 1000000
set_option maxHeartbeats 8000000
namespace Go.Bl
open Go.RowKit Go.Proofs
attribute [local irreducible] qw
open Go.Proofs.YtnafknkchbfpaaaGreatDoor (beK jD)
theorem XC (Z : Ad) (h : Hh) (hh : ∀ α g, h α g = g ()) (k : List UInt8) (i : Int) (hk : k.length <= 90000000) : qb Z 142 [.pv (bH h k), .pv (iH h i)] (.pv (kH h .u64 (nI (jT (jD k i))))) [.any, .any] := by
 obtain ⟨nb, hnb⟩ := exq (beK 8 i)
 have ln : nb.length = 8 := by rw [<- hnb]; rfl
 obtain ⟨d, hd⟩ := exq (vN k nb)
 have l3 : d.length = 32 := by rw [<- hd]; exact zo _ _
 have c1 := xL Z h hh i
 rw [hnb] at c1
 have c2 := yf Z h hh k nb hk Y44
 rw [hd] at c2
 rw [show jD k i = d.take 8 by rw [jD, xh, hnb, hd]]
 clear hnb hd ln hk
 refine qh Z h hh ⟨Tryz.func142, Tryz.ntmps142⟩ rfl rfl rfl rfl rfl fun C hC => ?_
 unfold Tryz.f142
 cbv
 repeat' first
  | exact s0
  | apply And.intro
  | exact sq
  | trivial
  | exact sx
  | (refine sy fun e => ?_; cbv)
  | (refine ⟨_, _, _, hC _ _ _ _ c1, ?_⟩; cbv; clear c1)
  | (refine ⟨_, _, _, hC _ _ _ _ c2, ?_⟩; cbv; clear c2)
 refine ⟨Nat, fun j => ⟨[(6, some (.pv (kH h .u64 (nI (jT (d.take j)))))), (13, some (.sl 990 0 8)), (14, some (.pv (iH h 8))), (15, some (.pv (nH h j)))], [(990, some (.var 57 (h _ fun _ => d.map u8P) false))]⟩,
  fun j => j <= 8, fun j => 8 - j, 0, [], Nat.zero_le _, trivial, ⟨[(990, 5)], rfl, rfl, ⟨?_, trivial⟩, ?_, ?_, ?_, ?_, trivial⟩, ?_⟩
 ·cbv; simp [hh, l3, splice]
 ·cbv; simp [hh, jT]
 ·cbv; simp [hh]
 ·cbv; simp [hh]
 ·cbv; simp [hh]
 ·intro j hj
  cbv
  refine ⟨fun _ => rfl, fun e => ?_, fun e => ?_⟩ <;> simp only [hh, nI, decide_eq_true_eq, decide_eq_false_iff_not] at e
  ·have e' : j < 8 := qK (b := 8) e
   have e2 : j < d.length := by omega
   have hlt : jT (d.take j) < 72057594037927936 := by
    have := vD j d Y44
    have h2 : 256 ^ j <= 256 ^ 7 := Nat.pow_le_pow_right Y76 Y44
    omega
   have hc := d[j].toNat_lt
   have hor : IntKind.u64.wrap (IntKind.u64.wrap ((jT (d.take j) : Int) * 256) + IntKind.u64.wrap (d[j].toNat : Int)) = ((jT (d.take j) * 256 + d[j].toNat : Nat) : Int) := by
    rw [qS (x := (jT (d.take j) : Int) * 256) Y44 Y44, qS (x := (d[j].toNat : Int)) Y44 Y44, qS Y44 Y44]
    omega
   have hor := Hdq hor
   have l3p := Hdq l3
   clear hlt hc l3
   cbv
   repeat' first
    | exact s0
    | apply And.intro
    | exact sq
    | trivial
    | exact sx
    | (refine sy fun e => ?_; cbv)
   refine ⟨j + 1, e', by show 8 - (j + 1) < 8 - j; omega, [], rfl, rfl, ⟨rfl, trivial⟩, ?_, rfl, rfl, ?_, trivial⟩
   ·cbv
    exact Y36
   ·cbv
    simp [hh]
    exact wrap_i64 Y44 Y44
  ·have e' : j = 8 := Nat.le_antisymm hj (ge_nat (b := 8) e)
   subst e'
   cbv
   repeat' first
    | exact s0
    | apply And.intro
    | exact sq
    | trivial
    | exact sx
    | (refine sy fun e => ?_; cbv)
end Go.Bl
namespace Go.Bl
open Go.RowKit Go.Proofs
attribute [local irreducible] qw
open Go.Proofs.YtnafknkchbfpaaaGreatDoor (beK jD)
theorem Wf (n : Nat) : xB n n = (List.range n).map fun (x : Nat) => (x : Int) := by
 refine List.map_congr_left fun x hx => ?_
 rw [if_pos (List.mem_range.1 hx)]
theorem Kc (Z : Ad) (h : Hh) (hh : ∀ α g, h α g = g ()) (k : List UInt8) (r n c : Nat) (hk : k.length <= 90000000) (hr : r <= 1073741824) (hn : n <= 1024) (hc : c <= n) :
  qb Z 92 [.pv (bH h k), .pv (nH h r), .pv (nH h n), .pv (nH h c)] (.tup [.pv (lH h iP (VY k r n c)), .pv (iH h 0)]) [.any, .any, .any, .any] := by
 have hw := QZ k r n
 unfold VY
 refine qh Z h hh ⟨Tryz.func92, Tryz.ntmps92⟩ rfl rfl rfl rfl rfl fun C hC => ?_
 unfold Tryz.f92
 cbv
 repeat' first
  | exact s0
  | apply And.intro
  | exact sq
  | trivial
  | exact sx
  | (refine sy fun e => ?_; cbv)
 refine ⟨Nat, fun i => ⟨[(0, some (.pv (bH h k))), (1, some (.pv (nH h r))), (2, some (.pv (nH h n))), (3, some (.pv (nH h c))), (10, some (.own 990)), (11, some (.pv (nH h i)))],
   [(990, some (.row 3 1 (h _ fun _ => (List.range i).map fun (x : Nat) => iP (x : Int)) false))]⟩,
  fun i => i <= n, fun i => n - i, 0, [], Nat.zero_le _, trivial, ⟨[(990, 38)], rfl, rfl, ⟨?_, trivial⟩, rfl, rfl, rfl, rfl, rfl, ?_, trivial⟩, ?_⟩
 ·cbv; simp [hh]
 ·cbv; simp [hh]
 ·intro i hi
  cbv
  refine ⟨fun _ => rfl, fun e => ?_, fun e => ?_⟩ <;> simp only [hh, nI, decide_eq_true_eq, decide_eq_false_iff_not] at e
  ·have e' : i < n := qK e
   cbv
   repeat' first
    | exact s0
    | apply And.intro
    | exact sq
    | trivial
    | exact sx
    | (refine sy fun e => ?_; cbv)
   refine ⟨i + 1, e', by show n - (i + 1) < n - i; omega, [(990, 47)], rfl, rfl, ⟨?_, trivial⟩, rfl, rfl, rfl, rfl, rfl, ?_, trivial⟩
   ·cbv; simp only [hh]; rw [List.range_succ]; simp
   ·cbv
    exact Y32
  ·have e' : i = n := Nat.le_antisymm hi (ge_nat e)
   subst e'
   cbv
   repeat' first
    | exact s0
    | apply And.intro
    | exact sq
    | trivial
    | exact sx
    | (refine sy fun e => ?_; cbv)
   refine ⟨Nat, fun j => ⟨[(0, some (.pv (bH h k))), (1, some (.pv (nH h r))), (2, some (.pv (nH h i))), (3, some (.pv (nH h c))), (10, some (.own 990)), (12, some (.pv (nH h j)))],
     [(990, some (.row 3 1 (h _ fun _ => (XP k r i j).map iP) false))]⟩,
    fun j => j <= c, fun j => c - j, 0, [], Nat.zero_le _, trivial, ⟨[], rfl, rfl, ⟨?_, trivial⟩, rfl, rfl, rfl, rfl, rfl, ?_, trivial⟩, ?_⟩
   ·cbv; simp only [hh, XP]; rw [Wf]; simp
   ·cbv; simp [hh]
   ·intro j hj
    cbv
    refine ⟨fun _ => rfl, fun e => ?_, fun e => ?_⟩ <;> simp only [hh, nI, decide_eq_true_eq, decide_eq_false_iff_not] at e
    ·have e' : j < c := qK e
     have c2 := XC Z h hh k ((r * 1024 + j : Nat) : Int) hk
     have hq := qbz k ((r * 1024 + j : Nat) : Int)
     obtain ⟨q, hq'⟩ : ∃ q, jT (jD k ((r * 1024 + j : Nat) : Int)) = q := ⟨_, rfl⟩
     have hat : atN k r i j = j + q % (i - j) := by rw [atN, hq']
     rw [hq'] at hq c2
     clear hq'
     obtain ⟨g, hg⟩ := exq (r * 1024 + j)
     rw [hg] at c2
     obtain ⟨m, hm⟩ := exq (i - j)
     have hji : j < i := by omega
     have hm0 : m ≠ 0 := by omega
     rw [hm] at hat
     have hqm : q % m < m := Nat.mod_lt _ Y44
     have hw1 : IntKind.i64.wrap (IntKind.i64.wrap ((r : Int) * 1024) + j) = (g : Int) := by
      rw [wrap_i64 (x := (r : Int) * 1024) Y44 Y44, wrap_i64 Y44 Y44]; omega
     have hw2 : IntKind.u64.wrap (IntKind.i64.wrap ((i : Int) - j)) = (m : Int) := by
      rw [wrap_i64 Y44 Y44, qS Y44 Y44]; omega
     have hw3 : IntKind.i64.wrap ((j : Int) + IntKind.i64.wrap ((q : Int).tmod m)) = (j + q % m : Nat) := by
      rw [<- Int.ofNat_tmod, wrap_i64 (x := ((q % m : Nat) : Int)) Y44 Y44, wrap_i64 Y44 Y44]; omega
     rw [<- hat] at hw3
     have ha : atN k r i j < i := by omega
     replace hqm := Hdq hqm
     replace hat := Hdq hat
     replace hm := Hdq hm
     replace hg := Hdq hg
     cbv
     repeat' first
      | exact s0
      | apply And.intro
      | exact sq
      | trivial
      | exact sx
      | (refine sy fun e => ?_; cbv)
      | (refine ⟨_, _, _, hC _ _ _ _ c2, ?_⟩; cbv; clear c2)
     refine ⟨j + 1, e', by show c - (j + 1) < c - j; omega, [], rfl, rfl, ⟨?_, trivial⟩, rfl, rfl, rfl, rfl, rfl, ?_, trivial⟩
     ·cbv
      simp only [hh, nI, hw2, hw3, Int.toNat_natCast, XP, XB]
      simp [List.map_set, hw, hji, ha]
     ·cbv
      exact Y32
    ·have e' : j = c := Nat.le_antisymm hj (ge_nat e)
     subst e'
     cbv
     repeat' first
      | exact s0
      | apply And.intro
      | exact sq
      | trivial
      | exact sx
      | (refine sy fun e => ?_; cbv)
theorem Wo (Z : Ad) (h : Hh) (hh : ∀ α g, h α g = g ()) (k : List UInt8) (r n c : Int) (hb : (decide (r < 0) || decide (1073741824 < r) || decide (n < 0) || decide (1024 < n) || decide (c < 0) || decide (n < c)) = true) :
  qb Z 92 [.pv (bH h k), .pv (iH h r), .pv (iH h n), .pv (iH h c)] (.tup [.nil, .pv (iH h 1)]) [.any, .any, .any, .any] := by
 refine qh Z h hh ⟨Tryz.func92, Tryz.ntmps92⟩ rfl rfl rfl rfl rfl fun C hC => ?_
 unfold Tryz.f92
 cbv
 repeat' first
  | exact s0
  | apply And.intro
  | exact sq
  | trivial
  | (refine fun (e : (_ : Bool) = _) => ?_; first | (exfalso; simp [hh] at e; done) | (exfalso; simp [hh] at e; omega) | (exfalso; simp [hh] at *; omega) | (have ev := Ev.mk e; cbv))
 done
end Go.Bl
namespace Go.Bl
open Go.RowKit Go.Proofs
attribute [local irreducible] qw
open Go.Proofs.YtnafknkchbfpaaaGreatDoor (Par chk blk jj qc qi jU qx qV jI jw qH vQ vo jD)
theorem YH (Z : Ad) (h : Hh) (hh : ∀ α g, h α g = g ()) (m : List UInt8) (x : qD) (e : qz) (lr : x.root.length = 32) (lf : x.file.length = 32) (hc : chk x.par ≠ 0) : qb Z 38 [.pv (bH h m), .pv (qj h x), .pv (qk h e)] (.tup [.pv (lH h iP []), .pv (nH h (chk x.par))]) [.any, .any, .any] := by
 have il := qv lr lf
 have c1 := W4 Z h hh m x.num x.par hc
 have nz : (chk x.par : Int) ≠ 0 := by omega
 obtain ⟨c, hc'⟩ : ∃ c, chk x.par = c := ⟨_, rfl⟩
 rw [hc'] at c1 nz ⊢
 clear hc hc'
 refine qh Z h hh ⟨Tryz.func38, Tryz.ntmps38⟩ rfl rfl rfl rfl rfl fun C hC => ?_
 unfold Tryz.f38
 cbv
 repeat' first
  | exact s0
  | apply And.intro
  | exact sq
  | (refine fun (_ : PUnit) => ?_; simp [hh, *, qd]; done)
  | trivial
  | (refine sz fun e => ?_; simp [hh, nz] at e <;> (try simp only [natc] at *) <;> omega)
  | (refine sy fun e => ?_; cbv)
  | (refine ⟨_, _, _, hC _ _ _ _ c1, ?_⟩; cbv; clear c1)
theorem XG (Z : Ad) (h : Hh) (hh : ∀ α g, h α g = g ()) (m : List UInt8) (x : qD) (e : qz) (lr : x.root.length = 32) (lf : x.file.length = 32) (hc : chk x.par = 0) (hk : qc m x.num ≠ 0) : qb Z 38 [.pv (bH h m), .pv (qj h x), .pv (qk h e)] (.tup [.pv (lH h iP []), .pv (nH h (qc m x.num))]) [.any, .any, .any] := by
 have il := qv lr lf
 have c1 := WL Z h hh m x.num x.par hc hk
 have nz : (qc m x.num : Int) ≠ 0 := by omega
 obtain ⟨c, hc'⟩ : ∃ c, qc m x.num = c := ⟨_, rfl⟩
 rw [hc'] at c1 nz ⊢
 clear hc hk hc'
 refine qh Z h hh ⟨Tryz.func38, Tryz.ntmps38⟩ rfl rfl rfl rfl rfl fun C hC => ?_
 unfold Tryz.f38
 cbv
 repeat' first
  | exact s0
  | apply And.intro
  | exact sq
  | (refine fun (_ : PUnit) => ?_; simp [hh, *, qd]; done)
  | trivial
  | (refine sz fun e => ?_; simp [hh, nz] at e <;> (try simp only [natc] at *) <;> omega)
  | (refine sy fun e => ?_; cbv)
  | (refine ⟨_, _, _, hC _ _ _ _ c1, ?_⟩; cbv; clear c1)
theorem VD (Z : Ad) (h : Hh) (hh : ∀ α g, h α g = g ()) (m : List UInt8) (x : qD) (e : qz) (lr : x.root.length = 32) (lf : x.file.length = 32) (hc : chk x.par = 0) (hk : qc m x.num = 0) (hw : e.way = 1) (hi : 0 <= e.idx /\ e.idx <= 1073741824) : qb Z 38 [.pv (bH h m), .pv (qj h x), .pv (qk h e)] (.tup [.pv (lH h iP (vw m x e)), .pv (iH h 0)]) [.any, .any, .any] := by
 have il := qv lr lf
 have c1 := uP Z h hh m x.num x.par hc hk
 obtain ⟨z0, z1, z2⟩ := ue hc
 have z0' : 0 <= x.par.size /\ x.par.size <= 2000 := z0
 have z1' : 0 <= x.par.sent /\ x.par.sent <= 8 := z1
 have z2' : 1 <= x.par.spots /\ x.par.spots <= min 12 (blk x.par.size + x.par.sent) := z2
 have zb := xx z0'
 have c2 := ux Z h hh x.par z0' z1'
 obtain ⟨n, hn⟩ := Int.eq_ofNat_of_zero_le (a := blk x.par.size + x.par.sent) Y44
 obtain ⟨s, hs⟩ := Int.eq_ofNat_of_zero_le (a := x.par.spots) Y44
 obtain ⟨r, hr⟩ := Int.eq_ofNat_of_zero_le (a := e.idx) hi.1
 have c3 := Kc Z h hh (qi m jw x.num) r n s (J7 _ _ _) Y44 Y44 Y44
 rw [show VY (qi m jw x.num) r n s = vw m x e by rw [vw, hn, hs, hr]; rfl] at c3
 obtain ⟨l, hl⟩ := exq (vw m x e)
 rw [hl] at c3 ⊢
 rw [hn] at c2
 clear hi hc hk z0 z1 z2 z0' z1' z2' zb hl hn
 refine qh Z h hh ⟨Tryz.func38, Tryz.ntmps38⟩ rfl rfl rfl rfl rfl fun C hC => ?_
 unfold Tryz.f38
 cbv
 repeat' first
  | exact s0
  | apply And.intro
  | exact sq
  | (refine fun (_ : PUnit) => ?_; simp [hh, *, qd]; done)
  | trivial
  | (refine sz fun e => ?_; simp [hh, hw] at e <;> (try simp only [natc] at *) <;> omega)
  | (refine sy fun e => ?_; cbv)
  | (refine ⟨_, _, _, hC _ _ _ _ c1, ?_⟩; cbv; clear c1)
  | (refine ⟨_, _, _, hC _ _ _ _ c2, ?_⟩; cbv; clear c2)
  | (refine ⟨_, _, _, hC _ _ _ _ c3, ?_⟩; cbv; clear c3)
theorem Ws (Z : Ad) (h : Hh) (hh : ∀ α g, h α g = g ()) (m : List UInt8) (x : qD) (e : qz) (lr : x.root.length = 32) (lf : x.file.length = 32) (hc : chk x.par = 0) (hk : qc m x.num = 0) (hw : e.way = 1) (hi : ¬ (0 <= e.idx /\ e.idx <= 1073741824)) : qb Z 38 [.pv (bH h m), .pv (qj h x), .pv (qk h e)] (.tup [.pv (lH h iP []), .pv (iH h 1)]) [.any, .any, .any] := by
 have il := qv lr lf
 have c1 := uP Z h hh m x.num x.par hc hk
 obtain ⟨z0, z1, z2⟩ := ue hc
 have z0' : 0 <= x.par.size /\ x.par.size <= 2000 := z0
 have z1' : 0 <= x.par.sent /\ x.par.sent <= 8 := z1
 have z2' : 1 <= x.par.spots /\ x.par.spots <= min 12 (blk x.par.size + x.par.sent) := z2
 have zb := xx z0'
 have c2 := ux Z h hh x.par z0' z1'
 obtain ⟨n, hn⟩ := exq (blk x.par.size + x.par.sent)
 have c3 := Wo Z h hh (qi m jw x.num) e.idx n x.par.spots (by
  rcases Int.lt_or_le e.idx 0 with q | q
  ·simp [q]
  ·have : 1073741824 < e.idx := by omega
   simp [this])
 rw [hn] at c2
 clear hi hc hk z0 z1 z2 z0' z1' z2' zb hn
 refine qh Z h hh ⟨Tryz.func38, Tryz.ntmps38⟩ rfl rfl rfl rfl rfl fun C hC => ?_
 unfold Tryz.f38
 cbv
 repeat' first
  | exact s0
  | apply And.intro
  | exact sq
  | (refine fun (_ : PUnit) => ?_; simp [hh, *, qd]; done)
  | trivial
  | (refine sz fun e => ?_; simp [hh, hw] at e <;> (try simp only [natc] at *) <;> omega)
  | (refine sy fun e => ?_; cbv)
  | (refine ⟨_, _, _, hC _ _ _ _ c1, ?_⟩; cbv; clear c1)
  | (refine ⟨_, _, _, hC _ _ _ _ c2, ?_⟩; cbv; clear c2)
  | (refine ⟨_, _, _, hC _ _ _ _ c3, ?_⟩; cbv; clear c3)
theorem VS (Z : Ad) (h : Hh) (hh : ∀ α g, h α g = g ()) (m : List UInt8) (x : qD) (e : qz) (lr : x.root.length = 32) (lf : x.file.length = 32) (hc : chk x.par = 0) (hk : qc m x.num = 0) (hw : e.way = 2) (hi : 0 <= e.idx /\ e.idx < x.par.sent) : qb Z 38 [.pv (bH h m), .pv (qj h x), .pv (qk h e)] (.tup [.pv (lH h iP [(Up m x e : Int)]), .pv (iH h 0)]) [.any, .any, .any] := by
 have il := qv lr lf
 have c1 := uP Z h hh m x.num x.par hc hk
 obtain ⟨z0, z1, z2⟩ := ue hc
 have z0' : 0 <= x.par.size /\ x.par.size <= 2000 := z0
 have z1' : 0 <= x.par.sent /\ x.par.sent <= 8 := z1
 have z2' : 1 <= x.par.spots /\ x.par.spots <= min 12 (blk x.par.size + x.par.sent) := z2
 have zb := xx z0'
 obtain ⟨i, hi'⟩ := Int.eq_ofNat_of_zero_le (a := e.idx) hi.1
 obtain ⟨D, hD⟩ := Int.eq_ofNat_of_zero_le (a := blk x.par.size) zb.1
 obtain ⟨B, hB⟩ := Int.eq_ofNat_of_zero_le (a := blk x.par.size + x.par.sent) Y44
 have c2 := UJ Z h hh m x.num x.par i B D z0' z1' hB hD Y44
 rw [show Up m x e = qH (qi m qx x.num) B (D + i) by rw [Up, hB, hD, hi']; rfl]
 obtain ⟨v, hv⟩ := exq (qH (qi m qx x.num) B (D + i))
 rw [hv] at c2 ⊢
 obtain ⟨tg, htg⟩ := exq (vo (qi m jI x.num) (v : Int) (jD (qi m qV x.num) (i : Int)))
 rw [htg] at c2
 have q0 : ¬ (i : Int) < 0 := by omega
 have q1 : ¬ x.par.sent <= (i : Int) := by omega
 clear hi hc hk z0 z1 z2 z0' z1' z2' zb hv htg hB hD
 refine qh Z h hh ⟨Tryz.func38, Tryz.ntmps38⟩ rfl rfl rfl rfl rfl fun C hC => ?_
 unfold Tryz.f38
 cbv
 repeat' first
  | exact s0
  | apply And.intro
  | exact sq
  | (refine fun (_ : PUnit) => ?_; simp [hh, *, qd]; done)
  | trivial
  | (refine sz fun e => ?_; simp [hh, hw, hi', q0, q1, qd, iP] at e <;> (try simp only [natc] at *) <;> omega)
  | (refine sy fun e => ?_; cbv)
  | (refine ⟨_, _, _, hC _ _ _ _ c1, ?_⟩; cbv; clear c1)
  | (refine ⟨_, _, _, hC _ _ _ _ c2, ?_⟩; cbv; clear c2)
theorem Wl (Z : Ad) (h : Hh) (hh : ∀ α g, h α g = g ()) (m : List UInt8) (x : qD) (e : qz) (lr : x.root.length = 32) (lf : x.file.length = 32) (hc : chk x.par = 0) (hk : qc m x.num = 0) (hw : e.way = 2) (hi : ¬ (0 <= e.idx /\ e.idx < x.par.sent)) : qb Z 38 [.pv (bH h m), .pv (qj h x), .pv (qk h e)] (.tup [.pv (lH h iP []), .pv (iH h 18)]) [.any, .any, .any] := by
 have il := qv lr lf
 have c1 := uP Z h hh m x.num x.par hc hk
 clear hc hk
 rcases Int.lt_or_le e.idx 0 with q0 | q0
 ·clear hi
  refine qh Z h hh ⟨Tryz.func38, Tryz.ntmps38⟩ rfl rfl rfl rfl rfl fun C hC => ?_
  unfold Tryz.f38
  cbv
  repeat' first
   | exact s0
   | apply And.intro
   | exact sq
   | (refine fun (_ : PUnit) => ?_; simp [hh, *, qd]; done)
   | trivial
   | (refine sz fun e => ?_; simp [hh, hw, q0] at e <;> (try simp only [natc] at *) <;> omega)
   | (refine sy fun e => ?_; cbv)
   | (refine ⟨_, _, _, hC _ _ _ _ c1, ?_⟩; cbv; clear c1)
 ·have q1 : x.par.sent <= e.idx := by omega
  have q2 : ¬ e.idx < 0 := by omega
  clear hi q0
  refine qh Z h hh ⟨Tryz.func38, Tryz.ntmps38⟩ rfl rfl rfl rfl rfl fun C hC => ?_
  unfold Tryz.f38
  cbv
  repeat' first
   | exact s0
   | apply And.intro
   | exact sq
   | (refine fun (_ : PUnit) => ?_; simp [hh, *, qd]; done)
   | trivial
   | (refine sz fun e => ?_; simp [hh, hw, q1, q2, qd, iP] at e <;> (try simp only [natc] at *) <;> omega)
   | (refine sy fun e => ?_; cbv)
   | (refine ⟨_, _, _, hC _ _ _ _ c1, ?_⟩; cbv; clear c1)
theorem VX (Z : Ad) (h : Hh) (hh : ∀ α g, h α g = g ()) (m : List UInt8) (x : qD) (e : qz) (lr : x.root.length = 32) (lf : x.file.length = 32) (hc : chk x.par = 0) (hk : qc m x.num = 0) (h1 : e.way ≠ 1) (h2 : e.way ≠ 2) : qb Z 38 [.pv (bH h m), .pv (qj h x), .pv (qk h e)] (.tup [.pv (lH h iP []), .pv (iH h 7)]) [.any, .any, .any] := by
 have il := qv lr lf
 have c1 := uP Z h hh m x.num x.par hc hk
 clear hc hk
 refine qh Z h hh ⟨Tryz.func38, Tryz.ntmps38⟩ rfl rfl rfl rfl rfl fun C hC => ?_
 unfold Tryz.f38
 cbv
 repeat' first
  | exact s0
  | apply And.intro
  | exact sq
  | (refine fun (_ : PUnit) => ?_; simp [hh, *, qd]; done)
  | trivial
  | (refine sz fun e => ?_; simp [hh, h1, h2] at e <;> (try simp only [natc] at *) <;> omega)
  | (refine sy fun e => ?_; cbv)
  | (refine ⟨_, _, _, hC _ _ _ _ c1, ?_⟩; cbv; clear c1)
end Go.Bl
namespace Go.Bl
open Go.RowKit Go.Proofs
attribute [local irreducible] qw
open Go.Proofs.YtnafknkchbfpaaaGreatDoor (Par chk blk jj jG jQ qc yB qi)
theorem qbc (m : List UInt8) (x : qD) (e : qz) (h : x.par.spots <= 12) : (vw m x e).length <= 100000 := by
 have : (vw m x e).length <= x.par.spots.toNat := by
  unfold vw VY
  rw [List.length_take]
  exact Nat.min_le_left _ _
 omega
end Go.Bl
