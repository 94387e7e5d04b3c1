import Derived.Test.YtnafknkchbfpaaaGreatDoorQB
import Derived.Test.YtnafknkchbfpaaaGreatDoorPQ
set_option linter.unusedVariables false
set_option linter.unusedSimpArgs false
set_option maxRecDepth 1000000
set_option maxHeartbeats 8000000
namespace Go.Bl
open Go.RowKit Go.Proofs
attribute [local irreducible] qH
open Go.Proofs.YtnafknkchbfpaaaGreatDoor (beK j6)
theorem Yp (Z : Ad) (h : Hh) (hh : ∀ α g, h α g = g ()) (k : List UInt8) (i : Int) (hk : k.length <= 90000000) : qo Z 142 [.pv (bH h k), .pv (iH h i)] (.pv (kH h .u64 (nI (zI (j6 k i))))) [.any, .any] := by
 obtain ⟨nb, hnb⟩ := exq (beK 8 i)
 have ln : nb.length = 8 := by rw [<- hnb]; rfl
 obtain ⟨d, hd⟩ := exq (jO k nb)
 have l3 : d.length = 32 := by rw [<- hd]; exact ut _ _
 have c1 := xS Z h hh i
 rw [hnb] at c1
 have c2 := xW Z h hh k nb hk Y66
 rw [hd] at c2
 rw [show j6 k i = d.take 8 by rw [j6, uV, hnb, hd]]
 clear hnb hd ln hk
 refine qD Z h hh ⟨Tryz.func142, Tryz.ntmps142⟩ rfl rfl rfl rfl rfl fun C hC => ?_
 unfold Tryz.f142
 cbv
 repeat' first
  | exact s0
  | apply And.intro
  | exact sq
  | trivial
  | exact sx
  | (refine sy fun e => ?_; cbv)
  | (refine ⟨_, _, _, hC _ _ _ _ c1, ?_⟩; cbv; clear c1)
  | (refine ⟨_, _, _, hC _ _ _ _ c2, ?_⟩; cbv; clear c2)
 refine ⟨Nat, fun j => ⟨[(6, some (.pv (kH h .u64 (nI (zI (d.take j)))))), (13, some (.sl 990 0 8)), (14, some (.pv (iH h 8))), (15, some (.pv (nH h j)))], [(990, some (.var 57 (h _ fun _ => d.map u8P) false))]⟩,
  fun j => j <= 8, fun j => 8 - j, 0, [], Nat.zero_le _, trivial, ⟨[(990, 5)], rfl, rfl, ⟨?_, trivial⟩, ?_, ?_, ?_, ?_, trivial⟩, ?_⟩
 ·cbv; simp [hh, l3, splice]
 ·cbv; simp [hh, zI]
 ·cbv; simp [hh]
 ·cbv; simp [hh]
 ·cbv; simp [hh]
 ·intro j hj
  cbv
  refine ⟨fun _ => rfl, fun e => ?_, fun e => ?_⟩ <;> simp only [hh, nI, decide_eq_true_eq, decide_eq_false_iff_not] at e
  ·have e' : j < 8 := jG (b := 8) e
   have e2 : j < d.length := by omega
   have hlt : zI (d.take j) < 72057594037927936 := by
    have := yE j d Y66
    have h2 : 256 ^ j <= 256 ^ 7 := Nat.pow_le_pow_right qa Y66
    omega
   have hc := d[j].toNat_lt
   have hor : IntKind.u64.wrap (IntKind.u64.wrap ((zI (d.take j) : Int) * 256) + IntKind.u64.wrap (d[j].toNat : Int)) = ((zI (d.take j) * 256 + d[j].toNat : Nat) : Int) := by
    rw [jK (x := (zI (d.take j) : Int) * 256) Y66 Y66, jK (x := (d[j].toNat : Int)) Y66 Y66, jK Y66 Y66]
    omega
   have hor := Hdq hor
   have l3p := Hdq l3
   clear hlt hc l3
   cbv
   repeat' first
    | exact s0
    | apply And.intro
    | exact sq
    | trivial
    | exact sx
    | (refine sy fun e => ?_; cbv)
   refine ⟨j + 1, e', by show 8 - (j + 1) < 8 - j; omega, [], rfl, rfl, ⟨rfl, trivial⟩, ?_, rfl, rfl, ?_, trivial⟩
   ·cbv
    exact Y60
   ·cbv
    simp [hh]
    exact qj Y66 Y66
  ·have e' : j = 8 := Nat.le_antisymm hj (jE (b := 8) e)
   subst e'
   cbv
   repeat' first
    | exact s0
    | apply And.intro
    | exact sq
    | trivial
    | exact sx
    | (refine sy fun e => ?_; cbv)
end Go.Bl
namespace Go.Bl
open Go.RowKit Go.Proofs
attribute [local irreducible] qH
open Go.Proofs.YtnafknkchbfpaaaGreatDoor (beK j6)
theorem XO (n : Nat) : xu n n = (List.range n).map fun (x : Nat) => (x : Int) := by
 refine List.map_congr_left fun x hx => ?_
 rw [if_pos (List.mem_range.1 hx)]
theorem WG (Z : Ad) (h : Hh) (hh : ∀ α g, h α g = g ()) (k : List UInt8) (r n c : Nat) (hk : k.length <= 90000000) (hr : r <= 1073741824) (hn : n <= 1024) (hc : c <= n) :
  qo Z 92 [.pv (bH h k), .pv (nH h r), .pv (nH h n), .pv (nH h c)] (.tup [.pv (lH h iP (VL k r n c)), .pv (iH h 0)]) [.any, .any, .any, .any] := by
 have hw := QC k r n
 unfold VL
 refine qD Z h hh ⟨Tryz.func92, Tryz.ntmps92⟩ rfl rfl rfl rfl rfl fun C hC => ?_
 unfold Tryz.f92
 cbv
 repeat' first
  | exact s0
  | apply And.intro
  | exact sq
  | trivial
  | exact sx
  | (refine sy fun e => ?_; cbv)
 refine ⟨Nat, fun i => ⟨[(0, some (.pv (bH h k))), (1, some (.pv (nH h r))), (2, some (.pv (nH h n))), (3, some (.pv (nH h c))), (10, some (.own 990)), (11, some (.pv (nH h i)))],
   [(990, some (.row 3 1 (h _ fun _ => (List.range i).map fun (x : Nat) => iP (x : Int)) false))]⟩,
  fun i => i <= n, fun i => n - i, 0, [], Nat.zero_le _, trivial, ⟨[(990, 38)], rfl, rfl, ⟨?_, trivial⟩, rfl, rfl, rfl, rfl, rfl, ?_, trivial⟩, ?_⟩
 ·cbv; simp [hh]
 ·cbv; simp [hh]
 ·intro i hi
  cbv
  refine ⟨fun _ => rfl, fun e => ?_, fun e => ?_⟩ <;> simp only [hh, nI, decide_eq_true_eq, decide_eq_false_iff_not] at e
  ·have e' : i < n := jG e
   cbv
   repeat' first
    | exact s0
    | apply And.intro
    | exact sq
    | trivial
    | exact sx
    | (refine sy fun e => ?_; cbv)
   refine ⟨i + 1, e', by show n - (i + 1) < n - i; omega, [(990, 47)], rfl, rfl, ⟨?_, trivial⟩, rfl, rfl, rfl, rfl, rfl, ?_, trivial⟩
   ·cbv; simp only [hh]; rw [List.range_succ]; simp
   ·cbv
    simp [hh]
    rw [qj Y66 Y66]
  ·have e' : i = n := Nat.le_antisymm hi (jE e)
   subst e'
   cbv
   repeat' first
    | exact s0
    | apply And.intro
    | exact sq
    | trivial
    | exact sx
    | (refine sy fun e => ?_; cbv)
   refine ⟨Nat, fun j => ⟨[(0, some (.pv (bH h k))), (1, some (.pv (nH h r))), (2, some (.pv (nH h i))), (3, some (.pv (nH h c))), (10, some (.own 990)), (12, some (.pv (nH h j)))],
     [(990, some (.row 3 1 (h _ fun _ => (VZ k r i j).map iP) false))]⟩,
    fun j => j <= c, fun j => c - j, 0, [], Nat.zero_le _, trivial, ⟨[], rfl, rfl, ⟨?_, trivial⟩, rfl, rfl, rfl, rfl, rfl, ?_, trivial⟩, ?_⟩
   ·cbv; simp only [hh, VZ]; rw [XO]; simp
   ·cbv; simp [hh]
   ·intro j hj
    cbv
    refine ⟨fun _ => rfl, fun e => ?_, fun e => ?_⟩ <;> simp only [hh, nI, decide_eq_true_eq, decide_eq_false_iff_not] at e
    ·have e' : j < c := jG e
     have c2 := Yp Z h hh k ((r * 1024 + j : Nat) : Int) hk
     have hq := qaQ k ((r * 1024 + j : Nat) : Int)
     obtain ⟨q, hq'⟩ : ∃ q, zI (j6 k ((r * 1024 + j : Nat) : Int)) = q := ⟨_, rfl⟩
     have hat : atN k r i j = j + q % (i - j) := by rw [atN, hq']
     rw [hq'] at hq c2
     clear hq'
     obtain ⟨g, hg⟩ := exq (r * 1024 + j)
     rw [hg] at c2
     obtain ⟨m, hm⟩ := exq (i - j)
     have hji : j < i := by omega
     have hm0 : m ≠ 0 := by omega
     rw [hm] at hat
     have hqm : q % m < m := Nat.mod_lt _ Y66
     have hw1 : IntKind.i64.wrap (IntKind.i64.wrap ((r : Int) * 1024) + j) = (g : Int) := by
      rw [qj (x := (r : Int) * 1024) Y66 Y66, qj Y66 Y66]; omega
     have hw2 : IntKind.u64.wrap (IntKind.i64.wrap ((i : Int) - j)) = (m : Int) := by
      rw [qj Y66 Y66, jK Y66 Y66]; omega
     have hw3 : IntKind.i64.wrap ((j : Int) + IntKind.i64.wrap ((q : Int).tmod m)) = (j + q % m : Nat) := by
      rw [<- Int.ofNat_tmod, qj (x := ((q % m : Nat) : Int)) Y66 Y66, qj Y66 Y66]; omega
     rw [<- hat] at hw3
     have ha : atN k r i j < i := by omega
     replace hqm := Hdq hqm
     replace hat := Hdq hat
     replace hm := Hdq hm
     replace hg := Hdq hg
     cbv
     repeat' first
      | exact s0
      | apply And.intro
      | exact sq
      | trivial
      | exact sx
      | (refine sy fun e => ?_; cbv)
      | (refine ⟨_, _, _, hC _ _ _ _ c2, ?_⟩; cbv; clear c2)
     refine ⟨j + 1, e', by show c - (j + 1) < c - j; omega, [], rfl, rfl, ⟨?_, trivial⟩, rfl, rfl, rfl, rfl, rfl, ?_, trivial⟩
     ·cbv
      simp only [hh, nI, hw2, hw3, Int.toNat_natCast, VZ, Yg]
      simp [List.map_set, hw, hji, ha]
     ·cbv
      simp [hh]
      rw [qj Y66 Y66]
    ·have e' : j = c := Nat.le_antisymm hj (jE e)
     subst e'
     cbv
     repeat' first
      | exact s0
      | apply And.intro
      | exact sq
      | trivial
      | exact sx
      | (refine sy fun e => ?_; cbv)
theorem Xg (Z : Ad) (h : Hh) (hh : ∀ α g, h α g = g ()) (k : List UInt8) (r n c : Int) (hb : (decide (r < 0) || decide (1073741824 < r) || decide (n < 0) || decide (1024 < n) || decide (c < 0) || decide (n < c)) = true) :
  qo Z 92 [.pv (bH h k), .pv (iH h r), .pv (iH h n), .pv (iH h c)] (.tup [.nil, .pv (iH h 1)]) [.any, .any, .any, .any] := by
 refine qD Z h hh ⟨Tryz.func92, Tryz.ntmps92⟩ rfl rfl rfl rfl rfl fun C hC => ?_
 unfold Tryz.f92
 cbv
 repeat' first
  | exact s0
  | apply And.intro
  | exact sq
  | trivial
  | (refine fun (e : (_ : Bool) = _) => ?_; first | (exfalso; simp [hh] at e; done) | (exfalso; simp [hh] at e; omega) | (exfalso; simp [hh] at *; omega) | (have ev := Ev.mk e; cbv))
 done
end Go.Bl
namespace Go.Bl
open Go.RowKit Go.Proofs
attribute [local irreducible] qH
open Go.Proofs.YtnafknkchbfpaaaGreatDoor (Par chk blk jh qe qp uu qI jI zZ zj je Ja vL j6)
theorem V8 (Z : Ad) (h : Hh) (hh : ∀ α g, h α g = g ()) (m : List UInt8) (x : js) (e : jf) (lr : x.root.length = 32) (lf : x.file.length = 32) (hc : chk x.par ≠ 0) : qo Z 38 [.pv (bH h m), .pv (jp h x), .pv (qZ h e)] (.tup [.pv (lH h iP []), .pv (nH h (chk x.par))]) [.any, .any, .any] := by
 have il := qE lr lf
 have c1 := Wd Z h hh m x.num x.par hc
 have nz : (chk x.par : Int) ≠ 0 := by omega
 obtain ⟨c, hc'⟩ : ∃ c, chk x.par = c := ⟨_, rfl⟩
 rw [hc'] at c1 nz ⊢
 clear hc hc'
 refine qD Z h hh ⟨Tryz.func38, Tryz.ntmps38⟩ rfl rfl rfl rfl rfl fun C hC => ?_
 unfold Tryz.f38
 cbv
 repeat' first
  | exact s0
  | apply And.intro
  | exact sq
  | (refine fun (_ : PUnit) => ?_; simp [hh, *, qy]; done)
  | trivial
  | (refine sz fun e => ?_; simp [hh, nz] at e <;> (try simp only [natc] at *) <;> omega)
  | (refine sy fun e => ?_; cbv)
  | (refine ⟨_, _, _, hC _ _ _ _ c1, ?_⟩; cbv; clear c1)
theorem Xe (Z : Ad) (h : Hh) (hh : ∀ α g, h α g = g ()) (m : List UInt8) (x : js) (e : jf) (lr : x.root.length = 32) (lf : x.file.length = 32) (hc : chk x.par = 0) (hk : qe m x.num ≠ 0) : qo Z 38 [.pv (bH h m), .pv (jp h x), .pv (qZ h e)] (.tup [.pv (lH h iP []), .pv (nH h (qe m x.num))]) [.any, .any, .any] := by
 have il := qE lr lf
 have c1 := YQ Z h hh m x.num x.par hc hk
 have nz : (qe m x.num : Int) ≠ 0 := by omega
 obtain ⟨c, hc'⟩ : ∃ c, qe m x.num = c := ⟨_, rfl⟩
 rw [hc'] at c1 nz ⊢
 clear hc hk hc'
 refine qD Z h hh ⟨Tryz.func38, Tryz.ntmps38⟩ rfl rfl rfl rfl rfl fun C hC => ?_
 unfold Tryz.f38
 cbv
 repeat' first
  | exact s0
  | apply And.intro
  | exact sq
  | (refine fun (_ : PUnit) => ?_; simp [hh, *, qy]; done)
  | trivial
  | (refine sz fun e => ?_; simp [hh, nz] at e <;> (try simp only [natc] at *) <;> omega)
  | (refine sy fun e => ?_; cbv)
  | (refine ⟨_, _, _, hC _ _ _ _ c1, ?_⟩; cbv; clear c1)
theorem Vu (Z : Ad) (h : Hh) (hh : ∀ α g, h α g = g ()) (m : List UInt8) (x : js) (e : jf) (lr : x.root.length = 32) (lf : x.file.length = 32) (hc : chk x.par = 0) (hk : qe m x.num = 0) (hw : e.way = 1) (hi : 0 <= e.idx /\ e.idx <= 1073741824) : qo Z 38 [.pv (bH h m), .pv (jp h x), .pv (qZ h e)] (.tup [.pv (lH h iP (vt m x e)), .pv (iH h 0)]) [.any, .any, .any] := by
 have il := qE lr lf
 have c1 := vK Z h hh m x.num x.par hc hk
 obtain ⟨z0, z1, z2⟩ := Qy hc
 have z0' : 0 <= x.par.size /\ x.par.size <= 2000 := z0
 have z1' : 0 <= x.par.sent /\ x.par.sent <= 8 := z1
 have z2' : 1 <= x.par.spots /\ x.par.spots <= min 12 (blk x.par.size + x.par.sent) := z2
 have zb := Qh z0'
 have c2 := vD Z h hh x.par z0' z1'
 obtain ⟨n, hn⟩ := Int.eq_ofNat_of_zero_le (a := blk x.par.size + x.par.sent) Y66
 obtain ⟨s, hs⟩ := Int.eq_ofNat_of_zero_le (a := x.par.spots) Y66
 obtain ⟨r, hr⟩ := Int.eq_ofNat_of_zero_le (a := e.idx) hi.1
 have c3 := WG Z h hh (qp m zj x.num) r n s (J0 _ _ _) Y66 Y66 Y66
 rw [show VL (qp m zj x.num) r n s = vt m x e by rw [vt, hn, hs, hr]; rfl] at c3
 obtain ⟨l, hl⟩ := exq (vt m x e)
 rw [hl] at c3 ⊢
 rw [hn] at c2
 clear hi hc hk z0 z1 z2 z0' z1' z2' zb hl hn
 refine qD Z h hh ⟨Tryz.func38, Tryz.ntmps38⟩ rfl rfl rfl rfl rfl fun C hC => ?_
 unfold Tryz.f38
 cbv
 repeat' first
  | exact s0
  | apply And.intro
  | exact sq
  | (refine fun (_ : PUnit) => ?_; simp [hh, *, qy]; done)
  | trivial
  | (refine sz fun e => ?_; simp [hh, hw] at e <;> (try simp only [natc] at *) <;> omega)
  | (refine sy fun e => ?_; cbv)
  | (refine ⟨_, _, _, hC _ _ _ _ c1, ?_⟩; cbv; clear c1)
  | (refine ⟨_, _, _, hC _ _ _ _ c2, ?_⟩; cbv; clear c2)
  | (refine ⟨_, _, _, hC _ _ _ _ c3, ?_⟩; cbv; clear c3)
theorem Xx (Z : Ad) (h : Hh) (hh : ∀ α g, h α g = g ()) (m : List UInt8) (x : js) (e : jf) (lr : x.root.length = 32) (lf : x.file.length = 32) (hc : chk x.par = 0) (hk : qe m x.num = 0) (hw : e.way = 1) (hi : ¬ (0 <= e.idx /\ e.idx <= 1073741824)) : qo Z 38 [.pv (bH h m), .pv (jp h x), .pv (qZ h e)] (.tup [.pv (lH h iP []), .pv (iH h 1)]) [.any, .any, .any] := by
 have il := qE lr lf
 have c1 := vK Z h hh m x.num x.par hc hk
 obtain ⟨z0, z1, z2⟩ := Qy hc
 have z0' : 0 <= x.par.size /\ x.par.size <= 2000 := z0
 have z1' : 0 <= x.par.sent /\ x.par.sent <= 8 := z1
 have z2' : 1 <= x.par.spots /\ x.par.spots <= min 12 (blk x.par.size + x.par.sent) := z2
 have zb := Qh z0'
 have c2 := vD Z h hh x.par z0' z1'
 obtain ⟨n, hn⟩ := exq (blk x.par.size + x.par.sent)
 have c3 := Xg Z h hh (qp m zj x.num) e.idx n x.par.spots (by
  rcases Int.lt_or_le e.idx 0 with q | q
  ·simp [q]
  ·have : 1073741824 < e.idx := by omega
   simp [this])
 rw [hn] at c2
 clear hi hc hk z0 z1 z2 z0' z1' z2' zb hn
 refine qD Z h hh ⟨Tryz.func38, Tryz.ntmps38⟩ rfl rfl rfl rfl rfl fun C hC => ?_
 unfold Tryz.f38
 cbv
 repeat' first
  | exact s0
  | apply And.intro
  | exact sq
  | (refine fun (_ : PUnit) => ?_; simp [hh, *, qy]; done)
  | trivial
  | (refine sz fun e => ?_; simp [hh, hw] at e <;> (try simp only [natc] at *) <;> omega)
  | (refine sy fun e => ?_; cbv)
  | (refine ⟨_, _, _, hC _ _ _ _ c1, ?_⟩; cbv; clear c1)
  | (refine ⟨_, _, _, hC _ _ _ _ c2, ?_⟩; cbv; clear c2)
  | (refine ⟨_, _, _, hC _ _ _ _ c3, ?_⟩; cbv; clear c3)
theorem Vm (Z : Ad) (h : Hh) (hh : ∀ α g, h α g = g ()) (m : List UInt8) (x : js) (e : jf) (lr : x.root.length = 32) (lf : x.file.length = 32) (hc : chk x.par = 0) (hk : qe m x.num = 0) (hw : e.way = 2) (hi : 0 <= e.idx /\ e.idx < x.par.sent) : qo Z 38 [.pv (bH h m), .pv (jp h x), .pv (qZ h e)] (.tup [.pv (lH h iP [(Xq m x e : Int)]), .pv (iH h 0)]) [.any, .any, .any] := by
 have il := qE lr lf
 have c1 := vK Z h hh m x.num x.par hc hk
 obtain ⟨z0, z1, z2⟩ := Qy hc
 have z0' : 0 <= x.par.size /\ x.par.size <= 2000 := z0
 have z1' : 0 <= x.par.sent /\ x.par.sent <= 8 := z1
 have z2' : 1 <= x.par.spots /\ x.par.spots <= min 12 (blk x.par.size + x.par.sent) := z2
 have zb := Qh z0'
 obtain ⟨i, hi'⟩ := Int.eq_ofNat_of_zero_le (a := e.idx) hi.1
 obtain ⟨D, hD⟩ := Int.eq_ofNat_of_zero_le (a := blk x.par.size) zb.1
 obtain ⟨B, hB⟩ := Int.eq_ofNat_of_zero_le (a := blk x.par.size + x.par.sent) Y66
 have c2 := qag Z h hh m x.num x.par i B D z0' z1' hB hD Y66
 rw [show Xq m x e = je (qp m qI x.num) B (D + i) by rw [Xq, hB, hD, hi']; rfl]
 obtain ⟨v, hv⟩ := exq (je (qp m qI x.num) B (D + i))
 rw [hv] at c2 ⊢
 obtain ⟨tg, htg⟩ := exq (vL (qp m zZ x.num) (v : Int) (j6 (qp m jI x.num) (i : Int)))
 rw [htg] at c2
 have q0 : ¬ (i : Int) < 0 := by omega
 have q1 : ¬ x.par.sent <= (i : Int) := by omega
 clear hi hc hk z0 z1 z2 z0' z1' z2' zb hv htg hB hD
 refine qD Z h hh ⟨Tryz.func38, Tryz.ntmps38⟩ rfl rfl rfl rfl rfl fun C hC => ?_
 unfold Tryz.f38
 cbv
 repeat' first
  | exact s0
  | apply And.intro
  | exact sq
  | (refine fun (_ : PUnit) => ?_; simp [hh, *, qy]; done)
  | trivial
  | (refine sz fun e => ?_; simp [hh, hw, hi', q0, q1, qy, iP] at e <;> (try simp only [natc] at *) <;> omega)
  | (refine sy fun e => ?_; cbv)
  | (refine ⟨_, _, _, hC _ _ _ _ c1, ?_⟩; cbv; clear c1)
  | (refine ⟨_, _, _, hC _ _ _ _ c2, ?_⟩; cbv; clear c2)
theorem XQ (Z : Ad) (h : Hh) (hh : ∀ α g, h α g = g ()) (m : List UInt8) (x : js) (e : jf) (lr : x.root.length = 32) (lf : x.file.length = 32) (hc : chk x.par = 0) (hk : qe m x.num = 0) (hw : e.way = 2) (hi : ¬ (0 <= e.idx /\ e.idx < x.par.sent)) : qo Z 38 [.pv (bH h m), .pv (jp h x), .pv (qZ h e)] (.tup [.pv (lH h iP []), .pv (iH h 18)]) [.any, .any, .any] := by
 have il := qE lr lf
 have c1 := vK Z h hh m x.num x.par hc hk
 clear hc hk
 rcases Int.lt_or_le e.idx 0 with q0 | q0
 ·clear hi
  refine qD Z h hh ⟨Tryz.func38, Tryz.ntmps38⟩ rfl rfl rfl rfl rfl fun C hC => ?_
  unfold Tryz.f38
  cbv
  repeat' first
   | exact s0
   | apply And.intro
   | exact sq
   | (refine fun (_ : PUnit) => ?_; simp [hh, *, qy]; done)
   | trivial
   | (refine sz fun e => ?_; simp [hh, hw, q0] at e <;> (try simp only [natc] at *) <;> omega)
   | (refine sy fun e => ?_; cbv)
   | (refine ⟨_, _, _, hC _ _ _ _ c1, ?_⟩; cbv; clear c1)
 ·have q1 : x.par.sent <= e.idx := by omega
  have q2 : ¬ e.idx < 0 := by omega
  clear hi q0
  refine qD Z h hh ⟨Tryz.func38, Tryz.ntmps38⟩ rfl rfl rfl rfl rfl fun C hC => ?_
  unfold Tryz.f38
  cbv
  repeat' first
   | exact s0
   | apply And.intro
   | exact sq
   | (refine fun (_ : PUnit) => ?_; simp [hh, *, qy]; done)
   | trivial
   | (refine sz fun e => ?_; simp [hh, hw, q1, q2, qy, iP] at e <;> (try simp only [natc] at *) <;> omega)
   | (refine sy fun e => ?_; cbv)
   | (refine ⟨_, _, _, hC _ _ _ _ c1, ?_⟩; cbv; clear c1)
theorem U7 (Z : Ad) (h : Hh) (hh : ∀ α g, h α g = g ()) (m : List UInt8) (x : js) (e : jf) (lr : x.root.length = 32) (lf : x.file.length = 32) (hc : chk x.par = 0) (hk : qe m x.num = 0) (h1 : e.way ≠ 1) (h2 : e.way ≠ 2) : qo Z 38 [.pv (bH h m), .pv (jp h x), .pv (qZ h e)] (.tup [.pv (lH h iP []), .pv (iH h 7)]) [.any, .any, .any] := by
 have il := qE lr lf
 have c1 := vK Z h hh m x.num x.par hc hk
 clear hc hk
 refine qD Z h hh ⟨Tryz.func38, Tryz.ntmps38⟩ rfl rfl rfl rfl rfl fun C hC => ?_
 unfold Tryz.f38
 cbv
 repeat' first
  | exact s0
  | apply And.intro
  | exact sq
  | (refine fun (_ : PUnit) => ?_; simp [hh, *, qy]; done)
  | trivial
  | (refine sz fun e => ?_; simp [hh, h1, h2] at e <;> (try simp only [natc] at *) <;> omega)
  | (refine sy fun e => ?_; cbv)
  | (refine ⟨_, _, _, hC _ _ _ _ c1, ?_⟩; cbv; clear c1)
end Go.Bl
namespace Go.Bl
open Go.RowKit Go.Proofs
attribute [local irreducible] qH
open Go.Proofs.YtnafknkchbfpaaaGreatDoor (Par chk blk jh jV j7 qe UV qp)
theorem Z3 (Z : Ad) (h : Hh) (hh : ∀ α g, h α g = g ()) (a : yg) (o : a.Ok) (c1 : qo Z 36 [.pv (JO h a)] (.pv (tH h true)) [.any]) : qo Z 7 [.pv (JO h a)] (.pv (.v (.bool true))) [.any] := by
 have c0 := vv Z h hh
 have al := xp o
 have g1 := zy o
 have i1 := QF o
 have i2 := yr o
 have g5 : ∀ q : 77 < (ji a).length, (ji a)[77]'q = iP a.e.id := fun q => by
  exact Y22
 have i3 : List.take 76 (ji a).tail = qy a.x := by rw [<- List.drop_one]; exact i1
 have g0 : ∀ q : 0 < (ji a).length, (ji a)[0]'q = bP a.m := fun _ => rfl
 have g3 : ∀ q : 1 < (ji a).length, (ji a)[1]'q = iP a.x.num := fun _ => rfl
 refine qD Z h hh ⟨Tryz.func7, Tryz.ntmps7⟩ rfl rfl rfl rfl rfl fun C hC => ?_
 unfold Tryz.f7
 cbv
 repeat' first
  | exact s0
  | apply And.intro
  | exact sq
  | (refine fun (_ : PUnit) => ?_; simp [hh, *, zn, qy, entryL, iP, Uh]; done)
  | trivial
  | exact sx
  | (refine sy fun e => ?_; cbv)
  | (refine ⟨_, _, _, hC _ _ _ _ c0, ?_⟩; cbv; clear c0)
  | (refine ⟨_, _, _, hC _ _ _ _ c1, ?_⟩; cbv; clear c1)
theorem JS (Z : Ad) (h : Hh) (hh : ∀ α g, h α g = g ()) (a : yg) (o : a.Ok) (hs : qo Z 36 [.pv (JO h a)] (.pv (tH h false)) [.any]) (k : Nat) (k0 : k ≠ 0) (k1 : k <= 20) (c37 : qo Z 37 [.pv (bH h a.m), .pv (jp h a.x), .pv (qZ h a.e)] (.tup [.pv (lH h iP []), .pv (jw Z k)]) [.any, .any, .any]) (c38 : qo Z 38 [.pv (bH h a.m), .pv (jp h a.x), .pv (qZ h a.e)] (.tup [.pv (lH h iP []), .pv (nH h (k))]) [.any, .any, .any]) : qo Z 7 [.pv (JO h a)] (.pv (.v (.bool true))) [.any] := by
 have c0 := vv Z h hh
 have c39 := ZV Z h hh a.x o.lr o.lf
 have c40 := XI Z h hh a.m a.x a.e o.lr o.lf k c37
 have c15 : qo Z 15 [.pv (jw Z k)] (.pv (nH h (k))) [.any] := by
  have := Ky Z h hh k k1
  rwa [qbr, if_neg k0] at this
 have d15 := c15
 have c41 := yJ Z h hh [] qa
 have c42 := Zy Z h hh
 have al := xp o
 have g1 := zy o
 have i1 := QF o
 have i2 := yr o
 have g5 : ∀ q : 77 < (ji a).length, (ji a)[77]'q = iP a.e.id := fun q => by
  exact Y22
 have i3 : List.take 76 (ji a).tail = qy a.x := by rw [<- List.drop_one]; exact i1
 have g0 : ∀ q : 0 < (ji a).length, (ji a)[0]'q = bP a.m := fun _ => rfl
 have g3 : ∀ q : 1 < (ji a).length, (ji a)[1]'q = iP a.x.num := fun _ => rfl
 obtain ⟨K, hK⟩ := exq (k)
 rw [hK] at c38 c15 k0
 have nz : (K : Int) ≠ 0 := by omega
 refine qD Z h hh ⟨Tryz.func7, Tryz.ntmps7⟩ rfl rfl rfl rfl rfl fun C hC => ?_
 unfold Tryz.f7
 cbv
 repeat' first
  | exact s0
  | apply And.intro
  | exact sq
  | (refine fun (_ : PUnit) => ?_; simp [hh, *, zn, qy, entryL, iP, Uh]; done)
  | trivial
  | (refine sz fun e => ?_; simp [hh, nz] at e <;> (try simp only [natc] at *) <;> omega)
  | (refine sy fun e => ?_; cbv)
  | (refine ⟨_, _, _, hC _ _ _ _ c0, ?_⟩; cbv; clear c0)
  | (refine ⟨_, _, _, hC _ _ _ _ hs, ?_⟩; cbv; clear hs)
  | (refine ⟨_, _, _, hC _ _ _ _ c37, ?_⟩; cbv; clear c37)
  | (refine ⟨_, _, _, hC _ _ _ _ c39, ?_⟩; cbv; clear c39)
  | (refine ⟨_, _, _, hC _ _ _ _ c38, ?_⟩; cbv; clear c38)
  | (refine ⟨_, _, _, hC _ _ _ _ c40, ?_⟩; cbv; clear c40)
  | (refine ⟨_, _, _, hC _ _ _ _ c15, ?_⟩; cbv; clear c15)
  | (refine ⟨_, _, _, hC _ _ _ _ c41, ?_⟩; cbv; clear c41)
  | (refine ⟨_, _, _, hC _ _ _ _ d15, ?_⟩; cbv; clear d15)
  | (refine ⟨_, _, _, hC _ _ _ _ c42, ?_⟩; cbv; clear c42)
theorem qeA (Z : Ad) (h : Hh) (hh : ∀ α g, h α g = g ()) (a : yg) (o : a.Ok) (hs : qo Z 36 [.pv (JO h a)] (.pv (tH h false)) [.any]) (j : Nat) (k0 : jV j ≠ 0) (c37 : qo Z 37 [.pv (bH h a.m), .pv (jp h a.x), .pv (qZ h a.e)] (.tup [.pv (lH h iP []), .pv (wrP h Z a.x.par j)]) [.any, .any, .any]) (c38 : qo Z 38 [.pv (bH h a.m), .pv (jp h a.x), .pv (qZ h a.e)] (.tup [.pv (lH h iP []), .pv (nH h (jV j))]) [.any, .any, .any]) : qo Z 7 [.pv (JO h a)] (.pv (.v (.bool true))) [.any] := by
 have c0 := vv Z h hh
 have c39 := ZV Z h hh a.x o.lr o.lf
 have c40 := Xc Z h hh a.m a.x a.e o.lr o.lf j c37
 have c15 : qo Z 15 [.pv (wrP h Z a.x.par j)] (.pv (nH h (jV j))) [.any] := qbu Z h hh a.x.par j
 have d15 := c15
 have c41 := yJ Z h hh [] qa
 have c42 := Zy Z h hh
 have al := xp o
 have g1 := zy o
 have i1 := QF o
 have i2 := yr o
 have g5 : ∀ q : 77 < (ji a).length, (ji a)[77]'q = iP a.e.id := fun q => by
  exact Y22
 have i3 : List.take 76 (ji a).tail = qy a.x := by rw [<- List.drop_one]; exact i1
 have g0 : ∀ q : 0 < (ji a).length, (ji a)[0]'q = bP a.m := fun _ => rfl
 have g3 : ∀ q : 1 < (ji a).length, (ji a)[1]'q = iP a.x.num := fun _ => rfl
 obtain ⟨K, hK⟩ := exq (jV j)
 rw [hK] at c38 c15 k0
 have nz : (K : Int) ≠ 0 := by omega
 refine qD Z h hh ⟨Tryz.func7, Tryz.ntmps7⟩ rfl rfl rfl rfl rfl fun C hC => ?_
 unfold Tryz.f7
 cbv
 repeat' first
  | exact s0
  | apply And.intro
  | exact sq
  | (refine fun (_ : PUnit) => ?_; simp [hh, *, zn, qy, entryL, iP, Uh]; done)
  | trivial
  | (refine sz fun e => ?_; simp [hh, nz] at e <;> (try simp only [natc] at *) <;> omega)
  | (refine sy fun e => ?_; cbv)
  | (refine ⟨_, _, _, hC _ _ _ _ c0, ?_⟩; cbv; clear c0)
  | (refine ⟨_, _, _, hC _ _ _ _ hs, ?_⟩; cbv; clear hs)
  | (refine ⟨_, _, _, hC _ _ _ _ c37, ?_⟩; cbv; clear c37)
  | (refine ⟨_, _, _, hC _ _ _ _ c39, ?_⟩; cbv; clear c39)
  | (refine ⟨_, _, _, hC _ _ _ _ c38, ?_⟩; cbv; clear c38)
  | (refine ⟨_, _, _, hC _ _ _ _ c40, ?_⟩; cbv; clear c40)
  | (refine ⟨_, _, _, hC _ _ _ _ c15, ?_⟩; cbv; clear c15)
  | (refine ⟨_, _, _, hC _ _ _ _ c41, ?_⟩; cbv; clear c41)
  | (refine ⟨_, _, _, hC _ _ _ _ d15, ?_⟩; cbv; clear d15)
  | (refine ⟨_, _, _, hC _ _ _ _ c42, ?_⟩; cbv; clear c42)
theorem qbU (Z : Ad) (h : Hh) (hh : ∀ α g, h α g = g ()) (a : yg) (o : a.Ok) (hs : qo Z 36 [.pv (JO h a)] (.pv (tH h false)) [.any]) (l : List Int) (ll : l.length <= 100000) (c37 : qo Z 37 [.pv (bH h a.m), .pv (jp h a.x), .pv (qZ h a.e)] (.tup [.pv (lH h iP l), .pv (.v .nilIface)]) [.any, .any, .any]) (c38 : qo Z 38 [.pv (bH h a.m), .pv (jp h a.x), .pv (qZ h a.e)] (.tup [.pv (lH h iP l), .pv (iH h 0)]) [.any, .any, .any]) : qo Z 7 [.pv (JO h a)] (.pv (.v (.bool true))) [.any] := by
 have c0 := vv Z h hh
 have c39 := ZV Z h hh a.x o.lr o.lf
 have c40 := YS Z h hh a.m a.x a.e o.lr o.lf l c37
 have c15 : qo Z 15 [.pv (.v .nilIface)] (.pv (nH h 0)) [.any] := Ky Z h hh 0 qa
 have d15 := c15
 have c41 := yJ Z h hh l ll
 have c44 := qdp Z h hh (Uh a.x a.e l) rfl
 have c43 := L0 Z h hh (Uh a.x a.e l) rfl rfl ll
 have al := xp o
 have g1 := zy o
 have i1 := QF o
 have i2 := yr o
 have g5 : ∀ q : 77 < (ji a).length, (ji a)[77]'q = iP a.e.id := fun q => by
  exact Y22
 have i3 : List.take 76 (ji a).tail = qy a.x := by rw [<- List.drop_one]; exact i1
 have g0 : ∀ q : 0 < (ji a).length, (ji a)[0]'q = bP a.m := fun _ => rfl
 have g3 : ∀ q : 1 < (ji a).length, (ji a)[1]'q = iP a.x.num := fun _ => rfl
 refine qD Z h hh ⟨Tryz.func7, Tryz.ntmps7⟩ rfl rfl rfl rfl rfl fun C hC => ?_
 unfold Tryz.f7
 cbv
 repeat' first
  | exact s0
  | apply And.intro
  | exact sq
  | (refine fun (_ : PUnit) => ?_; simp [hh, *, zn, qy, entryL, iP, Uh]; done)
  | trivial
  | exact sx
  | (refine sy fun e => ?_; cbv)
  | (refine ⟨_, _, _, hC _ _ _ _ c0, ?_⟩; cbv; clear c0)
  | (refine ⟨_, _, _, hC _ _ _ _ hs, ?_⟩; cbv; clear hs)
  | (refine ⟨_, _, _, hC _ _ _ _ c37, ?_⟩; cbv; clear c37)
  | (refine ⟨_, _, _, hC _ _ _ _ c39, ?_⟩; cbv; clear c39)
  | (refine ⟨_, _, _, hC _ _ _ _ c38, ?_⟩; cbv; clear c38)
  | (refine ⟨_, _, _, hC _ _ _ _ c40, ?_⟩; cbv; clear c40)
  | (refine ⟨_, _, _, hC _ _ _ _ c15, ?_⟩; cbv; clear c15)
  | (refine ⟨_, _, _, hC _ _ _ _ c41, ?_⟩; cbv; clear c41)
  | (refine ⟨_, _, _, hC _ _ _ _ d15, ?_⟩; cbv; clear d15)
  | (refine ⟨_, _, _, hC _ _ _ _ c44, ?_⟩; cbv; clear c44)
  | (refine ⟨_, _, _, hC _ _ _ _ c43, ?_⟩; cbv; clear c43)
theorem qac (m : List UInt8) (x : js) (e : jf) (h : x.par.spots <= 12) : (vt m x e).length <= 100000 := by
 have : (vt m x e).length <= x.par.spots.toNat := by
  unfold vt VL
  rw [List.length_take]
  exact Nat.min_le_left _ _
 omega
theorem qde (Z : Ad) (h : Hh) (hh : ∀ α g, h α g = g ()) (a : yg) (o : a.Ok) : qo Z 7 [.pv (JO h a)] (.pv (.v (.bool true))) [.any] := by
 by_cases n1 : (100 : Int) < (a.m.length : Int)
 ·have c1 := qbD Z h hh a o n1
  exact Z3 Z h hh a o (by simpa only [tH, hh] using c1)
 by_cases n2 : (100 : Int) < (a.x.name.size : Int)
 ·have c1 := qbo Z h hh a o n1 n2
  exact Z3 Z h hh a o (by simpa only [tH, hh] using c1)
 have hs := qbH Z h hh a o n1 n2
 cases hl : uY a.l with
 | true => rw [hl] at hs; exact Z3 Z h hh a o hs
 | false =>
 rw [hl] at hs
 rcases qaw Z h hh a.x.par with ⟨hc, -⟩ | ⟨j, -, hj, hz, c0⟩
 ·by_cases hk : qe a.m a.x.num = 0
  ·have z2' : 1 <= a.x.par.spots /\ a.x.par.spots <= min 12 (blk a.x.par.size + a.x.par.sent) := (Qy hc).2.2
   by_cases w1 : a.e.way = 1
   ·by_cases hi : 0 <= a.e.idx /\ a.e.idx <= 1073741824
    ·exact qbU Z h hh a o hs _ (qac _ _ _ Y66) (JL Z h hh a.m a.x a.e o.lr o.lf hc hk w1 hi) (Vu Z h hh a.m a.x a.e o.lr o.lf hc hk w1 hi)
    ·exact JS Z h hh a o hs 1 qa qa (YO Z h hh a.m a.x a.e o.lr o.lf hc hk w1 hi) (Xx Z h hh a.m a.x a.e o.lr o.lf hc hk w1 hi)
   by_cases w2 : a.e.way = 2
   ·by_cases hi : 0 <= a.e.idx /\ a.e.idx < a.x.par.sent
    ·exact qbU Z h hh a o hs _ qc (Xo Z h hh a.m a.x a.e o.lr o.lf hc hk w2 hi) (Vm Z h hh a.m a.x a.e o.lr o.lf hc hk w2 hi)
    ·exact JS Z h hh a o hs 18 qa qa (WD Z h hh a.m a.x a.e o.lr o.lf hc hk w2 hi) (XQ Z h hh a.m a.x a.e o.lr o.lf hc hk w2 hi)
   exact JS Z h hh a o hs 7 qa qa (V9 Z h hh a.m a.x a.e o.lr o.lf hc hk w1 w2) (U7 Z h hh a.m a.x a.e o.lr o.lf hc hk w1 w2)
  ·exact JS Z h hh a o hs _ hk (UV _ _) (W6 Z h hh a.m a.x a.e o.lr o.lf hc hk) (Xe Z h hh a.m a.x a.e o.lr o.lf hc hk)
 ·have c38 := V8 Z h hh a.m a.x a.e o.lr o.lf hz
  rw [hj] at c38 hz
  exact qeA Z h hh a o hs j hz (Wq Z h hh a.m a.x a.e o.lr o.lf j c0) c38
end Go.Bl
