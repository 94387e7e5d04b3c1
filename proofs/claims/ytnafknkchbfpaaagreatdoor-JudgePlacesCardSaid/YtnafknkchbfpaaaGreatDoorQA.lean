import Derived.Test.YtnafknkchbfpaaaGreatDoorHH
import Derived.Test.YtnafknkchbfpaaaGreatDoorPN
set_option linter.unusedVariables false
set_option linter.unusedSimpArgs false
set_option maxRecDepth 1000000
set_option maxHeartbeats 8000000
namespace Go.Bl
open Go.RowKit Go.Proofs Go.Proofs.YtnafknkchbfpaaaGreatDoor
variable {A : Nat -> Prop} {w : World}
theorem YP {Z : Ad} (h : Env (gZ Z) A w) : RG w := by
 have hk : KAt 21 w := fun i hi => by
  exact Y32
 refine ⟨fun j v hv => ?_, hk, ?_⟩
 ·have hj : j < (zo.l.map u32v).length := by
   rcases Nat.lt_or_ge j (zo.l.map u32v).length with h9 | h9
   ·exact h9
   ·rw [List.getElem?_eq_none h9] at hv; cases hv
  rw [Nat.zero_add, env_cell h (xs := zo.l.map u32v) rfl j hj, List.getD_eq_getElem?_getD, hv]
  rfl
 ·have := hk 0 qa
  rcases Nat.lt_or_ge 21 w.heap.size with h | h
  ·exact h
  ·unfold World.cell? at this
   rw [Array.getElem?_eq_none h] at this
   cases this
end Go.Bl
namespace Go.Bl
open Go.RowKit Go.Proofs
attribute [local irreducible] qH
theorem Zz (Z : Ad) (h : Hh) (hh : ∀ α g, h α g = g ()) (m : List UInt8) (hm : m.length <= 100000000) : qo Z 31 [.pv (bH h m)] (.pv (aH h u8P (qH m))) [.any] := by
 simp only [bH, lH, aH, hh]
 refine KB Tryz.func31 rfl rfl (fun A w => qce _) fun A w u hA he hr => ?_
 exact Go.Proofs.YtnafknkchbfpaaaGreatDoor.rof_any w u m (uf hr) (YP he).f (YP he).k (YP he).g hm
theorem Kz (x c : UInt8) {n : Int} (hn : n = (c.toNat : Int)) : yY .xor .u8 (x.toNat : Int) n = ((x ^^^ c).toNat : Int) := by rw [hn]; exact qbR x c
theorem xW (Z : Ad) (h : Hh) (hh : ∀ α g, h α g = g ()) (k m : List UInt8) (hk : k.length <= 90000000) (hm : m.length <= 90000000) : qo Z 102 [.pv (bH h k), .pv (bH h m)] (.pv (aH h u8P (jO k m))) [.any, .any] := by
 have lq := Xp k
 obtain ⟨q, hq⟩ := exq (ZG k)
 have c0 := Zz Z h hh k Y66
 refine qeG [17] Z h hh ⟨Tryz.func102, Tryz.ntmps102⟩ rfl rfl rfl rfl rfl fun C hC => ?_
 unfold Tryz.f102
 cbv
 repeat' first
  | exact s0
  | apply And.intro
  | exact sq
  | trivial
  | exact sx
  | (refine sy fun e => ?_; cbv)
 refine ⟨Unit, fun _ => ⟨[(1, some (.pv (bH h m))), (4, some (.ref 991 0 0)), (5, some (.own 990))], [(990, some (.row 5 1 (h _ fun _ => (q).map u8P) false)), (991, some (.var 57 (h _ fun _ => List.replicate 32 (u8P 0)) false))]⟩, fun _ => True, ?_, fun _ _ => ?_⟩
 repeat' first
  | exact s0
  | apply And.intro
  | exact sq
  | trivial
  | (refine fun (e : (_ : Bool) = _) => ?_; first | (exfalso; simp [hh] at e; done) | (exfalso; simp [hh] at e; (try simp only [natc] at *); omega) | (have ev := Ev.mk e; (try simp only [hh, nI, decide_eq_true_eq, decide_eq_false_iff_not, Bool.not_eq_true, beq_iff_eq, beq_eq_false_iff_ne, bne_iff_ne, natc] at e); cbv))
  | (exfalso; (try simp only [natc] at *); omega)
 ·have n1 : 64 < k.length := jG (a := 64) (by simpa using e)
  clear e
  repeat' first
   | exact s0
   | apply And.intro
   | exact sq
   | trivial
   | exact sx
   | (refine sy fun e => ?_; cbv)
   | (refine ⟨_, _, _, hC _ _ _ _ c0, ?_⟩; cbv; clear c0)
  refine ⟨(), trivial, [(990, 22), (991, 4)], rfl, rfl, ⟨?_, ?_, trivial⟩, rfl, rfl, rfl, trivial⟩
  ·cbv
   simp [hh, <- hq, ZG, n1]
  ·exact sp
 ·have n1 : ¬ 64 < k.length := Nat.not_lt.2 (jE (a := 64) (by simpa using e))
  clear e
  refine ⟨(), trivial, [(990, 14), (991, 4)], rfl, rfl, ⟨?_, ?_, trivial⟩, rfl, rfl, rfl, trivial⟩
  ·cbv
   simp [hh, <- hq, ZG, n1]
  ·exact sp
 ·clear c0
  have hp : q ++ List.replicate (64 - q.length) 0 = xV k := by rw [xV, hq]
  have lp := Zu k
  rw [hq] at lq
  have em : jO k m = qH ((xV k).map (· ^^^ 92) ++ qH ((xV k).map (· ^^^ 54) ++ m)) := rfl
  rw [em]
  clear hq em
  obtain ⟨pk, hpk⟩ := exq (xV k)
  rw [hpk] at hp lp ⊢
  clear hpk
  have c1 := Zz Z h hh (pk.map (· ^^^ 54) ++ m) Y69
  have c2 := Zz Z h hh (pk.map (· ^^^ 92) ++ qH (pk.map (· ^^^ 54) ++ m)) Y69
  have lx : ∀ c : UInt8, (pk.map (· ^^^ c)).length = 64 := fun c => by simp [lp]
  replace hp := Hdq hp
  cbv
  refine ⟨Nat, fun j => ⟨[(1, some (.pv (bH h m))), (4, some (.ref 991 0 0)), (5, some (.own 990))], [(990, some (.row 5 1 (h _ fun _ => (q ++ List.replicate j 0).map u8P) false)), (991, some (.var 57 (h _ fun _ => List.replicate 32 (u8P 0)) false))]⟩, fun j => j <= (64 - q.length), fun j => (64 - q.length) - j, 0, [], by omega, trivial, ⟨[], rfl, rfl, ⟨?_, ?_, trivial⟩, ?_, ?_, ?_, trivial⟩, ?_⟩
  ·exact sp
  ·exact sp
  ·exact sp
  ·exact sp
  ·exact sp
  intro j hj
  dsimp only
  cbv
  repeat' first
   | exact s0
   | apply And.intro
   | exact sq
   | trivial
   | (refine fun (e : (_ : Bool) = _) => ?_; first | (exfalso; simp [hh] at e; done) | (exfalso; simp [hh] at e; (try simp only [natc] at *); omega) | (have ev := Ev.mk e; (try simp only [hh, nI, decide_eq_true_eq, decide_eq_false_iff_not, Bool.not_eq_true, beq_iff_eq, beq_eq_false_iff_ne, bne_iff_ne, natc] at e); cbv))
   | (exfalso; (try simp only [natc] at *); omega)
  ·have e' : j < 64 - q.length := by
    have : ((q.length + j : Nat) : Int) < 64 := by simpa using e
    omega
   refine ⟨j + 1, by omega, by show (64 - q.length) - (j + 1) < (64 - q.length) - j; omega, ⟨[(990, 28)], rfl, rfl, ⟨?_, ?_, trivial⟩, ?_, ?_, ?_, trivial⟩⟩
   ·cbv; simp only [hh]; rw [List.replicate_succ']; simp
   ·exact sp
   ·exact sp
   ·exact sp
   ·exact sp
  ·have e' : j = 64 - q.length := by
    have : (64 : Int) <= ((q.length + j : Nat) : Int) := by simpa using e
    omega
   subst e'
   rw [hp.out]
   clear e
   refine ⟨Nat, fun i => ⟨[(1, some (.pv (bH h m))), (4, some (.ref 991 0 0)), (7, some (.own 992)), (8, some (.own 993)), (31, some (.own 990)), (32, some (.pv (nH h 64))), (33, some (.pv (nH h i)))], [(990, some (.row 5 1 (h _ fun _ => pk.map u8P) false)), (991, some (.var 57 (h _ fun _ => List.replicate 32 (u8P 0)) false)), (992, some (.row 5 1 (h _ fun _ => ((pk.take i).map (· ^^^ 54)).map u8P) false)), (993, some (.row 5 1 (h _ fun _ => ((pk.take i).map (· ^^^ 92)).map u8P) false))]⟩, fun i => i <= 64, fun i => 64 - i, 0, [], by omega, trivial, ⟨[(992, 29), (993, 30)], rfl, rfl, ⟨?_, ?_, ?_, ?_, trivial⟩, ?_, ?_, ?_, ?_, ?_, ?_, ?_, trivial⟩, ?_⟩
   ·exact sp
   ·exact sp
   ·exact sp
   ·exact sp
   ·exact sp
   ·exact sp
   ·exact sp
   ·exact sp
   ·exact sp
   ·exact sp
   ·exact sp
   intro i hi
   dsimp only
   cbv
   refine ⟨fun _ => rfl, fun e => ?_, fun e => ?_⟩ <;> simp only [hh, nI, decide_eq_true_eq, decide_eq_false_iff_not, natc] at e
   ·have e' : i < 64 := jG e
    have ei : i < pk.length := by omega
    have x1 : yY .xor .u8 (pk[i].toNat : Int) 54 = ((pk[i] ^^^ 54).toNat : Int) := Kz _ _ rfl
    have x2 : yY .xor .u8 (pk[i].toNat : Int) 92 = ((pk[i] ^^^ 92).toNat : Int) := Kz _ _ rfl
    cbv
    repeat' first
     | exact s0
     | apply And.intro
     | exact sq
     | trivial
     | exact sx
     | (refine sy fun e => ?_; cbv)
    refine ⟨i + 1, by omega, by show 64 - (i + 1) < 64 - i; omega, ⟨[(992, 41), (993, 46)], rfl, rfl, ⟨?_, ?_, ?_, ?_, trivial⟩, ?_, ?_, ?_, ?_, ?_, ?_, ?_, trivial⟩⟩
    ·exact sp
    ·exact sp
    ·cbv
     simp [hh, ei]
     rw [List.take_succ_eq_append_getElem (by simpa using ei)]
     simpa [u8P, u8v] using x1
    ·cbv
     simp [hh, ei]
     rw [List.take_succ_eq_append_getElem (by simpa using ei)]
     simpa [u8P, u8v] using x2
    ·exact sp
    ·exact sp
    ·exact sp
    ·exact sp
    ·exact sp
    ·exact sp
    ·exact sp
   ·have e' : i = 64 := Nat.le_antisymm hi (jE (b := 64) e)
    subst e'
    have tk : pk.take 64 = pk := List.take_of_length_le Y66
    rw [tk]
    clear tk
    cbv
    repeat' first
     | exact s0
     | apply And.intro
     | exact sq
     | trivial
     | exact sx
     | (refine sy fun e => ?_; cbv)
     | (refine ⟨_, _, _, hC _ _ _ _ c1, ?_⟩; cbv; clear c1)
     | (refine ⟨_, _, _, hC _ _ _ _ c2, ?_⟩; cbv; clear c2)
end Go.Bl
namespace Go.Bl
open Go.RowKit Go.Proofs
attribute [local irreducible] qH
open Go.Proofs.YtnafknkchbfpaaaGreatDoor (beK b8 zN Wg KE XC qp qe uu qI jI zZ zj xi xm Jd)
theorem qbv (Z : Ad) (h : Hh) (hh : ∀ α g, h α g = g ()) (k m : List UInt8) (hk : k.length <= 90000000) (hm : m.length <= 90000000) : qo Z 61 [.pv (bH h k), .pv (bH h m)] (.own 5 1 (h _ fun _ => (uV k m).map u8P)) [.any, .any] := by
 obtain ⟨d, hd⟩ := exq (jO k m)
 have l3 : d.length = 32 := by rw [<- hd]; exact ut _ _
 have c1 := xW Z h hh k m hk hm
 rw [hd] at c1
 rw [uV, hd]
 clear hd hk hm
 refine qD Z h hh ⟨Tryz.func61, Tryz.ntmps61⟩ rfl rfl rfl rfl rfl fun C hC => ?_
 unfold Tryz.f61
 cbv
 repeat' first
  | exact s0
  | apply And.intro
  | exact sq
  | trivial
  | exact sx
  | (refine sy fun e => ?_; cbv)
  | (refine ⟨_, _, _, hC _ _ _ _ c1, ?_⟩; cbv; clear c1)
def XT (n : Int) (t : Nat) : List UInt8 := List.replicate (8 - t) 0 ++ (beK 8 n).drop (8 - t)
theorem qcj (n : Int) (t : Nat) (h : t <= 8) : (XT n t).length = 8 := by
 rw [XT, List.length_append, List.length_replicate, List.length_drop, zN]; omega
theorem qaC (n : Int) (t : Nat) (h : t < 8) : (XT n t).set (7 - t) (b8 (n / (256 ^ t : Nat))) = XT n (t + 1) := by
 have : t = 0 ∨ t = 1 ∨ t = 2 ∨ t = 3 ∨ t = 4 ∨ t = 5 ∨ t = 6 ∨ t = 7 := by omega
 rcases this with rfl | rfl | rfl | rfl | rfl | rfl | rfl | rfl <;> rfl
theorem xS (Z : Ad) (h : Hh) (hh : ∀ α g, h α g = g ()) (n : Int) : qo Z 62 [.pv (iH h n)] (.own 5 1 (h _ fun _ => (beK 8 n).map u8P)) [.any] := by
 obtain ⟨X, hX⟩ := exq (n % 18446744073709551616)
 have hXb : 0 <= X /\ X < 18446744073709551616 := by omega
 have hcv : IntKind.u64.wrap n = X := by rw [<- hX]; simp [IntKind.wrap, IntKind.signed, IntKind.bits]
 replace hX := Hdq hX
 refine qD Z h hh ⟨Tryz.func62, Tryz.ntmps62⟩ rfl rfl rfl rfl rfl fun C hC => ?_
 unfold Tryz.f62
 cbv
 repeat' first
  | exact s0
  | apply And.intro
  | exact sq
  | trivial
  | exact sx
  | (refine sy fun e => ?_; cbv)
 refine ⟨Nat, fun t => ⟨[(3, some (.own 990)), (4, some (.pv (kH h .u64 (X / (256 ^ t : Nat))))), (5, some (.pv (iH h (7 - (t : Int)))))], [(990, some (.row 5 1 (h _ fun _ => (XT n t).map u8P) false))]⟩, fun t => t <= 8, fun t => 8 - t, 0, [], by omega, trivial, ⟨[(990, 6)], rfl, rfl, ⟨?_, trivial⟩, ?_, ?_, ?_, trivial⟩, ?_⟩
 ·exact sp
 ·exact sp
 ·exact sp
 ·exact sp
 intro t ht
 dsimp only
 by_cases h8 : t < 8
 ·obtain ⟨V, hV⟩ := exq (X / (256 ^ t : Nat))
  have hp : (0 : Int) < ((256 ^ t : Nat) : Int) := by exact_mod_cast Nat.pow_pos qa
  have hV0 : 0 <= V := by rw [<- hV]; exact Int.ediv_nonneg hXb.1 (Int.le_of_lt hp)
  have hV1 : V < 18446744073709551616 := by rw [<- hV]; exact Int.lt_of_le_of_lt (Int.ediv_le_self _ hXb.1) hXb.2
  obtain ⟨c, hc⟩ := exq (b8 (n / (256 ^ t : Nat)))
  have hvc : V % 256 = (c.toNat : Int) := by rw [<- hc, Wg, <- hV, <- hX.out]; exact KE n t Y66
  have hvd : IntKind.u8.wrap (V.tmod 256) = (c.toNat : Int) := by
   rw [Int.tmod_eq_emod_of_nonneg hV0, hvc, Kg Y66 (by have := c.toNat_lt; omega)]
  have hq : IntKind.u64.wrap (V.tdiv 256) = X / (256 ^ (t + 1) : Nat) := by
   rw [Int.tdiv_eq_ediv_of_nonneg hV0, jK Y66 Y66, <- hV, XC]
  have hs : (XT n t).set (7 - t) c = XT n (t + 1) := by rw [<- hc]; exact qaC n t h8
  have hn7 : ((7 : Int) - t).toNat = 7 - t := by omega
  have hl := qcj n t ht
  have hw : IntKind.i64.wrap (7 - (t : Int) - 1) = 7 - ((t + 1 : Nat) : Int) := by rw [qj Y66 Y66]; omega
  have hge : decide ((7 : Int) - (t : Int) ≥ 0) = true := by simp; omega
  rw [hV]
  replace hV := Hdq hV
  replace hc := Hdq hc
  clear hvc hp
  cbv
  repeat' first
   | exact s0
   | apply And.intro
   | exact sq
   | trivial
   | (refine sz fun e => ?_; simp [hh, hge] at e <;> (try simp only [natc] at *) <;> omega)
   | (refine sy fun e => ?_; cbv)
  refine ⟨t + 1, by omega, by show 8 - (t + 1) < 8 - t; omega, ⟨[], rfl, rfl, ⟨?_, trivial⟩, ?_, ?_, ?_, trivial⟩⟩
  ·cbv; simp only [hh, hn7, hvd]; rw [<- hs]; simp [List.map_set, u8P, u8v]
  ·exact sp
  ·cbv; simp only [hh, hq]
  ·cbv; simp only [hh, hw]
 ·have e8 : t = 8 := by omega
  subst e8
  rw [show XT n 8 = beK 8 n from rfl]
  cbv
  repeat' first
   | exact s0
   | apply And.intro
   | exact sq
   | trivial
   | exact sx
   | (refine sy fun e => ?_; cbv)
structure Jm (S : ByteArray) : Prop where
 pos : 0 < S.size
 lt : S.size < 13
 abc : ∀ (i : Nat) (c : UInt8), S.data.toList[i]? = some c -> 97 <= c.toNat /\ c.toNat <= 122
theorem ZX (Z : Ad) (h : Hh) (hh : ∀ α g, h α g = g ()) (S : ByteArray) (hS : Jm S) : qo Z 101 [.pv (.v (.string (h _ fun _ => S)))] (.pv (.v (.bool true))) [.any] := by
 have h1 := hS.pos
 have h2 := hS.lt
 have HS := Hdq hS.abc
 clear hS
 refine qD Z h hh ⟨Tryz.func101, Tryz.ntmps101⟩ rfl rfl rfl rfl rfl fun C hC => ?_
 unfold Tryz.f101
 cbv
 repeat' first
  | exact s0
  | apply And.intro
  | exact sq
  | trivial
  | exact sx
  | (refine sy fun e => ?_; cbv)
 refine ⟨Nat, fun j => ⟨[(0, some (.pv (.v (.string (h _ fun _ => S))))), (3, some (.pv (nH h j)))], []⟩, fun j => j <= S.size, fun j => S.size - j, 0, [], by omega, trivial, ⟨[], rfl, rfl, trivial, ?_, ?_, trivial⟩, ?_⟩
 ·exact sp
 ·exact sp
 intro j hj
 dsimp only
 cbv
 refine ⟨fun _ => rfl, fun e => ?_, fun e => ?_⟩ <;> simp only [hh, nI, decide_eq_true_eq, decide_eq_false_iff_not, natc] at e
 ·have e' : j < S.size := jG e
  obtain ⟨c, hc⟩ : ∃ c, S.data.toList[j]? = some c := ⟨_, List.getElem?_eq_getElem (by rw [Array.length_toList]; exact e')⟩
  have a1 := (HS.out j c hc).1
  have a2 := (HS.out j c hc).2
  have b1 : decide ((c.toNat : Int) < 97) = false := by simp; omega
  have b2 : decide ((c.toNat : Int) > 122) = false := by simp; omega
  cbv
  repeat' first
   | exact s0
   | apply And.intro
   | exact sq
   | trivial
   | (refine sz fun e => ?_; simp [hh, hc] at e <;> (try simp only [natc] at *) <;> omega)
   | (refine sy fun e => ?_; cbv)
  refine ⟨j + 1, by omega, by show S.size - (j + 1) < S.size - j; omega, ⟨[], rfl, rfl, trivial, ?_, ?_, trivial⟩⟩
  ·exact sp
  ·exact sp
 ·have e' : j = S.size := Nat.le_antisymm hj (jE e)
  subst e'
  clear e hj HS
  obtain ⟨z, hz⟩ := exq (S.size)
  rw [hz] at h1 h2
  cbv
  repeat' first
   | exact s0
   | apply And.intro
   | exact sq
   | trivial
   | (refine sz fun e => ?_; simp [hh, hz, h1, h2] at e <;> (try simp only [natc] at *) <;> omega)
   | (refine sy fun e => ?_; cbv)
theorem qeD (m : List UInt8) (S : ByteArray) (n : Int) : jO m (S.data.toList ++ 0 :: beK 8 n) = qp m S.data.toList n := rfl
theorem qdy (Z : Ad) (h : Hh) (hh : ∀ α g, h α g = g ()) (m : List UInt8) (n : Int) (S : ByteArray) (hS : Jm S) (hk : qe m n = 0) : qo Z 52 [.pv (bH h m), .pv (.v (.string (h _ fun _ => S))), .pv (iH h n)] (.tup [.own 5 1 (h _ fun _ => (qp m S.data.toList n).map u8P), .pv (iH h 0)]) [.any, .any, .any] := by
 obtain ⟨k1, k2, k3, k4⟩ := Go.Proofs.YtnafknkchbfpaaaGreatDoor.keyBad_zero hk
 have hz : S.size <= 13 := Nat.le_of_lt hS.lt
 have hz2 : S.data.toList.length <= 13 := by rw [Array.length_toList]; exact hz
 have c1 := ZX Z h hh S hS
 have c2 := xS Z h hh n
 have c3 := xW Z h hh m (S.data.toList ++ 0 :: beK 8 n) Y66 (by rw [List.length_append, List.length_cons, zN]; omega)
 rw [qeD] at c3
 have l3 : (qp m S.data.toList n).length = 32 := ut _ _
 obtain ⟨d, hd⟩ := exq (qp m S.data.toList n)
 rw [hd] at c3 l3 ⊢
 have lb := zN 8 n
 obtain ⟨nb, hnb⟩ := exq (beK 8 n)
 rw [hnb] at c2 c3 lb
 obtain ⟨bs, hbs⟩ := exq (S.data.toList)
 rw [hbs] at hz2 c3
 clear hd hnb hk hS
 refine qD Z h hh ⟨Tryz.func52, Tryz.ntmps52⟩ rfl rfl rfl rfl rfl fun C hC => ?_
 unfold Tryz.f52
 cbv
 repeat' first
  | exact s0
  | apply And.intro
  | exact sq
  | trivial
  | exact sx
  | (refine sy fun e => ?_; cbv)
  | (refine ⟨_, _, _, hC _ _ _ _ c1, ?_⟩; cbv; clear c1)
  | (refine ⟨_, _, _, hC _ _ _ _ c2, ?_⟩; cbv; clear c2)
  | (refine ⟨_, _, _, hC _ _ _ _ c3, ?_⟩; cbv; clear c3)
theorem qcA (Z : Ad) (h : Hh) (hh : ∀ α g, h α g = g ()) (m : List UInt8) (n : Int) (S : ByteArray) (hS : Jm S) (hk : qe m n ≠ 0) : qo Z 52 [.pv (bH h m), .pv (.v (.string (h _ fun _ => S))), .pv (iH h n)] (.tup [.pv (bH h []), .pv (nH h (qe m n))]) [.any, .any, .any] := by
 have c1 := ZX Z h hh S hS
 by_cases h1 : m.length < 16
 ·rw [xi (.inl h1)]
  clear hk hS
  refine qD Z h hh ⟨Tryz.func52, Tryz.ntmps52⟩ rfl rfl rfl rfl rfl fun C hC => ?_
  unfold Tryz.f52
  cbv
  repeat' first
   | exact s0
   | apply And.intro
   | exact sq
   | trivial
   | exact sx
   | (refine sy fun e => ?_; cbv)
   | (refine ⟨_, _, _, hC _ _ _ _ c1, ?_⟩; cbv; clear c1)
 by_cases h2 : 64 < m.length
 ·rw [xi (.inr h2)]
  clear hk hS
  refine qD Z h hh ⟨Tryz.func52, Tryz.ntmps52⟩ rfl rfl rfl rfl rfl fun C hC => ?_
  unfold Tryz.f52
  cbv
  repeat' first
   | exact s0
   | apply And.intro
   | exact sq
   | trivial
   | exact sx
   | (refine sy fun e => ?_; cbv)
   | (refine ⟨_, _, _, hC _ _ _ _ c1, ?_⟩; cbv; clear c1)
 by_cases h3 : n < 0
 ·rw [xm Y66 (.inl h3)]
  clear hk hS
  refine qD Z h hh ⟨Tryz.func52, Tryz.ntmps52⟩ rfl rfl rfl rfl rfl fun C hC => ?_
  unfold Tryz.f52
  cbv
  repeat' first
   | exact s0
   | apply And.intro
   | exact sq
   | trivial
   | exact sx
   | (refine sy fun e => ?_; cbv)
   | (refine ⟨_, _, _, hC _ _ _ _ c1, ?_⟩; cbv; clear c1)
 by_cases h4 : 1099511627776 < n
 ·rw [xm Y66 (.inr h4)]
  clear hk hS
  refine qD Z h hh ⟨Tryz.func52, Tryz.ntmps52⟩ rfl rfl rfl rfl rfl fun C hC => ?_
  unfold Tryz.f52
  cbv
  repeat' first
   | exact s0
   | apply And.intro
   | exact sq
   | trivial
   | exact sx
   | (refine sy fun e => ?_; cbv)
   | (refine ⟨_, _, _, hC _ _ _ _ c1, ?_⟩; cbv; clear c1)
 exact absurd (Jd Y66 Y66) hk
def nmB : Nat -> ByteArray
 | 0 => ⟨#[109, 97, 115, 107]⟩
 | 1 => ⟨#[112, 108, 97, 99, 101]⟩
 | 2 => ⟨#[115, 101, 110, 116, 105, 110, 101, 108]⟩
 | 3 => ⟨#[116, 97, 103]⟩
 | _ => ⟨#[115, 112, 111, 116]⟩
theorem QO {S : ByteArray} (h0 : 0 < S.size /\ S.size < 13) (h1 : ∀ c ∈ S.data.toList, 97 <= c.toNat /\ c.toNat <= 122) : Jm S := ⟨h0.1, h0.2, fun i c hc => h1 c (List.mem_of_getElem? hc)⟩
theorem KW : ∀ (i : Nat), Jm (nmB i)
 | 0 => QO qa qa
 | 1 => QO qa qa
 | 2 => QO qa qa
 | 3 => QO qa qa
 | n + 4 => by rw [show nmB (n + 4) = ⟨#[115, 112, 111, 116]⟩ from rfl]; exact QO qa qa
def Jv (m : List UInt8) (n : Int) (i : Nat) : List PV := (List.range 5).map fun j => if j < i then bP (qp m (nmB j).data.toList n) else .l []
theorem L7 (m : List UInt8) (n : Int) (i : Nat) : (Jv m n i).length = 5 := by simp [Jv]
theorem qaj (m : List UInt8) (n : Int) (i : Nat) (hi : i < 5) : splice i [bP (qp m (nmB i).data.toList n)] (Jv m n i) = Jv m n (i + 1) := by
 have : i = 0 ∨ i = 1 ∨ i = 2 ∨ i = 3 ∨ i = 4 := by omega
 rcases this with rfl | rfl | rfl | rfl | rfl <;> rfl
theorem LG (m : List UInt8) (n : Int) : Jv m n 5 = [bP (qp m uu n), bP (qp m qI n), bP (qp m jI n), bP (qp m zZ n), bP (qp m zj n)] := rfl
theorem qdm (Z : Ad) (h : Hh) (hh : ∀ α g, h α g = g ()) (m : List UInt8) (n : Int) (hk : qe m n = 0) : qo Z 11 [.pv (bH h m), .pv (iH h n)] (.tup [.pv (.a (h _ fun _ => Jv m n 5)), .pv (iH h 0)]) [.any, .any] := by
 have kl := L7 m n
 refine qD Z h hh ⟨Tryz.func11, Tryz.ntmps11⟩ rfl rfl rfl rfl rfl fun C hC => ?_
 unfold Tryz.f11
 cbv
 repeat' first
  | exact s0
  | apply And.intro
  | exact sq
  | trivial
  | exact sx
  | (refine sy fun e => ?_; cbv)
 refine ⟨Nat, fun j => ⟨[(0, some (.pv (bH h m))), (1, some (.pv (iH h n))), (4, some (.ref 991 0 0)), (6, some (.ref 992 0 0)), (12, some (.own 990)), (13, some (.pv (nH h 5))), (14, some (.pv (nH h j)))], [(990, some (.row 9 1 (h _ fun _ => (List.range 5).map fun i => .v (.string (nmB i))) false)), (991, some (.var 29 (h _ fun _ => List.replicate 5 (.l [])) false)), (992, some (.var 29 (h _ fun _ => Jv m n j) false))]⟩, fun j => j <= 5, fun j => 5 - j, 0, [], by omega, trivial, ⟨[(990, 12), (991, 4), (992, 6)], rfl, rfl, ⟨?_, ?_, ?_, trivial⟩, ?_, ?_, ?_, ?_, ?_, ?_, ?_, trivial⟩, ?_⟩
 ·exact sp
 ·exact sp
 ·cbv; simp only [hh]; rfl
 ·exact sp
 ·exact sp
 ·exact sp
 ·exact sp
 ·exact sp
 ·exact sp
 ·exact sp
 intro j hj
 dsimp only
 cbv
 refine ⟨fun _ => rfl, fun e => ?_, fun e => ?_⟩ <;> simp only [hh, nI, decide_eq_true_eq, decide_eq_false_iff_not, natc] at e
 ·have e' : j < 5 := jG e
  have c1 := qdy Z h hh m n (nmB j) (KW j) hk
  have ks := qaj m n j e'
  obtain ⟨d, hd⟩ := exq (qp m (nmB j).data.toList n)
  rw [hd] at c1 ks
  obtain ⟨B, hB⟩ := exq (nmB j)
  rw [hB] at c1
  replace hd := Hdq hd
  replace ks := Hdq ks
  cbv
  repeat' first
   | exact s0
   | apply And.intro
   | exact sq
   | trivial
   | exact sx
   | (refine sy fun e => ?_; cbv)
   | (refine ⟨_, _, _, hC _ _ _ _ c1, ?_⟩; cbv; clear c1)
  refine ⟨j + 1, by omega, by show 5 - (j + 1) < 5 - j; omega, ⟨[], rfl, rfl, ⟨?_, ?_, ?_, trivial⟩, ?_, ?_, ?_, ?_, ?_, ?_, ?_, trivial⟩⟩
  ·exact sp
  ·exact sp
  ·cbv; simp only [hh]; exact congrArg (fun x => some (Ob.var _ x false)) (by simpa using ks.out)
  ·exact sp
  ·exact sp
  ·exact sp
  ·exact sp
  ·exact sp
  ·exact sp
  ·exact sp
 ·have e' : j = 5 := Nat.le_antisymm hj (jE (b := 5) e)
  subst e'
  clear hk
  cbv
  repeat' first
   | exact s0
   | apply And.intro
   | exact sq
   | trivial
   | (refine sz fun e => ?_; simp [hh, kl] at e <;> (try simp only [natc] at *) <;> omega)
   | (refine sy fun e => ?_; cbv)
theorem qaR (Z : Ad) (h : Hh) (hh : ∀ α g, h α g = g ()) (m : List UInt8) (n : Int) (hk : qe m n ≠ 0) : qo Z 11 [.pv (bH h m), .pv (iH h n)] (.tup [.pv (.a (List.replicate 5 (.l []))), .pv (nH h (qe m n))]) [.any, .any] := by
 have c1 := qcA Z h hh m n (nmB 0) (KW 0) hk
 obtain ⟨B, hB⟩ := exq (nmB 0)
 rw [hB] at c1
 obtain ⟨b, hb⟩ := exq (qe m n)
 rw [hb] at c1 hk ⊢
 clear hb
 refine qD Z h hh ⟨Tryz.func11, Tryz.ntmps11⟩ rfl rfl rfl rfl rfl fun C hC => ?_
 unfold Tryz.f11
 cbv
 repeat' first
  | exact s0
  | apply And.intro
  | exact sq
  | trivial
  | exact sx
  | (refine sy fun e => ?_; cbv)
 refine ⟨Nat, fun j => ⟨[(0, some (.pv (bH h m))), (1, some (.pv (iH h n))), (4, some (.ref 991 0 0)), (6, some (.ref 992 0 0)), (12, some (.own 990)), (13, some (.pv (nH h 5))), (14, some (.pv (nH h 0)))], [(990, some (.row 9 1 (h _ fun _ => (List.range 5).map fun i => .v (.string (nmB i))) false)), (991, some (.var 29 (h _ fun _ => List.replicate 5 (.l [])) false)), (992, some (.var 29 (h _ fun _ => List.replicate 5 (.l [])) false))]⟩, fun j => j <= 0, fun j => 0 - j, 0, [], by omega, trivial, ⟨[(990, 12), (991, 4), (992, 6)], rfl, rfl, ⟨?_, ?_, ?_, trivial⟩, ?_, ?_, ?_, ?_, ?_, ?_, ?_, trivial⟩, ?_⟩
 ·exact sp
 ·exact sp
 ·exact sp
 ·exact sp
 ·exact sp
 ·exact sp
 ·exact sp
 ·exact sp
 ·exact sp
 ·exact sp
 intro j hj
 dsimp only
 clear hj
 cbv
 repeat' first
  | exact s0
  | apply And.intro
  | exact sq
  | trivial
  | (refine sz fun e => ?_; simp [hh, hk, hB] at e <;> (try simp only [natc] at *) <;> omega)
  | (refine sy fun e => ?_; cbv)
  | (refine ⟨_, _, _, hC _ _ _ _ c1, ?_⟩; cbv; clear c1)
end Go.Bl
