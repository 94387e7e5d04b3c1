import Derived.Test.YtnafknkchbfpaaaGreatDoorQA
set_option linter.unusedVariables false
set_option linter.unusedSimpArgs false
namespace Go.Bl
open Go.RowKit Go.Proofs
set_option maxRecDepth 100000
set_option maxHeartbeats 8000000
attribute [local irreducible] qw
open Go.Proofs.YtnafknkchbfpaaaGreatDoor (beK b8 beK_len Kh LC X2 qi qc jU qx qV jI jw xr xq JD)
theorem qcr (Z : Ad) (h : Hh) (hh : ∀ α g, h α g = g ()) (k m : List UInt8) (hk : k.length <= 90000000) (hm : m.length <= 90000000) : qb Z 61 [.pv (bH h k), .pv (bH h m)] (.own 5 1 (h _ fun _ => (xh k m).map u8P)) [.any, .any] := by
 obtain ⟨d, hd⟩ := exq (vN k m)
 have l3 : d.length = 32 := by rw [<- hd]; exact zo _ _
 have c1 := yf Z h hh k m hk hm
 rw [hd] at c1
 rw [xh, hd]
 clear hd hk hm
 refine qh Z h hh ⟨Tryz.func61, Tryz.ntmps61⟩ rfl rfl rfl rfl rfl fun C hC => ?_
 unfold Tryz.f61
 cbv
 repeat' first
  | exact s0
  | apply And.intro
  | exact sq
  | trivial
  | exact sx
  | (refine sy fun e => ?_; cbv)
  | (refine ⟨_, _, _, hC _ _ _ _ c1, ?_⟩; cbv; clear c1)
def Wp (n : Int) (t : Nat) : List UInt8 := List.replicate (8 - t) 0 ++ (beK 8 n).drop (8 - t)
theorem qcp (n : Int) (t : Nat) (h : t <= 8) : (Wp n t).length = 8 := by
 rw [Wp, List.length_append, List.length_replicate, List.length_drop, beK_len]; omega
theorem qb4 (n : Int) (t : Nat) (h : t < 8) : (Wp n t).set (7 - t) (b8 (n / (256 ^ t : Nat))) = Wp n (t + 1) := by
 have : t = 0 ∨ t = 1 ∨ t = 2 ∨ t = 3 ∨ t = 4 ∨ t = 5 ∨ t = 6 ∨ t = 7 := by omega
 rcases this with rfl | rfl | rfl | rfl | rfl | rfl | rfl | rfl <;> rfl
theorem xL (Z : Ad) (h : Hh) (hh : ∀ α g, h α g = g ()) (n : Int) : qb Z 62 [.pv (iH h n)] (.own 5 1 (h _ fun _ => (beK 8 n).map u8P)) [.any] := by
 obtain ⟨X, hX⟩ := exq (n % 18446744073709551616)
 have hXb : 0 <= X /\ X < 18446744073709551616 := by omega
 have hcv : IntKind.u64.wrap n = X := by rw [<- hX]; simp [IntKind.wrap, IntKind.signed, IntKind.bits]
 replace hX := Hdq hX
 refine qh Z h hh ⟨Tryz.func62, Tryz.ntmps62⟩ rfl rfl rfl rfl rfl fun C hC => ?_
 unfold Tryz.f62
 cbv
 repeat' first
  | exact s0
  | apply And.intro
  | exact sq
  | trivial
  | exact sx
  | (refine sy fun e => ?_; cbv)
 refine ⟨Nat, fun t => ⟨[(3, some (.own 990)), (4, some (.pv (kH h .u64 (X / (256 ^ t : Nat))))), (5, some (.pv (iH h (7 - (t : Int)))))], [(990, some (.row 5 1 (h _ fun _ => (Wp n t).map u8P) false))]⟩, fun t => t <= 8, fun t => 8 - t, 0, [], by omega, trivial, ⟨[(990, 6)], rfl, rfl, ⟨?_, trivial⟩, ?_, ?_, ?_, trivial⟩, ?_⟩
 ·exact sp
 ·exact sp
 ·exact sp
 ·exact sp
 intro t ht
 dsimp only
 by_cases h8 : t < 8
 ·obtain ⟨V, hV⟩ := exq (X / (256 ^ t : Nat))
  have hp : (0 : Int) < ((256 ^ t : Nat) : Int) := by exact_mod_cast Nat.pow_pos Y76
  have hV0 : 0 <= V := by rw [<- hV]; exact Int.ediv_nonneg hXb.1 (Int.le_of_lt hp)
  have hV1 : V < 18446744073709551616 := by rw [<- hV]; exact Int.lt_of_le_of_lt (Int.ediv_le_self _ hXb.1) hXb.2
  obtain ⟨c, hc⟩ := exq (b8 (n / (256 ^ t : Nat)))
  have hvc : V % 256 = (c.toNat : Int) := by rw [<- hc, Kh, <- hV, <- hX.out]; exact LC n t Y44
  have hvd : IntKind.u8.wrap (V.tmod 256) = (c.toNat : Int) := by
   rw [Int.tmod_eq_emod_of_nonneg hV0, hvc, LG Y44 (by have := c.toNat_lt; omega)]
  have hq : IntKind.u64.wrap (V.tdiv 256) = X / (256 ^ (t + 1) : Nat) := by
   rw [Int.tdiv_eq_ediv_of_nonneg hV0, qS Y44 Y44, <- hV, X2]
  have hs : (Wp n t).set (7 - t) c = Wp n (t + 1) := by rw [<- hc]; exact qb4 n t h8
  have hn7 : ((7 : Int) - t).toNat = 7 - t := by omega
  have hl := qcp n t ht
  have hw : IntKind.i64.wrap (7 - (t : Int) - 1) = 7 - ((t + 1 : Nat) : Int) := by rw [wrap_i64 Y44 Y44]; omega
  have hge : decide ((7 : Int) - (t : Int) ≥ 0) = true := by simp; omega
  rw [hV]
  replace hV := Hdq hV
  replace hc := Hdq hc
  clear hvc hp
  cbv
  repeat' first
   | exact s0
   | apply And.intro
   | exact sq
   | trivial
   | (refine sz fun e => ?_; simp [hh, hge] at e <;> (try simp only [natc] at *) <;> omega)
   | (refine sy fun e => ?_; cbv)
  refine ⟨t + 1, by omega, by show 8 - (t + 1) < 8 - t; omega, ⟨[], rfl, rfl, ⟨?_, trivial⟩, ?_, ?_, ?_, trivial⟩⟩
  ·cbv; simp only [hh, hn7, hvd]; rw [<- hs]; simp [List.map_set, u8P, u8v]
  ·exact sp
  ·cbv; simp only [hh, hq]
  ·cbv; simp only [hh, hw]
 ·have e8 : t = 8 := by omega
  subst e8
  rw [show Wp n 8 = beK 8 n from rfl]
  cbv
  repeat' first
   | exact s0
   | apply And.intro
   | exact sq
   | trivial
   | exact sx
   | (refine sy fun e => ?_; cbv)
structure Jv (S : ByteArray) : Prop where
 pos : 0 < S.size
 lt : S.size < 13
 abc : ∀ (i : Nat) (c : UInt8), S.data.toList[i]? = some c -> 97 <= c.toNat /\ c.toNat <= 122
theorem ZL (Z : Ad) (h : Hh) (hh : ∀ α g, h α g = g ()) (S : ByteArray) (hS : Jv S) : qb Z 101 [.pv (.v (.string (h _ fun _ => S)))] (.pv (.v (.bool true))) [.any] := by
 have h1 := hS.pos
 have h2 := hS.lt
 have HS := Hdq hS.abc
 clear hS
 refine qh Z h hh ⟨Tryz.func101, Tryz.ntmps101⟩ rfl rfl rfl rfl rfl fun C hC => ?_
 unfold Tryz.f101
 cbv
 repeat' first
  | exact s0
  | apply And.intro
  | exact sq
  | trivial
  | exact sx
  | (refine sy fun e => ?_; cbv)
 refine ⟨Nat, fun j => ⟨[(0, some (.pv (.v (.string (h _ fun _ => S))))), (3, some (.pv (nH h j)))], []⟩, fun j => j <= S.size, fun j => S.size - j, 0, [], by omega, trivial, ⟨[], rfl, rfl, trivial, ?_, ?_, trivial⟩, ?_⟩
 ·exact sp
 ·exact sp
 intro j hj
 dsimp only
 cbv
 refine ⟨fun _ => rfl, fun e => ?_, fun e => ?_⟩ <;> simp only [hh, nI, decide_eq_true_eq, decide_eq_false_iff_not, natc] at e
 ·have e' : j < S.size := qK e
  obtain ⟨c, hc⟩ : ∃ c, S.data.toList[j]? = some c := ⟨_, List.getElem?_eq_getElem (by rw [Array.length_toList]; exact e')⟩
  have a1 := (HS.out j c hc).1
  have a2 := (HS.out j c hc).2
  have b1 : decide ((c.toNat : Int) < 97) = false := by simp; omega
  have b2 : decide ((c.toNat : Int) > 122) = false := by simp; omega
  cbv
  repeat' first
   | exact s0
   | apply And.intro
   | exact sq
   | trivial
   | (refine sz fun e => ?_; simp [hh, hc] at e <;> (try simp only [natc] at *) <;> omega)
   | (refine sy fun e => ?_; cbv)
  refine ⟨j + 1, by omega, by show S.size - (j + 1) < S.size - j; omega, ⟨[], rfl, rfl, trivial, ?_, ?_, trivial⟩⟩
  ·exact sp
  ·exact sp
 ·have e' : j = S.size := Nat.le_antisymm hj (ge_nat e)
  subst e'
  clear e hj HS
  obtain ⟨z, hz⟩ := exq (S.size)
  rw [hz] at h1 h2
  cbv
  repeat' first
   | exact s0
   | apply And.intro
   | exact sq
   | trivial
   | (refine sz fun e => ?_; simp [hh, hz, h1, h2] at e <;> (try simp only [natc] at *) <;> omega)
   | (refine sy fun e => ?_; cbv)
theorem qeL (m : List UInt8) (S : ByteArray) (n : Int) : vN m (S.data.toList ++ 0 :: beK 8 n) = qi m S.data.toList n := rfl
theorem qd3 (Z : Ad) (h : Hh) (hh : ∀ α g, h α g = g ()) (m : List UInt8) (n : Int) (S : ByteArray) (hS : Jv S) (hk : qc m n = 0) : qb Z 52 [.pv (bH h m), .pv (.v (.string (h _ fun _ => S))), .pv (iH h n)] (.tup [.own 5 1 (h _ fun _ => (qi m S.data.toList n).map u8P), .pv (iH h 0)]) [.any, .any, .any] := by
 obtain ⟨k1, k2, k3, k4⟩ := Go.Proofs.YtnafknkchbfpaaaGreatDoor.keyBad_zero hk
 have hz : S.size <= 13 := Nat.le_of_lt hS.lt
 have hz2 : S.data.toList.length <= 13 := by rw [Array.length_toList]; exact hz
 have c1 := ZL Z h hh S hS
 have c2 := xL Z h hh n
 have c3 := yf Z h hh m (S.data.toList ++ 0 :: beK 8 n) Y44 (by rw [List.length_append, List.length_cons, beK_len]; omega)
 rw [qeL] at c3
 have l3 : (qi m S.data.toList n).length = 32 := zo _ _
 obtain ⟨d, hd⟩ := exq (qi m S.data.toList n)
 rw [hd] at c3 l3 ⊢
 have lb := beK_len 8 n
 obtain ⟨nb, hnb⟩ := exq (beK 8 n)
 rw [hnb] at c2 c3 lb
 obtain ⟨bs, hbs⟩ := exq (S.data.toList)
 rw [hbs] at hz2 c3
 clear hd hnb hk hS
 refine qh Z h hh ⟨Tryz.func52, Tryz.ntmps52⟩ rfl rfl rfl rfl rfl fun C hC => ?_
 unfold Tryz.f52
 cbv
 repeat' first
  | exact s0
  | apply And.intro
  | exact sq
  | trivial
  | exact sx
  | (refine sy fun e => ?_; cbv)
  | (refine ⟨_, _, _, hC _ _ _ _ c1, ?_⟩; cbv; clear c1)
  | (refine ⟨_, _, _, hC _ _ _ _ c2, ?_⟩; cbv; clear c2)
  | (refine ⟨_, _, _, hC _ _ _ _ c3, ?_⟩; cbv; clear c3)
theorem qc0 (Z : Ad) (h : Hh) (hh : ∀ α g, h α g = g ()) (m : List UInt8) (n : Int) (S : ByteArray) (hS : Jv S) (hk : qc m n ≠ 0) : qb Z 52 [.pv (bH h m), .pv (.v (.string (h _ fun _ => S))), .pv (iH h n)] (.tup [.pv (bH h []), .pv (nH h (qc m n))]) [.any, .any, .any] := by
 have c1 := ZL Z h hh S hS
 by_cases h1 : m.length < 16
 ·rw [xr (.inl h1)]
  clear hk hS
  refine qh Z h hh ⟨Tryz.func52, Tryz.ntmps52⟩ rfl rfl rfl rfl rfl fun C hC => ?_
  unfold Tryz.f52
  cbv
  repeat' first
   | exact s0
   | apply And.intro
   | exact sq
   | trivial
   | exact sx
   | (refine sy fun e => ?_; cbv)
   | (refine ⟨_, _, _, hC _ _ _ _ c1, ?_⟩; cbv; clear c1)
 by_cases h2 : 64 < m.length
 ·rw [xr (.inr h2)]
  clear hk hS
  refine qh Z h hh ⟨Tryz.func52, Tryz.ntmps52⟩ rfl rfl rfl rfl rfl fun C hC => ?_
  unfold Tryz.f52
  cbv
  repeat' first
   | exact s0
   | apply And.intro
   | exact sq
   | trivial
   | exact sx
   | (refine sy fun e => ?_; cbv)
   | (refine ⟨_, _, _, hC _ _ _ _ c1, ?_⟩; cbv; clear c1)
 by_cases h3 : n < 0
 ·rw [xq Y44 (.inl h3)]
  clear hk hS
  refine qh Z h hh ⟨Tryz.func52, Tryz.ntmps52⟩ rfl rfl rfl rfl rfl fun C hC => ?_
  unfold Tryz.f52
  cbv
  repeat' first
   | exact s0
   | apply And.intro
   | exact sq
   | trivial
   | exact sx
   | (refine sy fun e => ?_; cbv)
   | (refine ⟨_, _, _, hC _ _ _ _ c1, ?_⟩; cbv; clear c1)
 by_cases h4 : 1099511627776 < n
 ·rw [xq Y44 (.inr h4)]
  clear hk hS
  refine qh Z h hh ⟨Tryz.func52, Tryz.ntmps52⟩ rfl rfl rfl rfl rfl fun C hC => ?_
  unfold Tryz.f52
  cbv
  repeat' first
   | exact s0
   | apply And.intro
   | exact sq
   | trivial
   | exact sx
   | (refine sy fun e => ?_; cbv)
   | (refine ⟨_, _, _, hC _ _ _ _ c1, ?_⟩; cbv; clear c1)
 exact absurd (JD Y44 Y44) hk
def nmB : Nat -> ByteArray
 | 0 => ⟨#[109, 97, 115, 107]⟩
 | 1 => ⟨#[112, 108, 97, 99, 101]⟩
 | 2 => ⟨#[115, 101, 110, 116, 105, 110, 101, 108]⟩
 | 3 => ⟨#[116, 97, 103]⟩
 | _ => ⟨#[115, 112, 111, 116]⟩
theorem Jh {S : ByteArray} (h0 : 0 < S.size /\ S.size < 13) (h1 : ∀ c ∈ S.data.toList, 97 <= c.toNat /\ c.toNat <= 122) : Jv S := ⟨h0.1, h0.2, fun i c hc => h1 c (List.mem_of_getElem? hc)⟩
theorem L2 : ∀ (i : Nat), Jv (nmB i)
 | 0 => Jh Y76 Y76
 | 1 => Jh Y76 Y76
 | 2 => Jh Y76 Y76
 | 3 => Jh Y76 Y76
 | n + 4 => by rw [show nmB (n + 4) = ⟨#[115, 112, 111, 116]⟩ from rfl]; exact Jh Y76 Y76
def JH (m : List UInt8) (n : Int) (i : Nat) : List PV := (List.range 5).map fun j => if j < i then bP (qi m (nmB j).data.toList n) else .l []
theorem qap (m : List UInt8) (n : Int) (i : Nat) : (JH m n i).length = 5 := by simp [JH]
theorem qal (m : List UInt8) (n : Int) (i : Nat) (hi : i < 5) : splice i [bP (qi m (nmB i).data.toList n)] (JH m n i) = JH m n (i + 1) := by
 have : i = 0 ∨ i = 1 ∨ i = 2 ∨ i = 3 ∨ i = 4 := by omega
 rcases this with rfl | rfl | rfl | rfl | rfl <;> rfl
theorem qaj (m : List UInt8) (n : Int) : JH m n 5 = [bP (qi m jU n), bP (qi m qx n), bP (qi m qV n), bP (qi m jI n), bP (qi m jw n)] := rfl
theorem qey (Z : Ad) (h : Hh) (hh : ∀ α g, h α g = g ()) (m : List UInt8) (n : Int) (hk : qc m n = 0) : qb Z 11 [.pv (bH h m), .pv (iH h n)] (.tup [.pv (.a (h _ fun _ => JH m n 5)), .pv (iH h 0)]) [.any, .any] := by
 have kl := qap m n
 refine qh Z h hh ⟨Tryz.func11, Tryz.ntmps11⟩ rfl rfl rfl rfl rfl fun C hC => ?_
 unfold Tryz.f11
 cbv
 repeat' first
  | exact s0
  | apply And.intro
  | exact sq
  | trivial
  | exact sx
  | (refine sy fun e => ?_; cbv)
 refine ⟨Nat, fun j => ⟨[(0, some (.pv (bH h m))), (1, some (.pv (iH h n))), (4, some (.ref 991 0 0)), (6, some (.ref 992 0 0)), (12, some (.own 990)), (13, some (.pv (nH h 5))), (14, some (.pv (nH h j)))], [(990, some (.row 9 1 (h _ fun _ => (List.range 5).map fun i => .v (.string (nmB i))) false)), (991, some (.var 29 (h _ fun _ => List.replicate 5 (.l [])) false)), (992, some (.var 29 (h _ fun _ => JH m n j) false))]⟩, fun j => j <= 5, fun j => 5 - j, 0, [], by omega, trivial, ⟨[(990, 12), (991, 4), (992, 6)], rfl, rfl, ⟨?_, ?_, ?_, trivial⟩, ?_, ?_, ?_, ?_, ?_, ?_, ?_, trivial⟩, ?_⟩
 ·exact sp
 ·exact sp
 ·cbv; simp only [hh]; rfl
 ·exact sp
 ·exact sp
 ·exact sp
 ·exact sp
 ·exact sp
 ·exact sp
 ·exact sp
 intro j hj
 dsimp only
 cbv
 refine ⟨fun _ => rfl, fun e => ?_, fun e => ?_⟩ <;> simp only [hh, nI, decide_eq_true_eq, decide_eq_false_iff_not, natc] at e
 ·have e' : j < 5 := qK e
  have c1 := qd3 Z h hh m n (nmB j) (L2 j) hk
  have ks := qal m n j e'
  obtain ⟨d, hd⟩ := exq (qi m (nmB j).data.toList n)
  rw [hd] at c1 ks
  obtain ⟨B, hB⟩ := exq (nmB j)
  rw [hB] at c1
  replace hd := Hdq hd
  replace ks := Hdq ks
  cbv
  repeat' first
   | exact s0
   | apply And.intro
   | exact sq
   | trivial
   | exact sx
   | (refine sy fun e => ?_; cbv)
   | (refine ⟨_, _, _, hC _ _ _ _ c1, ?_⟩; cbv; clear c1)
  refine ⟨j + 1, by omega, by show 5 - (j + 1) < 5 - j; omega, ⟨[], rfl, rfl, ⟨?_, ?_, ?_, trivial⟩, ?_, ?_, ?_, ?_, ?_, ?_, ?_, trivial⟩⟩
  ·exact sp
  ·exact sp
  ·cbv; simp only [hh]; exact congrArg (fun x => some (Ob.var _ x false)) (by simpa using ks.out)
  ·exact sp
  ·exact sp
  ·exact sp
  ·exact sp
  ·exact sp
  ·exact sp
  ·exact sp
 ·have e' : j = 5 := Nat.le_antisymm hj (ge_nat (b := 5) e)
  subst e'
  clear hk
  cbv
  repeat' first
   | exact s0
   | apply And.intro
   | exact sq
   | trivial
   | (refine sz fun e => ?_; simp [hh, kl] at e <;> (try simp only [natc] at *) <;> omega)
   | (refine sy fun e => ?_; cbv)
theorem qcm (Z : Ad) (h : Hh) (hh : ∀ α g, h α g = g ()) (m : List UInt8) (n : Int) (hk : qc m n ≠ 0) : qb Z 11 [.pv (bH h m), .pv (iH h n)] (.tup [.pv (.a (List.replicate 5 (.l []))), .pv (nH h (qc m n))]) [.any, .any] := by
 have c1 := qc0 Z h hh m n (nmB 0) (L2 0) hk
 obtain ⟨B, hB⟩ := exq (nmB 0)
 rw [hB] at c1
 obtain ⟨b, hb⟩ := exq (qc m n)
 rw [hb] at c1 hk ⊢
 clear hb
 refine qh Z h hh ⟨Tryz.func11, Tryz.ntmps11⟩ rfl rfl rfl rfl rfl fun C hC => ?_
 unfold Tryz.f11
 cbv
 repeat' first
  | exact s0
  | apply And.intro
  | exact sq
  | trivial
  | exact sx
  | (refine sy fun e => ?_; cbv)
 refine ⟨Nat, fun j => ⟨[(0, some (.pv (bH h m))), (1, some (.pv (iH h n))), (4, some (.ref 991 0 0)), (6, some (.ref 992 0 0)), (12, some (.own 990)), (13, some (.pv (nH h 5))), (14, some (.pv (nH h 0)))], [(990, some (.row 9 1 (h _ fun _ => (List.range 5).map fun i => .v (.string (nmB i))) false)), (991, some (.var 29 (h _ fun _ => List.replicate 5 (.l [])) false)), (992, some (.var 29 (h _ fun _ => List.replicate 5 (.l [])) false))]⟩, fun j => j <= 0, fun j => 0 - j, 0, [], by omega, trivial, ⟨[(990, 12), (991, 4), (992, 6)], rfl, rfl, ⟨?_, ?_, ?_, trivial⟩, ?_, ?_, ?_, ?_, ?_, ?_, ?_, trivial⟩, ?_⟩
 ·exact sp
 ·exact sp
 ·exact sp
 ·exact sp
 ·exact sp
 ·exact sp
 ·exact sp
 ·exact sp
 ·exact sp
 ·exact sp
 intro j hj
 dsimp only
 clear hj
 cbv
 repeat' first
  | exact s0
  | apply And.intro
  | exact sq
  | trivial
  | (refine sz fun e => ?_; simp [hh, hk, hB] at e <;> (try simp only [natc] at *) <;> omega)
  | (refine sy fun e => ?_; cbv)
  | (refine ⟨_, _, _, hC _ _ _ _ c1, ?_⟩; cbv; clear c1)
end Go.Bl
