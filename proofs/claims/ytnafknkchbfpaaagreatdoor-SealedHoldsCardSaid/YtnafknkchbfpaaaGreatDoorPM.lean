import Derived.Test.YtnafknkchbfpaaaGreatDoorPL
import Derived.Test.YtnafknkchbfpaaaGreatDoorPJ
set_option maxRecDepth 1000000
set_option maxHeartbeats 8000000
namespace Go.Bl
open Go.RowKit Go.Proofs Go.Proofs.YtnafknkchbfpaaaGreatDoor
set_option maxRecDepth 100000
set_option maxHeartbeats 8000000
attribute [local irreducible] jf
abbrev Vg (h : Hh) (m xs : List UInt8) (n : Int) (p : Par) : PV := .a [bH h m, iH h n, bH h xs, iH h p.size, iH h p.sent, iH h p.spots, iH h p.per, iH h p.pat, iH h p.ret]
theorem qeX (Z : Ad) (h : Hh) (hh : ∀ α g, h α g = g ()) (m xs : List UInt8) (n : Int) (p : Par) (hm : ¬ 100 < m.length) (hx : ¬ 100 < xs.length) (hc : chk p = 0) (hk : qp m n = 0) (hs : (xs.length : Int) = p.size) :
  jw Z 6 [.pv (Vg h m xs n p)] (.pv (.v (.bool true))) [.any] := by
 have nm : ¬ (100 : Int) < (m.length : Int) := by omega
 have nx : ¬ (100 : Int) < (xs.length : Int) := by omega
 refine uu Z h hh ⟨Tryz.func6, Tryz.ntmps6⟩ rfl rfl rfl rfl rfl fun C hC => ?_
 unfold Tryz.f6
 cbv
 refine ⟨_, _, _, hC _ _ _ _ (vE Z), ?_⟩
 cbv
 repeat' first
  | exact .inr trivial
  | exact .inr rfl
  | apply And.intro
  | (refine fun (_ : PUnit) => ?_; exact sg)
  | trivial
  | (refine fun (e : (_ : Bool) = _) => ?_; first | (exfalso; simp [hh, nm, nx] at e; done) | (clear e; cbv))
 have hb := qb8 Z h hh m xs n p hc hk hs
 obtain ⟨l1, l2, l3, l4, l5⟩ := qaQ hs hc
 unfold Xh at hb
 have hSl := vD m xs n p.sent.toNat
 obtain ⟨S, hSe⟩ : ∃ S, S = zw m n xs p.sent.toNat := ⟨_, rfl⟩
 rw [<- hSe] at hb hSl
 have hrow : ∀ (i : Nat) (hi : i < S.length), (S[i]).length = 16 /\ yU m n (i : Int) S[i] = true := by
  subst hSe
  exact fun i hi => qay Y62 hk hi
 have hpl : ∀ j, j < p.sent.toNat -> ji (qn m qM n) S.length ((qt xs).length + j) < S.length /\ S[ji (qn m qM n) S.length ((qt xs).length + j)]? = some (ze (qn m jR n) ((ji (qn m qM n) S.length ((qt xs).length + j) : Nat) : Int) (uK (qn m jp n) (j : Int))) := by
  rw [hSl, hSe]
  exact fun j hj => YY Y62 hj
 have hst := Z8 Z h hh p hc
 rw [show blk p.size + p.sent = nI S.length by rw [hSl, <- l1]; simp; omega] at hst
 have hN : S.length <= 512 := by omega
 have hN1 : 1 <= S.length := by omega
 have hR : (jx (S.map qS)).length = 32 := overL_32 _ (fun d hd => by obtain ⟨l, -, rfl⟩ := List.mem_map.1 hd; exact vK l) (by rw [List.length_map]; exact hN1)
 have hD : (jf xs).length = 32 := jY xs
 obtain ⟨R, hRe⟩ := exq (jx (S.map qS))
 obtain ⟨D, hDe⟩ := exq (jf xs)
 rw [hRe] at hb hR
 rw [hDe] at hb hD
 have HH := Hdq (And.intro hrow (And.intro hpl (And.intro hRe (And.intro hSl (And.intro l1 (And.intro l2 (And.intro l3 (And.intro hc (And.intro hk hs)))))))))
 clear hSe hrow hpl hRe hDe hSl l1 l2 l3 l4 l5 hc hk hs
 refine ⟨_, _, _, hC _ _ _ _ hb, ?_⟩
 cbv
 clear hb
 repeat' first
  | exact .inr trivial
  | exact .inr rfl
  | apply And.intro
  | (refine fun (_ : PUnit) => ?_; exact sg)
  | trivial
  | (refine fun (e : (_ : Bool) = _) => ?_; first | (exfalso; simp [hh, nm, nx] at e; done) | (clear e; cbv))
 refine ⟨_, _, _, hC _ _ _ _ hst, ?_⟩
 cbv
 clear hst
 repeat' first
  | exact .inr trivial
  | exact .inr rfl
  | apply And.intro
  | (refine fun (_ : PUnit) => ?_; exact sg)
  | trivial
  | (refine fun (e : (_ : Bool) = _) => ?_; first | (exfalso; simp [hh, nm, nx, hR, hD] at e; done) | (clear e; cbv))
 refine ⟨Nat, fun k => ⟨[(1, some (.ref 991 0 0)), (3, some (.ref 992 0 0)), (5, some (.pv (nH h S.length))), (61, some (.pv (lH h bP S))), (62, some (.pv (nH h S.length))), (63, some (.pv (nH h k)))],
   [(991, some (.var 26 [bH h m, iH h n, bH h xs, iH h p.size, iH h p.sent, iH h p.spots, iH h p.per, iH h p.pat, iH h p.ret] false)), (992, some (.var 60 (h _ fun _ => .l (S.map bP) :: (R.map u8P ++ D.map u8P)) false))]⟩,
  fun k => k <= S.length, fun k => S.length - k, 0, [], Nat.zero_le _, trivial, ⟨[(991, 1), (992, 3)], rfl, rfl, ⟨rfl, ?_, trivial⟩, rfl, rfl, rfl, ?_, ?_, ?_, trivial⟩, ?_⟩
 ·cbv; simp [hh, hR, hD]
 ·cbv; simp [hh, hR, hD]
 ·cbv; simp [hh, hR, hD]
 ·cbv; simp [hh]
 ·intro k hkS
  cbv
  refine ⟨fun _ => rfl, fun e => ?_, fun e => ?_⟩ <;> simp only [hh, nI, decide_eq_true_eq, decide_eq_false_iff_not] at e
  ·have e' : k < S.length := Jq e
   obtain ⟨hrow, -, hRe, -, -, -, -, -, hk, -⟩ := HH.out
   obtain ⟨h16, hT⟩ := hrow k e'
   have hch : JE S.length k (qS S[k]) (zD (S.map qS) k) = R := by
    rw [<- hRe]
    exact Qt S.length (S.map qS) k (qS S[k]) (List.length_map _) (by rw [List.getElem?_map, List.getElem?_eq_getElem e']; rfl)
   have hpc := W0 Z h hh R S.length k hN e' S[k] Y62 (zD (S.map qS) k) (Zj _ _ _ rfl fun d hd => by obtain ⟨l, -, rfl⟩ := List.mem_map.1 hd; exact vK l) (vR _ _ _ (List.length_map _)) hR hch
   have hmk := qbE Z h hh S k hN e' (fun l hl => by obtain ⟨i, hi, rfl⟩ := List.getElem_of_mem hl; rw [(hrow i hi).1]; decide)
   have htg := WS Z h hh m S[k] n k hk
   rw [hT] at htg
   clear hrow hRe hk hch hT
   cbv
   repeat' first
    | exact .inr trivial
    | exact .inr rfl
    | apply And.intro
    | (refine fun (_ : PUnit) => ?_; exact sg)
    | trivial
    | (refine fun (e : (_ : Bool) = _) => ?_; first | (exfalso; simp [hh, nm, nx, hR, hD] at e; done) | (clear e; cbv))
   refine ⟨_, _, _, hC _ _ _ _ htg, ?_⟩
   cbv
   clear htg
   repeat' first
    | exact .inr trivial
    | exact .inr rfl
    | apply And.intro
    | (refine fun (_ : PUnit) => ?_; exact sg)
    | trivial
    | (refine fun (e : (_ : Bool) = _) => ?_; first | (exfalso; simp [hh, nm, nx, hR, hD] at e; done) | (clear e; cbv))
   refine ⟨_, _, _, hC _ _ _ _ hmk, ?_⟩
   cbv
   clear hmk
   by_cases t7 : (k : Int).tmod 7 = 0
   ·repeat' first
     | exact .inr trivial
     | exact .inr rfl
     | apply And.intro
     | (refine fun (_ : PUnit) => ?_; exact sg)
     | trivial
     | (refine fun (e : (_ : Bool) = _) => ?_; first | (exfalso; simp [hh, nm, nx, hR, hD, t7] at e; done) | (clear e; cbv))
    refine ⟨_, _, _, hC _ _ _ _ hpc, ?_⟩
    cbv
    clear hpc
    repeat' first
     | exact .inr trivial
     | exact .inr rfl
     | apply And.intro
     | (refine fun (_ : PUnit) => ?_; exact sg)
     | trivial
     | (refine fun (e : (_ : Bool) = _) => ?_; first | (exfalso; simp [hh, nm, nx, hR, hD, t7] at e; done) | (clear e; cbv))
    refine ⟨k + 1, e', by show S.length - (k + 1) < S.length - k; omega, [], rfl, rfl, ⟨rfl, rfl, trivial⟩, rfl, rfl, rfl, rfl, rfl, ?_, trivial⟩
    cbv; simp (disch := omega) [hh, jo]
   ·clear hpc
    repeat' first
     | exact .inr trivial
     | exact .inr rfl
     | apply And.intro
     | (refine fun (_ : PUnit) => ?_; exact sg)
     | trivial
     | (refine fun (e : (_ : Bool) = _) => ?_; first | (exfalso; simp [hh, nm, nx, hR, hD, t7] at e; done) | (clear e; cbv))
    refine ⟨k + 1, e', by show S.length - (k + 1) < S.length - k; omega, [], rfl, rfl, ⟨rfl, rfl, trivial⟩, rfl, rfl, rfl, rfl, rfl, ?_, trivial⟩
    cbv; simp (disch := omega) [hh, jo]
  ·clear e
   cbv
   repeat' first
    | exact .inr trivial
    | exact .inr rfl
    | apply And.intro
    | (refine fun (_ : PUnit) => ?_; exact sg)
    | trivial
    | (refine fun (e : (_ : Bool) = _) => ?_; first | (exfalso; simp [hh, nm, nx, hR, hD] at e; done) | (clear e; cbv))
   refine ⟨Nat, fun j => ⟨[(1, some (.ref 991 0 0)), (3, some (.ref 992 0 0)), (5, some (.pv (nH h S.length))), (111, some (.pv (iH h p.sent))), (112, some (.pv (nH h j)))],
     [(991, some (.var 26 [bH h m, iH h n, bH h xs, iH h p.size, iH h p.sent, iH h p.spots, iH h p.per, iH h p.pat, iH h p.ret] false)), (992, some (.var 60 (h _ fun _ => .l (S.map bP) :: (R.map u8P ++ D.map u8P)) false))]⟩,
    fun j => j <= p.sent.toNat, fun j => p.sent.toNat - j, 0, [], Nat.zero_le _, trivial, ⟨[], rfl, rfl, ⟨rfl, rfl, trivial⟩, rfl, rfl, rfl, ?_, ?_, trivial⟩, ?_⟩
   ·cbv; simp [hh]
   ·cbv; simp [hh]
   ·intro j hj
    cbv
    refine ⟨fun _ => rfl, fun e => ?_, fun e => ?_⟩ <;> simp only [hh, nI, decide_eq_true_eq, decide_eq_false_iff_not] at e
    ·obtain ⟨-, hpl, -, hSl, l1, l2, l3, hc, hk, hs⟩ := HH.out
     have e' : j < p.sent.toNat := by have : (j : Int) < p.sent := e; omega
     obtain ⟨P1, P2⟩ := hpl j e'
     have hsn := VI Z h hh m n (j : Int) p (by simp [sdE, hc, hk]) ⟨by omega, by omega⟩
     have l1' : blk p.size = ((qt xs).length : Int) := l1.symm
     have eN : (blk p.size + p.sent).toNat = S.length := by rw [hSl, l1']; omega
     have eB : (blk p.size).toNat + (j : Int).toNat = (qt xs).length + j := by rw [l1']; omega
     rw [eN, eB] at hsn
     obtain ⟨pl, hple⟩ := exq (ji (qn m qM n) S.length ((qt xs).length + j))
     rw [hple] at hsn P1 P2
     obtain ⟨bs, hbs⟩ := exq (ze (qn m jR n) (pl : Int) (uK (qn m jp n) (j : Int)))
     rw [hbs] at hsn P2
     rw [List.getElem?_eq_getElem P1] at P2
     have P3 := Option.some.inj P2
     have j9 : j <= 8 := by omega
     have q1 : ¬ (pl : Int) < 0 := by omega
     have q2 : ¬ (S.length : Int) <= (pl : Int) := by omega
     clear P2 hbs hple eN eB hpl hSl l1 l1' l2 l3 hc hk hs
     cbv
     repeat' first
      | exact .inr trivial
      | exact .inr rfl
      | apply And.intro
      | (refine fun (_ : PUnit) => ?_; exact sg)
      | trivial
      | (refine fun (e : (_ : Bool) = _) => ?_; first | (exfalso; simp [hh, nm, nx, hR, hD] at e; done) | (clear e; cbv))
     refine ⟨_, _, _, hC _ _ _ _ hsn, ?_⟩
     cbv
     clear hsn
     repeat' first
      | exact .inr trivial
      | exact .inr rfl
      | apply And.intro
      | (refine fun (_ : PUnit) => ?_; exact sg)
      | trivial
      | (refine fun (e : (_ : Bool) = _) => ?_; first | (exfalso; simp [hh, nm, nx, hR, hD, P1, P3, q1, q2] at e; done) | (clear e; cbv))
     refine ⟨j + 1, e', by show p.sent.toNat - (j + 1) < p.sent.toNat - j; omega, [], rfl, rfl, ⟨rfl, rfl, trivial⟩, rfl, rfl, rfl, rfl, ?_, trivial⟩
     cbv; simp (disch := omega) [hh, jo]
    ·clear e
     cbv
     repeat' first
      | exact .inr trivial
      | exact .inr rfl
      | apply And.intro
      | (refine fun (_ : PUnit) => ?_; exact sg)
      | trivial
      | (refine fun (e : (_ : Bool) = _) => ?_; first | (exfalso; simp [hh, nm, nx, hR, hD] at e; done) | (clear e; cbv))
end Go.Bl
namespace Go.Bl
open Go.RowKit Go.Proofs
open Go.Proofs.YtnafknkchbfpaaaGreatDoor (Par chk blk jS yO)
def Vo (j : Nat) : ByteArray := if j = 0 then ⟨#[115, 105, 122, 101]⟩ else if j = 1 then ⟨#[115, 101, 110, 116, 105, 110, 101, 108, 115]⟩ else if j = 2 then ⟨#[115, 112, 111, 116, 115]⟩ else if j = 3 then ⟨#[112, 101, 114, 105, 111, 100]⟩ else if j = 4 then ⟨#[112, 97, 116, 105, 101, 110, 99, 101]⟩ else ⟨#[114, 101, 116, 114, 105, 101, 115]⟩
def xR (p : Par) (j : Nat) : Int := if j = 0 then p.size else if j = 1 then p.sent else if j = 2 then p.spots else if j = 3 then p.per else if j = 4 then p.pat else p.ret
def uI (j : Nat) : Int := if j = 0 ∨ j = 1 ∨ j = 5 then 0 else 1
def y8 (p : Par) (q : Int) (j : Nat) : Int := if j = 0 then 2000 else if j = 1 then 8 else if j = 2 then (if q < 12 then q else 12) else if j = 3 then 10000 else if j = 4 then p.per else 5
def ZD (Z : Ad) (p : Par) (q : Int) (j : Nat) : List PV := [.v (.string (Vo j)), iP (xR p j), iP (uI j), iP (y8 p q j), jO Z (yO j)]
def ZT (Z : Ad) (p : Par) (q : Int) : List PV := ZD Z p q 0 ++ ZD Z p q 1 ++ ZD Z p q 2 ++ ZD Z p q 3 ++ ZD Z p q 4 ++ ZD Z p q 5
theorem Zw (Z : Ad) (h : Hh) (hh : ∀ α g, h α g = g ()) (p : Par) (q : Int) : jw Z 119 [.pv (xI h p), .pv (iH h q)] (.pv (.a (h _ fun _ => ZT Z p q))) [.any, .any] := by
 refine uu Z h hh ⟨Tryz.func119, Tryz.ntmps119⟩ rfl rfl rfl rfl rfl fun C hC => ?_
 unfold Tryz.f119
 cbv
 repeat' first
  | exact .inr trivial
  | exact .inr rfl
  | apply And.intro
  | (refine fun (_ : PUnit) => ?_; first | exact sg | (simp [hh, splice, jI, ZT, ZD, Vo, xR, uI, y8, yO, jO]; done))
  | trivial
end Go.Bl
namespace Go.Bl
open Go.RowKit Go.Proofs
open Go.Proofs.YtnafknkchbfpaaaGreatDoor (Par chk blk jS yO zc KF ue)
def KN (Z : Ad) (p : Par) (j : Nat) : List PV := [.v (.string (Vo j)), iP (xR p j), jO Z (yO j)]
def bOk (p : Par) (q : Int) (j : Nat) : Prop := uI j <= xR p j /\ xR p j <= y8 p q j
theorem VV (Z : Ad) (p : Par) (q : Int) {k : Nat} (hk : k < 6) : List.take 5 (List.drop (k * 5) (ZT Z p q)) = ZD Z p q k := by
 have : k = 0 ∨ k = 1 ∨ k = 2 ∨ k = 3 ∨ k = 4 ∨ k = 5 := by omega
 rcases this with rfl | rfl | rfl | rfl | rfl | rfl <;> rfl
theorem qbd (Z : Ad) (p : Par) (q : Int) : (ZT Z p q).length = 30 := rfl
theorem qaW (Z : Ad) (h : Hh) (hh : ∀ α g, h α g = g ()) (size : Int) : ∃ (t : Int) (k : Nat), 0 <= t /\ t <= 510 /\ (0 <= size /\ size <= 2000 -> t = blk size /\ k = 0) /\ jw Z 118 [.pv (iH h size)] (.tup [.pv (iH h t), .pv (.v (h _ fun _ => ue Z.e k))]) [.any] := by
 simp only [iH, hh]
 by_cases hs : size < 0 ∨ 2000 < size
 ·refine ⟨0, 8, by decide, by decide, fun q => by omega, ?_⟩
  refine vI (xs := [iP size]) (.tuple #[.int .i64 0, ue Z.e 8]) Tryz.func118 rfl rfl (fun A w => .tup (.cons (.pv (.v rfl)) (.cons (.pv (.v rfl)) .nil))) fun A w us hA he hr => ?_
  cases hr with
  | cons h1 h2 =>
   cases h2
   rw [y6 h1]
   exact Go.Proofs.YtnafknkchbfpaaaGreatDoor.total_bad Go.Proofs.YtnafknkchbfpaaaGreatDoor.all20 Z.e _ w (uV he) qd size hs
 ·have h9 : 0 <= size /\ size <= 2000 := by omega
  have hb := Go.Proofs.YtnafknkchbfpaaaGreatDoor.blk_le (p := ⟨size, 0, 0, 0, 0, 0⟩) h9
  refine ⟨blk size, 0, hb.1, hb.2, fun _ => ⟨rfl, rfl⟩, ?_⟩
  refine vI (xs := [iP size]) (.tuple #[.int .i64 (blk size), ue Z.e 0]) Tryz.func118 rfl rfl (fun A w => .tup (.cons (.pv (.v rfl)) (.cons (.pv (.v rfl)) .nil))) fun A w us hA he hr => ?_
  cases hr with
  | cons h1 h2 =>
   cases h2
   rw [y6 h1]
   exact Go.Proofs.YtnafknkchbfpaaaGreatDoor.total_ok w size h9.1 h9.2
theorem Uv (Z : Ad) (p : Par) (q : Int) (k : Nat) (hk : k < 6) : 5 <= (ZT Z p q).length - k * 5 := by rw [qbd]; omega
theorem qcq (Z : Ad) (h : Hh) (hh : ∀ α g, h α g = g ()) (p : Par) (t : Int) (k0 : Nat) (ht : jw Z 118 [.pv (iH h p.size)] (.tup [.pv (iH h t), .pv (.v (h _ fun _ => ue Z.e k0))]) [.any]) (hok : ∀ j, j < 6 -> bOk p (IntKind.i64.wrap (t + p.sent)) j) :
  jw Z 72 [.pv (xI h p)] (.pv (.v .nilIface)) [.any] := by
 obtain ⟨q, hq⟩ := exq (IntKind.i64.wrap (t + p.sent))
 rw [hq] at hok
 refine uu Z h hh ⟨Tryz.func72, Tryz.ntmps72⟩ rfl rfl rfl rfl rfl fun C hC => ?_
 unfold Tryz.f72
 cbv
 refine ⟨fun _ => by decide, ?_⟩
 refine ⟨_, _, _, hC _ _ _ _ ht, ?_⟩
 cbv
 clear ht
 repeat' first
  | exact .inr trivial
  | exact .inr rfl
  | apply And.intro
  | (refine fun (_ : PUnit) => ?_; exact sg)
  | trivial
  | (refine fun (e : (_ : Bool) = _) => ?_; first | (exfalso; simp [hh, hq] at e; done) | (clear e; cbv))
 refine ⟨_, _, _, hC _ _ _ _ (Zw Z h hh p q), ?_⟩
 cbv
 repeat' first
  | exact .inr trivial
  | exact .inr rfl
  | apply And.intro
  | (refine fun (_ : PUnit) => ?_; exact sg)
  | trivial
  | (refine fun (e : (_ : Bool) = _) => ?_; first | (exfalso; simp [hh, hq] at e; done) | (clear e; cbv))
 refine ⟨Nat, fun k => ⟨[(18, some (.pv (.a (h _ fun _ => ZT Z p q)))), (19, some (.pv (nH h k)))], []⟩, fun k => k <= 6, fun k => 6 - k, 0, [], Nat.zero_le _, trivial, ⟨[], rfl, rfl, trivial, rfl, ?_, trivial⟩, ?_⟩
 ·cbv; simp [hh]
 ·intro k hk
  cbv
  refine ⟨fun _ => rfl, fun e => ?_, fun e => ?_⟩ <;> simp only [hh, nI, decide_eq_true_eq, decide_eq_false_iff_not] at e
  ·have e' : k < 6 := Jq (b := 6) e
   obtain ⟨f1, f2⟩ := hok k e'
   have hr := VV Z p q e'
   have hl := Uv Z p q k e'
   have g1 : ¬ xR p k < uI k := Int.not_lt.2 f1
   have g2 : ¬ y8 p q k < xR p k := Int.not_lt.2 f2
   clear f1 f2 hok
   have hr2 : ZD Z p q k = [.v (.string (Vo k)), iP (xR p k), iP (uI k), iP (y8 p q k), jO Z (yO k)] := rfl
   cbv
   repeat' first
    | exact .inr trivial
    | exact .inr rfl
    | apply And.intro
    | (refine fun (_ : PUnit) => ?_; exact sg)
    | trivial
    | (refine fun (e : (_ : Bool) = _) => ?_; first | (exfalso; simp [hh, hr, hr2, g1, g2, jO] at e; done) | (clear e; cbv))
   refine ⟨k + 1, e', by show 6 - (k + 1) < 6 - k; omega, [], rfl, rfl, trivial, rfl, ?_, trivial⟩
   cbv; simp (disch := omega) [hh, jo]
  ·have e' := Uo (b := 6) e
   cbv
   exact ⟨.inr trivial, fun _ => rfl, trivial⟩
theorem LT (Z : Ad) (h : Hh) (hh : ∀ α g, h α g = g ()) (p : Par) (t : Int) (k0 : Nat) (ht : jw Z 118 [.pv (iH h p.size)] (.tup [.pv (iH h t), .pv (.v (h _ fun _ => ue Z.e k0))]) [.any]) (j0 : Nat) (hj0 : j0 < 6) (hok : ∀ j, j < j0 -> bOk p (IntKind.i64.wrap (t + p.sent)) j) (hbad : ¬ bOk p (IntKind.i64.wrap (t + p.sent)) j0) :
  jw Z 72 [.pv (xI h p)] (.pv (.i 204 (.p (h _ fun _ => KN Z p j0)))) [.any] := by
 obtain ⟨q, hq⟩ := exq (IntKind.i64.wrap (t + p.sent))
 rw [hq] at hok hbad
 refine uu Z h hh ⟨Tryz.func72, Tryz.ntmps72⟩ rfl rfl rfl rfl rfl fun C hC => ?_
 unfold Tryz.f72
 cbv
 refine ⟨fun _ => by decide, ?_⟩
 refine ⟨_, _, _, hC _ _ _ _ ht, ?_⟩
 cbv
 clear ht
 repeat' first
  | exact .inr trivial
  | exact .inr rfl
  | apply And.intro
  | (refine fun (_ : PUnit) => ?_; exact sg)
  | trivial
  | (refine fun (e : (_ : Bool) = _) => ?_; first | (exfalso; simp [hh, hq] at e; done) | (clear e; cbv))
 refine ⟨_, _, _, hC _ _ _ _ (Zw Z h hh p q), ?_⟩
 cbv
 repeat' first
  | exact .inr trivial
  | exact .inr rfl
  | apply And.intro
  | (refine fun (_ : PUnit) => ?_; exact sg)
  | trivial
  | (refine fun (e : (_ : Bool) = _) => ?_; first | (exfalso; simp [hh, hq] at e; done) | (clear e; cbv))
 refine ⟨Nat, fun k => ⟨[(18, some (.pv (.a (h _ fun _ => ZT Z p q)))), (19, some (.pv (nH h k)))], []⟩, fun k => k <= j0, fun k => j0 - k, 0, [], Nat.zero_le _, trivial, ⟨[], rfl, rfl, trivial, rfl, ?_, trivial⟩, ?_⟩
 ·cbv; simp [hh]
 ·intro k hk
  cbv
  refine ⟨fun _ => rfl, fun e => ?_, fun e => ?_⟩ <;> simp only [hh, nI, decide_eq_true_eq, decide_eq_false_iff_not] at e
  ·have e' : k < 6 := Jq (b := 6) e
   rcases Nat.lt_or_ge k j0 with hk2 | hk2
   ·obtain ⟨f1, f2⟩ := hok k hk2
    have hr := VV Z p q e'
    have hl := Uv Z p q k e'
    have g1 : ¬ xR p k < uI k := Int.not_lt.2 f1
    have g2 : ¬ y8 p q k < xR p k := Int.not_lt.2 f2
    clear f1 f2 hok hbad
    have hr2 : ZD Z p q k = [.v (.string (Vo k)), iP (xR p k), iP (uI k), iP (y8 p q k), jO Z (yO k)] := rfl
    cbv
    repeat' first
     | exact .inr trivial
     | exact .inr rfl
     | apply And.intro
     | (refine fun (_ : PUnit) => ?_; exact sg)
     | trivial
     | (refine fun (e : (_ : Bool) = _) => ?_; first | (exfalso; simp [hh, hr, hr2, g1, g2, jO] at e; done) | (clear e; cbv))
    refine ⟨k + 1, hk2, by show j0 - (k + 1) < j0 - k; omega, [], rfl, rfl, trivial, rfl, ?_, trivial⟩
    cbv; simp (disch := omega) [hh, jo]
   ·obtain rfl : k = j0 := Nat.le_antisymm hk hk2
    have hr := VV Z p q e'
    have hl := Uv Z p q k e'
    have hr2 : ZD Z p q k = [.v (.string (Vo k)), iP (xR p k), iP (uI k), iP (y8 p q k), jO Z (yO k)] := rfl
    by_cases f1 : xR p k < uI k
    ·have g1 : xR p k < uI k := f1
     clear f1 hok hbad
     cbv
     repeat' first
      | exact .inr trivial
      | exact .inr rfl
      | apply And.intro
      | (refine fun (_ : PUnit) => ?_; first | exact sg | (simp [hh, hr, hr2, KN, jO, jI]; done))
      | trivial
      | (refine fun (e : (_ : Bool) = _) => ?_; first | (exfalso; simp [hh, hr, hr2, g1, jO] at e; done) | (clear e; cbv))
    ·have g1 : ¬ xR p k < uI k := f1
     have g2 : y8 p q k < xR p k := by
      rcases Int.lt_or_le (y8 p q k) (xR p k) with r | r
      ·exact r
      ·exact absurd ⟨Int.not_lt.1 f1, r⟩ hbad
     clear f1 hok hbad
     cbv
     repeat' first
      | exact .inr trivial
      | exact .inr rfl
      | apply And.intro
      | (refine fun (_ : PUnit) => ?_; first | exact sg | (simp [hh, hr, hr2, KN, jO, jI]; done))
      | trivial
      | (refine fun (e : (_ : Bool) = _) => ?_; first | (exfalso; simp [hh, hr, hr2, g1, g2, jO] at e; done) | (clear e; cbv))
  ·have e' := Uo (b := 6) e
   omega
end Go.Bl
namespace Go.Bl
open Go.RowKit Go.Proofs
open Go.Proofs.YtnafknkchbfpaaaGreatDoor (Par chk blk jS yO qp)
def xB : List PV := .l [] :: List.replicate 64 (u8P 0)
theorem qdn (Z : Ad) (h : Hh) (hh : ∀ α g, h α g = g ()) (m : List UInt8) (n : Int) (hk : qp m n ≠ 0) : jw Z 90 [.pv (bH h m), .pv (iH h n)] (.tup [.pv (.a [.l [], .l [], .l [], .l [], .l []]), .pv (jO Z (qp m n))]) [.any, .any] := by
 simp only [bH, lH, iH, hh]
 refine vI (xs := [bP m, iP n]) (.tuple #[.agg n5q, .iface 317 (.pointer (some (Z.e (qp m n))))]) Tryz.func90 rfl rfl (fun A w => .tup (.cons (.pv (.a (us := [_, _, _, _, _]) (.cons (.nil _ _) (.cons (.nil _ _) (.cons (.nil _ _) (.cons (.nil _ _) (.cons (.nil _ _) .nil))))) (by simp [PV.one]))) (.cons (.pv (.v rfl)) .nil))) fun A w us hA he hr => ?_
 cases hr with
 | cons h1 hr =>
 cases hr with
 | cons h2 hr =>
  cases hr
  rw [y6 h2]
  refine (Go.Proofs.YtnafknkchbfpaaaGreatDoor.all_any Z.e _ w _ m n (uV he) (Jg he) (zP h1)).mono ?_
  rintro e w' ⟨u0, u1, u2, u3, u4, rfl, -, g, hf⟩
  obtain ⟨rfl, rfl, rfl, rfl, rfl⟩ := g hk
  rw [Go.Proofs.YtnafknkchbfpaaaGreatDoor.errv_pos Z.e _ hk]
  exact ⟨rfl, hf⟩
theorem qeY (Z : Ad) (h : Hh) (hh : ∀ α g, h α g = g ()) (m : List UInt8) (n : Int) (p : Par) (hc : chk p = 0) (hk : qp m n ≠ 0) : jw Z 64 [.pv (bH h m), .pv (iH h n), .pv (xI h p)] (.tup [.pv (.v (.pointer none)), .pv (jO Z (qp m n))]) [.any, .any, .any] := by
 have hst := Z8 Z h hh p hc
 have hab := qdn Z h hh m n hk
 obtain ⟨k, hke⟩ := exq (qp m n)
 rw [hke] at hab ⊢
 clear hke hc hk
 refine uu Z h hh ⟨Tryz.func64, Tryz.ntmps64⟩ rfl rfl rfl rfl rfl fun C hC => ?_
 unfold Tryz.f64
 cbv
 repeat' first
  | exact .inr trivial
  | exact .inr rfl
  | apply And.intro
  | (refine fun (_ : PUnit) => ?_; exact sg)
  | trivial
  | (refine fun (e : (_ : Bool) = _) => ?_; first | (exfalso; simp [hh] at e; done) | (clear e; cbv))
 refine ⟨_, _, _, hC _ _ _ _ hst, ?_⟩
 clear hst
 cbv
 repeat' first
  | exact .inr trivial
  | exact .inr rfl
  | apply And.intro
  | (refine fun (_ : PUnit) => ?_; exact sg)
  | trivial
  | (refine fun (e : (_ : Bool) = _) => ?_; first | (exfalso; simp [hh] at e; done) | (clear e; cbv))
 refine ⟨_, _, _, hC _ _ _ _ hab, ?_⟩
 clear hab
 cbv
 repeat' first
  | exact .inr trivial
  | exact .inr rfl
  | apply And.intro
  | (refine fun (_ : PUnit) => ?_; exact sg)
  | trivial
  | (refine fun (e : (_ : Bool) = _) => ?_; first | (exfalso; simp [hh] at e; done) | (clear e; cbv))
theorem qcE (Z : Ad) (h : Hh) (hh : ∀ α g, h α g = g ()) (m xs : List UInt8) (n : Int) (p : Par) (x : List PV) (hb : jw Z 72 [.pv (xI h p)] (.pv (.i 204 (.p (h _ fun _ => x)))) [.any]) :
  jw Z 26 [.pv (bH h m), .pv (iH h n), .pv (bH h xs), .pv (xI h p)] (.tup [.pv (.a (h _ fun _ => xB)), .pv (.i 204 (.p (h _ fun _ => x)))]) [.any, .any, .any, .any] := by
 refine uu Z h hh ⟨Tryz.func26, Tryz.ntmps26⟩ rfl rfl rfl rfl rfl fun C hC => ?_
 unfold Tryz.f26
 cbv
 repeat' first
  | exact .inr trivial
  | exact .inr rfl
  | apply And.intro
  | (refine fun (_ : PUnit) => ?_; exact sg)
  | trivial
  | (refine fun (e : (_ : Bool) = _) => ?_; first | (exfalso; simp [hh] at e; done) | (clear e; cbv))
 refine ⟨_, _, _, hC _ _ _ _ hb, ?_⟩
 cbv
 clear hb
 repeat' first
  | exact .inr trivial
  | exact .inr rfl
  | apply And.intro
  | (refine fun (_ : PUnit) => ?_; first | exact sg | (simp [hh, *, jI, xB, List.replicate]; done))
  | trivial
  | (refine fun (e : (_ : Bool) = _) => ?_; first | (exfalso; simp [hh] at e; done) | (clear e; cbv))
theorem qak (Z : Ad) (h : Hh) (hh : ∀ α g, h α g = g ()) (m xs : List UInt8) (n : Int) (p : Par) (hb : jw Z 72 [.pv (xI h p)] (.pv (.v .nilIface)) [.any]) (hs : (xs.length : Int) ≠ p.size) :
  jw Z 26 [.pv (bH h m), .pv (iH h n), .pv (bH h xs), .pv (xI h p)] (.tup [.pv (.a (h _ fun _ => xB)), .pv (jO Z 8)]) [.any, .any, .any, .any] := by
 refine uu Z h hh ⟨Tryz.func26, Tryz.ntmps26⟩ rfl rfl rfl rfl rfl fun C hC => ?_
 unfold Tryz.f26
 cbv
 repeat' first
  | exact .inr trivial
  | exact .inr rfl
  | apply And.intro
  | (refine fun (_ : PUnit) => ?_; exact sg)
  | trivial
  | (refine fun (e : (_ : Bool) = _) => ?_; first | (exfalso; simp [hh] at e; done) | (clear e; cbv))
 refine ⟨_, _, _, hC _ _ _ _ hb, ?_⟩
 cbv
 clear hb
 repeat' first
  | exact .inr trivial
  | exact .inr rfl
  | apply And.intro
  | (refine fun (_ : PUnit) => ?_; first | exact sg | (simp [hh, *, jI, xB, List.replicate]; done))
  | trivial
  | (refine fun (e : (_ : Bool) = _) => ?_; first | (exfalso; simp [hh, hs] at e; done) | (clear e; cbv))
theorem qcJ (Z : Ad) (h : Hh) (hh : ∀ α g, h α g = g ()) (m xs : List UInt8) (n : Int) (p : Par) (hb : jw Z 72 [.pv (xI h p)] (.pv (.v .nilIface)) [.any]) (hc : chk p = 0) (hs : (xs.length : Int) = p.size) (hk : qp m n ≠ 0) :
  jw Z 26 [.pv (bH h m), .pv (iH h n), .pv (bH h xs), .pv (xI h p)] (.tup [.pv (.a (h _ fun _ => xB)), .pv (jO Z (qp m n))]) [.any, .any, .any, .any] := by
 have ho := qeY Z h hh m n p hc hk
 obtain ⟨k, hke⟩ := exq (qp m n)
 rw [hke] at ho ⊢
 clear hke hc hk
 have ns : ¬ (xs.length : Int) ≠ p.size := fun q => q hs
 have HS := Hdq hs
 clear hs
 refine uu Z h hh ⟨Tryz.func26, Tryz.ntmps26⟩ rfl rfl rfl rfl rfl fun C hC => ?_
 unfold Tryz.f26
 cbv
 repeat' first
  | exact .inr trivial
  | exact .inr rfl
  | apply And.intro
  | (refine fun (_ : PUnit) => ?_; exact sg)
  | trivial
  | (refine fun (e : (_ : Bool) = _) => ?_; first | (exfalso; simp [hh] at e; done) | (clear e; cbv))
 refine ⟨_, _, _, hC _ _ _ _ hb, ?_⟩
 cbv
 clear hb
 repeat' first
  | exact .inr trivial
  | exact .inr rfl
  | apply And.intro
  | (refine fun (_ : PUnit) => ?_; exact sg)
  | trivial
  | (refine fun (e : (_ : Bool) = _) => ?_; first | (exfalso; simp [hh, HS.out] at e; done) | (clear e; cbv))
 refine ⟨_, _, _, hC _ _ _ _ ho, ?_⟩
 cbv
 clear ho
 repeat' first
  | exact .inr trivial
  | exact .inr rfl
  | apply And.intro
  | (refine fun (_ : PUnit) => ?_; first | exact sg | (simp [hh, *, jI, xB, List.replicate]; done))
  | trivial
  | (refine fun (e : (_ : Bool) = _) => ?_; first | (exfalso; simp [hh, HS.out] at e; done) | (clear e; cbv))
end Go.Bl
namespace Go.Bl
open Go.RowKit Go.Proofs Go.Proofs.YtnafknkchbfpaaaGreatDoor
theorem qaU (Z : Ad) (h : Hh) (hh : ∀ α g, h α g = g ()) (m xs : List UInt8) (n : Int) (p : Par) (nm : (100 : Int) < (m.length : Int)) : jw Z 6 [.pv (Vg h m xs n p)] (.pv (.v (.bool true))) [.any] := by
 refine uu Z h hh ⟨Tryz.func6, Tryz.ntmps6⟩ rfl rfl rfl rfl rfl fun C hC => ?_
 unfold Tryz.f6
 cbv
 refine ⟨_, _, _, hC _ _ _ _ (vE Z), ?_⟩
 cbv
 repeat' first
  | exact .inr trivial
  | exact .inr rfl
  | apply And.intro
  | (refine fun (_ : PUnit) => ?_; exact sg)
  | trivial
  | (refine fun (e : (_ : Bool) = _) => ?_; first | (exfalso; simp [hh, nm] at e; done) | (clear e; cbv))
theorem LV (Z : Ad) (h : Hh) (hh : ∀ α g, h α g = g ()) (m xs : List UInt8) (n : Int) (p : Par) (nm : ¬ (100 : Int) < (m.length : Int)) (nx : (100 : Int) < (xs.length : Int)) : jw Z 6 [.pv (Vg h m xs n p)] (.pv (.v (.bool true))) [.any] := by
 refine uu Z h hh ⟨Tryz.func6, Tryz.ntmps6⟩ rfl rfl rfl rfl rfl fun C hC => ?_
 unfold Tryz.f6
 cbv
 refine ⟨_, _, _, hC _ _ _ _ (vE Z), ?_⟩
 cbv
 repeat' first
  | exact .inr trivial
  | exact .inr rfl
  | apply And.intro
  | (refine fun (_ : PUnit) => ?_; exact sg)
  | trivial
  | (refine fun (e : (_ : Bool) = _) => ?_; first | (exfalso; simp [hh, nm, nx] at e; done) | (clear e; cbv))
theorem qbI (Z : Ad) (h : Hh) (hh : ∀ α g, h α g = g ()) (m xs : List UInt8) (n : Int) (p : Par) (nm : ¬ (100 : Int) < (m.length : Int)) (nx : ¬ (100 : Int) < (xs.length : Int)) (x : List PV)
  (hb : jw Z 26 [.pv (bH h m), .pv (iH h n), .pv (bH h xs), .pv (xI h p)] (.tup [.pv (.a (h _ fun _ => xB)), .pv (.i 204 (.p (h _ fun _ => x)))]) [.any, .any, .any, .any]) : jw Z 6 [.pv (Vg h m xs n p)] (.pv (.v (.bool true))) [.any] := by
 refine uu Z h hh ⟨Tryz.func6, Tryz.ntmps6⟩ rfl rfl rfl rfl rfl fun C hC => ?_
 unfold Tryz.f6
 cbv
 refine ⟨_, _, _, hC _ _ _ _ (vE Z), ?_⟩
 cbv
 repeat' first
  | exact .inr trivial
  | exact .inr rfl
  | apply And.intro
  | (refine fun (_ : PUnit) => ?_; exact sg)
  | trivial
  | (refine fun (e : (_ : Bool) = _) => ?_; first | (exfalso; simp [hh, nm, nx] at e; done) | (clear e; cbv))
 refine ⟨_, _, _, hC _ _ _ _ hb, ?_⟩
 cbv
 clear hb
 repeat' first
  | exact .inr trivial
  | exact .inr rfl
  | apply And.intro
  | (refine fun (_ : PUnit) => ?_; first | exact sg | (simp [hh, xB, jI, List.replicate]; done))
  | trivial
  | (refine fun (e : (_ : Bool) = _) => ?_; first | (exfalso; simp [hh, nm, nx, xB] at e; done) | (clear e; cbv))
theorem XZ (Z : Ad) (h : Hh) (hh : ∀ α g, h α g = g ()) (m xs : List UInt8) (n : Int) (p : Par) (nm : ¬ (100 : Int) < (m.length : Int)) (nx : ¬ (100 : Int) < (xs.length : Int)) (k : Nat)
  (hb : jw Z 26 [.pv (bH h m), .pv (iH h n), .pv (bH h xs), .pv (xI h p)] (.tup [.pv (.a (h _ fun _ => xB)), .pv (jO Z k)]) [.any, .any, .any, .any]) : jw Z 6 [.pv (Vg h m xs n p)] (.pv (.v (.bool true))) [.any] := by
 refine uu Z h hh ⟨Tryz.func6, Tryz.ntmps6⟩ rfl rfl rfl rfl rfl fun C hC => ?_
 unfold Tryz.f6
 cbv
 refine ⟨_, _, _, hC _ _ _ _ (vE Z), ?_⟩
 cbv
 repeat' first
  | exact .inr trivial
  | exact .inr rfl
  | apply And.intro
  | (refine fun (_ : PUnit) => ?_; exact sg)
  | trivial
  | (refine fun (e : (_ : Bool) = _) => ?_; first | (exfalso; simp [hh, nm, nx] at e; done) | (clear e; cbv))
 refine ⟨_, _, _, hC _ _ _ _ hb, ?_⟩
 cbv
 clear hb
 repeat' first
  | exact .inr trivial
  | exact .inr rfl
  | apply And.intro
  | (refine fun (_ : PUnit) => ?_; first | exact sg | (simp [hh, xB, jI, List.replicate]; done))
  | trivial
  | (refine fun (e : (_ : Bool) = _) => ?_; first | (exfalso; simp [hh, nm, nx, xB] at e; done) | (clear e; cbv))
theorem UR {Q : Nat -> Prop} : ∀ (n : Nat), ¬ (∀ j, j < n -> Q j) -> ∃ j0, j0 < n /\ (∀ j, j < j0 -> Q j) /\ ¬ Q j0
 | 0, h => absurd (fun j hj => by omega) h
 | n + 1, h => by
  by_cases h1 : ∀ j, j < n -> Q j
  ·refine ⟨n, Nat.lt_succ_self n, h1, fun hq => h fun j hj => ?_⟩
   rcases Nat.lt_or_ge j n with q | q
   ·exact h1 j q
   ·obtain rfl : j = n := by omega
    exact hq
  ·obtain ⟨j0, q1, q2, q3⟩ := UR n h1
   exact ⟨j0, by omega, q2, q3⟩
theorem qe7 {p : Par} {t : Int} (t3 : 0 <= p.size /\ p.size <= 2000 -> t = blk p.size) (t1 : 0 <= t) (t2 : t <= 510) (h : ∀ j, j < 6 -> bOk p (IntKind.i64.wrap (t + p.sent)) j) : chk p = 0 := by
 have h0 : 0 <= p.size /\ p.size <= 2000 := h 0 qd
 have h1 : 0 <= p.sent /\ p.sent <= 8 := h 1 qd
 have e := t3 h0
 have h2 := h 2 qd
 rw [jo Y62 Y62, e] at h2
 refine KF p fun i hi => ?_
 have : i = 0 ∨ i = 1 ∨ i = 2 ∨ i = 3 ∨ i = 4 ∨ i = 5 := by omega
 rcases this with rfl | rfl | rfl | rfl | rfl | rfl
 ·exact h0
 ·exact h1
 ·have h2' : 1 <= p.spots /\ p.spots <= (if blk p.size + p.sent < 12 then blk p.size + p.sent else 12) := h2
  refine ⟨h2'.1, ?_⟩
  have := h2'.2
  split at this <;> omega
 ·exact h 3 qd
 ·exact h 4 qd
 ·exact h 5 qd
theorem qd6 (Z : Ad) (h : Hh) (hh : ∀ α g, h α g = g ()) (m xs : List UInt8) (n : Int) (p : Par) : jw Z 6 [.pv (Vg h m xs n p)] (.pv (.v (.bool true))) [.any] := by
 by_cases hm : 100 < m.length
 ·exact qaU Z h hh m xs n p Y62
 by_cases hx : 100 < xs.length
 ·exact LV Z h hh m xs n p Y62 Y62
 have nm : ¬ (100 : Int) < (m.length : Int) := by omega
 have nx : ¬ (100 : Int) < (xs.length : Int) := by omega
 obtain ⟨t, k0, t1, t2, t3, ht⟩ := qaW Z h hh p.size
 by_cases hok : ∀ j, j < 6 -> bOk p (IntKind.i64.wrap (t + p.sent)) j
 ·have hc : chk p = 0 := qe7 (fun q => (t3 q).1) t1 t2 hok
  have hb := qcq Z h hh p t k0 ht hok
  by_cases hs : (xs.length : Int) = p.size
  ·by_cases hk : qp m n = 0
   ·exact qeX Z h hh m xs n p hm hx hc hk hs
   ·exact XZ Z h hh m xs n p nm nx _ (qcJ Z h hh m xs n p hb hc hs hk)
  ·exact XZ Z h hh m xs n p nm nx 8 (qak Z h hh m xs n p hb hs)
 ·obtain ⟨j0, h1, h2, h3⟩ := UR 6 hok
  exact qbI Z h hh m xs n p nm nx _ (qcE Z h hh m xs n p _ (LT Z h hh p t k0 ht j0 h1 h2 h3))
theorem WR (Z : Ad) (mv fv : Value) (m f : List UInt8) (n : Int) (q : Par) (hS : SG Z.w) (hm : Go.Bl.Bs (fun _ => False) Z.w mv m) (hf : Go.Bl.Bs (fun _ => False) Z.w fv f) : Calls Tryz.prog 6 #[qb4 mv n fv q] Z.w fun e w' => e = .returned (.bool true) /\ Fr [] Z.w w' := by
 have h := qd6 Z (fun _ f => f ()) (fun _ _ => rfl) m f n q
 refine LW Z h hS ?_
 exact .a (us := [mv, .int .i64 n, fv, .int .i64 q.size, .int .i64 q.sent, .int .i64 q.spots, .int .i64 q.per, .int .i64 q.pat, .int .i64 q.ret])
  (.cons (Jp hm) (.cons (.v rfl) (.cons (Jp hf) (.cons (.v rfl) (.cons (.v rfl) (.cons (.v rfl) (.cons (.v rfl) (.cons (.v rfl) (.cons (.v rfl) .nil))))))))) (by simp [PV.one])
end Go.Bl
