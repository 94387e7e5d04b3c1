import Derived.Test.YtdloaifdpajcjaaGreatDoorQD
set_option linter.unusedVariables false
set_option linter.unusedSimpArgs false
set_option maxRecDepth 1000000
set_option maxHeartbeats 8000000
namespace Go.Bl
open Go.RowKit Go.Proofs
attribute [local irreducible] qz
open Go.Proofs.YtdloaifdpajcjaaGreatDoor (Par chk blk qU jU zK qj qg qS ql qG jd jK sdE qA jL jy)
theorem qcF (Z : Ad) (h : Hh) (hh : ∀ α g, h α g = g ()) (m : List UInt8) (x : jY) (y : jc) (l : zu) (lr : x.root.length = 32) (lf : x.file.length = 32) (pl : List Int) (c1 : qi Z 8 [.pv (bH h m), .pv (jk h x), .pv (qX h y)] (.tup [.pv (lH h iP pl), .pv (.v .nilIface)]) [.any, .any, .any]) (hk : l.kind = 4) (hm : l.shown.map (·.place) = pl) (hs : l.shown.length <= 100000) (oks : ∀ s ∈ l.shown, s.ok) (hcp : chk x.par = 0) (k : Nat) (k0 : k ≠ 0) (hfe : zG (jW x) l.shown = k) : qi Z 45 [.pv (bH h m), .pv (jk h x), .pv (qX h y), .pv (zq h l)] (.pv (qP Z k)) [.any, .any, .any, .any] := by
 have c2 := JE Z h hh l hs
 have c3 := Yb Z h hh pl (l.shown.map (·.place)) (by rw [<- hm, List.length_map]; exact hs)
 rw [show (pl == l.shown.map (·.place)) = true by rw [hm]; exact beq_self_eq_true _] at c3
 have cs : ∀ j (b : j < l.shown.length), qi Z 63 [.pv (jk h x), .pv (.a [iH h (l.shown[j]).place, bH h (l.shown[j]).stored, lH h aP (l.shown[j]).path])] (.pv (WI Z (jW x l.shown[j]))) [.any, .any] := fun j b => J3 Z h hh x lr lf _ (oks _ (List.getElem_mem b)) hcp
 have fd := fun j (b : j < l.shown.length) => yh (jW x) b
 obtain ⟨f, hf⟩ := exq (jW x)
 simp only [hf] at cs fd
 rw [hf] at hfe
 replace hfe := Hdq hfe
 replace cs := Hdq cs
 replace fd := Hdq fd
 clear hm oks hf hcp
 refine qB Z h hh ⟨Tryz.func45, Tryz.ntmps45⟩ rfl rfl rfl rfl rfl fun C hC => ?_
 unfold Tryz.f45
 cbv
 repeat' first
  | exact s0
  | apply And.intro
  | exact sq
  | (refine fun (_ : PUnit) => ?_; simp [hh, *, shownP, qK]; done)
  | trivial
  | (refine sz fun e => ?_; simp [hh, hk] at e <;> (try simp only [qD] at *) <;> omega)
  | (refine sy fun e => ?_; cbv)
  | (refine ⟨_, _, _, hC _ _ _ _ c1, ?_⟩; cbv; clear c1)
  | (refine ⟨_, _, _, hC _ _ _ _ c2, ?_⟩; cbv; clear c2)
  | (refine ⟨_, _, _, hC _ _ _ _ c3, ?_⟩; cbv; clear c3)
 refine ⟨Nat, fun j => ⟨[(0, some (.pv (bH h m))), (5, some (.ref 990 0 0)), (6, some (.ref 991 0 0)), (7, some (.ref 992 0 0)), (40, some (.pv (lH h shownP l.shown))), (41, some (.pv (nH h l.shown.length))), (42, some (.pv (nH h j)))], [(990, some (.var 44 (h _ fun _ => qK x) false)), (991, some (.box 28 [.pv (iH h y.id), .pv (iH h y.obj), .pv (iH h y.way), .pv (iH h y.idx), .pv (iH h y.tick), .pv (iH h y.verd), .pv (iH h y.at')] false)), (992, some (.box 50 [.pv (iH h l.kind), .pv (iH h l.id), .pv (iH h l.obj), .pv (lH h iP l.places), .pv (lH h shownP l.shown), .pv (iH h l.fr), .pv (iH h l.cnt), .pv (lH h bP l.blocks), .pv (iH h l.code)] false))]⟩, fun j => j <= l.shown.length /\ zG f (l.shown.drop j) = zG f l.shown, fun j => l.shown.length - j, 0, [], ⟨Nat.zero_le _, rfl⟩, trivial, ⟨[(990, 5), (991, 6), (992, 7)], rfl, rfl, ⟨?_, ?_, ?_, trivial⟩, ?_, ?_, ?_, ?_, ?_, ?_, ?_, trivial⟩, ?_⟩
 ·exact sp
 ·exact sp
 ·exact sp
 ·exact sp
 ·exact sp
 ·exact sp
 ·exact sp
 ·exact sp
 ·exact sp
 ·exact sp
 intro j hj
 dsimp only
 cbv
 refine ⟨fun _ => rfl, fun e => ?_, fun e => ?_⟩ <;> simp only [hh, nI, decide_eq_true_eq, decide_eq_false_iff_not, qD] at e
 ·have e' : j < l.shown.length := jI e
  have c4 := cs.out j e'
  have e3 := fd.out j e'
  by_cases q : f l.shown[j] = 0
  ·rw [if_pos q, hj.2] at e3
   replace e3 := Hdq e3
   rw [q] at c4
   replace c4 : qi Z 63 [.pv (jk h x), .pv (.a [iH h (l.shown[j]).place, bH h (l.shown[j]).stored, lH h aP (l.shown[j]).path])] (.pv (.v .nilIface)) [.any, .any] := c4
   clear hj fd cs
   cbv
   repeat' first
    | exact s0
    | apply And.intro
    | exact sq
    | (refine fun (_ : PUnit) => ?_; simp [hh, *, shownP, qK]; done)
    | trivial
    | (refine sz fun e => ?_; simp [hh, e', iP, shownP] at e <;> (try simp only [qD] at *) <;> omega)
    | (refine sy fun e => ?_; cbv)
    | (refine ⟨_, _, _, hC _ _ _ _ c4, ?_⟩; cbv; clear c4)
   refine ⟨j + 1, ⟨e', e3.out.symm⟩, by show l.shown.length - (j + 1) < l.shown.length - j; omega, ⟨[], rfl, rfl, ⟨?_, ?_, ?_, trivial⟩, ?_, ?_, ?_, ?_, ?_, ?_, ?_, trivial⟩⟩
   ·exact sp
   ·exact sp
   ·exact sp
   ·exact sp
   ·exact sp
   ·exact sp
   ·exact sp
   ·exact sp
   ·exact sp
   ·exact sp
  ·rw [if_neg q, hj.2, hfe.out] at e3
   rw [<- e3, show WI Z k = qP Z k from if_neg k0] at c4
   clear hj fd cs e3 q hfe k0
   cbv
   repeat' first
    | exact s0
    | apply And.intro
    | exact sq
    | (refine fun (_ : PUnit) => ?_; simp [hh, *, shownP, qK]; done)
    | trivial
    | exact sx
    | (refine sy fun e => ?_; cbv)
    | (refine ⟨_, _, _, hC _ _ _ _ c4, ?_⟩; cbv; clear c4)
 ·exfalso
  have e' : j = l.shown.length := Nat.le_antisymm hj.1 (jN e)
  subst e'
  have := hj.2
  rw [List.drop_length, hfe.out] at this
  exact k0 this.symm
theorem qdB (Z : Ad) (h : Hh) (hh : ∀ α g, h α g = g ()) (m : List UInt8) (x : jY) (y : jc) (l : zu) (lr : x.root.length = 32) (lf : x.file.length = 32) (pl : List Int) (c1 : qi Z 8 [.pv (bH h m), .pv (jk h x), .pv (qX h y)] (.tup [.pv (lH h iP pl), .pv (.v .nilIface)]) [.any, .any, .any]) (hk : l.kind = 4) (hm : l.shown.map (·.place) = pl) (hs : l.shown.length <= 100000) (oks : ∀ s ∈ l.shown, s.ok) (hcp : chk x.par = 0) (hfe : zG (jW x) l.shown = 0) (hw : y.way ≠ 2) : qi Z 45 [.pv (bH h m), .pv (jk h x), .pv (qX h y), .pv (zq h l)] (.pv (.v .nilIface)) [.any, .any, .any, .any] := by
 have c2 := JE Z h hh l hs
 have c3 := Yb Z h hh pl (l.shown.map (·.place)) (by rw [<- hm, List.length_map]; exact hs)
 rw [show (pl == l.shown.map (·.place)) = true by rw [hm]; exact beq_self_eq_true _] at c3
 have cs : ∀ j (b : j < l.shown.length), qi Z 63 [.pv (jk h x), .pv (.a [iH h (l.shown[j]).place, bH h (l.shown[j]).stored, lH h aP (l.shown[j]).path])] (.pv (WI Z (jW x l.shown[j]))) [.any, .any] := fun j b => J3 Z h hh x lr lf _ (oks _ (List.getElem_mem b)) hcp
 have fd := fun j (b : j < l.shown.length) => yh (jW x) b
 obtain ⟨f, hf⟩ := exq (jW x)
 simp only [hf] at cs fd
 rw [hf] at hfe
 replace hfe := Hdq hfe
 replace cs := Hdq cs
 replace fd := Hdq fd
 clear hm oks hf hcp
 refine qB Z h hh ⟨Tryz.func45, Tryz.ntmps45⟩ rfl rfl rfl rfl rfl fun C hC => ?_
 unfold Tryz.f45
 cbv
 repeat' first
  | exact s0
  | apply And.intro
  | exact sq
  | (refine fun (_ : PUnit) => ?_; simp [hh, *, shownP, qK]; done)
  | trivial
  | (refine sz fun e => ?_; simp [hh, hk] at e <;> (try simp only [qD] at *) <;> omega)
  | (refine sy fun e => ?_; cbv)
  | (refine ⟨_, _, _, hC _ _ _ _ c1, ?_⟩; cbv; clear c1)
  | (refine ⟨_, _, _, hC _ _ _ _ c2, ?_⟩; cbv; clear c2)
  | (refine ⟨_, _, _, hC _ _ _ _ c3, ?_⟩; cbv; clear c3)
 refine ⟨Nat, fun j => ⟨[(0, some (.pv (bH h m))), (5, some (.ref 990 0 0)), (6, some (.ref 991 0 0)), (7, some (.ref 992 0 0)), (40, some (.pv (lH h shownP l.shown))), (41, some (.pv (nH h l.shown.length))), (42, some (.pv (nH h j)))], [(990, some (.var 44 (h _ fun _ => qK x) false)), (991, some (.box 28 [.pv (iH h y.id), .pv (iH h y.obj), .pv (iH h y.way), .pv (iH h y.idx), .pv (iH h y.tick), .pv (iH h y.verd), .pv (iH h y.at')] false)), (992, some (.box 50 [.pv (iH h l.kind), .pv (iH h l.id), .pv (iH h l.obj), .pv (lH h iP l.places), .pv (lH h shownP l.shown), .pv (iH h l.fr), .pv (iH h l.cnt), .pv (lH h bP l.blocks), .pv (iH h l.code)] false))]⟩, fun j => j <= l.shown.length /\ zG f (l.shown.drop j) = zG f l.shown, fun j => l.shown.length - j, 0, [], ⟨Nat.zero_le _, rfl⟩, trivial, ⟨[(990, 5), (991, 6), (992, 7)], rfl, rfl, ⟨?_, ?_, ?_, trivial⟩, ?_, ?_, ?_, ?_, ?_, ?_, ?_, trivial⟩, ?_⟩
 ·exact sp
 ·exact sp
 ·exact sp
 ·exact sp
 ·exact sp
 ·exact sp
 ·exact sp
 ·exact sp
 ·exact sp
 ·exact sp
 intro j hj
 dsimp only
 cbv
 refine ⟨fun _ => rfl, fun e => ?_, fun e => ?_⟩ <;> simp only [hh, nI, decide_eq_true_eq, decide_eq_false_iff_not, qD] at e
 ·have e' : j < l.shown.length := jI e
  have c4 := cs.out j e'
  have e3 := fd.out j e'
  by_cases q : f l.shown[j] = 0
  ·rw [if_pos q, hj.2] at e3
   replace e3 := Hdq e3
   rw [q] at c4
   replace c4 : qi Z 63 [.pv (jk h x), .pv (.a [iH h (l.shown[j]).place, bH h (l.shown[j]).stored, lH h aP (l.shown[j]).path])] (.pv (.v .nilIface)) [.any, .any] := c4
   clear hj fd cs
   cbv
   repeat' first
    | exact s0
    | apply And.intro
    | exact sq
    | (refine fun (_ : PUnit) => ?_; simp [hh, *, shownP, qK]; done)
    | trivial
    | (refine sz fun e => ?_; simp [hh, e', iP, shownP] at e <;> (try simp only [qD] at *) <;> omega)
    | (refine sy fun e => ?_; cbv)
    | (refine ⟨_, _, _, hC _ _ _ _ c4, ?_⟩; cbv; clear c4)
   refine ⟨j + 1, ⟨e', e3.out.symm⟩, by show l.shown.length - (j + 1) < l.shown.length - j; omega, ⟨[], rfl, rfl, ⟨?_, ?_, ?_, trivial⟩, ?_, ?_, ?_, ?_, ?_, ?_, ?_, trivial⟩⟩
   ·exact sp
   ·exact sp
   ·exact sp
   ·exact sp
   ·exact sp
   ·exact sp
   ·exact sp
   ·exact sp
   ·exact sp
   ·exact sp
  ·exfalso
   rw [if_neg q, hj.2, hfe.out] at e3
   exact q e3.symm
 ·have e' : j = l.shown.length := Nat.le_antisymm hj.1 (jN e)
  subst e'
  clear hj fd cs hfe
  cbv
  repeat' first
   | exact s0
   | apply And.intro
   | exact sq
   | (refine fun (_ : PUnit) => ?_; simp [hh, *, shownP, qK]; done)
   | trivial
   | (refine sz fun e => ?_; simp [hh, hw] at e <;> (try simp only [qD] at *) <;> omega)
   | (refine sy fun e => ?_; cbv)
end Go.Bl
namespace Go.Bl
open Go.RowKit Go.Proofs
attribute [local irreducible] qz
open Go.Proofs.YtdloaifdpajcjaaGreatDoor (Par chk blk qU jU zK qj qg qS ql qG jd jK sdE qA jL jy)
theorem qes (Z : Ad) (h : Hh) (hh : ∀ α g, h α g = g ()) (m : List UInt8) (x : jY) (y : jc) (l : zu) (lr : x.root.length = 32) (lf : x.file.length = 32) (pl : List Int) (c1 : qi Z 8 [.pv (bH h m), .pv (jk h x), .pv (qX h y)] (.tup [.pv (lH h iP pl), .pv (.v .nilIface)]) [.any, .any, .any]) (hk : l.kind = 4) (hm : l.shown.map (·.place) = pl) (hs : l.shown.length <= 100000) (oks : ∀ s ∈ l.shown, s.ok) (hcp : chk x.par = 0) (hfe : zG (jW x) l.shown = 0) (hw : y.way = 2) (hkb : qj m x.num = 0) (hi : 0 <= y.idx /\ y.idx < x.par.sent) (s : zk) (h0 : l.shown[0]? = some s) : qi Z 45 [.pv (bH h m), .pv (jk h x), .pv (qX h y), .pv (zq h l)] (.pv (WI Z (if Xb m x y = s.stored then 0 else 15))) [.any, .any, .any, .any] := by
 have c5 := Jq Z h hh m x.num y.idx x.par (by unfold sdE; rw [if_neg Y54]; exact hkb) hi
 have lt := qbH m x y
 rw [show jL (qg m jd x.num) ((qA (qg m ql x.num) (blk x.par.size + x.par.sent).toNat ((blk x.par.size).toNat + y.idx.toNat) : Nat) : Int) (jy (qg m qG x.num) y.idx) = Xb m x y from rfl] at c5
 obtain ⟨tg, htg⟩ := exq (Xb m x y)
 rw [htg] at c5 lt ⊢
 obtain ⟨v, hv⟩ := exq (qA (qg m ql x.num) (blk x.par.size + x.par.sent).toNat ((blk x.par.size).toNat + y.idx.toNat))
 rw [hv] at c5
 have so := oks s (List.mem_of_getElem? h0)
 have ls : s.stored.length <= 10000 := so.1
 have c6 := yD Z h hh tg s.stored Y54 Y54
 have l0 : 0 < l.shown.length := by
  rcases Nat.lt_or_ge 0 l.shown.length with r | r
  ·exact r
  ·rw [List.getElem?_eq_none r] at h0; cases h0
 have e0 : l.shown[0] = s := by rw [List.getElem?_eq_getElem l0] at h0; exact Option.some.inj h0
 have ne : l.shown.length ≠ 0 := by omega
 clear hkb hi so hv htg
 have c2 := JE Z h hh l hs
 have c3 := Yb Z h hh pl (l.shown.map (·.place)) (by rw [<- hm, List.length_map]; exact hs)
 rw [show (pl == l.shown.map (·.place)) = true by rw [hm]; exact beq_self_eq_true _] at c3
 have cs : ∀ j (b : j < l.shown.length), qi Z 63 [.pv (jk h x), .pv (.a [iH h (l.shown[j]).place, bH h (l.shown[j]).stored, lH h aP (l.shown[j]).path])] (.pv (WI Z (jW x l.shown[j]))) [.any, .any] := fun j b => J3 Z h hh x lr lf _ (oks _ (List.getElem_mem b)) hcp
 have fd := fun j (b : j < l.shown.length) => yh (jW x) b
 obtain ⟨f, hf⟩ := exq (jW x)
 simp only [hf] at cs fd
 rw [hf] at hfe
 replace hfe := Hdq hfe
 replace cs := Hdq cs
 replace fd := Hdq fd
 clear hm oks hf hcp
 refine qB Z h hh ⟨Tryz.func45, Tryz.ntmps45⟩ rfl rfl rfl rfl rfl fun C hC => ?_
 unfold Tryz.f45
 cbv
 repeat' first
  | exact s0
  | apply And.intro
  | exact sq
  | (refine fun (_ : PUnit) => ?_; simp [hh, *, shownP, qK]; done)
  | trivial
  | (refine sz fun e => ?_; simp [hh, hk] at e <;> (try simp only [qD] at *) <;> omega)
  | (refine sy fun e => ?_; cbv)
  | (refine ⟨_, _, _, hC _ _ _ _ c1, ?_⟩; cbv; clear c1)
  | (refine ⟨_, _, _, hC _ _ _ _ c2, ?_⟩; cbv; clear c2)
  | (refine ⟨_, _, _, hC _ _ _ _ c3, ?_⟩; cbv; clear c3)
 refine ⟨Nat, fun j => ⟨[(0, some (.pv (bH h m))), (5, some (.ref 990 0 0)), (6, some (.ref 991 0 0)), (7, some (.ref 992 0 0)), (40, some (.pv (lH h shownP l.shown))), (41, some (.pv (nH h l.shown.length))), (42, some (.pv (nH h j)))], [(990, some (.var 44 (h _ fun _ => qK x) false)), (991, some (.box 28 [.pv (iH h y.id), .pv (iH h y.obj), .pv (iH h y.way), .pv (iH h y.idx), .pv (iH h y.tick), .pv (iH h y.verd), .pv (iH h y.at')] false)), (992, some (.box 50 [.pv (iH h l.kind), .pv (iH h l.id), .pv (iH h l.obj), .pv (lH h iP l.places), .pv (lH h shownP l.shown), .pv (iH h l.fr), .pv (iH h l.cnt), .pv (lH h bP l.blocks), .pv (iH h l.code)] false))]⟩, fun j => j <= l.shown.length /\ zG f (l.shown.drop j) = zG f l.shown, fun j => l.shown.length - j, 0, [], ⟨Nat.zero_le _, rfl⟩, trivial, ⟨[(990, 5), (991, 6), (992, 7)], rfl, rfl, ⟨?_, ?_, ?_, trivial⟩, ?_, ?_, ?_, ?_, ?_, ?_, ?_, trivial⟩, ?_⟩
 ·exact sp
 ·exact sp
 ·exact sp
 ·exact sp
 ·exact sp
 ·exact sp
 ·exact sp
 ·exact sp
 ·exact sp
 ·exact sp
 intro j hj
 dsimp only
 cbv
 refine ⟨fun _ => rfl, fun e => ?_, fun e => ?_⟩ <;> simp only [hh, nI, decide_eq_true_eq, decide_eq_false_iff_not, qD] at e
 ·have e' : j < l.shown.length := jI e
  have c4 := cs.out j e'
  have e3 := fd.out j e'
  by_cases q : f l.shown[j] = 0
  ·rw [if_pos q, hj.2] at e3
   replace e3 := Hdq e3
   rw [q] at c4
   replace c4 : qi Z 63 [.pv (jk h x), .pv (.a [iH h (l.shown[j]).place, bH h (l.shown[j]).stored, lH h aP (l.shown[j]).path])] (.pv (.v .nilIface)) [.any, .any] := c4
   clear hj fd cs
   cbv
   repeat' first
    | exact s0
    | apply And.intro
    | exact sq
    | (refine fun (_ : PUnit) => ?_; simp [hh, *, shownP, qK]; done)
    | trivial
    | (refine sz fun e => ?_; simp [hh, e', iP, shownP] at e <;> (try simp only [qD] at *) <;> omega)
    | (refine sy fun e => ?_; cbv)
    | (refine ⟨_, _, _, hC _ _ _ _ c4, ?_⟩; cbv; clear c4)
   refine ⟨j + 1, ⟨e', e3.out.symm⟩, by show l.shown.length - (j + 1) < l.shown.length - j; omega, ⟨[], rfl, rfl, ⟨?_, ?_, ?_, trivial⟩, ?_, ?_, ?_, ?_, ?_, ?_, ?_, trivial⟩⟩
   ·exact sp
   ·exact sp
   ·exact sp
   ·exact sp
   ·exact sp
   ·exact sp
   ·exact sp
   ·exact sp
   ·exact sp
   ·exact sp
  ·exfalso
   rw [if_neg q, hj.2, hfe.out] at e3
   exact q e3.symm
 ·have e' : j = l.shown.length := Nat.le_antisymm hj.1 (jN e)
  subst e'
  clear hj fd cs hfe
  by_cases q : tg = s.stored
  ·rw [if_pos q]
   rw [show (tg == s.stored) = true by rw [q]; exact beq_self_eq_true _] at c6
   cbv
   repeat' first
    | exact s0
    | apply And.intro
    | exact sq
    | (refine fun (_ : PUnit) => ?_; simp [hh, *, shownP, qK]; done)
    | trivial
    | (refine sz fun e => ?_; simp [hh, hw, e0, l0, ne, shownP] at e <;> (try simp only [qD] at *) <;> omega)
    | (refine sy fun e => ?_; cbv)
    | (refine ⟨_, _, _, hC _ _ _ _ c5, ?_⟩; cbv; clear c5)
    | (refine ⟨_, _, _, hC _ _ _ _ c6, ?_⟩; cbv; clear c6)
  ·rw [if_neg q]
   rw [show (tg == s.stored) = false by rw [beq_eq_false_iff_ne]; exact q] at c6
   cbv
   repeat' first
    | exact s0
    | apply And.intro
    | exact sq
    | (refine fun (_ : PUnit) => ?_; simp [hh, *, shownP, qK]; done)
    | trivial
    | (refine sz fun e => ?_; simp [hh, hw, e0, l0, ne, shownP] at e <;> (try simp only [qD] at *) <;> omega)
    | (refine sy fun e => ?_; cbv)
    | (refine ⟨_, _, _, hC _ _ _ _ c5, ?_⟩; cbv; clear c5)
    | (refine ⟨_, _, _, hC _ _ _ _ c6, ?_⟩; cbv; clear c6)
theorem UF (Z : Ad) (h : Hh) (hh : ∀ α g, h α g = g ()) (m : List UInt8) (x : jY) (y : jc) (l : zu) (lr : x.root.length = 32) (lf : x.file.length = 32) (k : Nat) (pl : List Int) (c1 : qi Z 8 [.pv (bH h m), .pv (jk h x), .pv (qX h y)] (.tup [.pv (lH h iP pl), .pv (.v .nilIface)]) [.any, .any, .any]) (c2 : qi Z 45 [.pv (bH h m), .pv (jk h x), .pv (qX h y), .pv (zq h l)] (.pv (qP Z k)) [.any, .any, .any, .any]) : qi Z 10 [.pv (bH h m), .pv (jk h x), .pv (qX h y), .pv (zq h l)] (.tup [.pv (iH h 2), .pv (.v .nilIface)]) [.any, .any, .any, .any] := by
 refine qB Z h hh ⟨Tryz.func10, Tryz.ntmps10⟩ rfl rfl rfl rfl rfl fun C hC => ?_
 unfold Tryz.f10
 cbv
 repeat' first
  | exact s0
  | apply And.intro
  | exact sq
  | (refine fun (_ : PUnit) => ?_; simp [hh, *, qK]; done)
  | trivial
  | exact sx
  | (refine sy fun e => ?_; cbv)
  | (refine ⟨_, _, _, hC _ _ _ _ c1, ?_⟩; cbv; clear c1)
  | (refine ⟨_, _, _, hC _ _ _ _ c2, ?_⟩; cbv; clear c2)
theorem UD (Z : Ad) (h : Hh) (hh : ∀ α g, h α g = g ()) (m : List UInt8) (x : jY) (y : jc) (l : zu) (lr : x.root.length = 32) (lf : x.file.length = 32) (k : Nat) (pl : List Int) (c1 : qi Z 8 [.pv (bH h m), .pv (jk h x), .pv (qX h y)] (.tup [.pv (lH h iP pl), .pv (.v .nilIface)]) [.any, .any, .any]) (c2 : qi Z 45 [.pv (bH h m), .pv (jk h x), .pv (qX h y), .pv (zq h l)] (.pv (.v .nilIface)) [.any, .any, .any, .any]) : qi Z 10 [.pv (bH h m), .pv (jk h x), .pv (qX h y), .pv (zq h l)] (.tup [.pv (iH h 1), .pv (.v .nilIface)]) [.any, .any, .any, .any] := by
 refine qB Z h hh ⟨Tryz.func10, Tryz.ntmps10⟩ rfl rfl rfl rfl rfl fun C hC => ?_
 unfold Tryz.f10
 cbv
 repeat' first
  | exact s0
  | apply And.intro
  | exact sq
  | (refine fun (_ : PUnit) => ?_; simp [hh, *, qK]; done)
  | trivial
  | exact sx
  | (refine sy fun e => ?_; cbv)
  | (refine ⟨_, _, _, hC _ _ _ _ c1, ?_⟩; cbv; clear c1)
  | (refine ⟨_, _, _, hC _ _ _ _ c2, ?_⟩; cbv; clear c2)
end Go.Bl
