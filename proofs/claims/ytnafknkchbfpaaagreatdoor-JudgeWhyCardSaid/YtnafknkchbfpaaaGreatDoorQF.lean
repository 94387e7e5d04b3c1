import Derived.Test.YtnafknkchbfpaaaGreatDoorQE
set_option linter.unusedVariables false
set_option linter.unusedSimpArgs false
set_option maxRecDepth 1000000
set_option maxHeartbeats 8000000
namespace Go.Bl
open Go.RowKit Go.Proofs
attribute [local irreducible] qw
set_option cbv.maxSteps 2000000
theorem qd2 (Z : Ad) (h : Hh) (hh : ∀ α g, h α g = g ()) (l : qu) (hs : l.shown.length <= 100000) (oks : ∀ s ∈ l.shown, s.ok) : qb Z 44 [.pv (qr h l)] (.pv (qr h l)) [.any] := by
 obtain ⟨k, id, o, ps, xs, f, cn, bs, cd⟩ := l
 replace hs : xs.length <= 100000 := hs
 have oks' : ∀ j (b : j < xs.length), (xs[j]).path.length <= 1000 /\ ∀ p ∈ (xs[j]).path, p.length = 32 := fun j b => (oks _ (List.getElem_mem b)).2
 replace oks' := Hdq oks'
 clear oks
 refine qh Z h hh ⟨Tryz.func44, Tryz.ntmps44⟩ rfl rfl rfl rfl rfl fun C hC => ?_
 unfold Tryz.f44
 cbv
 repeat' first
  | exact s0
  | apply And.intro
  | exact sq
  | (refine fun (_ : PUnit) => ?_; simp [hh, *, qa, aP, iP, bP]; done)
  | trivial
  | exact sx
  | (refine sy fun e => ?_; cbv)
 refine ⟨Nat, fun j => ⟨[(2, some (.ref 990 0 0)), (3, some (.ref 991 0 0)), (27, some (.pv (lH h qa xs))), (28, some (.pv (nH h xs.length))), (29, some (.pv (nH h j)))], [(990, some (.box 100 [.pv (iH h 0), .pv (iH h 0), .pv (iH h 0), .nil, .nil, .pv (iH h 0), .pv (iH h 0), .nil, .pv (iH h 0)] false)), (991, some (.box 100 [.pv (iH h k), .pv (iH h id), .pv (iH h o), .pv (lH h iP ps), .own 992, .pv (iH h f), .pv (iH h cn), .pv (lH h bP bs), .pv (iH h cd)] false)), (992, some (.row 109 3 (h _ fun _ => (xs.take j).map qa) false))]⟩, fun j => j <= xs.length, fun j => xs.length - j, 0, [(1003004, 992, 109, 3)], by omega, ⟨rfl, by decide, rfl, trivial⟩, ⟨[(990, 2), (991, 3)], rfl, rfl, ⟨?_, ?_, ?_, trivial⟩, ?_, ?_, ?_, ?_, ?_, trivial⟩, ?_⟩
 ·exact sp
 ·exact sp
 ·exact sp
 ·exact sp
 ·exact sp
 ·exact sp
 ·exact sp
 ·exact sp
 intro j hj
 dsimp only
 cbv
 refine ⟨fun _ => rfl, fun e => ?_, fun e => ?_⟩ <;> simp only [hh, nI, decide_eq_true_eq, decide_eq_false_iff_not, natc] at e
 ·have e' : j < xs.length := qK e
  obtain ⟨pl, pk⟩ := oks'.out j e'
  have sp0 : qa xs[j] = .a [iP (xs[j]).place, bP (xs[j]).stored, .l ((xs[j]).path.map aP)] := rfl
  have st : xs.take (j + 1) = xs.take j ++ [xs[j]] := List.take_succ_eq_append_getElem e'
  obtain ⟨s, hs'⟩ : ∃ s, xs[j] = s := ⟨_, rfl⟩
  have gd : ∀ q : j < xs.length, xs[j] = s := fun _ => hs'
  rw [hs'] at pl pk sp0 st
  clear hs' oks'
  cbv
  repeat' first
   | exact s0
   | apply And.intro
   | exact sq
   | (refine fun (_ : PUnit) => ?_; simp [hh, *, gd, qa, aP, iP, bP]; done)
   | trivial
   | (refine sz fun e => ?_; simp [hh, e', gd] at e <;> (try simp only [natc] at *) <;> omega)
   | (refine sy fun e => ?_; cbv)
  refine ⟨Nat, fun i => ⟨[(2, some (.ref 990 0 0)), (3, some (.ref 991 0 0)), (27, some (.pv (lH h qa xs))), (28, some (.pv (nH h xs.length))), (29, some (.pv (nH h j))), (6, some (.ref 993 0 0)), (39, some (.pv (lH h aP s.path))), (40, some (.pv (nH h s.path.length))), (41, some (.pv (nH h i)))], [(990, some (.box 100 [.pv (iH h 0), .pv (iH h 0), .pv (iH h 0), .nil, .nil, .pv (iH h 0), .pv (iH h 0), .nil, .pv (iH h 0)] false)), (991, some (.box 100 [.pv (iH h k), .pv (iH h id), .pv (iH h o), .pv (lH h iP ps), .own 992, .pv (iH h f), .pv (iH h cn), .pv (lH h bP bs), .pv (iH h cd)] false)), (992, some (.row 109 3 (h _ fun _ => (xs.take j).map qa) false)), (993, some (.box 109 [.pv (iH h s.place), .pv (bH h s.stored), .own 994] false)), (994, some (.row 57 32 (h _ fun _ => (s.path.take i).map aP) false))]⟩, fun i => i <= s.path.length, fun i => s.path.length - i, 0, [(1006002, 994, 57, 32)], by omega, ⟨rfl, by decide, rfl, trivial⟩, ⟨[(993, 6)], rfl, rfl, ⟨?_, ?_, ?_, ?_, ?_, trivial⟩, ?_, ?_, ?_, ?_, ?_, ?_, ?_, ?_, ?_, trivial⟩, ?_⟩
  ·exact sp
  ·exact sp
  ·exact sp
  ·exact sp
  ·exact sp
  ·exact sp
  ·exact sp
  ·exact sp
  ·exact sp
  ·exact sp
  ·exact sp
  ·exact sp
  ·exact sp
  ·exact sp
  intro i hi
  dsimp only
  cbv
  refine ⟨fun _ => rfl, fun e => ?_, fun e => ?_⟩ <;> simp only [hh, nI, decide_eq_true_eq, decide_eq_false_iff_not, natc] at e
  ·have e2 : i < s.path.length := qK e
   have dl : (s.path[i]).length = 32 := pk _ (List.getElem_mem e2)
   have st2 : s.path.take (i + 1) = s.path.take i ++ [s.path[i]] := List.take_succ_eq_append_getElem e2
   have tl : (s.path.take i).length = i := by rw [List.length_take]; omega
   obtain ⟨d, hd⟩ := exq (s.path[i])
   have gd2 : ∀ q : i < s.path.length, s.path[i] = d := fun _ => hd
   rw [hd] at dl st2
   clear hd pk st sp0
   cbv
   repeat' first
    | exact s0
    | apply And.intro
    | exact sq
    | (refine fun (_ : PUnit) => ?_; simp [hh, *, gd2, tl, qa, aP, iP, bP]; done)
    | trivial
    | (refine sz fun e => ?_; simp [hh, e2, gd2] at e <;> (try simp only [natc] at *) <;> omega)
    | (refine sy fun e => ?_; cbv)
   refine ⟨i + 1, by omega, by show s.path.length - (i + 1) < s.path.length - i; omega, ⟨[(994, 49)], rfl, rfl, ⟨?_, ?_, ?_, ?_, ?_, trivial⟩, ?_, ?_, ?_, ?_, ?_, ?_, ?_, ?_, ?_, trivial⟩⟩
   ·exact sp
   ·exact sp
   ·exact sp
   ·exact sp
   ·cbv; simp only [hh, st2, List.map_append, List.map_cons, List.map_nil]; simp [aP, e2, gd2, dl]
   ·exact sp
   ·exact sp
   ·exact sp
   ·exact sp
   ·exact sp
   ·exact sp
   ·exact sp
   ·exact sp
   ·exact sp
  ·have e2 : i = s.path.length := Nat.le_antisymm hi (ge_nat e)
   subst e2
   have tl : (xs.take j).length = j := by rw [List.length_take]; omega
   rw [List.take_length]
   clear pk
   cbv
   repeat' first
    | exact s0
    | apply And.intro
    | exact sq
    | (refine fun (_ : PUnit) => ?_; simp [hh, *, tl, qa, aP, iP, bP]; done)
    | trivial
    | (refine sz fun e => ?_; simp [hh, e'] at e <;> (try simp only [natc] at *) <;> omega)
    | (refine sy fun e => ?_; cbv)
   refine ⟨j + 1, by omega, by show xs.length - (j + 1) < xs.length - j; omega, ⟨[(992, 56)], rfl, rfl, ⟨?_, ?_, ?_, trivial⟩, ?_, ?_, ?_, ?_, ?_, trivial⟩⟩
   ·exact sp
   ·exact sp
   ·cbv; simp only [hh, st, List.map_append, List.map_cons, List.map_nil, sp0]; simp
   ·exact sp
   ·exact sp
   ·exact sp
   ·exact sp
   ·exact sp
 ·have e' : j = xs.length := Nat.le_antisymm hj (ge_nat e)
  subst e'
  rw [List.take_length]
  clear oks'
  cbv
  repeat' first
   | exact s0
   | apply And.intro
   | exact sq
   | (refine fun (_ : PUnit) => ?_; simp [hh, *, qa, aP, iP, bP]; done)
   | trivial
   | exact sx
   | (refine sy fun e => ?_; cbv)
end Go.Bl
namespace Go.Bl
open Go.RowKit Go.Proofs
attribute [local irreducible] qw
open Go.Proofs.YtnafknkchbfpaaaGreatDoor (Par chk blk jj jG jQ qc yB qi)
def zC (p : qA -> Bool) (l : List qA) : List qA := l.filter p
theorem qcS {p : qA -> Bool} {l : List qA} {j : Nat} (hj : j < l.length) (q : p l[j] = true) : zC p (l.take (j + 1)) = zC p (l.take j) ++ [l[j]] := by
 rw [zC, List.take_succ_eq_append_getElem hj, List.filter_append]
 simp [zC, q]
theorem qd0 {p : qA -> Bool} {l : List qA} {j : Nat} (hj : j < l.length) (q : p l[j] = false) : zC p (l.take (j + 1)) = zC p (l.take j) := by
 rw [zC, List.take_succ_eq_append_getElem hj, List.filter_append]
 simp [zC, q]
theorem qdR {p : qA -> Bool} {l : List qA} {j : Nat} (hj : j < l.length) (q : p l[j] = true) : (zC p l)[(zC p (l.take j)).length]? = some l[j] := by
 have e : zC p l = zC p (l.take j) ++ (l[j] :: zC p (l.drop (j + 1))) := by
  conv => lhs; rw [<- List.take_append_drop j l, List.drop_eq_getElem_cons hj]
  rw [zC, List.filter_append, List.filter_cons_of_pos q]
  rfl
 rw [e, List.getElem?_append_right (Nat.le_refl _), Nat.sub_self]
 rfl
def vx (k : Int) (R : Bool) (f : qA -> Nat) (s : qA) : Bool := decide (k = 4) && (R && f s == 0)
theorem VJ (Z : Ad) (h : Hh) (hh : ∀ α g, h α g = g ()) (a : xP) (o : a.Ok) (c1 : qb Z 36 [.pv (J2 h a)] (.pv (tH h true)) [.any]) : qb Z 8 [.pv (J2 h a)] (.pv (.v (.bool true))) [.any] := by
 have c0 := JR Z h hh
 have al := yM o
 have il := qv o.lr o.lf
 have g1 := zW o
 have i1 := Zg o
 have i2 := JB o
 have i3 : List.take 76 (jg a).tail = qd a.x := by rw [<- List.drop_one]; exact i1
 have g0 : ∀ q : 0 < (jg a).length, (jg a)[0]'q = bP a.m := fun _ => rfl
 refine qh Z h hh ⟨Tryz.func8, Tryz.ntmps8⟩ rfl rfl rfl rfl rfl fun C hC => ?_
 unfold Tryz.f8
 cbv
 repeat' first
  | exact s0
  | apply And.intro
  | exact sq
  | (refine fun (_ : PUnit) => ?_; simp [hh, *, letterL, qd, entryL, iP, J1]; done)
  | trivial
  | exact sx
  | (refine sy fun e => ?_; cbv)
  | (refine ⟨_, _, _, hC _ _ _ _ c0, ?_⟩; cbv; clear c0)
  | (refine ⟨_, _, _, hC _ _ _ _ c1, ?_⟩; cbv; clear c1)
theorem qew (Z : Ad) (h : Hh) (hh : ∀ α g, h α g = g ()) (a : xP) (o : a.Ok) (hl : a.l.shown.length <= 30) (R : Bool) (f : qA -> Nat) (p : qA -> Bool) (hp : RowKit.Hid (vx a.l.kind R f = p)) (c50 : RowKit.Hid (qb Z 50 [.pv (zX h a.x.par)] (.pv (tH h R)) [.any]))
  (c51 : RowKit.Hid (R = true -> ∀ j (b : j < a.l.shown.length), qb Z 51 [.pv (qj h a.x), .pv (.a [iH h (a.l.shown[j]).place, bH h (a.l.shown[j]).stored, lH h aP (a.l.shown[j]).path])] (.pv (nH h (f a.l.shown[j]))) [.any, .any]))
  (c49 : qb Z 49 [.pv (qj h a.x), .pv (qr h a.l)] (.pv (lH h qa (zC p a.l.shown))) [.any, .any]) (C : FuncId -> List RA -> RA -> List RA -> Prop) (hC : ∀ f xs r ys, qb Z f xs r ys -> C f xs r ys) : qdP Z h [68, 70, 114] 181 Tryz.f8 (.pv (.v (.bool true))) C [1, 1, 1, 1, 1, 1, 1, 1, 1, 1, 1, 1, 1, 1] ⟨[(1, some (.ref 991 0 0)), (3, some (.ref 992 0 0)), (5, some (.ref 993 0 0))], [(991, some (.var 83 (h _ fun _ => jg a) false)), (992, some (.var 90 (h _ fun _ => qd a.x) false)), (993, some (.box 100 [.pv (iH h a.l.kind), .pv (iH h a.l.id), .pv (iH h a.l.obj), .pv (lH h iP a.l.places), .pv (lH h qa a.l.shown), .pv (iH h a.l.fr), .pv (iH h a.l.cnt), .pv (lH h bP a.l.blocks), .pv (iH h a.l.code)] false))]⟩ := by
 have al := yM o
 have il := qv o.lr o.lf
 have g1 := zW o
 have i1 := Zg o
 have i2 := JB o
 have i3 : List.take 76 (jg a).tail = qd a.x := by rw [<- List.drop_one]; exact i1
 have g0 : ∀ q : 0 < (jg a).length, (jg a)[0]'q = bP a.m := fun _ => rfl
 have p88 : ∀ q : 88 < (jg a).length, (jg a)[88]'q = .l (a.l.shown.map qa) := fun q => by
  have := congrArg (fun (z : List PV) => z[4]?) g1
  exact Y7
 show za _ _ _ _ _
 unfold Tryz.f8
 cbv
 repeat' first
  | exact s0
  | apply And.intro
  | exact sq
  | (refine fun (_ : PUnit) => ?_; simp [hh, *, letterL, qd, entryL, iP, J1]; done)
  | trivial
  | (refine sz fun e => ?_; simp [hh, al, iP] at e <;> (try simp only [natc] at *) <;> omega)
  | (refine sy fun e => ?_; cbv)
  | (refine ⟨_, _, _, hC _ _ _ _ c49, ?_⟩; cbv; clear c49)
 have f0 : (zC p (a.l.shown.take 0)).length = 0 := rfl
 refine ⟨Nat, fun j => ⟨[(1, some (.ref 991 0 0)), (3, some (.ref 992 0 0)), (5, some (.ref 993 0 0)), (13, some (.pv (lH h qa (zC p a.l.shown)))), (14, some (.pv (nH h (zC p (a.l.shown.take j)).length))), (121, some (.pv (lH h qa a.l.shown))), (122, some (.pv (nH h a.l.shown.length))), (123, some (.pv (nH h j)))], [(991, some (.var 83 (h _ fun _ => jg a) false)), (992, some (.var 90 (h _ fun _ => qd a.x) false)), (993, some (.box 100 [.pv (iH h a.l.kind), .pv (iH h a.l.id), .pv (iH h a.l.obj), .pv (lH h iP a.l.places), .pv (lH h qa a.l.shown), .pv (iH h a.l.fr), .pv (iH h a.l.cnt), .pv (lH h bP a.l.blocks), .pv (iH h a.l.code)] false))]⟩, fun j => j <= a.l.shown.length, fun j => a.l.shown.length - j, 0, [], by omega, trivial, ⟨[], rfl, rfl, ⟨?_, ?_, ?_, trivial⟩, ?_, ?_, ?_, ?_, ?_, ?_, ?_, ?_, trivial⟩, ?_⟩
 ·exact sp
 ·exact sp
 ·exact sp
 ·exact sp
 ·exact sp
 ·exact sp
 ·exact sp
 ·exact sp
 ·exact sp
 ·exact sp
 ·exact sp
 intro j hj
 dsimp only
 cbv
 refine ⟨fun _ => rfl, fun e => ?_, fun e => ?_⟩ <;> simp only [hh, nI, decide_eq_true_eq, decide_eq_false_iff_not, natc] at e
 ·have e' : j < a.l.shown.length := qK e
  have pd : vx a.l.kind R f a.l.shown[j] = p a.l.shown[j] := by rw [hp.out]
  have k1 : p a.l.shown[j] = true -> (zC p (a.l.shown.take (j + 1))).length = (zC p (a.l.shown.take j)).length + 1 := fun q => by rw [qcS e' q]; simp
  have k2 : p a.l.shown[j] = false -> (zC p (a.l.shown.take (j + 1))).length = (zC p (a.l.shown.take j)).length := fun q => by rw [qd0 e' q]
  have k3 := fun q => qdR (p := p) e' q
  have k4 : (zC p (a.l.shown.take j)).length <= j := Nat.le_trans (List.length_filter_le ..) (by rw [List.length_take]; omega)
  have k5 := fun q => c51.out q j e'
  replace c50 := c50.out
  obtain ⟨s, hs'⟩ : ∃ s, a.l.shown[j] = s := ⟨_, rfl⟩
  have gd : ∀ q : j < a.l.shown.length, a.l.shown[j] = s := fun _ => hs'
  obtain ⟨n, hn⟩ := exq ((zC p (a.l.shown.take j)).length)
  rw [hs'] at pd k1 k2 k3 k5
  rw [hn] at k1 k2 k3 k4 ⊢
  clear hs' hn f0 c51 hp
  by_cases hk : a.l.kind = 4
  ·cases R with
   | true =>
    replace k5 := k5 rfl
    by_cases hq : f s = 0
    ·have k8 := k1 (by rw [<- pd]; simp [vx, hk, hq])
     replace k3 := k3 (by rw [<- pd]; simp [vx, hk, hq])
     obtain ⟨k6, k7⟩ := List.getElem?_eq_some_iff.1 k3
     rw [hq] at k5
     clear k1 k2 k3 pd hq
     cbv
     repeat' first
      | exact s0
      | apply And.intro
      | exact sq
      | (refine fun (_ : PUnit) => ?_; simp [hh, *, letterL, qd, entryL, iP, J1, qa, bP, gd, k7]; done)
      | trivial
      | (refine sz fun e => ?_; simp [hh, hk, e', gd, k6, k7, iP, qa, p88, al] at e <;> (try simp only [natc] at *) <;> omega)
      | (refine sy fun e => ?_; cbv)
      | (refine ⟨_, _, _, hC _ _ _ _ c50, ?_⟩; cbv; clear c50)
      | (refine ⟨_, _, _, hC _ _ _ _ k5, ?_⟩; cbv; clear k5)
     refine ⟨j + 1, by omega, by show a.l.shown.length - (j + 1) < a.l.shown.length - j; omega, ⟨[], rfl, rfl, ⟨?_, ?_, ?_, trivial⟩, ?_, ?_, ?_, ?_, ?_, ?_, ?_, ?_, trivial⟩⟩
     ·exact sp
     ·exact sp
     ·exact sp
     ·exact sp
     ·exact sp
     ·exact sp
     ·exact sp
     ·cbv; simp only [hh, k8, nI, natc]; rw [wrap_i64 Y44 Y44]; rfl
     ·exact sp
     ·exact sp
     ·exact sp
    ·obtain ⟨N, hN⟩ := exq (f s)
     have nz : (N : Int) ≠ 0 := by omega
     rw [hN] at k5
     have k8 := k2 (by rw [<- pd]; simp [vx, hk, hq])
     clear k1 k2 k3 pd
     cbv
     repeat' first
      | exact s0
      | apply And.intro
      | exact sq
      | (refine fun (_ : PUnit) => ?_; simp [hh, *, letterL, qd, entryL, iP, J1]; done)
      | trivial
      | (refine sz fun e => ?_; simp [hh, hk, nz, e', gd, iP, qa] at e <;> (try simp only [natc] at *) <;> omega)
      | (refine sy fun e => ?_; cbv)
      | (refine ⟨_, _, _, hC _ _ _ _ c50, ?_⟩; cbv; clear c50)
      | (refine ⟨_, _, _, hC _ _ _ _ k5, ?_⟩; cbv; clear k5)
     refine ⟨j + 1, by omega, by show a.l.shown.length - (j + 1) < a.l.shown.length - j; omega, ⟨[], rfl, rfl, ⟨?_, ?_, ?_, trivial⟩, ?_, ?_, ?_, ?_, ?_, ?_, ?_, ?_, trivial⟩⟩
     ·exact sp
     ·exact sp
     ·exact sp
     ·exact sp
     ·exact sp
     ·exact sp
     ·exact sp
     ·cbv; simp only [hh, k8]
     ·exact sp
     ·exact sp
     ·exact sp
   | false =>
    have k8 := k2 (by rw [<- pd]; simp [vx, hk])
    clear k1 k2 k3 pd
    cbv
    repeat' first
     | exact s0
     | apply And.intro
     | exact sq
     | (refine fun (_ : PUnit) => ?_; simp [hh, *, letterL, qd, entryL, iP, J1]; done)
     | trivial
     | (refine sz fun e => ?_; simp [hh, hk, e', gd, iP, qa] at e <;> (try simp only [natc] at *) <;> omega)
     | (refine sy fun e => ?_; cbv)
     | (refine ⟨_, _, _, hC _ _ _ _ c50, ?_⟩; cbv; clear c50)
    refine ⟨j + 1, by omega, by show a.l.shown.length - (j + 1) < a.l.shown.length - j; omega, ⟨[], rfl, rfl, ⟨?_, ?_, ?_, trivial⟩, ?_, ?_, ?_, ?_, ?_, ?_, ?_, ?_, trivial⟩⟩
    ·exact sp
    ·exact sp
    ·exact sp
    ·exact sp
    ·exact sp
    ·exact sp
    ·exact sp
    ·cbv; simp only [hh, k8]
    ·exact sp
    ·exact sp
    ·exact sp
  ·have k8 := k2 (by rw [<- pd]; simp [vx, hk])
   clear k1 k2 k3 pd
   cbv
   repeat' first
    | exact s0
    | apply And.intro
    | exact sq
    | (refine fun (_ : PUnit) => ?_; simp [hh, *, letterL, qd, entryL, iP, J1]; done)
    | trivial
    | (refine sz fun e => ?_; simp [hh, hk, e', gd, iP, qa] at e <;> (try simp only [natc] at *) <;> omega)
    | (refine sy fun e => ?_; cbv)
   refine ⟨j + 1, by omega, by show a.l.shown.length - (j + 1) < a.l.shown.length - j; omega, ⟨[], rfl, rfl, ⟨?_, ?_, ?_, trivial⟩, ?_, ?_, ?_, ?_, ?_, ?_, ?_, ?_, trivial⟩⟩
   ·exact sp
   ·exact sp
   ·exact sp
   ·exact sp
   ·exact sp
   ·exact sp
   ·exact sp
   ·cbv; simp only [hh, k8]
   ·exact sp
   ·exact sp
   ·exact sp
 ·have e' : j = a.l.shown.length := Nat.le_antisymm hj (ge_nat e)
  subst e'
  rw [List.take_length]
  cbv
  repeat' first
   | exact s0
   | apply And.intro
   | exact sq
   | (refine fun (_ : PUnit) => ?_; simp [hh, *, letterL, qd, entryL, iP, J1]; done)
   | trivial
   | exact sx
   | (refine sy fun e => ?_; cbv)
theorem qeq (Z : Ad) (h : Hh) (hh : ∀ α g, h α g = g ()) (a : xP) (o : a.Ok) (hs : qb Z 36 [.pv (J2 h a)] (.pv (tH h false)) [.any]) (hl : a.l.shown.length <= 30) (oks : ∀ s ∈ a.l.shown, s.ok) (bad none : Nat) (w v : Int) (hw0 : bad = 0 -> w = 1) (hw1 : bad ≠ 0 -> w = 2) (hv0 : none = 0 -> v = w) (hv1 : none ≠ 0 -> v = 0) (E1 E2 : PV) (pl : List Int) (R : Bool) (f : qA -> Nat)
  (c45 : qb Z 45 [.pv (bH h a.m), .pv (qj h a.x), .pv (qk h a.e), .pv (qr h a.l)] (.pv (nH h bad)) [.any, .any, .any, .any]) (c46 : qb Z 46 [.pv (bH h a.m), .pv (qj h a.x), .pv (qk h a.e), .pv (qr h a.l)] (.pv E1) [.any, .any, .any, .any]) (c15 : qb Z 15 [.pv E1] (.pv (nH h bad)) [.any])
  (c47 : qb Z 47 [.pv (bH h a.m), .pv (qj h a.x), .pv (qk h a.e), .pv (qr h a.l)] (.tup [.pv (iH h v), .pv E2]) [.any, .any, .any, .any]) (d15 : qb Z 15 [.pv E2] (.pv (nH h none)) [.any])
  (c38 : qb Z 38 [.pv (bH h a.m), .pv (qj h a.x), .pv (qk h a.e)] (.tup [.pv (lH h iP pl), .pv (nH h none)]) [.any, .any, .any]) (c50 : qb Z 50 [.pv (zX h a.x.par)] (.pv (tH h R)) [.any])
  (c51 : R = true -> ∀ j (b : j < a.l.shown.length), qb Z 51 [.pv (qj h a.x), .pv (.a [iH h (a.l.shown[j]).place, bH h (a.l.shown[j]).stored, lH h aP (a.l.shown[j]).path])] (.pv (nH h (f a.l.shown[j]))) [.any, .any])
  (c49 : qb Z 49 [.pv (qj h a.x), .pv (qr h a.l)] (.pv (lH h qa (zC (vx a.l.kind R f) a.l.shown))) [.any, .any]) : qb Z 8 [.pv (J2 h a)] (.pv (.v (.bool true))) [.any] := by
 have c0 := JR Z h hh
 have c39 := qdp Z h hh a.x o.lr o.lf
 have c44 := qd2 Z h hh a.l Y44 oks
 have c48 := qcl Z h hh a.e a.l
 obtain ⟨p, hp⟩ := exq (vx a.l.kind R f)
 rw [hp] at c49
 replace c50 := Hdq c50
 replace c51 := Hdq c51
 replace hp := Hdq hp
 replace hw0 := Hdq hw0
 replace hw1 := Hdq hw1
 replace hv0 := Hdq hv0
 replace hv1 := Hdq hv1
 clear oks
 have al := yM o
 have il := qv o.lr o.lf
 have g1 := zW o
 have i1 := Zg o
 have i2 := JB o
 have i3 : List.take 76 (jg a).tail = qd a.x := by rw [<- List.drop_one]; exact i1
 have g0 : ∀ q : 0 < (jg a).length, (jg a)[0]'q = bP a.m := fun _ => rfl
 have p77 : ∀ q : 77 < (jg a).length, (jg a)[77]'q = iP a.e.id := fun q => by
  have := congrArg (fun (z : List PV) => z[0]?) i2
  exact Y7
 have p78 : ∀ q : 78 < (jg a).length, (jg a)[78]'q = iP a.e.obj := fun q => by
  have := congrArg (fun (z : List PV) => z[1]?) i2
  exact Y7
 have p84 : ∀ q : 84 < (jg a).length, (jg a)[84]'q = iP a.l.kind := fun q => by
  have := congrArg (fun (z : List PV) => z[0]?) g1
  exact Y7
 have p85 : ∀ q : 85 < (jg a).length, (jg a)[85]'q = iP a.l.id := fun q => by
  have := congrArg (fun (z : List PV) => z[1]?) g1
  exact Y7
 have p86 : ∀ q : 86 < (jg a).length, (jg a)[86]'q = iP a.l.obj := fun q => by
  have := congrArg (fun (z : List PV) => z[2]?) g1
  exact Y7
 have p88 : ∀ q : 88 < (jg a).length, (jg a)[88]'q = .l (a.l.shown.map qa) := fun q => by
  have := congrArg (fun (z : List PV) => z[4]?) g1
  exact Y7
 have hc : (uk a.e a.l = false /\ a.l.id ≠ a.e.id /\ a.l.id ≠ a.e.id /\ a.l.id ≠ a.e.id /\ a.l.id ≠ a.e.id) ∨ (uk a.e a.l = false /\ a.l.id = a.e.id /\ a.l.obj ≠ a.e.obj /\ a.l.obj ≠ a.e.obj /\ a.l.obj ≠ a.e.obj) ∨ (uk a.e a.l = true /\ a.l.id = a.e.id /\ a.l.obj = a.e.obj /\ a.l.kind = 4 /\ a.l.kind = 4) ∨ (uk a.e a.l = true /\ a.l.id = a.e.id /\ a.l.obj = a.e.obj /\ a.l.kind ≠ 4 /\ a.l.kind = 7) ∨ (uk a.e a.l = false /\ a.l.id = a.e.id /\ a.l.obj = a.e.obj /\ a.l.kind ≠ 4 /\ a.l.kind ≠ 7) := by
  simp only [uk]
  by_cases i : a.l.id = a.e.id <;> by_cases q : a.l.obj = a.e.obj <;> by_cases k : a.l.kind = 4 <;> by_cases s : a.l.kind = 7 <;> simp [i, q, k, s]
 refine qdJ [68, 70, 114] Z h hh ⟨Tryz.func8, Tryz.ntmps8⟩ rfl rfl rfl rfl rfl fun C hC => ?_
 unfold Tryz.f8
 cbv
 repeat' first
  | exact s0
  | apply And.intro
  | exact sq
  | (refine fun (_ : PUnit) => ?_; simp [hh, *, letterL, qd, entryL, iP, J1]; done)
  | trivial
  | exact sx
  | (refine sy fun e => ?_; cbv)
  | (refine ⟨_, _, _, hC _ _ _ _ c0, ?_⟩; cbv; clear c0)
  | (refine ⟨_, _, _, hC _ _ _ _ hs, ?_⟩; cbv; clear hs)
  | (refine ⟨_, _, _, hC _ _ _ _ c39, ?_⟩; cbv; clear c39)
  | (refine ⟨_, _, _, hC _ _ _ _ c44, ?_⟩; cbv; clear c44)
  | (refine ⟨_, _, _, hC _ _ _ _ c45, ?_⟩; cbv; clear c45)
  | (refine ⟨_, _, _, hC _ _ _ _ c46, ?_⟩; cbv; clear c46)
  | (refine ⟨_, _, _, hC _ _ _ _ c15, ?_⟩; cbv; clear c15)
  | (refine ⟨_, _, _, hC _ _ _ _ c47, ?_⟩; cbv; clear c47)
  | (refine ⟨_, _, _, hC _ _ _ _ c38, ?_⟩; cbv; clear c38)
 refine ⟨Unit, fun _ => ⟨[(1, some (.ref 991 0 0)), (3, some (.ref 992 0 0)), (5, some (.ref 993 0 0)), (6, some (.pv (nH h bad))), (7, some (.pv (iH h v))), (8, some (.pv E2)), (10, some (.pv (nH h none))), (11, some (.pv (iH h w)))], [(991, some (.var 83 (h _ fun _ => jg a) false)), (992, some (.var 90 (h _ fun _ => qd a.x) false)), (993, some (.box 100 [.pv (iH h a.l.kind), .pv (iH h a.l.id), .pv (iH h a.l.obj), .pv (lH h iP a.l.places), .pv (lH h qa a.l.shown), .pv (iH h a.l.fr), .pv (iH h a.l.cnt), .pv (lH h bP a.l.blocks), .pv (iH h a.l.code)] false))]⟩, fun _ => True, ?_, fun _ _ => ?_⟩
 ·cbv
  repeat' first
   | exact s0
   | apply And.intro
   | exact sq
   | (refine fun (_ : PUnit) => ?_; simp [hh, *, letterL, qd, entryL, iP, J1]; done)
   | trivial
   | (refine fun (e : (_ : Bool) = _) => ?_; first | (exfalso; simp [hh] at e; done) | (exfalso; simp [hh] at e; (try simp only [natc] at *); omega) | (have ev := Ev.mk e; (try simp only [hh, nI, decide_eq_true_eq, decide_eq_false_iff_not, Bool.not_eq_true, beq_iff_eq, beq_eq_false_iff_ne, bne_iff_ne, natc] at e); cbv))
   | (exfalso; (try simp only [natc] at *); omega)
  ·refine ⟨(), trivial, ⟨[(991, 1), (992, 3), (993, 5)], rfl, rfl, ⟨?_, ?_, ?_, trivial⟩, ?_, ?_, ?_, ?_, ?_, ?_, ?_, ?_, trivial⟩⟩
   ·exact sp
   ·exact sp
   ·exact sp
   ·exact sp
   ·exact sp
   ·exact sp
   ·exact sp
   ·exact sp
   ·exact sp
   ·exact sp
   ·cbv; simp only [hh]; rw [show w = 2 from hw1.out (fun q => e (by rw [q]; rfl))]
  ·refine ⟨(), trivial, ⟨[(991, 1), (992, 3), (993, 5)], rfl, rfl, ⟨?_, ?_, ?_, trivial⟩, ?_, ?_, ?_, ?_, ?_, ?_, ?_, ?_, trivial⟩⟩
   ·exact sp
   ·exact sp
   ·exact sp
   ·exact sp
   ·exact sp
   ·exact sp
   ·exact sp
   ·exact sp
   ·exact sp
   ·exact sp
   ·cbv; simp only [hh]; rw [show w = 1 from hw0.out (Int.ofNat_eq_zero.1 (bne_eq_false_iff_eq.1 e))]
 ·dsimp only
  clear hw0 hw1
  refine ⟨Unit, fun _ => ⟨[(1, some (.ref 991 0 0)), (3, some (.ref 992 0 0)), (5, some (.ref 993 0 0)), (6, some (.pv (nH h bad))), (7, some (.pv (iH h v))), (8, some (.pv E2)), (10, some (.pv (nH h none))), (11, some (.pv (iH h v)))], [(991, some (.var 83 (h _ fun _ => jg a) false)), (992, some (.var 90 (h _ fun _ => qd a.x) false)), (993, some (.box 100 [.pv (iH h a.l.kind), .pv (iH h a.l.id), .pv (iH h a.l.obj), .pv (lH h iP a.l.places), .pv (lH h qa a.l.shown), .pv (iH h a.l.fr), .pv (iH h a.l.cnt), .pv (lH h bP a.l.blocks), .pv (iH h a.l.code)] false))]⟩, fun _ => True, ?_, fun _ _ => ?_⟩
  ·cbv
   repeat' first
    | exact s0
    | apply And.intro
    | exact sq
    | (refine fun (_ : PUnit) => ?_; simp [hh, *, letterL, qd, entryL, iP, J1]; done)
    | trivial
    | (refine fun (e : (_ : Bool) = _) => ?_; first | (exfalso; simp [hh] at e; done) | (exfalso; simp [hh] at e; (try simp only [natc] at *); omega) | (have ev := Ev.mk e; (try simp only [hh, nI, decide_eq_true_eq, decide_eq_false_iff_not, Bool.not_eq_true, beq_iff_eq, beq_eq_false_iff_ne, bne_iff_ne, natc] at e); cbv))
    | (exfalso; (try simp only [natc] at *); omega)
   ·refine ⟨(), trivial, ⟨[], rfl, rfl, ⟨?_, ?_, ?_, trivial⟩, ?_, ?_, ?_, ?_, ?_, ?_, ?_, ?_, trivial⟩⟩
    ·exact sp
    ·exact sp
    ·exact sp
    ·exact sp
    ·exact sp
    ·exact sp
    ·exact sp
    ·exact sp
    ·exact sp
    ·exact sp
    ·cbv; simp only [hh]; rw [show v = 0 from hv1.out (fun q => e (by rw [q]; rfl))]
   ·refine ⟨(), trivial, ⟨[], rfl, rfl, ⟨?_, ?_, ?_, trivial⟩, ?_, ?_, ?_, ?_, ?_, ?_, ?_, ?_, trivial⟩⟩
    ·exact sp
    ·exact sp
    ·exact sp
    ·exact sp
    ·exact sp
    ·exact sp
    ·exact sp
    ·exact sp
    ·exact sp
    ·exact sp
    ·cbv; simp only [hh]; rw [show v = w from hv0.out (Int.ofNat_eq_zero.1 (bne_eq_false_iff_eq.1 e))]
  ·dsimp only
   clear hv0 hv1
   rcases hc with ⟨m0, m1, m2, m3, m4⟩ | ⟨m0, m1, m2, m3, m4⟩ | ⟨m0, m1, m2, m3, m4⟩ | ⟨m0, m1, m2, m3, m4⟩ | ⟨m0, m1, m2, m3, m4⟩
   all_goals
    rw [m0] at c48
    cbv
    repeat' first
     | exact s0
     | apply And.intro
     | exact sq
     | (refine fun (_ : PUnit) => ?_; simp [hh, *, letterL, qd, entryL, iP, J1]; done)
     | trivial
     | (refine sz fun e => ?_; simp [hh, m1, m2, m3, m4, p77, p78, p84, p85, p86, p88, al, iP] at e <;> (try simp only [natc] at *) <;> omega)
     | (refine sy fun e => ?_; cbv)
     | (refine ⟨_, _, _, hC _ _ _ _ d15, ?_⟩; cbv; clear d15)
    refine ⟨Unit, fun _ => ⟨[(1, some (.ref 991 0 0)), (3, some (.ref 992 0 0)), (5, some (.ref 993 0 0))], [(991, some (.var 83 (h _ fun _ => jg a) false)), (992, some (.var 90 (h _ fun _ => qd a.x) false)), (993, some (.box 100 [.pv (iH h a.l.kind), .pv (iH h a.l.id), .pv (iH h a.l.obj), .pv (lH h iP a.l.places), .pv (lH h qa a.l.shown), .pv (iH h a.l.fr), .pv (iH h a.l.cnt), .pv (lH h bP a.l.blocks), .pv (iH h a.l.code)] false))]⟩, fun _ => True, ?_, fun _ _ => ?_⟩
    ·cbv
     repeat' first
      | exact s0
      | apply And.intro
      | exact sq
      | (refine fun (_ : PUnit) => ?_; simp [hh, *, letterL, qd, entryL, iP, J1]; done)
      | trivial
      | (refine sz fun e => ?_; simp [hh, m1, m2, m3, m4, p77, p78, p84, p85, p86, p88, al, iP] at e <;> (try simp only [natc] at *) <;> omega)
      | (refine sy fun e => ?_; cbv)
      | (refine ⟨_, _, _, hC _ _ _ _ c48, ?_⟩; cbv; clear c48)
     refine ⟨(), trivial, ⟨[], rfl, rfl, ⟨?_, ?_, ?_, trivial⟩, ?_, ?_, ?_, trivial⟩⟩
     ·exact sp
     ·exact sp
     ·exact sp
     ·exact sp
     ·exact sp
     ·exact sp
    ·exact qew Z h hh a o hl R f p hp c50 c51 c49 C hC
end Go.Bl
namespace Go.Bl
open Go.RowKit Go.Proofs
attribute [local irreducible] qw
open Go.Proofs.YtnafknkchbfpaaaGreatDoor (Par chk blk jj jG jQ qc yB qi)
theorem qef {l : qu} (hl : uq l = false) (ls : ∀ s ∈ l.shown, ∀ p ∈ s.path, p.length = 32) : l.shown.length <= 30 /\ ∀ s ∈ l.shown, s.ok := by
 simp only [uq, UX, Bool.or_eq_false_iff, decide_eq_false_iff_not, List.any_eq_false] at hl
 obtain ⟨⟨-, h1, -⟩, h2, -⟩ := hl
 refine ⟨by omega, fun s hs => ?_⟩
 have h3 := h2 s hs
 simp only [xH, Bool.or_eq_true, decide_eq_true_eq, not_or] at h3
 exact ⟨by omega, by omega, ls s hs⟩
theorem qb0 (r : Dg) (n : Nat) (i : Int) (l : List UInt8) (ps : List Dg) : QK r n i l ps <= 15 := by
 unfold QK
 split
 ·split
  ·split <;> omega
  ·omega
 ·omega
theorem Va {f : qA -> Nat} (hf : ∀ s, f s <= 15) : ∀ l, ji f l <= 15
 | [] => Nat.zero_le _
 | s :: r => by
  unfold ji
  split
  ·exact Va hf r
  ·exact hf s
theorem U0 {p : qA -> Bool} (l : List qA) (h : ∀ s, p s = false) : zC p l = [] := by
 rw [zC, List.filter_eq_nil_iff]
 intro s _
 rw [h]; decide
theorem K5 (Z : Ad) (h : Hh) (hh : ∀ α g, h α g = g ()) (a : xP) (o : a.Ok) (hl : a.l.shown.length <= 30) (oks : ∀ s ∈ a.l.shown, s.ok) : qb Z 49 [.pv (qj h a.x), .pv (qr h a.l)] (.pv (lH h qa (zC (vx a.l.kind ((chk a.x.par : Int) == 0) (qI a.x)) a.l.shown))) [.any, .any] := by
 by_cases hk : a.l.kind = 4
 ·rcases Zo Z h hh a.x.par with ⟨hc, -⟩ | ⟨j, -, hj, hz, c0⟩
  ·have := (W9 Z h hh a.x a.l o.lr o.lf hk Y44 oks hc).plain
   rw [show y4 (qI a.x) a.l.shown = zC (vx a.l.kind ((chk a.x.par : Int) == 0) (qI a.x)) a.l.shown by
    rw [y4, zC]
    congr 1
    funext s
    simp [vx, hk, hc]] at this
   exact this
  ·have := (Km Z h hh a.x a.l o.lr o.lf hk Y44 j c0).plain
   rw [U0 _ (fun s => by rw [vx, hj]; simp; intro _ q; omega)]
   exact this
 ·rw [U0 _ (fun s => by simp [vx, hk])]
  have := YP Z h hh a.x a.l o.lr o.lf hk
  simpa only [lH, hh, List.map_nil] using this
theorem J9 (Z : Ad) (h : Hh) (hh : ∀ α g, h α g = g ()) (k : Nat) (k0 : k ≠ 0) (k1 : k <= 20) : qb Z 15 [.pv (qY Z k)] (.pv (nH h k)) [.any] := by
 have := L3 Z h hh k k1
 rwa [Qt, if_neg k0] at this
theorem qeO (Z : Ad) (h : Hh) (hh : ∀ α g, h α g = g ()) (a : xP) (o : a.Ok) : qb Z 8 [.pv (J2 h a)] (.pv (.v (.bool true))) [.any] := by
 by_cases n1 : (100 : Int) < (a.m.length : Int)
 ·have c1 := qcZ Z h hh a o n1
  exact VJ Z h hh a o (by simpa only [tH, hh] using c1)
 by_cases n2 : (100 : Int) < (a.x.name.size : Int)
 ·have c1 := qbK Z h hh a o n1 n2
  exact VJ Z h hh a o (by simpa only [tH, hh] using c1)
 have hs := qcW Z h hh a o n1 n2
 cases hl : uq a.l with
 | true => rw [hl] at hs; exact VJ Z h hh a o hs
 | false =>
 rw [hl] at hs
 obtain ⟨hl, oks⟩ := qef hl o.ls
 have c50 := Lb Z h hh a.x.par
 have c51 : ((chk a.x.par : Int) == 0) = true -> ∀ j (b : j < a.l.shown.length), qb Z 51 [.pv (qj h a.x), .pv (.a [iH h (a.l.shown[j]).place, bH h (a.l.shown[j]).stored, lH h aP (a.l.shown[j]).path])] (.pv (nH h (qI a.x a.l.shown[j]))) [.any, .any] := fun q j b => by
  have hc : chk a.x.par = 0 := by have := eq_of_beq q; omega
  exact xy Z h hh a.x o.lr o.lf _ (oks _ (List.getElem_mem b)) (ue hc).1 (ue hc).2.1
 have c49 := K5 Z h hh a o hl oks
 have go := fun bad none w v b1 b2 b3 b4 E1 E2 pl d45 d46 d15 d47 d16 d38 => qeq Z h hh a o hs hl oks bad none w v b1 b2 b3 b4 E1 E2 pl _ _ d45 d46 d15 d47 d16 d38 c50 c51 c49
 have n0 : qb Z 15 [.pv (.v .nilIface)] (.pv (nH h 0)) [.any] := L3 Z h hh 0 Y76
 have hbad : ∀ k, k ≠ 0 -> k <= 20 -> qb Z 37 [.pv (bH h a.m), .pv (qj h a.x), .pv (qk h a.e)] (.tup [.pv (lH h iP []), .pv (qY Z k)]) [.any, .any, .any] -> qb Z 38 [.pv (bH h a.m), .pv (qj h a.x), .pv (qk h a.e)] (.tup [.pv (lH h iP []), .pv (nH h k)]) [.any, .any, .any] -> qb Z 8 [.pv (J2 h a)] (.pv (.v (.bool true))) [.any] := fun k k0 k1 c1 c2 =>
  go k k 2 0 (fun q => absurd q k0) (fun _ => rfl) (fun q => absurd q k0) (fun _ => rfl) _ _ _ (Xw Z h hh a.m a.x a.e a.l o.lr o.lf k k0 c2) (qdW Z h hh a.m a.x a.e a.l o.lr o.lf k c1) (J9 Z h hh k k0 k1) (X7 Z h hh a.m a.x a.e a.l o.lr o.lf k c1) (J9 Z h hh k k0 k1) c2
 have hok : ∀ pl : List Int, pl.length <= 100000 -> chk a.x.par = 0 -> qc a.m a.x.num = 0 -> (a.e.way = 2 -> 0 <= a.e.idx /\ a.e.idx < a.x.par.sent /\ pl.length = 1) -> qb Z 37 [.pv (bH h a.m), .pv (qj h a.x), .pv (qk h a.e)] (.tup [.pv (lH h iP pl), .pv (.v .nilIface)]) [.any, .any, .any] -> qb Z 38 [.pv (bH h a.m), .pv (qj h a.x), .pv (qk h a.e)] (.tup [.pv (lH h iP pl), .pv (iH h 0)]) [.any, .any, .any] -> qb Z 8 [.pv (J2 h a)] (.pv (.v (.bool true))) [.any] := fun pl hpl hc hkb hw2 c1 c2 => by
  have hb := ue hc
  have no : ∀ k, k ≠ 0 -> k <= 20 -> qb Z 45 [.pv (bH h a.m), .pv (qj h a.x), .pv (qk h a.e), .pv (qr h a.l)] (.pv (nH h k)) [.any, .any, .any, .any] -> qb Z 46 [.pv (bH h a.m), .pv (qj h a.x), .pv (qk h a.e), .pv (qr h a.l)] (.pv (qY Z k)) [.any, .any, .any, .any] -> qb Z 8 [.pv (J2 h a)] (.pv (.v (.bool true))) [.any] := fun k k0 k1 c3 c4 =>
   go k 0 2 2 (fun q => absurd q k0) (fun _ => rfl) (fun _ => rfl) (fun q => absurd rfl q) _ _ _ c3 c4 (J9 Z h hh k k0 k1) (KJ Z h hh a.m a.x a.e a.l o.lr o.lf k pl c1 c4) n0 c2
  have yes : qb Z 45 [.pv (bH h a.m), .pv (qj h a.x), .pv (qk h a.e), .pv (qr h a.l)] (.pv (nH h 0)) [.any, .any, .any, .any] -> qb Z 46 [.pv (bH h a.m), .pv (qj h a.x), .pv (qk h a.e), .pv (qr h a.l)] (.pv (.v .nilIface)) [.any, .any, .any, .any] -> qb Z 8 [.pv (J2 h a)] (.pv (.v (.bool true))) [.any] := fun c3 c4 =>
   go 0 0 1 1 (fun _ => rfl) (fun q => absurd rfl q) (fun _ => rfl) (fun q => absurd rfl q) _ _ _ c3 c4 n0 (Ki Z h hh a.m a.x a.e a.l o.lr o.lf 0 pl c1 c4) n0 c2
  by_cases hk : a.l.kind = 4
  ·by_cases hm : a.l.shown.map (·.place) = pl
   ·obtain ⟨k, hfe⟩ := exq (ji (qI a.x) a.l.shown)
    by_cases k0 : k = 0
    ·subst k0
     by_cases hw : a.e.way = 2
     ·obtain ⟨hi1, hi2, hp1⟩ := hw2 hw
      have hlen : a.l.shown.length = 1 := by rw [<- hp1, <- hm, List.length_map]
      obtain ⟨s, h0⟩ : ∃ s, a.l.shown[0]? = some s := ⟨_, List.getElem?_eq_getElem Y44⟩
      have c3 := qaS Z h hh a.m a.x a.e a.l o.lr o.lf pl c2 hk hm Y44 oks hb.1 hb.2.1 hfe hw hc hkb ⟨hi1, hi2⟩ s h0
      have c4 := qcz Z h hh a.m a.x a.e a.l o.lr o.lf pl c1 hk hm Y44 oks hc hfe hw hkb ⟨hi1, hi2⟩ s h0
      by_cases hq : Qg a.m a.x a.e = s.stored
      ·rw [if_pos hq] at c3 c4
       exact yes c3 c4
      ·rw [if_neg hq] at c3 c4
       exact no 15 Y76 Y76 c3 c4
     ·exact yes (qbk Z h hh a.m a.x a.e a.l o.lr o.lf pl c2 hk hm Y44 oks hb.1 hb.2.1 hfe hw) (qb2 Z h hh a.m a.x a.e a.l o.lr o.lf pl c1 hk hm Y44 oks hc hfe hw)
    ·exact no k k0 (by have := Va (fun s => qb0 a.x.root (blk a.x.par.size + a.x.par.sent).toNat s.place s.stored s.path) a.l.shown; have e : ji (qI a.x) a.l.shown <= 15 := this; omega) (WR Z h hh a.m a.x a.e a.l o.lr o.lf pl c2 hk hm Y44 oks hb.1 hb.2.1 k k0 hfe) (qaN Z h hh a.m a.x a.e a.l o.lr o.lf pl c1 hk hm Y44 oks hc k k0 hfe)
   ·have c4 := Kg Z h hh a.m a.x a.e a.l o.lr o.lf pl c1 hk Y44 hpl hm
    by_cases hn : pl.length = a.l.shown.length
    ·exact no 4 Y76 Y76 (YM Z h hh a.m a.x a.e a.l o.lr o.lf pl c2 hk hn Y44 hm) c4
    ·exact no 4 Y76 Y76 (qbO Z h hh a.m a.x a.e a.l o.lr o.lf pl c2 hk hn) c4
  ·exact no 7 Y76 Y76 (qbn Z h hh a.m a.x a.e a.l o.lr o.lf pl c2 hk) (Yk Z h hh a.m a.x a.e a.l o.lr o.lf pl hk c1)
 rcases Zo Z h hh a.x.par with ⟨hc, -⟩ | ⟨j, -, hj, hz, c0⟩
 ·by_cases hk : qc a.m a.x.num = 0
  ·have z2' : 1 <= a.x.par.spots /\ a.x.par.spots <= min 12 (blk a.x.par.size + a.x.par.sent) := (ue hc).2.2
   by_cases w1 : a.e.way = 1
   ·by_cases hi : 0 <= a.e.idx /\ a.e.idx <= 1073741824
    ·exact hok _ (qbc _ _ _ Y44) hc hk (fun q => absurd (w1.symm.trans q) Y76) (JX Z h hh a.m a.x a.e o.lr o.lf hc hk w1 hi) (VD Z h hh a.m a.x a.e o.lr o.lf hc hk w1 hi)
    ·exact hbad 1 Y76 Y76 (Kw Z h hh a.m a.x a.e o.lr o.lf hc hk w1 hi) (Ws Z h hh a.m a.x a.e o.lr o.lf hc hk w1 hi)
   by_cases w2 : a.e.way = 2
   ·by_cases hi : 0 <= a.e.idx /\ a.e.idx < a.x.par.sent
    ·exact hok _ Y77 hc hk (fun _ => ⟨hi.1, hi.2, rfl⟩) (XN Z h hh a.m a.x a.e o.lr o.lf hc hk w2 hi) (VS Z h hh a.m a.x a.e o.lr o.lf hc hk w2 hi)
    ·exact hbad 18 Y76 Y76 (KI Z h hh a.m a.x a.e o.lr o.lf hc hk w2 hi) (Wl Z h hh a.m a.x a.e o.lr o.lf hc hk w2 hi)
   exact hbad 7 Y76 Y76 (Wv Z h hh a.m a.x a.e o.lr o.lf hc hk w1 w2) (VX Z h hh a.m a.x a.e o.lr o.lf hc hk w1 w2)
  ·exact hbad _ hk (yB _ _) (WP Z h hh a.m a.x a.e o.lr o.lf hc hk) (XG Z h hh a.m a.x a.e o.lr o.lf hc hk)
 ·have c38 := YH Z h hh a.m a.x a.e o.lr o.lf hz
  rw [hj] at c38 hz
  have c1 := W6 Z h hh a.m a.x a.e o.lr o.lf j c0
  exact go _ _ 2 0 (fun q => absurd q hz) (fun _ => rfl) (fun q => absurd q hz) (fun _ => rfl) _ _ _ (Xw Z h hh a.m a.x a.e a.l o.lr o.lf _ hz c38) (qe5 Z h hh a.m a.x a.e a.l o.lr o.lf j c1) (Xu Z h hh a.x.par j) (WU Z h hh a.m a.x a.e a.l o.lr o.lf j c1) (Xu Z h hh a.x.par j) c38
end Go.Bl
