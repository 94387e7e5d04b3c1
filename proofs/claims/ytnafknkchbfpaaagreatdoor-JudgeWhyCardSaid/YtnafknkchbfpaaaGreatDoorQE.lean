import Derived.Test.YtnafknkchbfpaaaGreatDoorQD
set_option linter.unusedVariables false
set_option linter.unusedSimpArgs false
set_option maxRecDepth 1000000
set_option maxHeartbeats 8000000
namespace Go.Bl
open Go.RowKit Go.Proofs
attribute [local irreducible] qw
open Go.Proofs.YtnafknkchbfpaaaGreatDoor (Par chk blk jj jG jQ qc)
def y4 (f : qA -> Nat) (l : List qA) : List qA := l.filter fun s => f s == 0
theorem qc5 {f : qA -> Nat} {l : List qA} {j : Nat} (hj : j < l.length) (q : f l[j] = 0) : y4 f (l.take (j + 1)) = y4 f (l.take j) ++ [l[j]] := by
 rw [y4, List.take_succ_eq_append_getElem hj, List.filter_append]
 simp [y4, q]
theorem qdE {f : qA -> Nat} {l : List qA} {j : Nat} (hj : j < l.length) (q : f l[j] ≠ 0) : y4 f (l.take (j + 1)) = y4 f (l.take j) := by
 rw [y4, List.take_succ_eq_append_getElem hj, List.filter_append]
 simp [y4, q]
theorem qc6 (f : qA -> Nat) (l : List qA) : (y4 f l).length <= l.length := List.length_filter_le ..
theorem YP (Z : Ad) (h : Hh) (hh : ∀ α g, h α g = g ()) (x : qD) (l : qu) (lr : x.root.length = 32) (lf : x.file.length = 32) (hk : l.kind ≠ 4) : qb Z 49 [.pv (qj h x), .pv (qr h l)] (.pv (.l [])) [.any, .any] := by
 refine qh Z h hh ⟨Tryz.func49, Tryz.ntmps49⟩ rfl rfl rfl rfl rfl fun C hC => ?_
 unfold Tryz.f49
 cbv
 repeat' first
  | exact s0
  | apply And.intro
  | exact sq
  | (refine fun (_ : PUnit) => ?_; simp [hh, *, qd]; done)
  | trivial
  | (refine sz fun e => ?_; simp [hh, hk] at e <;> (try simp only [natc] at *) <;> omega)
  | (refine sy fun e => ?_; cbv)
theorem W9 (Z : Ad) (h : Hh) (hh : ∀ α g, h α g = g ()) (x : qD) (l : qu) (lr : x.root.length = 32) (lf : x.file.length = 32) (hk : l.kind = 4) (hs : l.shown.length <= 100000) (oks : ∀ s ∈ l.shown, s.ok) (hcp : chk x.par = 0) : qb Z 49 [.pv (qj h x), .pv (qr h l)] (.own 113 3 (h _ fun _ => (y4 (qI x) l.shown).map qa)) [.any, .any] := by
 have cs : ∀ j (b : j < l.shown.length), qb Z 99 [.pv (qj h x), .pv (.a [iH h (l.shown[j]).place, bH h (l.shown[j]).stored, lH h aP (l.shown[j]).path])] (.pv (Qt Z (qI x l.shown[j]))) [.any, .any] := fun j b => yE Z h hh x lr lf _ (oks _ (List.getElem_mem b)) hcp
 obtain ⟨f, hf⟩ := exq (qI x)
 simp only [hf] at cs
 rw [hf]
 replace cs := Hdq cs
 have f0 : y4 f (l.shown.take 0) = [] := rfl
 clear oks hcp hf
 refine qh Z h hh ⟨Tryz.func49, Tryz.ntmps49⟩ rfl rfl rfl rfl rfl fun C hC => ?_
 unfold Tryz.f49
 cbv
 repeat' first
  | exact s0
  | apply And.intro
  | exact sq
  | (refine fun (_ : PUnit) => ?_; simp [hh, *, qa, qd]; done)
  | trivial
  | (refine sz fun e => ?_; simp [hh, hk] at e <;> (try simp only [natc] at *) <;> omega)
  | (refine sy fun e => ?_; cbv)
 refine ⟨Nat, fun j => ⟨[(2, some (.ref 991 0 0)), (5, some (.own 990)), (12, some (.pv (lH h qa l.shown))), (13, some (.pv (nH h l.shown.length))), (14, some (.pv (nH h j)))], [(991, some (.var 75 (h _ fun _ => qd x) false)), (990, some (.row 113 3 (h _ fun _ => (y4 f (l.shown.take j)).map qa) false))]⟩, fun j => j <= l.shown.length, fun j => l.shown.length - j, 0, [(5, 990, 113, 3)], by omega, ⟨rfl, by decide, rfl, trivial⟩, ⟨[(991, 2)], rfl, rfl, ⟨?_, ?_, trivial⟩, ?_, ?_, ?_, ?_, ?_, trivial⟩, ?_⟩
 ·exact sp
 ·exact sp
 ·exact sp
 ·exact sp
 ·exact sp
 ·exact sp
 ·exact sp
 intro j hj
 dsimp only
 cbv
 refine ⟨fun _ => rfl, fun e => ?_, fun e => ?_⟩ <;> simp only [hh, nI, decide_eq_true_eq, decide_eq_false_iff_not, natc] at e
 ·have e' : j < l.shown.length := qK e
  have c4 := cs.out j e'
  have fl := qc6 f (l.shown.take j)
  have ft : (l.shown.take j).length = j := by rw [List.length_take]; omega
  rw [ft] at fl
  by_cases q : f l.shown[j] = 0
  ·have e3 := qc5 e' q
   rw [q] at c4
   replace c4 : qb Z 99 [.pv (qj h x), .pv (.a [iH h (l.shown[j]).place, bH h (l.shown[j]).stored, lH h aP (l.shown[j]).path])] (.pv (.v .nilIface)) [.any, .any] := c4
   obtain ⟨g, hg⟩ := exq (y4 f (l.shown.take j))
   rw [hg] at fl e3 ⊢
   clear cs hg ft
   cbv
   repeat' first
    | exact s0
    | apply And.intro
    | exact sq
    | (refine fun (_ : PUnit) => ?_; simp [hh, *, qa, qd]; done)
    | trivial
    | (refine sz fun e => ?_; simp [hh, e', iP, qa] at e <;> (try simp only [natc] at *) <;> omega)
    | (refine sy fun e => ?_; cbv)
    | (refine ⟨_, _, _, hC _ _ _ _ c4, ?_⟩; cbv; clear c4)
   refine ⟨j + 1, by omega, by show l.shown.length - (j + 1) < l.shown.length - j; omega, ⟨[(990, 25)], rfl, rfl, ⟨?_, ?_, trivial⟩, ?_, ?_, ?_, ?_, ?_, trivial⟩⟩
   ·exact sp
   ·cbv
    simp only [hh, e3, List.map_append, List.map_cons, List.map_nil]
    simp [e', qa]
   ·exact sp
   ·exact sp
   ·exact sp
   ·exact sp
   ·exact sp
  ·have e3 := qdE e' q
   rw [show Qt Z (f l.shown[j]) = qY Z (f l.shown[j]) from if_neg q] at c4
   obtain ⟨g, hg⟩ := exq (y4 f (l.shown.take j))
   rw [hg] at fl e3 ⊢
   clear cs hg ft q
   cbv
   repeat' first
    | exact s0
    | apply And.intro
    | exact sq
    | (refine fun (_ : PUnit) => ?_; simp [hh, *, qa, qd]; done)
    | trivial
    | (refine sz fun e => ?_; simp [hh, e', iP, qa] at e <;> (try simp only [natc] at *) <;> omega)
    | (refine sy fun e => ?_; cbv)
    | (refine ⟨_, _, _, hC _ _ _ _ c4, ?_⟩; cbv; clear c4)
   refine ⟨j + 1, by omega, by show l.shown.length - (j + 1) < l.shown.length - j; omega, ⟨[], rfl, rfl, ⟨?_, ?_, trivial⟩, ?_, ?_, ?_, ?_, ?_, trivial⟩⟩
   ·exact sp
   ·exact sp
   ·exact sp
   ·exact sp
   ·exact sp
   ·exact sp
   ·exact sp
 ·have e' : j = l.shown.length := Nat.le_antisymm hj (ge_nat e)
  subst e'
  have ft : l.shown.take l.shown.length = l.shown := List.take_length
  rw [ft]
  clear cs ft
  cbv
  repeat' first
   | exact s0
   | apply And.intro
   | exact sq
   | (refine fun (_ : PUnit) => ?_; simp [hh, *, qa, qd]; done)
   | trivial
   | exact sx
   | (refine sy fun e => ?_; cbv)
theorem Km (Z : Ad) (h : Hh) (hh : ∀ α g, h α g = g ()) (x : qD) (l : qu) (lr : x.root.length = 32) (lf : x.file.length = 32) (hk : l.kind = 4) (hs : l.shown.length <= 100000) (j0 : Nat) (c0 : qb Z 72 [.pv (zX h x.par)] (.pv (wrP h Z x.par j0)) [.any]) : qb Z 49 [.pv (qj h x), .pv (qr h l)] (.own 113 3 (h _ fun _ => [])) [.any, .any] := by
 have cs : ∀ s : qA, qb Z 99 [.pv (qj h x), .pv (.a [iH h s.place, bH h s.stored, lH h aP s.path])] (.pv (wrP h Z x.par j0)) [.any, .any] := fun s => qaP Z h hh x lr lf s j0 c0
 replace cs := Hdq cs
 clear c0
 refine qh Z h hh ⟨Tryz.func49, Tryz.ntmps49⟩ rfl rfl rfl rfl rfl fun C hC => ?_
 unfold Tryz.f49
 cbv
 repeat' first
  | exact s0
  | apply And.intro
  | exact sq
  | (refine fun (_ : PUnit) => ?_; simp [hh, *, qa, qd]; done)
  | trivial
  | (refine sz fun e => ?_; simp [hh, hk] at e <;> (try simp only [natc] at *) <;> omega)
  | (refine sy fun e => ?_; cbv)
 refine ⟨Nat, fun j => ⟨[(2, some (.ref 991 0 0)), (5, some (.own 990)), (12, some (.pv (lH h qa l.shown))), (13, some (.pv (nH h l.shown.length))), (14, some (.pv (nH h j)))], [(991, some (.var 75 (h _ fun _ => qd x) false)), (990, some (.row 113 3 (h _ fun _ => []) false))]⟩, fun j => j <= l.shown.length, fun j => l.shown.length - j, 0, [(5, 990, 113, 3)], by omega, ⟨rfl, by decide, rfl, trivial⟩, ⟨[(991, 2)], rfl, rfl, ⟨?_, ?_, trivial⟩, ?_, ?_, ?_, ?_, ?_, trivial⟩, ?_⟩
 ·exact sp
 ·exact sp
 ·exact sp
 ·exact sp
 ·exact sp
 ·exact sp
 ·exact sp
 intro j hj
 dsimp only
 cbv
 refine ⟨fun _ => rfl, fun e => ?_, fun e => ?_⟩ <;> simp only [hh, nI, decide_eq_true_eq, decide_eq_false_iff_not, natc] at e
 ·have e' : j < l.shown.length := qK e
  have c4 := cs.out l.shown[j]
  clear cs
  cbv
  repeat' first
   | exact s0
   | apply And.intro
   | exact sq
   | (refine fun (_ : PUnit) => ?_; simp [hh, *, qa, qd]; done)
   | trivial
   | (refine sz fun e => ?_; simp [hh, e', iP, qa] at e <;> (try simp only [natc] at *) <;> omega)
   | (refine sy fun e => ?_; cbv)
   | (refine ⟨_, _, _, hC _ _ _ _ c4, ?_⟩; cbv; clear c4)
  refine ⟨j + 1, by omega, by show l.shown.length - (j + 1) < l.shown.length - j; omega, ⟨[], rfl, rfl, ⟨?_, ?_, trivial⟩, ?_, ?_, ?_, ?_, ?_, trivial⟩⟩
  ·exact sp
  ·exact sp
  ·exact sp
  ·exact sp
  ·exact sp
  ·exact sp
  ·exact sp
 ·clear cs
  cbv
  repeat' first
   | exact s0
   | apply And.intro
   | exact sq
   | (refine fun (_ : PUnit) => ?_; simp [hh, *, qa, qd]; done)
   | trivial
   | exact sx
   | (refine sy fun e => ?_; cbv)
end Go.Bl
namespace Go.Bl
open Go.RowKit Go.Proofs
attribute [local irreducible] qw
open Go.Proofs.YtnafknkchbfpaaaGreatDoor (Par chk blk jj jG jQ qc qi jU qx qV jI jw sdE qH vo jD)
theorem qdW (Z : Ad) (h : Hh) (hh : ∀ α g, h α g = g ()) (m : List UInt8) (x : qD) (y : qz) (l : qu) (lr : x.root.length = 32) (lf : x.file.length = 32) (k : Nat) (c1 : qb Z 37 [.pv (bH h m), .pv (qj h x), .pv (qk h y)] (.tup [.pv (lH h iP []), .pv (qY Z k)]) [.any, .any, .any]) : qb Z 46 [.pv (bH h m), .pv (qj h x), .pv (qk h y), .pv (qr h l)] (.pv (qY Z k)) [.any, .any, .any, .any] := by
 refine qh Z h hh ⟨Tryz.func46, Tryz.ntmps46⟩ rfl rfl rfl rfl rfl fun C hC => ?_
 unfold Tryz.f46
 cbv
 repeat' first
  | exact s0
  | apply And.intro
  | exact sq
  | (refine fun (_ : PUnit) => ?_; simp [hh, *, qd]; done)
  | trivial
  | exact sx
  | (refine sy fun e => ?_; cbv)
  | (refine ⟨_, _, _, hC _ _ _ _ c1, ?_⟩; cbv; clear c1)
theorem qe5 (Z : Ad) (h : Hh) (hh : ∀ α g, h α g = g ()) (m : List UInt8) (x : qD) (y : qz) (l : qu) (lr : x.root.length = 32) (lf : x.file.length = 32) (j : Nat) (c1 : qb Z 37 [.pv (bH h m), .pv (qj h x), .pv (qk h y)] (.tup [.pv (lH h iP []), .pv (wrP h Z x.par j)]) [.any, .any, .any]) : qb Z 46 [.pv (bH h m), .pv (qj h x), .pv (qk h y), .pv (qr h l)] (.pv (wrP h Z x.par j)) [.any, .any, .any, .any] := by
 refine qh Z h hh ⟨Tryz.func46, Tryz.ntmps46⟩ rfl rfl rfl rfl rfl fun C hC => ?_
 unfold Tryz.f46
 cbv
 repeat' first
  | exact s0
  | apply And.intro
  | exact sq
  | (refine fun (_ : PUnit) => ?_; simp [hh, *, qd]; done)
  | trivial
  | exact sx
  | (refine sy fun e => ?_; cbv)
  | (refine ⟨_, _, _, hC _ _ _ _ c1, ?_⟩; cbv; clear c1)
theorem Kg (Z : Ad) (h : Hh) (hh : ∀ α g, h α g = g ()) (m : List UInt8) (x : qD) (y : qz) (l : qu) (lr : x.root.length = 32) (lf : x.file.length = 32) (pl : List Int) (c1 : qb Z 37 [.pv (bH h m), .pv (qj h x), .pv (qk h y)] (.tup [.pv (lH h iP pl), .pv (.v .nilIface)]) [.any, .any, .any]) (hk : l.kind = 4) (hs : l.shown.length <= 100000) (hpl : pl.length <= 100000) (hne : l.shown.map (·.place) ≠ pl) : qb Z 46 [.pv (bH h m), .pv (qj h x), .pv (qk h y), .pv (qr h l)] (.pv (qY Z 4)) [.any, .any, .any, .any] := by
 have c2 := yK Z h hh l hs
 have c3 := J5 Z h hh pl (l.shown.map (·.place)) hpl
 rw [show (pl == l.shown.map (·.place)) = false by rw [beq_eq_false_iff_ne]; exact fun g => hne g.symm] at c3
 clear hne hs hpl
 refine qh Z h hh ⟨Tryz.func46, Tryz.ntmps46⟩ rfl rfl rfl rfl rfl fun C hC => ?_
 unfold Tryz.f46
 cbv
 repeat' first
  | exact s0
  | apply And.intro
  | exact sq
  | (refine fun (_ : PUnit) => ?_; simp [hh, *, qd]; done)
  | trivial
  | (refine sz fun e => ?_; simp [hh, hk] at e <;> (try simp only [natc] at *) <;> omega)
  | (refine sy fun e => ?_; cbv)
  | (refine ⟨_, _, _, hC _ _ _ _ c1, ?_⟩; cbv; clear c1)
  | (refine ⟨_, _, _, hC _ _ _ _ c2, ?_⟩; cbv; clear c2)
  | (refine ⟨_, _, _, hC _ _ _ _ c3, ?_⟩; cbv; clear c3)
theorem qaN (Z : Ad) (h : Hh) (hh : ∀ α g, h α g = g ()) (m : List UInt8) (x : qD) (y : qz) (l : qu) (lr : x.root.length = 32) (lf : x.file.length = 32) (pl : List Int) (c1 : qb Z 37 [.pv (bH h m), .pv (qj h x), .pv (qk h y)] (.tup [.pv (lH h iP pl), .pv (.v .nilIface)]) [.any, .any, .any]) (hk : l.kind = 4) (hm : l.shown.map (·.place) = pl) (hs : l.shown.length <= 100000) (oks : ∀ s ∈ l.shown, s.ok) (hcp : chk x.par = 0) (k : Nat) (k0 : k ≠ 0) (hfe : ji (qI x) l.shown = k) : qb Z 46 [.pv (bH h m), .pv (qj h x), .pv (qk h y), .pv (qr h l)] (.pv (qY Z k)) [.any, .any, .any, .any] := by
 have c2 := yK Z h hh l hs
 have c3 := J5 Z h hh pl (l.shown.map (·.place)) (by rw [<- hm, List.length_map]; exact hs)
 rw [show (pl == l.shown.map (·.place)) = true by rw [hm]; exact beq_self_eq_true _] at c3
 have cs : ∀ j (b : j < l.shown.length), qb Z 99 [.pv (qj h x), .pv (.a [iH h (l.shown[j]).place, bH h (l.shown[j]).stored, lH h aP (l.shown[j]).path])] (.pv (Qt Z (qI x l.shown[j]))) [.any, .any] := fun j b => yE Z h hh x lr lf _ (oks _ (List.getElem_mem b)) hcp
 have fd := fun j (b : j < l.shown.length) => zv (qI x) b
 obtain ⟨f, hf⟩ := exq (qI x)
 simp only [hf] at cs fd
 rw [hf] at hfe
 replace hfe := Hdq hfe
 replace cs := Hdq cs
 replace fd := Hdq fd
 clear hm oks hf hcp
 refine qh Z h hh ⟨Tryz.func46, Tryz.ntmps46⟩ rfl rfl rfl rfl rfl fun C hC => ?_
 unfold Tryz.f46
 cbv
 repeat' first
  | exact s0
  | apply And.intro
  | exact sq
  | (refine fun (_ : PUnit) => ?_; simp [hh, *, qa, qd]; done)
  | trivial
  | (refine sz fun e => ?_; simp [hh, hk] at e <;> (try simp only [natc] at *) <;> omega)
  | (refine sy fun e => ?_; cbv)
  | (refine ⟨_, _, _, hC _ _ _ _ c1, ?_⟩; cbv; clear c1)
  | (refine ⟨_, _, _, hC _ _ _ _ c2, ?_⟩; cbv; clear c2)
  | (refine ⟨_, _, _, hC _ _ _ _ c3, ?_⟩; cbv; clear c3)
 refine ⟨Nat, fun j => ⟨[(0, some (.pv (bH h m))), (5, some (.ref 990 0 0)), (6, some (.ref 991 0 0)), (7, some (.ref 992 0 0)), (40, some (.pv (lH h qa l.shown))), (41, some (.pv (nH h l.shown.length))), (42, some (.pv (nH h j)))], [(990, some (.var 75 (h _ fun _ => qd x) false)), (991, some (.box 77 [.pv (iH h y.id), .pv (iH h y.obj), .pv (iH h y.way), .pv (iH h y.idx), .pv (iH h y.tick), .pv (iH h y.verd), .pv (iH h y.at')] false)), (992, some (.box 81 [.pv (iH h l.kind), .pv (iH h l.id), .pv (iH h l.obj), .pv (lH h iP l.places), .pv (lH h qa l.shown), .pv (iH h l.fr), .pv (iH h l.cnt), .pv (lH h bP l.blocks), .pv (iH h l.code)] false))]⟩, fun j => j <= l.shown.length /\ ji f (l.shown.drop j) = ji f l.shown, fun j => l.shown.length - j, 0, [], ⟨Nat.zero_le _, rfl⟩, trivial, ⟨[(990, 5), (991, 6), (992, 7)], rfl, rfl, ⟨?_, ?_, ?_, trivial⟩, ?_, ?_, ?_, ?_, ?_, ?_, ?_, trivial⟩, ?_⟩
 ·exact sp
 ·exact sp
 ·exact sp
 ·exact sp
 ·exact sp
 ·exact sp
 ·exact sp
 ·exact sp
 ·exact sp
 ·exact sp
 intro j hj
 dsimp only
 cbv
 refine ⟨fun _ => rfl, fun e => ?_, fun e => ?_⟩ <;> simp only [hh, nI, decide_eq_true_eq, decide_eq_false_iff_not, natc] at e
 ·have e' : j < l.shown.length := qK e
  have c4 := cs.out j e'
  have e3 := fd.out j e'
  by_cases q : f l.shown[j] = 0
  ·rw [if_pos q, hj.2] at e3
   replace e3 := Hdq e3
   rw [q] at c4
   replace c4 : qb Z 99 [.pv (qj h x), .pv (.a [iH h (l.shown[j]).place, bH h (l.shown[j]).stored, lH h aP (l.shown[j]).path])] (.pv (.v .nilIface)) [.any, .any] := c4
   clear hj fd cs
   cbv
   repeat' first
    | exact s0
    | apply And.intro
    | exact sq
    | (refine fun (_ : PUnit) => ?_; simp [hh, *, qa, qd]; done)
    | trivial
    | (refine sz fun e => ?_; simp [hh, e', iP, qa] at e <;> (try simp only [natc] at *) <;> omega)
    | (refine sy fun e => ?_; cbv)
    | (refine ⟨_, _, _, hC _ _ _ _ c4, ?_⟩; cbv; clear c4)
   refine ⟨j + 1, ⟨e', e3.out.symm⟩, by show l.shown.length - (j + 1) < l.shown.length - j; omega, ⟨[], rfl, rfl, ⟨?_, ?_, ?_, trivial⟩, ?_, ?_, ?_, ?_, ?_, ?_, ?_, trivial⟩⟩
   ·exact sp
   ·exact sp
   ·exact sp
   ·exact sp
   ·exact sp
   ·exact sp
   ·exact sp
   ·exact sp
   ·exact sp
   ·exact sp
  ·rw [if_neg q, hj.2, hfe.out] at e3
   rw [<- e3, show Qt Z k = qY Z k from if_neg k0] at c4
   clear hj fd cs e3 q hfe k0
   cbv
   repeat' first
    | exact s0
    | apply And.intro
    | exact sq
    | (refine fun (_ : PUnit) => ?_; simp [hh, *, qa, qd]; done)
    | trivial
    | exact sx
    | (refine sy fun e => ?_; cbv)
    | (refine ⟨_, _, _, hC _ _ _ _ c4, ?_⟩; cbv; clear c4)
 ·exfalso
  exact Y37
theorem qb2 (Z : Ad) (h : Hh) (hh : ∀ α g, h α g = g ()) (m : List UInt8) (x : qD) (y : qz) (l : qu) (lr : x.root.length = 32) (lf : x.file.length = 32) (pl : List Int) (c1 : qb Z 37 [.pv (bH h m), .pv (qj h x), .pv (qk h y)] (.tup [.pv (lH h iP pl), .pv (.v .nilIface)]) [.any, .any, .any]) (hk : l.kind = 4) (hm : l.shown.map (·.place) = pl) (hs : l.shown.length <= 100000) (oks : ∀ s ∈ l.shown, s.ok) (hcp : chk x.par = 0) (hfe : ji (qI x) l.shown = 0) (hw : y.way ≠ 2) : qb Z 46 [.pv (bH h m), .pv (qj h x), .pv (qk h y), .pv (qr h l)] (.pv (.v .nilIface)) [.any, .any, .any, .any] := by
 have c2 := yK Z h hh l hs
 have c3 := J5 Z h hh pl (l.shown.map (·.place)) (by rw [<- hm, List.length_map]; exact hs)
 rw [show (pl == l.shown.map (·.place)) = true by rw [hm]; exact beq_self_eq_true _] at c3
 have cs : ∀ j (b : j < l.shown.length), qb Z 99 [.pv (qj h x), .pv (.a [iH h (l.shown[j]).place, bH h (l.shown[j]).stored, lH h aP (l.shown[j]).path])] (.pv (Qt Z (qI x l.shown[j]))) [.any, .any] := fun j b => yE Z h hh x lr lf _ (oks _ (List.getElem_mem b)) hcp
 have fd := fun j (b : j < l.shown.length) => zv (qI x) b
 obtain ⟨f, hf⟩ := exq (qI x)
 simp only [hf] at cs fd
 rw [hf] at hfe
 replace hfe := Hdq hfe
 replace cs := Hdq cs
 replace fd := Hdq fd
 clear hm oks hf hcp
 refine qh Z h hh ⟨Tryz.func46, Tryz.ntmps46⟩ rfl rfl rfl rfl rfl fun C hC => ?_
 unfold Tryz.f46
 cbv
 repeat' first
  | exact s0
  | apply And.intro
  | exact sq
  | (refine fun (_ : PUnit) => ?_; simp [hh, *, qa, qd]; done)
  | trivial
  | (refine sz fun e => ?_; simp [hh, hk] at e <;> (try simp only [natc] at *) <;> omega)
  | (refine sy fun e => ?_; cbv)
  | (refine ⟨_, _, _, hC _ _ _ _ c1, ?_⟩; cbv; clear c1)
  | (refine ⟨_, _, _, hC _ _ _ _ c2, ?_⟩; cbv; clear c2)
  | (refine ⟨_, _, _, hC _ _ _ _ c3, ?_⟩; cbv; clear c3)
 refine ⟨Nat, fun j => ⟨[(0, some (.pv (bH h m))), (5, some (.ref 990 0 0)), (6, some (.ref 991 0 0)), (7, some (.ref 992 0 0)), (40, some (.pv (lH h qa l.shown))), (41, some (.pv (nH h l.shown.length))), (42, some (.pv (nH h j)))], [(990, some (.var 75 (h _ fun _ => qd x) false)), (991, some (.box 77 [.pv (iH h y.id), .pv (iH h y.obj), .pv (iH h y.way), .pv (iH h y.idx), .pv (iH h y.tick), .pv (iH h y.verd), .pv (iH h y.at')] false)), (992, some (.box 81 [.pv (iH h l.kind), .pv (iH h l.id), .pv (iH h l.obj), .pv (lH h iP l.places), .pv (lH h qa l.shown), .pv (iH h l.fr), .pv (iH h l.cnt), .pv (lH h bP l.blocks), .pv (iH h l.code)] false))]⟩, fun j => j <= l.shown.length /\ ji f (l.shown.drop j) = ji f l.shown, fun j => l.shown.length - j, 0, [], ⟨Nat.zero_le _, rfl⟩, trivial, ⟨[(990, 5), (991, 6), (992, 7)], rfl, rfl, ⟨?_, ?_, ?_, trivial⟩, ?_, ?_, ?_, ?_, ?_, ?_, ?_, trivial⟩, ?_⟩
 ·exact sp
 ·exact sp
 ·exact sp
 ·exact sp
 ·exact sp
 ·exact sp
 ·exact sp
 ·exact sp
 ·exact sp
 ·exact sp
 intro j hj
 dsimp only
 cbv
 refine ⟨fun _ => rfl, fun e => ?_, fun e => ?_⟩ <;> simp only [hh, nI, decide_eq_true_eq, decide_eq_false_iff_not, natc] at e
 ·have e' : j < l.shown.length := qK e
  have c4 := cs.out j e'
  have e3 := fd.out j e'
  by_cases q : f l.shown[j] = 0
  ·rw [if_pos q, hj.2] at e3
   replace e3 := Hdq e3
   rw [q] at c4
   replace c4 : qb Z 99 [.pv (qj h x), .pv (.a [iH h (l.shown[j]).place, bH h (l.shown[j]).stored, lH h aP (l.shown[j]).path])] (.pv (.v .nilIface)) [.any, .any] := c4
   clear hj fd cs
   cbv
   repeat' first
    | exact s0
    | apply And.intro
    | exact sq
    | (refine fun (_ : PUnit) => ?_; simp [hh, *, qa, qd]; done)
    | trivial
    | (refine sz fun e => ?_; simp [hh, e', iP, qa] at e <;> (try simp only [natc] at *) <;> omega)
    | (refine sy fun e => ?_; cbv)
    | (refine ⟨_, _, _, hC _ _ _ _ c4, ?_⟩; cbv; clear c4)
   refine ⟨j + 1, ⟨e', e3.out.symm⟩, by show l.shown.length - (j + 1) < l.shown.length - j; omega, ⟨[], rfl, rfl, ⟨?_, ?_, ?_, trivial⟩, ?_, ?_, ?_, ?_, ?_, ?_, ?_, trivial⟩⟩
   ·exact sp
   ·exact sp
   ·exact sp
   ·exact sp
   ·exact sp
   ·exact sp
   ·exact sp
   ·exact sp
   ·exact sp
   ·exact sp
  ·exfalso
   exact Y41
 ·have e' : j = l.shown.length := Nat.le_antisymm hj.1 (ge_nat e)
  subst e'
  clear hj fd cs hfe
  cbv
  repeat' first
   | exact s0
   | apply And.intro
   | exact sq
   | (refine fun (_ : PUnit) => ?_; simp [hh, *, qa, qd]; done)
   | trivial
   | (refine sz fun e => ?_; simp [hh, hw] at e <;> (try simp only [natc] at *) <;> omega)
   | (refine sy fun e => ?_; cbv)
end Go.Bl
namespace Go.Bl
open Go.RowKit Go.Proofs
attribute [local irreducible] qw
open Go.Proofs.YtnafknkchbfpaaaGreatDoor (Par chk blk jj jG jQ qc qi jU qx qV jI jw sdE qH vo jD)
theorem qcz (Z : Ad) (h : Hh) (hh : ∀ α g, h α g = g ()) (m : List UInt8) (x : qD) (y : qz) (l : qu) (lr : x.root.length = 32) (lf : x.file.length = 32) (pl : List Int) (c1 : qb Z 37 [.pv (bH h m), .pv (qj h x), .pv (qk h y)] (.tup [.pv (lH h iP pl), .pv (.v .nilIface)]) [.any, .any, .any]) (hk : l.kind = 4) (hm : l.shown.map (·.place) = pl) (hs : l.shown.length <= 100000) (oks : ∀ s ∈ l.shown, s.ok) (hcp : chk x.par = 0) (hfe : ji (qI x) l.shown = 0) (hw : y.way = 2) (hkb : qc m x.num = 0) (hi : 0 <= y.idx /\ y.idx < x.par.sent) (s : qA) (h0 : l.shown[0]? = some s) : qb Z 46 [.pv (bH h m), .pv (qj h x), .pv (qk h y), .pv (qr h l)] (.pv (Qt Z (if Qg m x y = s.stored then 0 else 15))) [.any, .any, .any, .any] := by
 have c5 := QQ Z h hh m x.num y.idx x.par (by unfold sdE; rw [if_neg Y44]; exact hkb) hi
 have lt := U7 m x y
 rw [show vo (qi m jI x.num) ((qH (qi m qx x.num) (blk x.par.size + x.par.sent).toNat ((blk x.par.size).toNat + y.idx.toNat) : Nat) : Int) (jD (qi m qV x.num) y.idx) = Qg m x y from rfl] at c5
 obtain ⟨tg, htg⟩ := exq (Qg m x y)
 rw [htg] at c5 lt ⊢
 obtain ⟨v, hv⟩ := exq (qH (qi m qx x.num) (blk x.par.size + x.par.sent).toNat ((blk x.par.size).toNat + y.idx.toNat))
 rw [hv] at c5
 have so := oks s (List.mem_of_getElem? h0)
 have ls : s.stored.length <= 10000 := so.1
 have c6 := XE Z h hh tg s.stored Y44 Y44
 have l0 : 0 < l.shown.length := by
  rcases Nat.lt_or_ge 0 l.shown.length with r | r
  ·exact r
  ·rw [List.getElem?_eq_none r] at h0; cases h0
 have e0 : l.shown[0] = s := by rw [List.getElem?_eq_getElem l0] at h0; exact Option.some.inj h0
 have ne : l.shown.length ≠ 0 := by omega
 clear hkb hi so hv htg
 have c2 := yK Z h hh l hs
 have c3 := J5 Z h hh pl (l.shown.map (·.place)) (by rw [<- hm, List.length_map]; exact hs)
 rw [show (pl == l.shown.map (·.place)) = true by rw [hm]; exact beq_self_eq_true _] at c3
 have cs : ∀ j (b : j < l.shown.length), qb Z 99 [.pv (qj h x), .pv (.a [iH h (l.shown[j]).place, bH h (l.shown[j]).stored, lH h aP (l.shown[j]).path])] (.pv (Qt Z (qI x l.shown[j]))) [.any, .any] := fun j b => yE Z h hh x lr lf _ (oks _ (List.getElem_mem b)) hcp
 have fd := fun j (b : j < l.shown.length) => zv (qI x) b
 obtain ⟨f, hf⟩ := exq (qI x)
 simp only [hf] at cs fd
 rw [hf] at hfe
 replace hfe := Hdq hfe
 replace cs := Hdq cs
 replace fd := Hdq fd
 clear hm oks hf hcp
 refine qh Z h hh ⟨Tryz.func46, Tryz.ntmps46⟩ rfl rfl rfl rfl rfl fun C hC => ?_
 unfold Tryz.f46
 cbv
 repeat' first
  | exact s0
  | apply And.intro
  | exact sq
  | (refine fun (_ : PUnit) => ?_; simp [hh, *, qa, qd]; done)
  | trivial
  | (refine sz fun e => ?_; simp [hh, hk] at e <;> (try simp only [natc] at *) <;> omega)
  | (refine sy fun e => ?_; cbv)
  | (refine ⟨_, _, _, hC _ _ _ _ c1, ?_⟩; cbv; clear c1)
  | (refine ⟨_, _, _, hC _ _ _ _ c2, ?_⟩; cbv; clear c2)
  | (refine ⟨_, _, _, hC _ _ _ _ c3, ?_⟩; cbv; clear c3)
 refine ⟨Nat, fun j => ⟨[(0, some (.pv (bH h m))), (5, some (.ref 990 0 0)), (6, some (.ref 991 0 0)), (7, some (.ref 992 0 0)), (40, some (.pv (lH h qa l.shown))), (41, some (.pv (nH h l.shown.length))), (42, some (.pv (nH h j)))], [(990, some (.var 75 (h _ fun _ => qd x) false)), (991, some (.box 77 [.pv (iH h y.id), .pv (iH h y.obj), .pv (iH h y.way), .pv (iH h y.idx), .pv (iH h y.tick), .pv (iH h y.verd), .pv (iH h y.at')] false)), (992, some (.box 81 [.pv (iH h l.kind), .pv (iH h l.id), .pv (iH h l.obj), .pv (lH h iP l.places), .pv (lH h qa l.shown), .pv (iH h l.fr), .pv (iH h l.cnt), .pv (lH h bP l.blocks), .pv (iH h l.code)] false))]⟩, fun j => j <= l.shown.length /\ ji f (l.shown.drop j) = ji f l.shown, fun j => l.shown.length - j, 0, [], ⟨Nat.zero_le _, rfl⟩, trivial, ⟨[(990, 5), (991, 6), (992, 7)], rfl, rfl, ⟨?_, ?_, ?_, trivial⟩, ?_, ?_, ?_, ?_, ?_, ?_, ?_, trivial⟩, ?_⟩
 ·exact sp
 ·exact sp
 ·exact sp
 ·exact sp
 ·exact sp
 ·exact sp
 ·exact sp
 ·exact sp
 ·exact sp
 ·exact sp
 intro j hj
 dsimp only
 cbv
 refine ⟨fun _ => rfl, fun e => ?_, fun e => ?_⟩ <;> simp only [hh, nI, decide_eq_true_eq, decide_eq_false_iff_not, natc] at e
 ·have e' : j < l.shown.length := qK e
  have c4 := cs.out j e'
  have e3 := fd.out j e'
  by_cases q : f l.shown[j] = 0
  ·rw [if_pos q, hj.2] at e3
   replace e3 := Hdq e3
   rw [q] at c4
   replace c4 : qb Z 99 [.pv (qj h x), .pv (.a [iH h (l.shown[j]).place, bH h (l.shown[j]).stored, lH h aP (l.shown[j]).path])] (.pv (.v .nilIface)) [.any, .any] := c4
   clear hj fd cs
   cbv
   repeat' first
    | exact s0
    | apply And.intro
    | exact sq
    | (refine fun (_ : PUnit) => ?_; simp [hh, *, qa, qd]; done)
    | trivial
    | (refine sz fun e => ?_; simp [hh, e', iP, qa] at e <;> (try simp only [natc] at *) <;> omega)
    | (refine sy fun e => ?_; cbv)
    | (refine ⟨_, _, _, hC _ _ _ _ c4, ?_⟩; cbv; clear c4)
   refine ⟨j + 1, ⟨e', e3.out.symm⟩, by show l.shown.length - (j + 1) < l.shown.length - j; omega, ⟨[], rfl, rfl, ⟨?_, ?_, ?_, trivial⟩, ?_, ?_, ?_, ?_, ?_, ?_, ?_, trivial⟩⟩
   ·exact sp
   ·exact sp
   ·exact sp
   ·exact sp
   ·exact sp
   ·exact sp
   ·exact sp
   ·exact sp
   ·exact sp
   ·exact sp
  ·exfalso
   exact Y41
 ·have e' : j = l.shown.length := Nat.le_antisymm hj.1 (ge_nat e)
  subst e'
  clear hj fd cs hfe
  by_cases q : tg = s.stored
  ·rw [if_pos q]
   rw [show (tg == s.stored) = true by rw [q]; exact beq_self_eq_true _] at c6
   cbv
   repeat' first
    | exact s0
    | apply And.intro
    | exact sq
    | (refine fun (_ : PUnit) => ?_; simp [hh, *, qa, qd]; done)
    | trivial
    | (refine sz fun e => ?_; simp [hh, hw, e0, l0, ne, qa] at e <;> (try simp only [natc] at *) <;> omega)
    | (refine sy fun e => ?_; cbv)
    | (refine ⟨_, _, _, hC _ _ _ _ c5, ?_⟩; cbv; clear c5)
    | (refine ⟨_, _, _, hC _ _ _ _ c6, ?_⟩; cbv; clear c6)
  ·rw [if_neg q]
   rw [show (tg == s.stored) = false by rw [beq_eq_false_iff_ne]; exact q] at c6
   cbv
   repeat' first
    | exact s0
    | apply And.intro
    | exact sq
    | (refine fun (_ : PUnit) => ?_; simp [hh, *, qa, qd]; done)
    | trivial
    | (refine sz fun e => ?_; simp [hh, hw, e0, l0, ne, qa] at e <;> (try simp only [natc] at *) <;> omega)
    | (refine sy fun e => ?_; cbv)
    | (refine ⟨_, _, _, hC _ _ _ _ c5, ?_⟩; cbv; clear c5)
    | (refine ⟨_, _, _, hC _ _ _ _ c6, ?_⟩; cbv; clear c6)
theorem X7 (Z : Ad) (h : Hh) (hh : ∀ α g, h α g = g ()) (m : List UInt8) (x : qD) (y : qz) (l : qu) (lr : x.root.length = 32) (lf : x.file.length = 32) (k : Nat) (c1 : qb Z 37 [.pv (bH h m), .pv (qj h x), .pv (qk h y)] (.tup [.pv (lH h iP []), .pv (qY Z k)]) [.any, .any, .any]) : qb Z 47 [.pv (bH h m), .pv (qj h x), .pv (qk h y), .pv (qr h l)] (.tup [.pv (iH h 0), .pv (qY Z k)]) [.any, .any, .any, .any] := by
 refine qh Z h hh ⟨Tryz.func47, Tryz.ntmps47⟩ rfl rfl rfl rfl rfl fun C hC => ?_
 unfold Tryz.f47
 cbv
 repeat' first
  | exact s0
  | apply And.intro
  | exact sq
  | (refine fun (_ : PUnit) => ?_; simp [hh, *, qd]; done)
  | trivial
  | exact sx
  | (refine sy fun e => ?_; cbv)
  | (refine ⟨_, _, _, hC _ _ _ _ c1, ?_⟩; cbv; clear c1)
theorem WU (Z : Ad) (h : Hh) (hh : ∀ α g, h α g = g ()) (m : List UInt8) (x : qD) (y : qz) (l : qu) (lr : x.root.length = 32) (lf : x.file.length = 32) (j : Nat) (c1 : qb Z 37 [.pv (bH h m), .pv (qj h x), .pv (qk h y)] (.tup [.pv (lH h iP []), .pv (wrP h Z x.par j)]) [.any, .any, .any]) : qb Z 47 [.pv (bH h m), .pv (qj h x), .pv (qk h y), .pv (qr h l)] (.tup [.pv (iH h 0), .pv (wrP h Z x.par j)]) [.any, .any, .any, .any] := by
 refine qh Z h hh ⟨Tryz.func47, Tryz.ntmps47⟩ rfl rfl rfl rfl rfl fun C hC => ?_
 unfold Tryz.f47
 cbv
 repeat' first
  | exact s0
  | apply And.intro
  | exact sq
  | (refine fun (_ : PUnit) => ?_; simp [hh, *, qd]; done)
  | trivial
  | exact sx
  | (refine sy fun e => ?_; cbv)
  | (refine ⟨_, _, _, hC _ _ _ _ c1, ?_⟩; cbv; clear c1)
theorem KJ (Z : Ad) (h : Hh) (hh : ∀ α g, h α g = g ()) (m : List UInt8) (x : qD) (y : qz) (l : qu) (lr : x.root.length = 32) (lf : x.file.length = 32) (k : Nat) (pl : List Int) (c1 : qb Z 37 [.pv (bH h m), .pv (qj h x), .pv (qk h y)] (.tup [.pv (lH h iP pl), .pv (.v .nilIface)]) [.any, .any, .any]) (c2 : qb Z 46 [.pv (bH h m), .pv (qj h x), .pv (qk h y), .pv (qr h l)] (.pv (qY Z k)) [.any, .any, .any, .any]) : qb Z 47 [.pv (bH h m), .pv (qj h x), .pv (qk h y), .pv (qr h l)] (.tup [.pv (iH h 2), .pv (.v .nilIface)]) [.any, .any, .any, .any] := by
 refine qh Z h hh ⟨Tryz.func47, Tryz.ntmps47⟩ rfl rfl rfl rfl rfl fun C hC => ?_
 unfold Tryz.f47
 cbv
 repeat' first
  | exact s0
  | apply And.intro
  | exact sq
  | (refine fun (_ : PUnit) => ?_; simp [hh, *, qd]; done)
  | trivial
  | exact sx
  | (refine sy fun e => ?_; cbv)
  | (refine ⟨_, _, _, hC _ _ _ _ c1, ?_⟩; cbv; clear c1)
  | (refine ⟨_, _, _, hC _ _ _ _ c2, ?_⟩; cbv; clear c2)
theorem Ki (Z : Ad) (h : Hh) (hh : ∀ α g, h α g = g ()) (m : List UInt8) (x : qD) (y : qz) (l : qu) (lr : x.root.length = 32) (lf : x.file.length = 32) (k : Nat) (pl : List Int) (c1 : qb Z 37 [.pv (bH h m), .pv (qj h x), .pv (qk h y)] (.tup [.pv (lH h iP pl), .pv (.v .nilIface)]) [.any, .any, .any]) (c2 : qb Z 46 [.pv (bH h m), .pv (qj h x), .pv (qk h y), .pv (qr h l)] (.pv (.v .nilIface)) [.any, .any, .any, .any]) : qb Z 47 [.pv (bH h m), .pv (qj h x), .pv (qk h y), .pv (qr h l)] (.tup [.pv (iH h 1), .pv (.v .nilIface)]) [.any, .any, .any, .any] := by
 refine qh Z h hh ⟨Tryz.func47, Tryz.ntmps47⟩ rfl rfl rfl rfl rfl fun C hC => ?_
 unfold Tryz.f47
 cbv
 repeat' first
  | exact s0
  | apply And.intro
  | exact sq
  | (refine fun (_ : PUnit) => ?_; simp [hh, *, qd]; done)
  | trivial
  | exact sx
  | (refine sy fun e => ?_; cbv)
  | (refine ⟨_, _, _, hC _ _ _ _ c1, ?_⟩; cbv; clear c1)
  | (refine ⟨_, _, _, hC _ _ _ _ c2, ?_⟩; cbv; clear c2)
end Go.Bl
