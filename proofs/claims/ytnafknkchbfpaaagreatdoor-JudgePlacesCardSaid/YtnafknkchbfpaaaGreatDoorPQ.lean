import Derived.Test.YtnafknkchbfpaaaGreatDoorPP
set_option linter.unusedVariables false
set_option linter.unusedSimpArgs false
set_option maxRecDepth 1000000
set_option maxHeartbeats 8000000
namespace Go.Bl
open Go.RowKit Go.Proofs
attribute [local irreducible] qH
open Go.Proofs.YtnafknkchbfpaaaGreatDoor (Par chk blk jh jV j7 qe)
theorem Wp {α : Type} {off : Nat} {cs base : List α} (h : off + cs.length <= base.length) : (splice off cs base).length = base.length := by
 simp only [splice, List.length_append, List.length_take, List.length_drop]
 omega
theorem qau {{α : Type}} {{off : Nat}} {{cs z : List α}} (hz : z.length = 76) (h : off + cs.length <= 76) : (splice off cs z).length = 76 := by
 rw [Wp Y66, hz]
theorem WU {α : Type} (pre cs rest : List α) {off : Nat} (h : pre.length = off) : splice off cs (pre ++ rest) = (pre ++ cs) ++ rest.drop cs.length := by
 subst h
 simp [splice]
theorem WW {x : js} (lr : x.root.length = 32) (lf : x.file.length = 32) (z : List PV) (hz : z.length = 76) : (splice 75 [PV.v (Value.int IntKind.i64 x.rounds)] (splice 74 [PV.v (Value.int IntKind.i64 x.used)] (splice 73 [PV.v (Value.bool x.kept)] (splice 72 [PV.v (Value.int IntKind.i64 x.tick)] (splice 40 (x.file.map u8P) (splice 8 (x.root.map u8P) (splice 2 [PV.v (Value.int IntKind.i64 x.par.size), PV.v (Value.int IntKind.i64 x.par.sent), PV.v (Value.int IntKind.i64 x.par.spots), PV.v (Value.int IntKind.i64 x.par.per), PV.v (Value.int IntKind.i64 x.par.pat), PV.v (Value.int IntKind.i64 x.par.ret)] (splice 1 [PV.v (Value.string x.name)] (splice 0 [PV.v (Value.int IntKind.i64 x.num)] z))))))))) = qy x := by
 rw [show z = [] ++ z from rfl]
 repeat rw [WU _ _ _ (by simp [lr, lf])]
 have e : (List.drop 76 z) = [] := List.drop_eq_nil_of_le Y66
 simp [qy, lr, lf, e]
theorem ZV (Z : Ad) (h : Hh) (hh : ∀ α g, h α g = g ()) (x : js) (lr : x.root.length = 32) (lf : x.file.length = 32) : qo Z 39 [.pv (jp h x)] (.pv (jp h x)) [.any] := by
 have il := qE lr lf
 have il1 : ∀ k, (List.drop k (qy x)).length = 76 - k := fun k => by rw [List.length_drop, il]
 have ib := WW lr lf
 have d0 : qy x = PV.v (Value.int IntKind.i64 x.num) :: PV.v (Value.string x.name) :: PV.v (Value.int IntKind.i64 x.par.size) :: PV.v (Value.int IntKind.i64 x.par.sent) :: PV.v (Value.int IntKind.i64 x.par.spots) :: PV.v (Value.int IntKind.i64 x.par.per) :: PV.v (Value.int IntKind.i64 x.par.pat) :: PV.v (Value.int IntKind.i64 x.par.ret) :: (x.root.map u8P ++ (x.file.map u8P ++ [PV.v (Value.int IntKind.i64 x.tick), PV.v (Value.bool x.kept), PV.v (Value.int IntKind.i64 x.used), PV.v (Value.int IntKind.i64 x.rounds)])) := rfl
 have d0' : (qy x).getD 0 noP = PV.v (Value.int IntKind.i64 x.num) := rfl
 have d0a : (qy x)[0]? = some (PV.v (Value.int IntKind.i64 x.num)) := rfl
 have d0c : ∀ q : 0 < (qy x).length, (qy x)[0]'q = PV.v (Value.int IntKind.i64 x.num) := fun _ => rfl
 have d0b : (qy x).head? = some (PV.v (Value.int IntKind.i64 x.num)) := rfl
 have d1 : List.drop 1 (qy x) = PV.v (Value.string x.name) :: PV.v (Value.int IntKind.i64 x.par.size) :: PV.v (Value.int IntKind.i64 x.par.sent) :: PV.v (Value.int IntKind.i64 x.par.spots) :: PV.v (Value.int IntKind.i64 x.par.per) :: PV.v (Value.int IntKind.i64 x.par.pat) :: PV.v (Value.int IntKind.i64 x.par.ret) :: (x.root.map u8P ++ (x.file.map u8P ++ [PV.v (Value.int IntKind.i64 x.tick), PV.v (Value.bool x.kept), PV.v (Value.int IntKind.i64 x.used), PV.v (Value.int IntKind.i64 x.rounds)])) := rfl
 have d2 : List.take 6 (List.drop 2 (qy x)) = [PV.v (Value.int IntKind.i64 x.par.size), PV.v (Value.int IntKind.i64 x.par.sent), PV.v (Value.int IntKind.i64 x.par.spots), PV.v (Value.int IntKind.i64 x.par.per), PV.v (Value.int IntKind.i64 x.par.pat), PV.v (Value.int IntKind.i64 x.par.ret)] := rfl
 have d8 : List.take 32 (List.drop 8 (qy x)) = x.root.map u8P := by simp [qy, lr]
 have d40 : List.take 32 (List.drop 40 (qy x)) = x.file.map u8P := by rw [d0]; simp [List.drop_append, List.take_append, lr, lf]
 have e1 : ∀ k, 32 <= k -> List.drop k (x.root.map u8P) = [] := fun k hk => List.drop_eq_nil_of_le (by rw [List.length_map, lr]; exact hk)
 have e2 : ∀ k, 32 <= k -> List.drop k (x.file.map u8P) = [] := fun k hk => List.drop_eq_nil_of_le (by rw [List.length_map, lf]; exact hk)
 have d72 : List.drop 72 (qy x) = [PV.v (Value.int IntKind.i64 x.tick), PV.v (Value.bool x.kept), PV.v (Value.int IntKind.i64 x.used), PV.v (Value.int IntKind.i64 x.rounds)] := by rw [d0]; simp [List.drop_append, lr, lf, e1, e2]
 have d73 : List.drop 73 (qy x) = [PV.v (Value.bool x.kept), PV.v (Value.int IntKind.i64 x.used), PV.v (Value.int IntKind.i64 x.rounds)] := by rw [d0]; simp [List.drop_append, lr, lf, e1, e2]
 have d74 : List.drop 74 (qy x) = [PV.v (Value.int IntKind.i64 x.used), PV.v (Value.int IntKind.i64 x.rounds)] := by rw [d0]; simp [List.drop_append, lr, lf, e1, e2]
 have d75 : List.drop 75 (qy x) = [PV.v (Value.int IntKind.i64 x.rounds)] := by rw [d0]; simp [List.drop_append, lr, lf, e1, e2]
 clear d0 e1 e2
 refine qD Z h hh ⟨Tryz.func39, Tryz.ntmps39⟩ rfl rfl rfl rfl rfl fun C hC => ?_
 unfold Tryz.f39
 cbv
 repeat' first
  | exact s0
  | apply And.intro
  | (refine fun (_ : PUnit) => ?_; first | exact ⟨rfl⟩ | (simp (maxDischargeDepth := 20) [hh, lr, lf, il, il1, ib, d0', d0a, d0b, d0c, d1, d2, d8, d40, d72, d73, d74, d75, qau]; done) | (intros; rfl))
  | trivial
  | exact sx
  | (refine sy fun e => ?_; cbv)
end Go.Bl
namespace Go.Bl
open Go.RowKit Go.Proofs
attribute [local irreducible] qH
set_option cbv.maxSteps 2000000
open Go.Proofs.YtnafknkchbfpaaaGreatDoor (Par chk blk jh jV j7 qe)
theorem qaY (Z : Ad) (h : Hh) (hh : ∀ α g, h α g = g ()) (l : jv) : qo Z 89 [.pv (jB h l)] (.pv (.v (.bool (uY l)))) [.any] := by
 by_cases n1 : 100 < l.places.length
 ·rw [show uY l = true by simp [uY, Xi, n1]]
  exact qcR Z h hh l Y66
 by_cases n2 : 30 < l.shown.length
 ·rw [show uY l = true by simp [uY, Xi, n2]]
  exact qcH Z h hh l Y66 Y66
 by_cases n3 : 600 < l.blocks.length
 ·rw [show uY l = true by simp [uY, Xi, n3]]
  exact qcK Z h hh l Y66 Y66 Y66
 have := Lr Z h hh l (uY l) Y66 Y66 Y66 (fun j hj q => by
   simp only [uY, Bool.or_eq_true, List.any_eq_true]
   exact .inr (.inl ⟨_, List.getElem_mem hj, q⟩)) (fun j hj q => by
   simp only [uY, Bool.or_eq_true, List.any_eq_true]
   exact .inr (.inr ⟨_, List.getElem_mem hj, by simpa using q⟩)) (fun q1 q2 => by
   have a1 : l.shown.any yX = false := by
    rw [List.any_eq_false]
    intro s hs
    obtain ⟨i, hi, rfl⟩ := List.getElem_of_mem hs
    have := q1 i hi
    rw [List.getD_eq_getElem?_getD, List.getElem?_eq_getElem hi] at this
    simpa using this
   have a2 : (l.blocks.any fun b => decide (100 < b.length)) = false := by
    rw [List.any_eq_false]
    intro s hs
    obtain ⟨i, hi, rfl⟩ := List.getElem_of_mem hs
    have := q2 i hi
    rw [List.getD_eq_getElem?_getD, List.getElem?_eq_getElem hi] at this
    simpa using this
   simp [uY, Xi, n1, n2, n3, a1, a2])
 simpa only [tH, hh] using this
structure yg where
 m : List UInt8
 x : js
 e : jf
 l : jv
def entryL (e : jf) : List PV := [iP e.id, iP e.obj, iP e.way, iP e.idx, iP e.tick, iP e.verd, iP e.at']
def zn (l : jv) : List PV := [iP l.kind, iP l.id, iP l.obj, .l (l.places.map iP), .l (l.shown.map jR), iP l.fr, iP l.cnt, .l (l.blocks.map bP), iP l.code]
def ji (a : yg) : List PV := bP a.m :: (qy a.x ++ (entryL a.e ++ zn a.l))
abbrev JO (h : Hh) (a : yg) : PV := .a (h _ fun _ => ji a)
structure yg.Ok (a : yg) : Prop where
 lr : a.x.root.length = 32
 lf : a.x.file.length = 32
theorem xp {a : yg} (o : a.Ok) : (ji a).length = 93 := by simp [ji, qE o.lr o.lf, entryL, zn]
theorem zy {a : yg} (o : a.Ok) : List.drop 84 (ji a) = zn a.l := by
 have := qE o.lr o.lf
 simp [ji, List.drop_append, this, entryL, zn]
theorem yr {a : yg} (o : a.Ok) : List.take 7 (List.drop 77 (ji a)) = entryL a.e := by
 have := qE o.lr o.lf
 simp [ji, List.drop_append, List.take_append, this, entryL, zn]
theorem QF {a : yg} (o : a.Ok) : List.take 76 (List.drop 1 (ji a)) = qy a.x := by
 have := qE o.lr o.lf
 simp [ji, List.drop_append, List.take_append, this]
theorem qbD (Z : Ad) (h : Hh) (hh : ∀ α g, h α g = g ()) (a : yg) (o : a.Ok) (n1 : (100 : Int) < (a.m.length : Int)) : qo Z 36 [.pv (JO h a)] (.pv (.v (.bool true))) [.any] := by
 have al := xp o
 have g1 := zy o
 have g2 : (ji a)[2]? = some (PV.v (Value.string a.x.name)) := rfl
 have g0 : ∀ q : 0 < (ji a).length, (ji a)[0]'q = bP a.m := fun _ => rfl
 have g2' : ∀ q : 2 < (ji a).length, (ji a)[2]'q = PV.v (Value.string a.x.name) := fun _ => rfl
 refine qD Z h hh ⟨Tryz.func36, Tryz.ntmps36⟩ rfl rfl rfl rfl rfl fun C hC => ?_
 unfold Tryz.f36
 cbv
 repeat' first
  | exact s0
  | apply And.intro
  | exact sq
  | (refine fun (_ : PUnit) => ?_; simp [hh, *, zn]; done)
  | trivial
  | (refine sz fun e => ?_; simp [hh, n1, al, g0, g2'] at e <;> (try simp only [natc] at *) <;> omega)
  | (refine sy fun e => ?_; cbv)
theorem qbo (Z : Ad) (h : Hh) (hh : ∀ α g, h α g = g ()) (a : yg) (o : a.Ok) (n1 : ¬ (100 : Int) < (a.m.length : Int)) (n2 : (100 : Int) < (a.x.name.size : Int)) : qo Z 36 [.pv (JO h a)] (.pv (.v (.bool true))) [.any] := by
 have al := xp o
 have g1 := zy o
 have g2 : (ji a)[2]? = some (PV.v (Value.string a.x.name)) := rfl
 have g0 : ∀ q : 0 < (ji a).length, (ji a)[0]'q = bP a.m := fun _ => rfl
 have g2' : ∀ q : 2 < (ji a).length, (ji a)[2]'q = PV.v (Value.string a.x.name) := fun _ => rfl
 refine qD Z h hh ⟨Tryz.func36, Tryz.ntmps36⟩ rfl rfl rfl rfl rfl fun C hC => ?_
 unfold Tryz.f36
 cbv
 repeat' first
  | exact s0
  | apply And.intro
  | exact sq
  | (refine fun (_ : PUnit) => ?_; simp [hh, *, zn]; done)
  | trivial
  | (refine sz fun e => ?_; simp [hh, n1, n2, al, g0, g2'] at e <;> (try simp only [natc] at *) <;> omega)
  | (refine sy fun e => ?_; cbv)
theorem qbH (Z : Ad) (h : Hh) (hh : ∀ α g, h α g = g ()) (a : yg) (o : a.Ok) (n1 : ¬ (100 : Int) < (a.m.length : Int)) (n2 : ¬ (100 : Int) < (a.x.name.size : Int)) : qo Z 36 [.pv (JO h a)] (.pv (tH h (uY a.l))) [.any] := by
 have c1 : qo Z 89 [.pv (jB h a.l)] (.pv (tH h (uY a.l))) [.any] := by
  have := qaY Z h hh a.l
  simpa only [tH, hh] using this
 obtain ⟨q, hq⟩ := exq (uY a.l)
 rw [hq] at c1 ⊢
 clear hq
 have al := xp o
 have g1 := zy o
 have g2 : (ji a)[2]? = some (PV.v (Value.string a.x.name)) := rfl
 have g0 : ∀ q : 0 < (ji a).length, (ji a)[0]'q = bP a.m := fun _ => rfl
 have g2' : ∀ q : 2 < (ji a).length, (ji a)[2]'q = PV.v (Value.string a.x.name) := fun _ => rfl
 refine qD Z h hh ⟨Tryz.func36, Tryz.ntmps36⟩ rfl rfl rfl rfl rfl fun C hC => ?_
 unfold Tryz.f36
 cbv
 repeat' first
  | exact s0
  | apply And.intro
  | exact sq
  | (refine fun (_ : PUnit) => ?_; simp [hh, *, zn]; done)
  | trivial
  | (refine sz fun e => ?_; simp [hh, n1, n2, al, g0, g2'] at e <;> (try simp only [natc] at *) <;> omega)
  | (refine sy fun e => ?_; cbv)
  | (refine ⟨_, _, _, hC _ _ _ _ c1, ?_⟩; cbv; clear c1)
end Go.Bl
namespace Go.Bl
open Go.RowKit Go.Proofs
attribute [local irreducible] qH
open Go.Proofs.YtnafknkchbfpaaaGreatDoor (Par chk blk jh jV j7 qe U4)
def y8 : js := ⟨0, .empty, ⟨0, 0, 1, 1, 1, 0⟩, List.replicate 32 0, List.replicate 32 0, 0, false, 0, 0⟩
def Jl : jf := ⟨0, 0, 1, 0, 0, 0, 0⟩
def Va : jv := ⟨7, 0, 0, [], [], 0, 0, [], 0⟩
theorem vv (Z : Ad) (h : Hh) (hh : ∀ α g, h α g = g ()) : qo Z 35 [] (.pv (.v (.bool true))) [] := by
 have c1 := JL Z h hh (List.replicate 16 0) y8 Jl (by simp [y8]) (by simp [y8]) U4 qa rfl qa
 have hl : (vt (List.replicate 16 0) y8 Jl).length = 1 := by
  unfold vt VL
  rw [List.length_take, QC]
  decide
 obtain ⟨ps, hps⟩ := exq (vt (List.replicate 16 0) y8 Jl)
 rw [hps] at c1 hl
 have c2 := VG Z h hh (List.replicate 16 0) y8 Jl Va (by simp [y8]) (by simp [y8]) ps qa c1
 clear hps
 refine qD Z h hh ⟨Tryz.func35, Tryz.ntmps35⟩ rfl rfl rfl rfl rfl fun C hC => ?_
 unfold Tryz.f35
 cbv
 repeat' first
  | exact s0
  | apply And.intro
  | exact sq
  | (refine fun (_ : PUnit) => ?_; simp [hh, *, y8, Jl, Va, qy, jU, zK, splice, List.replicate]; done)
  | trivial
  | exact sx
  | (refine sy fun e => ?_; cbv)
  | (refine ⟨_, _, _, hC _ _ _ _ c2, ?_⟩; cbv; clear c2)
 refine ⟨_, _, _, hC _ _ _ _ c1, ?_⟩
 cbv
 clear c1
 repeat' first
  | exact s0
  | apply And.intro
  | exact sq
  | (refine fun (_ : PUnit) => ?_; simp [hh, *, y8, Jl, Va, qy, jU, zK, splice, List.replicate]; done)
  | trivial
  | (refine sz fun e => ?_; simp [hh, hl] at e <;> (try simp only [natc] at *) <;> omega)
  | (refine sy fun e => ?_; cbv)
end Go.Bl
namespace Go.Bl
open Go.RowKit Go.ChangeShapes Go.WideShapes Go.ChangeAt
inductive Sh where
 | i (k : IntKind)
 | u
 | b
 | str
 | l (e : Sh)
 | p0
 | pc (f r : Sh)
 | ar (n : Nat) (e : Sh)
def Sh.Dat : Sh -> Type
 | .i _ => Int
 | .u => UInt8
 | .b => Bool
 | .str => ByteArray
 | .l e => List e.Dat
 | .p0 => Unit
 | .pc f r => f.Dat × r.Dat
 | .ar _ e => List e.Dat
def Sh.w : Sh -> Nat
 | .p0 => 0
 | .pc f r => f.w + r.w
 | .ar n e => n * e.w
 | _ => 1
def Sh.flat : Sh -> Bool
 | .p0 => false
 | .pc _ _ => false
 | .ar _ _ => false
 | _ => true
def Sh.wrap (s : Sh) (cs : List PV) : PV := match s.flat with
 | true => cs.headD (.v undef)
 | false => .a cs
def Sh.cs : (s : Sh) -> s.Dat -> List PV
 | .i k, n => [.v (.int k n)]
 | .u, c => [u8P c]
 | .b, q => [.v (.bool q)]
 | .str, t => [.v (.string t)]
 | .l e, xs => [.l (List.map (fun x => e.wrap (e.cs x)) xs)]
 | .p0, _ => []
 | .pc f r, x => f.cs x.1 ++ r.cs x.2
 | .ar _ e, xs => List.flatMap (fun x => e.cs x) xs
def Sh.el (s : Sh) (d : s.Dat) : PV := s.wrap (s.cs d)
def qaK {α : Type} (p : α -> Prop) (xs : List α) : Prop := ∀ x ∈ xs, p x
def Sh.ok : (s : Sh) -> s.Dat -> Prop
 | .i k, n => (Lit.int k n).wf = true
 | .str, t => ByteArray.size t <= maxLen
 | .l e, xs => List.length xs <= maxLen /\ qaK e.ok xs
 | .pc f r, x => f.ok x.1 /\ r.ok x.2
 | .ar n e, xs => List.length xs = n /\ qaK e.ok xs
 | .u, _ => True
 | .b, _ => True
 | .p0, _ => True
def zU (P : Program) : Sh -> Bool -> Nat -> List (TypeId × Nat) -> Bool
 | .i k, false, _, (t, _) :: _ => match P.underlying t with | some (.int k') => decide (k' = k) | _ => false
 | .u, false, _, (t, _) :: _ => match P.underlying t with | some (.int k') => decide (k' = .u8) | _ => false
 | .b, false, _, (t, _) :: _ => match P.underlying t with | some .bool => true | _ => false
 | .str, false, _, (t, _) :: _ => match P.underlying t with | some .string => true | _ => false
 | .l e, false, _, (t, _) :: _ => match P.underlying t with | some (.slice t') => decide (0 < e.w) && decide (P.cellsOf t' = e.w) && zU P e false 0 [(t', 0)] | _ => false
 | .ar n e, false, _, (t, _) :: _ => match P.underlying t with | some (.array n' t') => decide (n' = n) && decide (P.cellsOf t' = e.w) && decide (P.cellsOf t = n * e.w) && zU P e false 0 [(t', 0)] | _ => false
 | .p0, true, _, [] => true
 | .pc f r, true, o, (t, o') :: ts => decide (o' = o) && decide (P.cellsOf t = f.w) && zU P f false 0 [(t, 0)] && zU P r true (o + f.w) ts
 | .pc f r, false, _, (t, _) :: _ => match P.underlying t with
  | some (.struct fs) => decide (P.cellsOf t = f.w + r.w) && match fs.toList.map fun f => (f.type, f.offset) with
   | (t', o') :: ts => decide (o' = 0) && decide (P.cellsOf t' = f.w) && zU P f false 0 [(t', 0)] && zU P r true (0 + f.w) ts
   | [] => false
  | _ => false
 | _, _, _, _ => false
theorem Sh.cs_one : ∀ (s : Sh) (d : s.Dat), ∀ c ∈ s.cs d, c.one = true
 | .i k, n, c, h => by rw [List.mem_singleton.1 h]; rfl
 | .u, n, c, h => by rw [List.mem_singleton.1 h]; rfl
 | .b, n, c, h => by rw [List.mem_singleton.1 h]; rfl
 | .str, n, c, h => by rw [List.mem_singleton.1 h]; rfl
 | .l e, n, c, h => by rw [List.mem_singleton.1 h]; rfl
 | .p0, _, c, h => by cases h
 | .pc f r, x, c, h => by
  rcases List.mem_append.1 h with h | h
  ·exact Sh.cs_one f _ c h
  ·exact Sh.cs_one r _ c h
 | .ar n e, xs, c, h => by
  obtain ⟨x, -, hx⟩ := List.mem_flatMap.1 h
  exact Sh.cs_one e x c hx
theorem Sh.el_cells (s : Sh) (d : s.Dat) : (s.el d).cells = s.cs d := by cases s <;> rfl
theorem Jj {α β : Type} {f : α -> List β} {w : Nat} : ∀ {xs : List α}, (∀ x ∈ xs, (f x).length = w) -> (xs.flatMap f).length = xs.length * w
 | [], _ => by simp
 | x :: xs, h => by
  rw [List.flatMap_cons, List.length_append, h x List.mem_cons_self, Jj fun y hy => h y (List.mem_cons_of_mem _ hy), List.length_cons, Nat.succ_mul]
  omega
theorem Yh {α β : Type} {f : α -> List β} {w : Nat} : ∀ {xs : List α}, (∀ x ∈ xs, (f x).length = w) -> ∀ {k j : Nat} {x : α}, j < w -> xs[k]? = some x -> (xs.flatMap f)[k * w + j]? = (f x)[j]?
 | [], _, k, j, x, _, h => by simp at h
 | y :: xs, h, 0, j, x, hj, hx => by
  simp at hx
  subst hx
  rw [List.flatMap_cons, Nat.zero_mul, Nat.zero_add, List.getElem?_append_left (by rw [h y List.mem_cons_self]; exact hj)]
 | y :: xs, h, k + 1, j, x, hj, hx => by
  have hl := h y List.mem_cons_self
  rw [List.flatMap_cons, List.getElem?_append_right (by rw [hl, Nat.succ_mul]; omega), hl, show (k + 1) * w + j - w = k * w + j by rw [Nat.succ_mul]; omega]
  exact Yh (fun z hz => h z (List.mem_cons_of_mem _ hz)) hj (by simpa using hx)
theorem Sh.len : ∀ (s : Sh) (d : s.Dat), s.ok d -> (s.cs d).length = s.w
 | .i _, _, _ => rfl
 | .u, _, _ => rfl
 | .b, _, _ => rfl
 | .str, _, _ => rfl
 | .l _, _, _ => rfl
 | .p0, _, _ => rfl
 | .pc f r, x, h => by
  show (f.cs x.1 ++ r.cs x.2).length = f.w + r.w
  rw [List.length_append, Sh.len f _ h.1, Sh.len r _ h.2]
 | .ar n e, xs, h => by
  show (List.flatMap (fun x => e.cs x) xs).length = n * e.w
  have h' : List.length xs = n /\ qaK e.ok xs := h
  rw [Jj fun x hx => Sh.len e x (h'.2 x hx), h'.1]
theorem LB {W : World} {a : Addr} {cs : List Value} (h : ∀ i, i < cs.length -> W.cell? (a.add i) = cs[i]?) : Row (fun _ => False) W (some a) cs := by
 rcases Nat.eq_zero_or_pos cs.length with h0 | h0
 ·exact .inl (List.length_eq_zero_iff.1 h0)
 ·have hc := h 0 h0
  obtain ⟨b, off, sp⟩ := a
  have hb : ∃ c e fz, W.heap[b]? = some (.cells c e fz) /\ sp = none := by
   have hne : (W.cell? ((⟨b, off, sp⟩ : Addr).add 0)) ≠ none := by rw [hc]; simp [h0]
   have hbl : ((⟨b, off, sp⟩ : Addr).add 0).block = b := by unfold Addr.add; split <;> rfl
   unfold World.cell? at hne
   rw [hbl] at hne
   cases hh : W.heap[b]? with
   | none => rw [hh] at hne; exact absurd rfl hne
   | some o =>
    rw [hh] at hne
    cases o with
    | cells c e fz =>
     refine ⟨c, e, fz, rfl, ?_⟩
     cases sp with
     | none => rfl
     | some s => exact absurd (by simp [Addr.add]) hne
    | _ => exact absurd rfl hne
  obtain ⟨c, e, fz, hh, rfl⟩ := hb
  refine .inr ⟨b, off, c, e, fz, rfl, fun h => h, hh, fun i hi => ?_⟩
  have := h i hi
  have he : (⟨b, off, none⟩ : Addr).add i = ⟨b, off + i, none⟩ := by unfold Addr.add; split <;> simp_all
  rw [he, qS hh] at this
  exact this
theorem Kd {α : Type} {P : Nat -> α -> Prop} : ∀ (n : Nat), (∀ i, i < n -> ∃ x, P i x) -> ∃ l : List α, l.length = n /\ ∀ i x, l[i]? = some x -> P i x
 | 0, _ => ⟨[], rfl, fun i x h => by simp at h⟩
 | n + 1, h => by
  obtain ⟨l, hl, hp⟩ := Kd n (fun i hi => h i Y66)
  obtain ⟨x, hx⟩ := h n Y66
  refine ⟨l ++ [x], by simp [hl], fun i y hy => ?_⟩
  rcases Nat.lt_or_ge i n with hi | hi
  ·rw [List.getElem?_append_left Y66] at hy
   exact hp i y hy
  ·rw [List.getElem?_append_right Y66] at hy
   have : i = n := by
    rcases Nat.lt_or_ge i (n + 1) with h1 | h1
    ·omega
    ·rw [List.getElem?_eq_none Y69] at hy; cases hy
   subst this
   rw [hl] at hy
   simp at hy
   subst hy
   exact hx
theorem Zr {A : Nat -> Prop} {w : World} {e : Sh} : ∀ {l : List (e.Dat × List Value)}, (∀ x ∈ l, qd A w (e.cs x.1) x.2) -> qd A w ((l.map (·.1)).flatMap e.cs) (l.flatMap (·.2))
 | [], _ => .nil
 | x :: l, h => (h x List.mem_cons_self).app (Zr fun y hy => h y (List.mem_cons_of_mem _ hy))
theorem Kt (e : Sh) : ∀ (xs : List e.Dat), (xs.map e.el).flatMap PV.cells = xs.flatMap e.cs
 | [] => rfl
 | x :: xs => by rw [List.map_cons, List.flatMap_cons, List.flatMap_cons, Sh.el_cells, Kt e xs]
variable {H : Type} {enc : TypeId × Value -> H} {P : Program} {W : World}
theorem qbb {e : Sh} {a : Addr} {len : Nat} (hw : 0 < e.w) (hel : ∀ i, i < len -> ∃ (d : e.Dat) (cs' : List Value), W.cells? 0 (a.add (i * e.w)) e.w = some cs' /\ e.ok d /\ qd (fun _ => False) W (e.cs d) cs') :
  ∃ (xs : List e.Dat) (us : List Value), xs.length = len /\ (∀ x ∈ xs, e.ok x) /\ qd (fun _ => False) W (xs.flatMap e.cs) us /\ Row (fun _ => False) W (some a) us := by
 obtain ⟨l, hl, hp⟩ := Kd (α := e.Dat × List Value) (P := fun i x => W.cells? 0 (a.add (i * e.w)) e.w = some x.2 /\ e.ok x.1 /\ qd (fun _ => False) W (e.cs x.1) x.2) len fun i hi => by
  obtain ⟨d, cs', h⟩ := hel i hi
  exact ⟨(d, cs'), h⟩
 have hall : ∀ x ∈ l, x.2.length = e.w /\ e.ok x.1 /\ qd (fun _ => False) W (e.cs x.1) x.2 := fun x hx => by
  obtain ⟨i, hi⟩ := List.mem_iff_getElem?.1 hx
  obtain ⟨h1, h2, h3⟩ := hp i x hi
  exact ⟨(World.cells?_some h1).2.1, h2, h3⟩
 refine ⟨l.map (·.1), l.flatMap (·.2), by rw [List.length_map, hl], fun x hx => ?_, Zr fun x hx => (hall x hx).2.2, LB fun i hi => ?_⟩
 ·obtain ⟨y, hy, rfl⟩ := List.mem_map.1 hx
  exact (hall y hy).2.1
 ·rw [Jj (w := e.w) fun x hx => (hall x hx).1] at hi
  have hq : i / e.w < l.length := Nat.div_lt_of_lt_mul (by rw [Nat.mul_comm]; exact hi)
  have hx : l[i / e.w]? = some l[i / e.w] := List.getElem?_eq_getElem hq
  have h1 := (World.cells?_some (hp _ _ hx).1).2.2 (i % e.w) (Nat.mod_lt _ hw)
  have he : i / e.w * e.w + i % e.w = i := by rw [Nat.mul_comm]; exact Nat.div_add_mod i e.w
  have h2 := Yh (f := fun (x : e.Dat × List Value) => x.2) (fun x hx => (hall x hx).1) (Nat.mod_lt i hw) hx
  rw [he] at h2
  rw [Addr.add_add, he] at h1
  rw [h1]
  exact h2.symm
theorem QU : ∀ (s : Sh),
  (∀ (t : TypeId) (o o' : Nat) (ts : List (TypeId × Nat)) (fuel : Nat) (cs : List Value) (x : DataW H × List MemPlace), zU P s false o ((t, o') :: ts) = true -> DataW.trod enc P W 0 (fun _ => true) true fuel t cs = some x -> ∃ d : s.Dat, s.ok d /\ qd (fun _ => False) W (s.cs d) cs) /\
  (∀ (ts : List (TypeId × Nat)) (n o : Nat) (cs : List Value), zU P s true o ts = true -> cs.length = o + s.w -> (∀ (i : Nat) (q : TypeId × Nat), ts[i]? = some q -> ∃ y, DataW.trod enc P W 0 (fun _ => true) true n q.1 ((cs.drop q.2).take (P.cellsOf q.1)) = some y) -> ∃ d : s.Dat, s.ok d /\ qd (fun _ => False) W (s.cs d) (cs.drop o))
 | .i k => by
  refine ⟨fun t o o' ts fuel cs x h hf => ?_, fun ts n o cs h => by simp [zU] at h⟩
  simp only [zU] at h
  split at h
  ·rename_i k' hu
   have := of_decide_eq_true h
   subst this
   obtain ⟨n, rfl, -, hw⟩ := DataW.trod_int hu hf
   exact ⟨n, hw, .cons (.v rfl) .nil⟩
  ·cases h
 | .u => by
  refine ⟨fun t o o' ts fuel cs x h hf => ?_, fun ts n o cs h => by simp [zU] at h⟩
  simp only [zU] at h
  split at h
  ·rename_i k' hu
   have := of_decide_eq_true h
   subst this
   obtain ⟨n, rfl, -, hw⟩ := DataW.trod_int hu hf
   have hr : 0 <= n /\ n <= 255 := by simpa [Lit.wf, IntKind.min, IntKind.max, IntKind.signed, IntKind.bits] using hw
   have e : u8P (UInt8.ofNat n.toNat) = .v (.int .u8 n) := by
    have : (UInt8.ofNat n.toNat).toNat = n.toNat := by rw [UInt8.toNat_ofNat']; omega
    rw [u8P, u8v, this, show ((n.toNat : Nat) : Int) = n by omega]
   refine ⟨(UInt8.ofNat n.toNat : UInt8), trivial, ?_⟩
   show qd _ W [u8P (UInt8.ofNat n.toNat)] _
   rw [e]
   exact .cons (.v rfl) .nil
  ·cases h
 | .b => by
  refine ⟨fun t o o' ts fuel cs x h hf => ?_, fun ts n o cs h => by simp [zU] at h⟩
  simp only [zU] at h
  split at h
  ·rename_i hu
   obtain ⟨q, rfl, -⟩ := DataW.trod_bool hu hf
   exact ⟨q, trivial, .cons (.v rfl) .nil⟩
  ·cases h
 | .str => by
  refine ⟨fun t o o' ts fuel cs x h hf => ?_, fun ts n o cs h => by simp [zU] at h⟩
  simp only [zU] at h
  split at h
  ·rename_i hu
   obtain ⟨q, rfl, -, hl⟩ := DataW.trod_string hu hf
   exact ⟨q, hl, .cons (.v rfl) .nil⟩
  ·cases h
 | .l e => by
  refine ⟨fun t o o' ts fuel cs x h hf => ?_, fun ts n o cs h => by simp [zU] at h⟩
  simp only [zU] at h
  split at h
  ·rename_i t' hu
   simp only [Bool.and_eq_true, decide_eq_true_eq] at h
   obtain ⟨⟨hw, hc⟩, he⟩ := h
   rcases Go.Deep.open_slice hu hf with ⟨rfl, -⟩ | ⟨a, len, cap, m, n, D, Pl, rfl, -, hl, hm, hmm, -, hel⟩
   ·exact ⟨([] : List e.Dat), ⟨Nat.zero_le _, fun x hx => by cases hx⟩, .cons (.l (xs := []) (s := 1) .nil (fun x hx => by cases hx) (fun x hx => by cases hx) qa (Nat.le_refl _) (Nat.zero_le _) (.inl rfl)) .nil⟩
   ·simp only [if_true] at hmm
    rw [hc] at hel
    obtain ⟨xs, us, h1, h2, h3, h4⟩ := qbb (W := W) (e := e) (a := a) (len := len) hw fun i hi => by
     obtain ⟨cs', q1, q2⟩ := hel i Y66
     obtain ⟨d, q3, q4⟩ := (QU e).1 t' _ _ _ _ _ _ he q2
     exact ⟨d, cs', q1, q3, q4⟩
    refine ⟨xs, ⟨by rw [h1]; omega, h2⟩, .cons ?_ .nil⟩
    have hlen : (xs.map e.el).length = len := by rw [List.length_map, h1]
    show qQ _ W (.l (xs.map e.el)) _
    rw [<- hlen]
    refine .l (s := e.w) (us := us) (by rw [Kt]; exact h3) (fun x hx => ?_) (fun x hx => ?_) hw Y66 hm h4
    ·obtain ⟨y, hy, rfl⟩ := List.mem_map.1 hx
     rw [Sh.el_cells]
     exact Sh.len e y (h2 y hy)
    ·obtain ⟨y, hy, rfl⟩ := List.mem_map.1 hx
     rw [Sh.el_cells]
     exact Sh.cs_one e y
  ·cases h
 | .p0 => by
  refine ⟨fun t o o' ts fuel cs x h hf => by simp [zU] at h, fun ts n o cs h hl ht => ⟨(), trivial, ?_⟩⟩
  have hl : cs.length = o + 0 := hl
  rw [List.drop_eq_nil_of_le Y66]
  exact .nil
 | .pc f r => by
  have key : ∀ (t : TypeId) (o o' : Nat) (ts : List (TypeId × Nat)) (n : Nat) (cs : List Value), o' = o -> P.cellsOf t = f.w -> zU P f false 0 [(t, 0)] = true -> zU P r true (o + f.w) ts = true -> cs.length = o + (f.w + r.w) -> (∀ (i : Nat) (q : TypeId × Nat), ((t, o') :: ts)[i]? = some q -> ∃ y, DataW.trod enc P W 0 (fun _ => true) true n q.1 ((cs.drop q.2).take (P.cellsOf q.1)) = some y) -> ∃ d : (Sh.pc f r).Dat, (Sh.pc f r).ok d /\ qd (fun _ => False) W ((Sh.pc f r).cs d) (cs.drop o) := by
   intro t o o' ts n cs e1 e2 hf hr hl ht
   subst e1
   obtain ⟨y, hy⟩ := ht 0 _ rfl
   obtain ⟨d1, k1, k2⟩ := (QU f).1 t _ _ _ _ _ _ hf hy
   obtain ⟨d2, k3, k4⟩ := (QU r).2 ts n (o' + f.w) cs hr Y66 fun i q hq => ht (i + 1) q (by simpa using hq)
   refine ⟨(d1, d2), ⟨k1, k3⟩, ?_⟩
   show qd _ W (f.cs d1 ++ r.cs d2) _
   rw [<- List.take_append_drop f.w (cs.drop o'), List.drop_drop]
   rw [e2] at k2
   exact k2.app k4
  refine ⟨fun t o o' ts fuel cs x h hf => ?_, fun ts n o cs h hl ht => ?_⟩
  ·simp only [zU] at h
   split at h
   ·rename_i fs hu
    simp only [Bool.and_eq_true, decide_eq_true_eq] at h
    obtain ⟨hc, h⟩ := h
    obtain ⟨xs, n, -, -, hcl, hlen, hg⟩ := DataW.trod_struct hu hf
    split at h
    ·rename_i t' o2 ts' hts
     simp only [Bool.and_eq_true, decide_eq_true_eq] at h
     obtain ⟨⟨⟨h1, h2⟩, h3⟩, h4⟩ := h
     have := key t' 0 o2 ts' n cs h1 h2 h3 h4 (by rw [hcl, hc, Nat.zero_add]) fun i q hq => by
      rw [<- hts, List.getElem?_map] at hq
      cases hfi : fs.toList[i]? with
      | none => rw [hfi] at hq; cases hq
      | some fi =>
       rw [hfi] at hq
       cases hq
       have hfi' : fs[i]? = some fi := by simpa using hfi
       have hlt : i < xs.length := by
        rw [hlen]
        rcases Nat.lt_or_ge i fs.size with q | q
        ·exact q
        ·rw [Array.getElem?_eq_none q] at hfi'; cases hfi'
       exact ⟨xs[i], (hg i fi hfi').trans (List.getElem?_eq_getElem hlt)⟩
     simpa using this
    ·cases h
   ·cases h
  ·cases ts with
   | nil => simp [zU] at h
   | cons q ts =>
    obtain ⟨t, o'⟩ := q
    simp only [zU, Bool.and_eq_true, decide_eq_true_eq] at h
    obtain ⟨⟨⟨h1, h2⟩, h3⟩, h4⟩ := h
    exact key t o o' ts n cs h1 h2 h3 h4 hl ht
 | .ar n e => by
  refine ⟨fun t o o' ts fuel cs x h hf => ?_, fun ts n o cs h => by simp [zU] at h⟩
  simp only [zU] at h
  split at h
  ·rename_i n' t' hu
   simp only [Bool.and_eq_true, decide_eq_true_eq] at h
   obtain ⟨⟨⟨rfl, h2⟩, h3⟩, h4⟩ := h
   obtain ⟨xs, m, -, -, hcl, hlen, hg⟩ := DataW.trod_array hu hf
   rw [h2] at hg
   rw [h3] at hcl
   clear hu hf h3
   suffices hk : ∀ k, k <= n' -> ∃ ds : List e.Dat, ds.length = k /\ (∀ d ∈ ds, e.ok d) /\ qd (fun _ => False) W (ds.flatMap e.cs) (cs.take (k * e.w)) by
    obtain ⟨ds, q1, q2, q3⟩ := hk n' (Nat.le_refl _)
    rw [List.take_of_length_le Y66] at q3
    exact ⟨ds, ⟨q1, q2⟩, q3⟩
   intro k
   induction k with
   | zero => intro _; exact ⟨([] : List e.Dat), rfl, fun d hd => absurd hd (List.not_mem_nil), by rw [Nat.zero_mul]; exact .nil⟩
   | succ k ih =>
    intro hk
    obtain ⟨ds, q1, q2, q3⟩ := ih Y66
    have hy := (hg k Y66).trans (List.getElem?_eq_getElem Y66)
    obtain ⟨d, q4, q5⟩ := (QU e).1 t' _ _ _ _ _ _ h4 hy
    refine ⟨ds ++ [d], by rw [List.length_append, q1]; rfl, fun x hx => ?_, ?_⟩
    ·rcases List.mem_append.1 hx with hx | hx
     ·exact q2 x hx
     ·rw [List.mem_singleton.1 hx]; exact q4
    ·rw [List.flatMap_append, Nat.succ_mul, List.take_add]
     refine q3.app ?_
     simpa using q5
  ·cases h
theorem Yf (f r : Sh) {t : TypeId} {fs : Array Field} {v : Value} {d : DataW H} {p : List MemPlace} {base : Nat} (ht : P.underlying t = some (.struct fs)) (hs : zU P (.pc f r) false 0 [(t, 0)] = true) (hval : Value.okWide P W .any base t v) (h : DataW.Trod enc P W 0 (fun _ => true) true t v d p) :
  ∃ x : f.Dat × r.Dat, (Sh.pc f r).ok x /\ qQ (fun _ => False) W (.a (f.cs x.1 ++ r.cs x.2)) v := by
 obtain ⟨cs, rfl, -⟩ := okWide_struct ht hval
 obtain ⟨fuel, hf⟩ := h
 obtain ⟨x, h1, h2⟩ := (QU (Sh.pc f r)).1 t _ _ _ _ _ _ hs hf
 refine ⟨x, h1, ?_⟩
 have := qQ.a (A := fun _ => False) (w := W) (xs := (Sh.pc f r).cs x) (us := cs.toList) h2 (Sh.cs_one _ _)
 rwa [Array.toArray_toList] at this
end Go.Bl
namespace Go.Bl
open Go.RowKit Go.Proofs Go.ChangeShapes Go.WideShapes Go.ChangeAt
theorem qc5 (n : Nat) : ∀ (xs : List UInt8), (Sh.ar n .u).cs xs = xs.map u8P
 | [] => rfl
 | x :: xs => by
  have := qc5 n xs
  show u8P x :: (Sh.ar n .u).cs xs = _
  rw [this]; rfl
abbrev uA : Sh := .i .i64
abbrev qe0 : Sh := .pc uA (.pc uA (.pc uA (.pc uA (.pc uA (.pc uA .p0)))))
abbrev sDg : Sh := .ar 32 .u
abbrev V7 : Sh := .pc uA (.pc .str (.pc qe0 (.pc sDg (.pc sDg (.pc uA (.pc .b (.pc uA (.pc uA .p0))))))))
abbrev Ws : Sh := .pc uA (.pc uA (.pc uA (.pc uA (.pc uA (.pc uA (.pc uA .p0))))))
abbrev Qg : Sh := .pc uA (.pc (.l .u) (.pc (.l sDg) .p0))
abbrev QL : Sh := .pc uA (.pc uA (.pc uA (.pc (.l uA) (.pc (.l Qg) (.pc uA (.pc uA (.pc (.l (.l .u)) (.pc uA .p0))))))))
def qe7 (d : qe0.Dat) : Go.Proofs.YtnafknkchbfpaaaGreatDoor.Par := ⟨d.1, d.2.1, d.2.2.1, d.2.2.2.1, d.2.2.2.2.1, d.2.2.2.2.2.1⟩
def qco (d : V7.Dat) : js := ⟨d.1, d.2.1, qe7 d.2.2.1, d.2.2.2.1, d.2.2.2.2.1, d.2.2.2.2.2.1, d.2.2.2.2.2.2.1, d.2.2.2.2.2.2.2.1, d.2.2.2.2.2.2.2.2.1⟩
def qcI (d : Ws.Dat) : jf := ⟨d.1, d.2.1, d.2.2.1, d.2.2.2.1, d.2.2.2.2.1, d.2.2.2.2.2.1, d.2.2.2.2.2.2.1⟩
def QZ (d : Qg.Dat) : Qs := ⟨d.1, d.2.1, d.2.2.1⟩
def XU (d : QL.Dat) : jv := ⟨d.1, d.2.1, d.2.2.1, d.2.2.2.1, List.map QZ d.2.2.2.2.1, d.2.2.2.2.2.1, d.2.2.2.2.2.2.1, d.2.2.2.2.2.2.2.1, d.2.2.2.2.2.2.2.2.1⟩
theorem qeP (x : sDg.Dat) : sDg.el x = aP x := congrArg PV.a (qc5 32 x)
theorem qar (d : Qg.Dat) : Qg.el d = jR (QZ d) := by
 obtain ⟨a, b, c, -⟩ := d
 show PV.a [iP a, bP b, .l (List.map sDg.el c)] = PV.a [iP a, bP b, .l (List.map aP c)]
 rw [show sDg.el = aP from funext qeP]
 rfl
theorem LY (d : QL.Dat) : QL.cs d = zn (XU d) := by
 obtain ⟨k, i, o, ps, sh, f, c, bs, cd, -⟩ := d
 show [iP k, iP i, iP o, .l (List.map iP ps), .l (List.map Qg.el sh), iP f, iP c, .l (List.map bP bs), iP cd] = [iP k, iP i, iP o, .l (List.map iP ps), .l (List.map jR (List.map QZ sh)), iP f, iP c, .l (List.map bP bs), iP cd]
 have e : List.map Qg.el sh = List.map jR (List.map QZ sh) := by
  rw [show Qg.el = jR ∘ QZ from funext qar]
  exact (List.map_map ..).symm
 exact congrArg (fun z : List PV => [iP k, iP i, iP o, .l (List.map iP ps), .l z, iP f, iP c, .l (List.map bP bs), iP cd]) e
theorem qdc (d : V7.Dat) : V7.cs d = qy (qco d) := by
 obtain ⟨n, s, ⟨p0, p1, p2, p3, p4, p5, -⟩, r, f, t, k, u, g, -⟩ := d
 show iP n :: PV.v (.string s) :: iP p0 :: iP p1 :: iP p2 :: iP p3 :: iP p4 :: iP p5 :: (sDg.cs r ++ (sDg.cs f ++ [iP t, .v (.bool k), iP u, iP g])) = qy _
 have e1 : sDg.cs r = List.map u8P r := qc5 32 r
 have e2 : sDg.cs f = List.map u8P f := qc5 32 f
 have := congr (congrArg (fun (z z' : List PV) => iP n :: PV.v (.string s) :: iP p0 :: iP p1 :: iP p2 :: iP p3 :: iP p4 :: iP p5 :: (z ++ (z' ++ [iP t, .v (.bool k), iP u, iP g]))) e1) e2
 exact this
theorem qax {H : Type} {enc : TypeId × Value -> H} {W : World} {base : Nat} {v : Value} {d : DataW H} {p : List MemPlace} (hval : Value.okWide Tryz.prog W .any base 83 v) (h : DataW.Trod enc Tryz.prog W 0 (fun _ => true) true 83 v d p) :
  ∃ a : yg, a.Ok /\ qQ (fun _ => False) W (.a (ji a)) v := by
 obtain ⟨⟨m, x, e, l, q⟩, ho, hr⟩ := Yf (P := Tryz.prog) (.l .u) (.pc V7 (.pc Ws (.pc QL .p0))) Tryz.underlying83 qb hval h
 obtain ⟨-, hx, -⟩ := ho
 obtain ⟨-, -, -, h1, h2, -⟩ := hx
 refine ⟨⟨m, qco x, qcI e, XU l⟩, ⟨h1.1, h2.1⟩, ?_⟩
 have hr : qQ (fun _ => False) W (.a (bP m :: (V7.cs x ++ (Ws.cs e ++ (QL.cs l ++ []))))) v := hr
 rw [qdc, LY, List.append_nil] at hr
 exact hr
end Go.Bl
