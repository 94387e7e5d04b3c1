import Derived.Lib.BufferRead
import Derived.Test.YtnafknkchbfpaaaGreatDoorHH
import Derived.Lib.LaidTab
set_option maxRecDepth 1000000
set_option maxHeartbeats 8000000
namespace Go.Bl
open Go.RowKit
set_option linter.unusedVariables false
theorem J9 {P : Program} {A : Nat -> Prop} {w : World} {src dst e : TypeId} {v : Value} {xs : List UInt8} (hs : P.underlying src = some (.slice e)) (he : P.underlying e = some (.int .u8)) (hd : P.underlying dst = some .string) (hb : Bs A w v xs) :
  (convert src dst v).run P w = .ok (.string ⟨xs.toArray⟩) w := by
 obtain ⟨a, cap, rfl, h2, h3, h4⟩ := hb
 cases a with
 | none =>
  have hx : xs = [] := by
   rcases h4 with h | ⟨b, off, c, e, fz, h, _⟩
   ·simpa using h
   ·cases h
  subst hx
  exact Lib.run_convert_nil_bytes w src dst e cap hs he hd
 | some ad =>
  refine run_convert_bytes_back w src dst e ad cap xs hs he hd fun j hj => ?_
  rw [h4.cell j Ui]
  simp [u8v, hj]
theorem UV {P : Program} {A : Nat -> Prop} {ρ : Operand -> Value} {o : Oper} {w : World} {src dst e : TypeId} {v : Value} {xs : List UInt8} (hs : P.underlying src = some (.slice e)) (he : P.underlying e = some (.int .u8)) (hd : P.underlying dst = some .string)
  (x : Operand) (ho : o.op = .convert src dst x) (hx : ρ x = v) (hb : Bs A w v xs) (S : ByteArray) (hS : (⟨xs.toArray⟩ : ByteArray) = S) : (execOp ρ o).run P w = .ok (.value (.string S)) w := by
 unfold execOp
 simp only [ho, hx, Sem.run_bind, J9 hs he hd hb, hS, Result.andThen_ok, Sem.run_pure]
end Go.Bl
namespace Go.Bl
open Go.RowKit
theorem U6 {P : Program} {w : World} {ops : Array Oper} {rest : List Oper} {o : Oper} {a : Go.Act} {Q : Exit -> Go.Act -> World -> Prop} (hw : Region.wanted o (yielded ops a.tmps) = true) (v : Value) (hr : (execOp a.eval o).run P w = .ok (.value v) w)
  (h : wpList P ops Q rest (a.put o.dst v) w) : wpList P ops Q (o :: rest) a w := by
 unfold wpList
 rw [if_pos hw]
 refine .inl ?_
 unfold Oper.wp
 rw [hr]
 exact h
theorem Q1 {P : Program} {w : World} {ops : Array Oper} {rest : List Oper} {o : Oper} {a : Go.Act} {Q : Exit -> Go.Act -> World -> Prop} {ty : TypeId} {d : TypeDesc} (x : Operand) (ho : o.op = .load ty x) (hw : Region.wanted o (yielded ops a.tmps) = true)
  (b off : Nat) (c : List Value) (hx : a.eval x = .pointer (some ⟨b, off, none⟩)) (hc : w.rangeAt b off c) (hu : P.underlying ty = some d) (hd : d.isRow = true) (hi : (P.info? ty).map (·.size) = some c.length)
  (h : wpList P ops Q rest (a.put o.dst (.agg c.toArray)) w) : wpList P ops Q (o :: rest) a w := by
 refine U6 hw (.agg c.toArray) ?_ h
 exact Y92
theorem yt {w : World} {b o : Nat} {c : List Value} {e : TypeId} {fz : Nat × Nat} {l : List Value} (h : At w b (.cells c.toArray e fz)) (hl : c.drop o = l) : w.rangeAt b o l := fun j v hv => by
 rw [h.cell (o + j), List.getElem?_toArray]
 rw [<- hl, List.getElem?_drop] at hv
 exact hv
end Go.Bl
namespace Go.Proofs.YtnafknkchbfpaaaGreatDoor
open Go.RowKit Go.Bl
set_option linter.unusedVariables false
def pv (p : Par) : Value := .agg #[.int .i64 p.size, .int .i64 p.sent, .int .i64 p.spots, .int .i64 p.per, .int .i64 p.pat, .int .i64 p.ret]
def vy (mn fn : Nat) (s : Int) : Bool := decide (100 < mn ∨ 400 < fn ∨ (400 < s /\ s <= 2000))
theorem yS (w : World) (ma fa : Option Addr) (mn mc fn fc : Nat) (n : Int) (q : Par) : Calls Tryz.prog 10 #[.agg #[.slice ma mn mc, .int .i64 n, .slice fa fn fc, .int .i64 q.size, .int .i64 q.sent, .int .i64 q.spots, .int .i64 q.per, .int .i64 q.pat, .int .i64 q.ret]] w fun e w' => e = .returned (.bool (vy mn fn q.size)) /\ Fr [] w w' := by
 obtain ⟨r, hr⟩ := exq (vy mn fn q.size)
 rw [hr]
 by_cases h1 : 100 < mn
 ·have HR := Hdq (hr.symm.trans (show vy mn fn q.size = true from decide_eq_true (.inl h1)))
  have h2 : (100 : Int) < (mn : Int) := by omega
  clear hr h1
  exact Y32
 ·have h2 : ¬ (100 : Int) < (mn : Int) := by omega
  by_cases h3 : 400 < fn
  ·have HR := Hdq (hr.symm.trans (show vy mn fn q.size = true from decide_eq_true (.inr (.inl h3))))
   have h4 : (400 : Int) < (fn : Int) := by omega
   clear hr h1 h3
   exact Y32
  ·have h4 : ¬ (400 : Int) < (fn : Int) := by omega
   obtain ⟨s, hs⟩ := exq (q.size)
   rw [hs] at hr ⊢
   by_cases h5 : 400 < s
   ·by_cases h6 : s <= 2000
    ·have HR := Hdq (hr.symm.trans (show vy mn fn s = true from decide_eq_true (.inr (.inr ⟨h5, h6⟩))))
     clear hr h1 h3 hs
     exact Y32
    ·have HR := Hdq (hr.symm.trans (show vy mn fn s = false from decide_eq_false (fun h => by rcases h with h | h | h <;> omega)))
     clear hr h1 h3 hs
     exact Y32
   ·have HR := Hdq (hr.symm.trans (show vy mn fn s = false from decide_eq_false (fun h => by rcases h with h | h | h <;> omega)))
    clear hr h1 h3 hs
    exact Y32
end Go.Proofs.YtnafknkchbfpaaaGreatDoor
namespace Go.Proofs.YtnafknkchbfpaaaGreatDoor
open Go.ChangeShapes Go.WideShapes Go.ChangeAt Go.RowKit Go.Bl
set_option linter.unusedVariables false
theorem ut {P : Program} {w : World} : ∀ (l1 l2 : List (String × DataW Unit)) (ps : List MemPlace), DataW.LaidVars P w (l1 ++ l2) ps -> ∃ p q, DataW.LaidVars P w l1 p /\ DataW.LaidVars P w l2 q /\ ps = p ++ q
 | [], l2, ps, h => ⟨[], ps, rfl, h, rfl⟩
 | (n, d) :: l1, l2, ps, h => by
  obtain ⟨g, t, cs, fuel, p, q, h1, h2, h3, h4, h5, rfl⟩ := h
  obtain ⟨p', q', h6, h7, rfl⟩ := ut l1 l2 q h5
  exact ⟨MemPlace.row ⟨g, 0, none⟩ cs.size ++ p ++ p', q', ⟨g, t, cs, fuel, p, p', h1, h2, h3, h4, h6, rfl⟩, h7, by simp⟩
theorem up {P : Program} {W : World} {L A M B : List (String × DataW Unit)} (h : laidMet P L W) (e : L = A ++ (M ++ B)) : laidMet P M W := by
 subst e
 obtain ⟨ps, hv, hn, hc⟩ := h
 obtain ⟨p, q, -, h2, rfl⟩ := ut A (M ++ B) ps hv
 obtain ⟨r, s, h3, -, rfl⟩ := ut M B q h2
 exact ⟨r, h3, ((List.nodup_append.1 (List.nodup_append.1 hn).2.1).1), fun b off hm => hc b off (by simp [hm])⟩
theorem yg {P : Program} {W : World} {name : String} {zs : List Int} {k : IntKind} {g : Nat} {t e : TypeId} {n : Nat} (h : laidMet P [(name, Lib.tabData k zs)] W) (hg : P.globalNamed name = some g) (hty : (P.globals[g]?).map (·.type) = some t) (ht : P.underlying t = some (.array n e)) (he : P.underlying e = some (.int k)) (hce : P.cellsOf e = 1) (hct : P.cellsOf t = n) :
  ∀ i, i < zs.length -> W.cell? ⟨g, i, none⟩ = some (.int k (zs.getD i 0)) := by
 obtain ⟨ps, ⟨g', t', cs, fuel, p, q, hg', ht', hvar, hdd, hq, -⟩, -⟩ := h
 obtain rfl := Option.some.inj (hg.symm.trans hg')
 obtain rfl := Option.some.inj (hty.symm.trans ht')
 have hT : Lib.TabIs P W name k zs := by
  unfold Lib.TabIs
  rw [hvar, <- Lib.cells_of_tab ht he hce hct hdd]
 exact fun i hi => hT.cell hg i hi
theorem Yx (l : List UInt32) (i : Nat) : (l.map wN).getD i 0 = wN (l.getD i 0) := by
 rw [List.getD_eq_getElem?_getD, List.getD_eq_getElem?_getD, List.getElem?_map]
 cases l[i]? <;> rfl
theorem qae {W : World} {g : Nat} (h : ∀ i, i < (Ve.map wN).length -> W.cell? ⟨g, i, none⟩ = some (.int .u32 ((Ve.map wN).getD i 0))) : KAt g W := fun i hi => by
 rw [h i (by rw [List.length_map]; exact hi), Yx]
theorem Ll {W : World} {g : Nat} (h : ∀ i, i < (uu.l.map wN).length -> W.cell? ⟨g, i, none⟩ = some (.int .u32 ((uu.l.map wN).getD i 0))) : FAt g W := fun j v hv => by
 have hj : j < uu.l.length := by
  rcases Nat.lt_or_ge j uu.l.length with h9 | h9
  ·exact h9
  ·rw [List.getElem?_eq_none (by rw [List.length_map]; exact h9)] at hv; cases hv
 rw [Nat.zero_add, h j (by rw [List.length_map]; exact hj), Yx]
 rw [List.getElem?_map, List.getElem?_eq_getElem hj] at hv
 rw [List.getD_eq_getElem?_getD, List.getElem?_eq_getElem hj]
 exact hv
theorem qdI {W : World} (h1 : laidMet Tryz.prog [("bailee/sha.first", Lib.tabData .u32 (uu.l.map wN))] W) (h2 : laidMet Tryz.prog [("bailee/sha.added", Lib.tabData .u32 (Ve.map wN))] W) : SG W := by
 have c1 := yg h1 (g := 22) (t := 256) qf qf Tryz.underlying256 Tryz.underlying156 qf qf
 have c2 := yg h2 (g := 23) (t := 158) qf qf Tryz.underlying158 Tryz.underlying156 qf qf
 have c0 := c2 0 (by rw [List.length_map]; decide)
 exact ⟨Ll c1, qae c2, World.block_lt_of_cell? W _ c0⟩
theorem qdX {W : World} (h1 : laidMet Tryz.prog [("bailee/baileeref07.begins", Lib.tabData .u32 (uu.l.map wN))] W) (h2 : laidMet Tryz.prog [("bailee/baileeref07.added", Lib.tabData .u32 (Ve.map wN))] W) : RG W := by
 have c1 := yg h1 (g := 20) (t := 157) qf qf Tryz.underlying157 Tryz.underlying156 qf qf
 have c2 := yg h2 (g := 21) (t := 158) qf qf Tryz.underlying158 Tryz.underlying156 qf qf
 have c0 := c2 0 (by rw [List.length_map]; decide)
 exact ⟨Ll c1, qae c2, World.block_lt_of_cell? W _ c0⟩
end Go.Proofs.YtnafknkchbfpaaaGreatDoor
