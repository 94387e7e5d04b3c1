import Derived.Test.YtnafknkchbfpaaaGreatDoorGI
import Derived.Test.YtnafknkchbfpaaaGreatDoorStr
namespace Go.Bl
open Go.RowKit
set_option linter.unusedVariables false
theorem wpl_runW {P : Program} {w : World} {ops : Array Oper} {rest : List Oper} {o : Oper} {a : Go.Act} {Q : Exit -> Go.Act -> World -> Prop} (hw : Region.wanted o (yielded ops a.tmps) = true) (v : Value) (hr : (execOp a.eval o).run P w = .ok (.value v) w)
  (h : wpList P ops Q rest (a.put o.dst v) w) : wpList P ops Q (o :: rest) a w := by
 unfold wpList
 rw [if_pos hw]
 refine .inl ?_
 unfold Oper.wp
 rw [hr]
 exact h
theorem wpl_load_kW {P : Program} {w : World} {ops : Array Oper} {rest : List Oper} {o : Oper} {a : Go.Act} {Q : Exit -> Go.Act -> World -> Prop} {ty : TypeId} {d : TypeDesc} (x : Operand) (ho : o.op = .load ty x) (hw : Region.wanted o (yielded ops a.tmps) = true)
  (b off : Nat) (c : List Value) (hx : a.eval x = .pointer (some ⟨b, off, none⟩)) (hc : w.rangeAt b off c) (hu : P.underlying ty = some d) (hd : d.isRow = true) (hi : (P.info? ty).map (·.size) = some c.length)
  (h : wpList P ops Q rest (a.put o.dst (.agg c.toArray)) w) : wpList P ops Q (o :: rest) a w := by
 refine wpl_runW hw (.agg c.toArray) ?_ h
 have h2 := run_loadAt_mid (P := P) w b off ty c d hc hu hd hi
 unfold execOp
 simp only [ho, hx, Sem.run_bind, h2, Result.andThen_ok, Sem.run_pure]
theorem wpl_strW {P : Program} {A : Nat -> Prop} {w : World} {ops : Array Oper} {rest : List Oper} {o : Oper} {a : Go.Act} {Q : Exit -> Go.Act -> World -> Prop} {src dst e : TypeId} {v : Value} {xs : List UInt8} (hs : P.underlying src = some (.slice e)) (he : P.underlying e = some (.int .u8)) (hd : P.underlying dst = some .string)
  (x : Operand) (ho : o.op = .convert src dst x) (hw : Region.wanted o (yielded ops a.tmps) = true) (hx : a.eval x = v) (hb : Bs A w v xs) (S : ByteArray) (hS : (⟨xs.toArray⟩ : ByteArray) = S) (h : wpList P ops Q rest (a.put o.dst (.string S)) w) : wpList P ops Q (o :: rest) a w :=
 wpl_runW hw (.string S) (run_strO hs he hd x ho hx hb S hS) h
theorem range_off {w : World} {b o : Nat} {c : List Value} {e : TypeId} {fz : Nat × Nat} {l : List Value} (h : At w b (.cells c.toArray e fz)) (hl : c.drop o = l) : w.rangeAt b o l := fun j v hv => by
 rw [h.cell (o + j), List.getElem?_toArray]
 rw [<- hl, List.getElem?_drop] at hv
 exact hv
end Go.Bl
