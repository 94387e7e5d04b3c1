/-
  A struct built of parts of several cells each.
-/
import Derived.Test.YtdkhgpnidamalaaDoorRec
import Derived.Great.FillDense
namespace Go.Bl
open Go.RowKit
set_option linter.unusedVariables false
abbrev cellsL (vs : List Value) : List Value := vs.flatMap fun v => v.cells.toList
theorem foldl_list (off : Nat) (l : List Value) (cs : Array Value) (h : off + l.length ≤ cs.size) : (l.zipIdx 0).foldl (fun cs (x : Value × Nat) => cs.setIfInBounds (off + x.2) x.1) cs = (cs.toList.take off ++ (l ++ cs.toList.drop (off + l.length))).toArray := by
  apply Array.ext_getElem?
  intro k
  rw [(Great.foldl_set off l 0 cs).2 k, Nat.add_zero]
  conv => rhs; rw [List.getElem?_toArray]
  by_cases h1 : k < off
  · rw [if_neg (by omega), List.getElem?_append_left (by rw [List.length_take]; simp; omega), List.getElem?_take, if_pos h1, Array.getElem?_toList]
  · have ht : (cs.toList.take off).length = off := by rw [List.length_take]; simp; omega
    rw [List.getElem?_append_right (by omega), ht]
    by_cases h2 : k < off + l.length
    · rw [if_pos ⟨by omega, h2, by omega⟩, List.getElem?_append_left (by omega)]
    · rw [if_neg (by omega), List.getElem?_append_right (by omega), List.getElem?_drop, Array.getElem?_toList]
      congr 1
      omega
theorem fill_seq (place : Nat → Option (Nat × Nat)) : ∀ (vs : List Value) (i off : Nat) (cs : Array Value), (∀ (k : Nat) (v : Value), vs[k]? = some v → place (i + k) = some (off + (cellsL (vs.take k)).length, v.cells.size)) → off + (cellsL vs).length ≤ cs.size →
    Instr.fill place cs ((vs.zipIdx i).map fun x => (x.2, x.1)) = some (cs.toList.take off ++ (cellsL vs ++ cs.toList.drop (off + (cellsL vs).length))).toArray
  | [], i, off, cs, _, h => by
    simp [Instr.fill, cellsL, List.take_append_drop]
  | v :: vs, i, off, cs, hp, h => by
    have h0 := hp 0 v rfl
    simp only [List.take_zero, List.flatMap_nil, List.length_nil, Nat.add_zero, cellsL] at h0
    have hl : (cellsL (v :: vs)).length = v.cells.size + (cellsL vs).length := by simp [cellsL]
    rw [hl] at h
    have hfl := foldl_list off v.cells.toList cs (by simp; omega)
    obtain ⟨g1, -⟩ := Great.foldl_set off v.cells.toList 0 cs
    have ih := fill_seq place vs (i + 1) (off + v.cells.size) ((v.cells.toList.zipIdx 0).foldl (fun cs (x : Value × Nat) => cs.setIfInBounds (off + x.2) x.1) cs) (fun k u hu => by
      have := hp (k + 1) u hu
      rw [Nat.add_assoc, Nat.add_comm 1 k, this]
      simp [cellsL, Nat.add_assoc]) (by rw [g1]; omega)
    simp only [List.zipIdx_cons, List.map_cons]
    unfold Instr.fill
    simp only [h0]
    rw [if_neg (by simp; omega)]
    have e : (v.cells.zipIdx.foldl (fun cs (x : Value × Nat) => cs.setIfInBounds (off + x.2) x.1) cs) = (v.cells.toList.zipIdx 0).foldl (fun cs (x : Value × Nat) => cs.setIfInBounds (off + x.2) x.1) cs := by
      rw [← Array.foldl_toList, Array.toList_zipIdx]
    rw [e, ih, hfl]
    congr 2
    have ht : (cs.toList.take off).length = off := by rw [List.length_take]; simp; omega
    have hL : (cs.toList.take off ++ (v.cells.toList ++ cs.toList.drop (off + v.cells.toList.length))).length = cs.size := by
      simp; omega
    have t1 : (cs.toList.take off ++ (v.cells.toList ++ cs.toList.drop (off + v.cells.toList.length))).take (off + v.cells.size) = cs.toList.take off ++ v.cells.toList := by
      rw [List.take_append, ht, List.take_of_length_le (by omega), show off + v.cells.size - off = v.cells.toList.length by simp, List.take_append, Nat.sub_self, List.take_zero, List.append_nil, List.take_of_length_le (Nat.le_refl _)]
    have t2 : (cs.toList.take off ++ (v.cells.toList ++ cs.toList.drop (off + v.cells.toList.length))).drop (off + v.cells.size + (cellsL vs).length) = cs.toList.drop (off + (cellsL (v :: vs)).length) := by
      rw [← List.append_assoc, List.drop_append, List.drop_of_length_le (by rw [List.length_append, ht]; simp), List.nil_append, List.drop_drop, hl]
      congr 1
      rw [List.length_append, ht]
      simp
      omega
    show _ = _
    simp only []
    rw [t1, t2]
    simp [cellsL]
theorem built_s {P : Program} {t : TypeId} {fields : Array Field} {places : List (Nat × Nat)} (vs : List Value) (hu : P.underlying t = some (.struct fields)) (hz : ((P.info? t).bind (·.zero)).map (·.cells.size) = some (cellsL vs).length)
    (hp : fields.toList.mapM (fun f => (P.info? f.type).map fun i => (f.offset, i.size)) = some places) (hpl : ∀ (k : Nat) (v : Value), vs[k]? = some v → places[k]? = some ((cellsL (vs.take k)).length, v.cells.size)) :
    P.built t ((vs.zipIdx 0).map fun x => (x.2, x.1)) = some (cellsL vs).toArray := by
  cases hi : P.info? t with
  | none => rw [hi] at hz; simp at hz
  | some it =>
    cases hzz : it.zero with
    | none => rw [hi] at hz; simp [hzz] at hz
    | some z =>
      rw [hi] at hz
      simp [hzz] at hz
      unfold Program.built
      simp only [hi, hu, hzz, hp]
      have := fill_seq (places.toArray[·]?) vs 0 0 z.cells (fun k v hv => by
        rw [Nat.zero_add, Nat.zero_add, List.getElem?_toArray]
        exact hpl k v hv) (by rw [Nat.zero_add]; simp [cellsL, hz])
      rw [this]
      simp only [List.take_zero, List.nil_append, Nat.zero_add]
      rw [List.drop_of_length_le (by simp [cellsL, hz]), List.append_nil]
/-- a struct of parts: the operation -/
theorem wpl_build_s {P : Program} {w : World} {ops : Array Oper} {rest : List Oper} {o : Oper} {a : Act} {Q : Exit → Act → World → Prop} {t : TypeId} {parts : Array (Nat × Operand)} (ho : o.op = .build t parts) (hg : o.guard = none)
    (vs : List Value) (c : List Value) (hev : (parts.toList.map fun y => (y.1, a.eval y.2)) = (vs.zipIdx 0).map fun x => (x.2, x.1)) (hb : P.built t ((vs.zipIdx 0).map fun x => (x.2, x.1)) = some c.toArray)
    (h : wpList P ops Q rest (a.put o.dst (.agg c.toArray)) w) : wpList P ops Q (o :: rest) a w := by
  refine wpl_val _ ho hg (.agg c.toArray) ?_ h
  unfold execOp
  simp only [ho, run_build w t _ _ (show P.built t (parts.map fun (i, x) => (i, a.eval x)).toList = some c.toArray by rw [Array.toList_map, ← hb, ← hev])]
  first | rfl | (simp [Sem.run_bind, run_build w t _ _ (show P.built t (parts.map fun (i, x) => (i, a.eval x)).toList = some c.toArray by rw [Array.toList_map, ← hb, ← hev])])
/-- a part of cells that are known -/
theorem range_mid {w : World} {b o : Nat} {A B C : List Value} (h : w.rangeAt b o (A ++ (B ++ C))) {n : Nat} (hn : A.length = n) : w.rangeAt b (o + n) B := fun j v hv => by
  have hj := (List.getElem?_eq_some_iff.1 hv).1
  rw [Nat.add_assoc, ← hn]
  exact h (A.length + j) v (by rw [List.getElem?_append_right (by omega), Nat.add_sub_cancel_left, List.getElem?_append_left hj, hv])
theorem range_tail {w : World} {b o : Nat} {A B : List Value} (h : w.rangeAt b o (A ++ B)) {n : Nat} (hn : A.length = n) : w.rangeAt b (o + n) B := by
  have := range_mid (C := []) (by rw [List.append_nil]; exact h) hn
  exact this
end Go.Bl
