import Derived.Test.YtnafknkchbfpaaaGreatDoorGA
namespace Go.Bl
open Go.RowKit
set_option linter.unusedVariables false
def XH (n : Nat) (fz : Nat × Nat) : Prop := ∀ j, j < n -> ¬ (fz.1 <= j /\ j < fz.2)
theorem Vn (n : Nat) : XH n (0, 0) := fun j _ h => by have := h.2; omega
theorem vl {P : Program} (g o : Nat) (t : TypeId) (fz : Nat × Nat) : ∀ (vs : List Value) (i : Nat) (cur : Array Value) (w : World), w.heap[g]? = some (.cells cur t fz) -> XH cur.size fz -> o + i + vs.length <= cur.size -> (∀ v ∈ vs, v.oneCell' = true) ->
  (storeCells ⟨g, o, none⟩ vs i).run P w = .ok () (w.setRow g (cur.toList.take (o + i) ++ vs ++ cur.toList.drop (o + i + vs.length)).toArray)
 | [], i, cur, w, hg, _, _, _ => by
  simp only [storeCells, List.append_nil, List.length_nil, Nat.add_zero, List.take_append_drop, Array.toArray_toList]
  rw [setRow_self w g cur t fz hg]
  rfl
 | v :: rest, i, cur, w, hg, hz, hl, h1 => by
  have hi : o + i < cur.size := by simp at hl; omega
  have hadd : (⟨g, o, none⟩ : Addr).add i = ⟨g, o + i, none⟩ := by unfold Addr.add; split <;> simp_all
  have hcell : w.cell? ⟨g, o + i, none⟩ = some cur[o + i] := by simp [World.cell?, hg, hi]
  have hfro : w.frozen? ⟨g, o + i, none⟩ = false := by
   have h9 := hz (o + i) hi
   obtain ⟨lo, hi9⟩ := fz
   simp only [World.frozen?, hg]
   simp only at h9
   rw [Bool.and_eq_false_iff]
   by_cases hlo : lo <= o + i
   ·exact .inr jF
   ·exact .inl jF
  have hst : (store ((⟨g, o, none⟩ : Addr).add i) v).run P w = .ok () (w.setRow g (cur.setIfInBounds (o + i) v)) := by
   rw [hadd, run_store P w _ v _ (h1 v qg), hcell]
   simp [hfro, setCell_eq_setRow w g (o + i) cur t fz v hg]
  have ih := vl (P := P) g o t fz rest (i + 1) (cur.setIfInBounds (o + i) v) (w.setRow g (cur.setIfInBounds (o + i) v)) (setRow_heap w g cur _ t _ hg) (by simpa using hz) (by simp at hl ⊢; omega) (fun x hx => h1 x (by simp [hx]))
  simp only [storeCells, Sem.run_bind, hst, Result.andThen_ok, ih, setRow_setRow]
  congr 3
  have e := list_seg_step cur.toList (o + i) v rest (by simp at hl ⊢; omega)
  simpa [Array.toList_setIfInBounds, Nat.add_assoc] using e
def Qx (e : TypeId) (base : Nat) (w : World) (v : Value) (xs : List UInt8) : Prop :=
 ∃ g cap cur fz, v = .slice (some ⟨g, 0, none⟩) xs.length cap /\ base <= g /\ w.heap[g]? = some (.cells cur e fz) /\ XH cur.size fz /\ xs.length <= cap /\ cap <= maxLen /\ cur.size = cap /\ cur.toList.take xs.length = xs.map u8v
theorem Qx.bs {A : Nat -> Prop} {e : TypeId} {base : Nat} {w : World} {v : Value} {xs : List UInt8} (h : Qx e base w v xs) (hA : ∀ b, A b -> b < base) : Bs A w v xs := by
 obtain ⟨g, cap, cur, fz, rfl, hb, hg, -, hl, hm, hs, ht⟩ := h
 refine ⟨_, cap, rfl, hl, hm, ?_⟩
 rw [<- ht]
 exact (Row.of_block (A := A) hg (fun h9 => by have := hA g h9; omega)).take xs.length
theorem Qx.keep {e : TypeId} {base : Nat} {w w' : World} {v : Value} {xs : List UInt8} {S : List Nat} (h : Qx e base w v xs) (hf : Fr S w w') (hS : ∀ g ∈ S, g < base) : Qx e base w' v xs := by
 obtain ⟨g, cap, cur, fz, rfl, hb, hg, h⟩ := h
 exact ⟨g, cap, cur, fz, rfl, hb, hf.keep hg (fun hm => by have := hS g hm; omega), h⟩
theorem Qx.fr {S : List Nat} {w0 w w' : World} {base : Nat} {e : TypeId} {v : Value} {xs : List UInt8} (hown : Qx e base w v xs) (h : Fr S w0 w) (hg : w.grownBy w' v.ownBlock) (hb : w0.heap.size <= base) : Fr S w0 w' := by
 obtain ⟨g, cap, cur, fz, rfl, hbg, -⟩ := hown
 exact h.then (Fr.grown (S := [g]) hg (fun k hk => by simp [Value.ownBlock] at hk; simp [hk])) (fun x hx => .inr (by simp at hx; omega))
theorem Us {P : Program} {w : World} {A : Nat -> Prop} (base : Nat) (t ty e : TypeId) (i : TypeInfo) (ht : P.underlying t = some (.slice e)) (hi : P.info? e = some i) (hz : i.zero = some (.int .u8 0)) (hsize : i.size = 1) (hby : i.bytes = 1)
  (v u : Value) (xs ys : List UInt8) (hown : Qx e base w v xs) (hb : Bs A w u ys) (h63 : xs.length + ys.length <= 140737488355328) (hbase : base <= w.heap.size) (hy : 0 < ys.length) :
  ∃ v' w', (Builtin.append_ #[t, t] ty #[v, u]).run P w = .ok v' w' /\ Qx e base w' v' (xs ++ ys) /\ w.grownBy w' v.ownBlock := by
 obtain ⟨g, cap, cur, fz, rfl, hbg, hg, hfz, hnc, hcm, hcs, htake⟩ := hown
 obtain ⟨ad, c, rfl, h2, h3, h4⟩ := hb
 obtain ⟨b, off, rfl, -, hcell⟩ := h4.some_of (by rw [List.length_map]; exact hy)
 have hadd : ∀ j, (⟨b, off, none⟩ : Addr).add j = ⟨b, off + j, none⟩ := fun j => by unfold Addr.add; split <;> simp_all
 have hnews : ∀ j u, (ys.map u8v)[j]? = some u -> w.cell? ((⟨b, off, none⟩ : Addr).add j) = some u := fun j u hj => by
  have hlt : j < (ys.map u8v).length := by
   rcases Nat.lt_or_ge j (ys.map u8v).length with h | h
   ·exact h
   ·rw [List.getElem?_eq_none h] at hj; cases hj
  rw [hadd, hcell j hlt, hj]
 have hl : (ys.map u8v).length = ys.length * i.size := by rw [hsize, List.length_map, Nat.mul_one]
 have hxl : (xs.map u8v).length = xs.length * i.size := by rw [hsize, List.length_map, Nat.mul_one]
 by_cases hroom : xs.length + ys.length <= cap
 ·have hf := run_firstCells_some (P := P) w i.size ys.length ⟨b, off, none⟩ ys.length c (ys.map u8v) hl hnews
  have hst := vl (P := P) g (xs.length * i.size) e fz (ys.map u8v) 0 cur w hg hfz (by rw [hl, hsize, Nat.mul_one, Nat.mul_one]; omega) (jN _)
  simp only [Nat.add_zero] at hst
  refine ⟨_, w.setRow g (cur.toList.take (xs.length * i.size) ++ ys.map u8v ++ cur.toList.drop (xs.length * i.size + (ys.map u8v).length)).toArray, (by simp [Builtin.append_, run_underlying ht, sizeOf, typeInfo, hi, Builtin.lenOf, hroom, hf, Addr.add_lit, hst]; rfl), ?_, ?_⟩
  ·refine ⟨g, cap, _, fz, by rw [List.length_append], hbg, setRow_heap w g cur _ e _ hg, ?_, by rw [List.length_append]; exact hroom, hcm, ?_, ?_⟩
   ·have h9 : (cur.toList.take (xs.length * i.size) ++ ys.map u8v ++ cur.toList.drop (xs.length * i.size + (ys.map u8v).length)).toArray.size = cur.size := by
     exact Y91
    rw [h9]
    exact hfz
   ·exact Y91
   ·simp only [hsize, Nat.mul_one, htake]
    rw [List.length_append, <- List.map_append, show xs.length + ys.length = ((xs ++ ys).map u8v).length by simp]
    exact List.take_left
  ·exact ⟨rfl, rfl, rfl, by simp [World.setRow], fun k _ hk => setRow_other w g k _ (fun e => hk (by simp [Value.ownBlock, e]))⟩
 ·have holds : ∀ j u, (xs.map u8v)[j]? = some u -> w.cell? ((⟨g, 0, none⟩ : Addr).add j) = some u := fun j u hu => by
   have hadd : (⟨g, 0, none⟩ : Addr).add j = ⟨g, j, none⟩ := by unfold Addr.add; split <;> simp_all
   rw [hadd, qE hg]
   rw [<- htake, List.getElem?_take] at hu
   split at hu
   ·simpa using hu
   ·cases hu
  have hr := run_append_grow (P := P) w t ty e i (.int .u8 0) ht hi hz ⟨g, 0, none⟩ xs.length cap (xs.map u8v) hxl holds ⟨b, off, none⟩ ys.length c (ys.map u8v) hl hnews Y95 Y95 (growslice_fits Y95 XU)
  have hge := grownCap_ge w (xs.length + ys.length) cap e
  have hcm2 : grownCap w (xs.length + ys.length) cap e <= maxLen := grownCap_le_maxLen w _ cap e X9
  refine ⟨_, _, hr, ⟨w.heap.size, _, _, (0, 0), by rw [List.length_append], hbase, heap_alloc_new w.drew _, Vn _, by rw [List.length_append]; exact hge, hcm2, ?_, ?_⟩, ⟨rfl, rfl, rfl, by simp, fun k hk _ => Below.heap_alloc w.drew _ _ hk⟩⟩
  ·simp only [Array.size_append, List.size_toArray, size_zeroCells, List.length_map, Value.cells]
   simp
   omega
  ·simp only [Array.toList_append]
   rw [<- List.map_append, show (xs ++ ys).length = ((xs ++ ys).map u8v).length by simp]
   exact List.take_left
theorem Qb {P : Program} {w : World} {ops : Array Oper} {rest : List Oper} {o : Oper} {a : Act} {Q : Exit -> Act -> World -> Prop} {A : Nat -> Prop} {t e : TypeId}
  (ht : P.underlying t = some (.slice e)) (hinfo : (P.info? e).map (fun i => (i.zero, i.size, i.bytes)) = some (some (.int .u8 0), 1, 1)) (hgd : o.guard = none) (s x : Operand)
  (ho : o.op = .call { callee := .builtin .append, args := #[s, x], argTypes := #[t, t] })
  {base : Nat} {v u : Value} {xs ys : List UInt8} (hs : a.eval s = v) (hx : a.eval x = u) (hown : Qx e base w v xs) (hb : Bs A w u ys)
  (hlen : xs.length + ys.length <= 140737488355328) (hbase : base <= w.heap.size) (hy : 0 < ys.length)
  (h : ∀ v' w', Qx e base w' v' (xs ++ ys) -> w.grownBy w' v.ownBlock -> wpList P ops Q rest (a.put o.dst v') w') : wpList P ops Q (o :: rest) a w := by
 obtain ⟨i, hi, hz, hsz, hby⟩ := qO hinfo
 refine wpList_plain hgd fun K hK => ?_
 obtain ⟨v', w', hr, h2, h3⟩ := Us (P := P) (w := w) base t o.type e i ht hi hz hsz hby v u xs ys hown hb hlen hbase hy
 unfold Oper.wp execOp
 simp only [ho, resolve, invoke, builtin, Sem.run_bind, Sem.run_pure, Result.andThen_ok, List.map_toArray, List.map_cons, List.map_nil, hs, hx, hr]
 exact hK _ _ (h v' w' h2 h3)
theorem K5 {P : Program} {w : World} {ops : Array Oper} {rest : List Oper} {o : Oper} {a : Act} {Q : Exit -> Act -> World -> Prop} {ts t e : TypeId} (hts : P.underlying ts = some .string) (ht : P.underlying t = some (.slice e)) (he : P.underlying e = some (.int .u8)) (s : ByteArray) (x : Operand) (ho : o.op = .convert ts t x) (hgd : o.guard = none) (hx : a.eval x = .string s) (hs : s.size <= 140737488355328)
  (h : ∀ (v : Value) (p : World), Fr [] w p -> Qx e w.heap.size p v s.data.toList -> wpList P ops Q rest (a.put o.dst v) p) : wpList P ops Q (o :: rest) a w := by
 have hr := run_bytes_of_string (P := P) w ts t e s hts ht he
 obtain ⟨cap, hcap⟩ := exq (grownCap w s.size 0 e)
 have h1 := grownCap_ge w s.size 0 e
 have h2 := grownCap_le_maxLen w s.size 0 e (by simp [maxLen]; omega)
 rw [hcap] at hr h1 h2
 refine wpList_plain hgd fun K hK => ?_
 unfold Oper.wp execOp
 simp only [ho, hx, Sem.run_bind, hr, Result.andThen_ok, Sem.run_pure]
 have hl : s.data.toList.length = s.size := by simp
 have hsz : (bytesRow s cap).size = cap := by simp [bytesRow]; have : s.data.size = s.size := rfl; omega
 refine hK _ _ (h _ _ ((Fr.drew w).trans (Fr.alloc _ _)) ⟨w.heap.size, cap, bytesRow s cap, _, by rw [hl], Nat.le_refl _, heap_alloc_new w.drew _, fun j hj h9 => ?_, by rw [hl]; exact h1, h2, hsz, ?_⟩)
 ·have := h9.1
  simp only at this
  omega
 ·rw [bytesRow, Array.toList_append, hl]
  have h8 : (s.data.map (fun b => Value.int .u8 b.toNat)).toList = s.data.toList.map u8v := by rw [Array.toList_map]; rfl
  rw [h8, show s.size = (s.data.toList.map u8v).length by simp [hl]]
  exact List.take_left
end Go.Bl
