/-
  Layer 31: a statement 'a.F = c.num(k)' of the document's Decode, as one law over any frame.
-/
import Derived.Test.YtbohmnblegljkaaCur2
import Derived.Test.YtbohmnblegljkaaAct2
import Derived.BigCall
namespace Go.Proofs.Ytbohmnblegljkaa
open Go.RowKit Go.Bl
set_option linter.unusedVariables false

theorem wpl_go {P : Program} {w : World} {ops : Array Oper} {rest : List Oper} {o : Oper} {a : Act} {Q : Exit → Act → World → Prop} {f : FuncId} {xs : Array Operand} {ats : Array TypeId} {args : Array Value}
    (ho : o.op = .call { callee := .value (.func f), args := xs, argTypes := ats }) (hgd : o.guard = none) (he : (execOp a.eval o).run P w = .ok (.enter f args) w)
    {R : Ending → World → Prop} (hC : Calls P f args w R) (h : ∀ e w', R e w' → ∃ u, e = .returned u ∧ wpList P ops Q rest (a.put o.dst u) w') : wpList P ops Q (o :: rest) a w := by
  refine wpList_plain hgd fun K hK => ?_
  unfold Oper.wp
  rw [he, Oper.upon_enter]
  refine hC.mono fun e w' hr => ?_
  obtain ⟨u, rfl, hu⟩ := h e w' hr
  exact hK _ _ hu

theorem eval_put (a : Act) (s : Nat) (v : Value) (h : s < a.tmps.size) : (a.put (some s) v).eval (.tmp s) = v := by
  simp [Act.put, Act.eval, h]
theorem eval_put_ne (a : Act) (s t : Nat) (v : Value) (h : s ≠ t) : (a.put (some s) v).eval (.tmp t) = a.eval (.tmp t) := by
  simp [Act.put, Act.eval, h]
theorem size_put (a : Act) (s : Nat) (v : Value) : (a.put (some s) v).tmps.size = a.tmps.size := by
  simp [Act.put]

theorem enter_num (x y : Value) (w : World) : (callFunc 16 #[x, y]).run Try.prog w = .ok (.enter 16 #[x, y]) w := by rfl

/-- the four operations of 'a.F = c.num(k)' -/
theorem wpl_field {A : Nat → Prop} {w : World} {ops : Array Oper} {rest : List Oper} {o1 o2 o3 o4 : Oper} {a : Act} {Q : Exit → Act → World → Prop} {rb bb off k j te : Nat} {v : Value} {xs ys : List UInt8} {cur : Array Value} (s1 s2 s3 : Nat) {ats : Array TypeId}
    (h1 : o1.op = .move (.tmp 3)) (g1 : o1.guard = none) (d1 : o1.dst = some s1)
    (h2 : o2.op = .call { callee := .value (.func 16), args := #[.tmp s1, .const (.int .i64 k)], argTypes := ats }) (g2 : o2.guard = none) (d2 : o2.dst = some s2)
    (g3 : o3.guard = none) (d3 : o3.dst = some s3)
    (h4 : o4.op = .store 3 (.tmp s3) (.tmp s2)) (g4 : o4.guard = none) (d4 : o4.dst = none)
    (hs1 : s1 < a.tmps.size) (hs2 : s2 < a.tmps.size) (hs3 : s3 < a.tmps.size) (n1 : s1 ≠ 5) (n2 : s2 ≠ 5) (n3 : s3 ≠ s2)
    (e3 : a.eval (.tmp 3) = .pointer (some ⟨rb, 0, none⟩)) (e5 : a.eval (.tmp 5) = .pointer (some ⟨bb, 0, none⟩))
    (hfa : ∀ (a : Act) w, a.eval (.tmp 5) = .pointer (some ⟨bb, 0, none⟩) → (execOp a.eval o3).run Try.prog w = .ok (.value (.pointer (some ⟨bb, off, none⟩))) w)
    (hR : CuR A w rb v xs (ys.drop j)) (hB : At w bb (.cells cur te)) (hne : bb ≠ rb) (hAb : A bb) (hoff : off < cur.size) (hk : 1 ≤ k) (hk2 : k ≤ 2) (hx : xs.length ≤ 1000000)
    (h : ∀ w', CuR A w' rb v xs (ys.drop (j + k)) → At w' bb (.cells (cur.setIfInBounds off (.int .i64 (nb k (ys.drop j)))) te) → Fr [rb, bb] w w' →
      wpList Try.prog ops Q rest ((((a.put (some s1) (.pointer (some ⟨rb, 0, none⟩))).put (some s2) (.int .i64 (nb k (ys.drop j)))).put (some s3) (.pointer (some ⟨bb, off, none⟩))).put none undef) w') :
    wpList Try.prog ops Q (o1 :: o2 :: o3 :: o4 :: rest) a w := by
  refine wpl_val _ h1 g1 (.pointer (some ⟨rb, 0, none⟩)) (by unfold execOp; simp only [h1, e3]; rfl) ?_
  rw [d1]
  refine wpl_go h2 g2 ?_ (cnum_nb A w rb v xs ys k j hR hk hk2 hx) ?_
  · obtain ⟨dst, op, ty, pos, after, guard⟩ := o2
    simp only at h2 g2 d2
    subst h2
    have ha : #[] ++ Array.map (a.put (some s1) (.pointer (some ⟨rb, 0, none⟩))).eval #[.tmp s1, .const (.int .i64 k)] ++ #[] = #[.pointer (some ⟨rb, 0, none⟩), .int .i64 (k : Int)] := by
      have := eval_put a s1 (.pointer (some ⟨rb, 0, none⟩)) hs1
      simp only [List.map_toArray, List.map_cons, List.map_nil, this]
      rfl
    rw [execOp_call_go, ha, enter_num]
  rintro e w1 ⟨rfl, hr, hf⟩
  refine ⟨_, rfl, ?_⟩
  rw [d2]
  refine wpl_val _ rfl g3 (.pointer (some ⟨bb, off, none⟩)) (hfa _ _ (by rw [eval_put_ne _ _ _ _ n2, eval_put_ne _ _ _ _ n1, e5])) ?_
  rw [d3]
  refine wpl_store_one (.tmp s3) (.tmp s2) g4 h4 (.int .i64 (nb k (ys.drop j))) (by rw [eval_put _ _ _ (by simp [size_put, hs3])]) (by rw [eval_put_ne _ _ _ _ n3, eval_put _ _ _ (by simp [size_put, hs2])]) (hB.keep hf (by simpa using hne)) hoff (by kernel_rfl) rfl ?_
  intro w2 hf2 hb2 hs
  rw [d4]
  refine h w2 (hr.keep hf2 (by simpa using hAb) (by simpa using fun h => hne h.symm)) hb2 ((hf.mono (by simp)).then hf2 (by simp))
end Go.Proofs.Ytbohmnblegljkaa
