/-
  Layer 31: the drawn region of the document's Same. (printed by gensame.py)
-/
import Derived.Test.YtbohmnblegljkaaOf
import Derived.Test.YtbohmnblegljkaaNum2
import Derived.Test.YtbohmnblegljkaaPr
namespace Go.Proofs.Ytbohmnblegljkaa
open Go.RowKit Go.Bl
set_option linter.unusedVariables false

def findRegion (k : Nat) : Code → Option Code
  | .region i ops d => if i = k then some (.region i ops d) else none
  | .loop c => findRegion k c
  | .seq a b => match findRegion k a with
    | some c => some c
    | none => findRegion k b
  | .block _ c => findRegion k c
  | .scope c => findRegion k c
  | .cond _ a b => match findRegion k a with
    | some c => some c
    | none => findRegion k b
  | _ => none
noncomputable def sameReg : Code := ((Try.f7.body.bind (findRegion 6)).getD .skip)
theorem up_pair' {P : Program} {ops : Array Oper} {Q : Exit → Go.Act → World → Prop} {a : Go.Act} {w : World} (k k' : Nat) (hk : k' = k + 1) (hst : pairAt ops (mkTbl ops) k = true)
    (h1 : opV P ops k a w fun _ p => opV P ops k' a p fun _ p' => Up P ops Q (k + 2) a p') (h2 : opV P ops k' a w fun _ p => opV P ops k a p fun _ p' => Up P ops Q (k + 2) a p') : Up P ops Q k a w := by
  subst hk
  exact up_pair (mkTbl ops) k hst h1 h2
theorem lt_of_cell {w : World} {b i : Nat} {v : Value} (h : w.cell? ⟨b, i, none⟩ = some v) : b < w.heap.size := by
  unfold World.cell? at h
  rcases Nat.lt_or_ge b w.heap.size with hb | hb
  · exact hb
  · rw [Array.getElem?_eq_none hb] at h; simp at h
theorem quiet_of_run {P : Program} {o : Oper} {a : Go.Act} {C : World → Prop} {K : Go.Act → Prop} (v : Value) (hr : ∀ w, C w → (execOp a.eval o).run P w = .ok (.value v) w) (hk : K (a.put o.dst v)) : o.quiet P a C K :=
  ⟨v, fun w hw => by
    unfold Oper.quietAt
    rw [hr w hw]
    first | exact ⟨rfl, rfl⟩ | exact ⟨rfl, hw⟩ | trivial, hk⟩
theorem run_load_row {P : Program} {ρ : Operand → Value} {o : Oper} {ty : TypeId} {d : TypeDesc} (x : Operand) (ho : o.op = .load ty x) (b off : Nat) (c : Array Value) (w : World) (hx : ρ x = .pointer (some ⟨b, off, none⟩)) (hc : w.rangeAt b off c.toList) (hu : P.underlying ty = some d) (hd : d.isRow = true) (hi : (P.info? ty).map (·.size) = some c.size) :
    (execOp ρ o).run P w = .ok (.value (.agg c)) w := by
  have := run_loadAt_mid (P := P) w b off ty c.toList d hc hu hd (by simpa using hi)
  unfold execOp
  simp only [ho, hx, Sem.run_bind, this, Result.andThen_ok, Sem.run_pure]
theorem range_keep {w w' : World} {b o : Nat} {cs : List Value} (h : w.rangeAt b o cs) (hf : Fr [] w w') : w'.rangeAt b o cs := fun j v hj => cell_mono hf (h j v hj)

set_option maxRecDepth 1000000 in
set_option maxHeartbeats 8000000 in
theorem same_reg (w : World) (b0 o0 n0 cap0 b1 o1 n1 cap1 j : Nat) (ao eo : Option Addr) (an ac en ec : Nat) (x y : ActP) (c2 c3 c4 c8 c9 c10 c11 c12 c13 c14 c15 c16 c17 c26 c27 c28 c29 c30 c31 c32 c33 c34 c35 c36 c37 c38 c39 c40 c41 c42 c43 c44 c45 c46 c47 c48 c49 c50 c51 c52 c53 c54 c55 c56 c57 c58 c59 c60 c61 c62 c63 c64 c65 c66 c67 c68 c69 c70 c71 c72 c73 c74 c75 c76 c77 c78 c79 c80 c81 c82 c83 c84 c85 c86 c87 c88 c89 c90 c91 c92 c93 c94 c95 c96 c97 c98 c99 c100 c101 c102 c103 u6 u7 u18 u19 u20 u21 u22 u23 u24 u25 : Value) (Q : Exit → Go.Act → World → Prop)
    (hj0 : j < n0) (hj1 : j < n1) (hn : n0 ≤ 1000000) (hn1 : n1 ≤ 1000000)
    (h0 : w.rangeAt b0 (o0 + j * 16) #[.int .i64 x.kind, .int .i64 x.n, .int .i64 x.i, .int .i64 x.at_, .int .i64 x.by_, .string x.name, .slice ao an ac, .int .i64 x.p0, .int .i64 x.p1, .int .i64 x.p2, .int .i64 x.p3, .int .i64 x.p4, .int .i64 x.p5, .int .i64 x.kept, .int .i64 x.torn, .int .u64 x.scat].toList) (h1 : w.rangeAt b1 (o1 + j * 16) #[.int .i64 y.kind, .int .i64 y.n, .int .i64 y.i, .int .i64 y.at_, .int .i64 y.by_, .string y.name, .slice eo en ec, .int .i64 y.p0, .int .i64 y.p1, .int .i64 y.p2, .int .i64 y.p3, .int .i64 y.p4, .int .i64 y.p5, .int .i64 y.kept, .int .i64 y.torn, .int .u64 y.scat].toList)
    (hQ : ∀ (g0 g1 : Nat) (xu18 xu19 xu20 xu21 xu22 xu23 xu24 xu25 : Value) (w' : World), Fr [] w w' → (g0 ≠ g1 → At w' g0 (.cells #[.int .i64 x.kind, .int .i64 x.n, .int .i64 x.i, .int .i64 x.at_, .int .i64 x.by_, .string x.name, .slice ao an ac, .int .i64 x.p0, .int .i64 x.p1, .int .i64 x.p2, .int .i64 x.p3, .int .i64 x.p4, .int .i64 x.p5, .int .i64 x.kept, .int .i64 x.torn, .int .u64 x.scat] 44)) → At w' g1 (.cells #[.int .i64 y.kind, .int .i64 y.n, .int .i64 y.i, .int .i64 y.at_, .int .i64 y.by_, .string y.name, .slice eo en ec, .int .i64 y.p0, .int .i64 y.p1, .int .i64 y.p2, .int .i64 y.p3, .int .i64 y.p4, .int .i64 y.p5, .int .i64 y.kept, .int .i64 y.torn, .int .u64 y.scat] 44) → Q .normal ⟨(.slice (some ⟨b0, o0, none⟩) n0 cap0 :: .slice (some ⟨b1, o1, none⟩) n1 cap1 :: c2 :: c3 :: c4 :: .int .i64 j :: .pointer (some ⟨g0, 0, none⟩) :: .pointer (some ⟨g1, 0, none⟩) :: c8 :: c9 :: c10 :: c11 :: c12 :: c13 :: c14 :: c15 :: c16 :: c17 :: xu18 :: xu19 :: xu20 :: xu21 :: xu22 :: xu23 :: xu24 :: xu25 :: c26 :: c27 :: c28 :: c29 :: c30 :: c31 :: c32 :: c33 :: c34 :: c35 :: c36 :: c37 :: c38 :: c39 :: c40 :: c41 :: c42 :: c43 :: c44 :: c45 :: c46 :: c47 :: c48 :: c49 :: c50 :: c51 :: c52 :: c53 :: c54 :: c55 :: c56 :: c57 :: c58 :: c59 :: c60 :: c61 :: c62 :: c63 :: c64 :: c65 :: c66 :: c67 :: c68 :: c69 :: c70 :: c71 :: c72 :: c73 :: c74 :: c75 :: c76 :: c77 :: c78 :: c79 :: c80 :: c81 :: c82 :: c83 :: c84 :: c85 :: c86 :: c87 :: c88 :: c89 :: c90 :: c91 :: c92 :: c93 :: c94 :: c95 :: c96 :: c97 :: c98 :: c99 :: c100 :: c101 :: c102 :: c103 :: []).toArray, []⟩ w') :
    Code.wp Try.prog sameReg Q ⟨(.slice (some ⟨b0, o0, none⟩) n0 cap0 :: .slice (some ⟨b1, o1, none⟩) n1 cap1 :: c2 :: c3 :: c4 :: .int .i64 j :: u6 :: u7 :: c8 :: c9 :: c10 :: c11 :: c12 :: c13 :: c14 :: c15 :: c16 :: c17 :: u18 :: u19 :: u20 :: u21 :: u22 :: u23 :: u24 :: u25 :: c26 :: c27 :: c28 :: c29 :: c30 :: c31 :: c32 :: c33 :: c34 :: c35 :: c36 :: c37 :: c38 :: c39 :: c40 :: c41 :: c42 :: c43 :: c44 :: c45 :: c46 :: c47 :: c48 :: c49 :: c50 :: c51 :: c52 :: c53 :: c54 :: c55 :: c56 :: c57 :: c58 :: c59 :: c60 :: c61 :: c62 :: c63 :: c64 :: c65 :: c66 :: c67 :: c68 :: c69 :: c70 :: c71 :: c72 :: c73 :: c74 :: c75 :: c76 :: c77 :: c78 :: c79 :: c80 :: c81 :: c82 :: c83 :: c84 :: c85 :: c86 :: c87 :: c88 :: c89 :: c90 :: c91 :: c92 :: c93 :: c94 :: c95 :: c96 :: c97 :: c98 :: c99 :: c100 :: c101 :: c102 :: c103 :: []).toArray, []⟩ w := by
  have H0 := Lib.hid h0
  have H1 := Lib.hid h1
  have HQ := Lib.hid hQ
  clear h0 h1 hQ
  conv => arg 2; whnf
  refine wp_region_upF (by kernel_rfl) fun wa ha => ?_
  replace H0 := Lib.hid (range_keep H0.out ha)
  replace H1 := Lib.hid (range_keep H1.out ha)
  have hsa := ha.size
  have G := Lib.hid ha
  clear ha
  refine up_pr wa.heap.size 0 12 [(.val, 0), (.val, 1), (.val, 2), (.val, 3), (.mem, 8), (.mem, 9), (.call, 10), (.val, 4), (.val, 5), (.val, 6), (.val, 7), (.call, 11)] (by kernel_rfl) ?_
  refine poR_vals 4 _ _ _ (by kernel_rfl) ?_
  simp only [opersOf, List.take_succ_cons, List.take_zero, List.filterMap_cons, List.filterMap_nil, List.getElem?_toArray, List.getElem?_cons_succ, List.getElem?_cons_zero, List.drop_succ_cons, List.drop_zero]
  show wpQuiet _ _ _ _ [_, _, _, _] _
  iterate 3 go_big_quiet_step (fail)
  refine BigFrame.wpQuiet_want rfl fun K hK => ?_
  refine quiet_of_run (.agg #[.int .i64 x.kind, .int .i64 x.n, .int .i64 x.i, .int .i64 x.at_, .int .i64 x.by_, .string x.name, .slice ao an ac, .int .i64 x.p0, .int .i64 x.p1, .int .i64 x.p2, .int .i64 x.p3, .int .i64 x.p4, .int .i64 x.p5, .int .i64 x.kept, .int .i64 x.torn, .int .u64 x.scat]) ?_ (hK _ ?_)
  · rintro _ ⟨z, rfl⟩
    exact run_load_row (.tmp 20) rfl b0 (o0 + j * 16) #[.int .i64 x.kind, .int .i64 x.n, .int .i64 x.i, .int .i64 x.at_, .int .i64 x.by_, .string x.name, .slice ao an ac, .int .i64 x.p0, .int .i64 x.p1, .int .i64 x.p2, .int .i64 x.p3, .int .i64 x.p4, .int .i64 x.p5, .int .i64 x.kept, .int .i64 x.torn, .int .u64 x.scat] _ rfl (fun j v hj => z.fr.cell (H0.out j v hj)) Try.underlying44 rfl (by kernel_rfl)
  simp only [Act.put, List.setIfInBounds_toArray, List.set_cons_succ, List.set_cons_zero]
  refine wpQuiet_nil ?_
  refine poR_new _ (by simp only [List.getElem?_toArray, List.getElem?_cons_succ, List.getElem?_cons_zero]; rfl) rfl #[.int .i64 0, .int .i64 0, .int .i64 0, .int .i64 0, .int .i64 0, .string ⟨#[]⟩, .slice none 0 0, .int .i64 0, .int .i64 0, .int .i64 0, .int .i64 0, .int .i64 0, .int .i64 0, .int .i64 0, .int .i64 0, .int .u64 0] 44 (fun b => .pointer (some ⟨b, 0, none⟩)) (fun _ => by kernel_rfl) ?_
  intro g0 wb d0 hb0 hwb hd0 hA0
  simp only [Act.put, List.setIfInBounds_toArray, List.set_cons_succ, List.set_cons_zero]
  refine poR_new _ (by simp only [List.getElem?_toArray, List.getElem?_cons_succ, List.getElem?_cons_zero]; rfl) rfl #[.int .i64 0, .int .i64 0, .int .i64 0, .int .i64 0, .int .i64 0, .string ⟨#[]⟩, .slice none 0 0, .int .i64 0, .int .i64 0, .int .i64 0, .int .i64 0, .int .i64 0, .int .i64 0, .int .i64 0, .int .i64 0, .int .u64 0] 44 (fun b => .pointer (some ⟨b, 0, none⟩)) (fun _ => by kernel_rfl) ?_
  intro g1 wc d1 hb1 hwc hd1 hA1
  simp only [Act.put, List.setIfInBounds_toArray, List.set_cons_succ, List.set_cons_zero]
  have HA0 := Lib.hid (hA0.keep0 hwc)
  have HA1 := Lib.hid hA1
  replace G := Lib.hid ((G.out.trans hwb).trans hwc)
  clear hA0 hA1 hwb hwc
  refine poR_call _ (by simp only [List.getElem?_toArray, List.getElem?_cons_succ, List.getElem?_cons_zero]; rfl) ?_
  intro u1 hu1
  refine wpl_store_whole (.tmp 6) (.tmp 21) rfl rfl #[.int .i64 x.kind, .int .i64 x.n, .int .i64 x.i, .int .i64 x.at_, .int .i64 x.by_, .string x.name, .slice ao an ac, .int .i64 x.p0, .int .i64 x.p1, .int .i64 x.p2, .int .i64 x.p3, .int .i64 x.p4, .int .i64 x.p5, .int .i64 x.kept, .int .i64 x.torn, .int .u64 x.scat] rfl rfl (by kernel_rfl) (HA0.out.keep0 hu1) (by rw [hd0]; rfl) (by simp [Value.oneCell']) ?_
  intro p1 f1 a1 _
  have rn1 : RN wa.heap.size u1 p1 := RN.of_store f1 hb0 (HA0.out.keep0 hu1) a1 (by rw [hd0]; rfl)
  refine ⟨rfl, rfl, rn1, ?_⟩
  simp only [Act.put, List.setIfInBounds_toArray, List.set_cons_succ, List.set_cons_zero]
  obtain ⟨d2, hd2, hA2⟩ := rn1.shape _ _ _ (HA1.out.keep0 hu1)
  rw [hd1] at hd2
  have HA2 := Lib.hid (show At p1 g1 (.cells d2 44) from hA2)
  have HZ := Lib.hid a1
  replace G := Lib.hid ((G.out.trans hu1).then f1 (by intro b hb; simp at hb; omega))
  clear hA2 a1 rn1 f1 hu1 HA0 HA1
  refine poR_vals 4 _ _ _ (by kernel_rfl) ?_
  simp only [opersOf, List.take_succ_cons, List.take_zero, List.filterMap_cons, List.filterMap_nil, List.getElem?_toArray, List.getElem?_cons_succ, List.getElem?_cons_zero, List.drop_succ_cons, List.drop_zero]
  show wpQuiet _ _ _ _ [_, _, _, _] _
  iterate 3 go_big_quiet_step (fail)
  refine BigFrame.wpQuiet_want rfl fun K hK => ?_
  refine quiet_of_run (.agg #[.int .i64 y.kind, .int .i64 y.n, .int .i64 y.i, .int .i64 y.at_, .int .i64 y.by_, .string y.name, .slice eo en ec, .int .i64 y.p0, .int .i64 y.p1, .int .i64 y.p2, .int .i64 y.p3, .int .i64 y.p4, .int .i64 y.p5, .int .i64 y.kept, .int .i64 y.torn, .int .u64 y.scat]) ?_ (hK _ ?_)
  · rintro _ ⟨z, rfl⟩
    exact run_load_row (.tmp 24) rfl b1 (o1 + j * 16) #[.int .i64 y.kind, .int .i64 y.n, .int .i64 y.i, .int .i64 y.at_, .int .i64 y.by_, .string y.name, .slice eo en ec, .int .i64 y.p0, .int .i64 y.p1, .int .i64 y.p2, .int .i64 y.p3, .int .i64 y.p4, .int .i64 y.p5, .int .i64 y.kept, .int .i64 y.torn, .int .u64 y.scat] _ rfl (fun j v hj => z.fr.cell (H1.out j v hj)) Try.underlying44 rfl (by kernel_rfl)
  simp only [Act.put, List.setIfInBounds_toArray, List.set_cons_succ, List.set_cons_zero]
  refine wpQuiet_nil ?_
  clear H0 H1
  refine poR_call _ (by simp only [List.getElem?_toArray, List.getElem?_cons_succ, List.getElem?_cons_zero]; rfl) ?_
  intro u2 hu2
  refine wpl_store_whole (.tmp 7) (.tmp 25) rfl rfl #[.int .i64 y.kind, .int .i64 y.n, .int .i64 y.i, .int .i64 y.at_, .int .i64 y.by_, .string y.name, .slice eo en ec, .int .i64 y.p0, .int .i64 y.p1, .int .i64 y.p2, .int .i64 y.p3, .int .i64 y.p4, .int .i64 y.p5, .int .i64 y.kept, .int .i64 y.torn, .int .u64 y.scat] rfl rfl (by kernel_rfl) (HA2.out.keep0 hu2) (by rw [hd2]; rfl) (by simp [Value.oneCell']) ?_
  intro p2 f2 a2 _
  have rn2 : RN wa.heap.size u2 p2 := RN.of_store f2 hb1 (HA2.out.keep0 hu2) a2 (by rw [hd2]; rfl)
  refine ⟨rfl, rfl, rn2, ?_⟩
  simp only [Act.put, List.setIfInBounds_toArray, List.set_cons_succ, List.set_cons_zero]
  have F2 : Fr [] w p2 := (G.out.trans hu2).then f2 (by intro b hb; simp at hb; omega)
  refine poR_end ?_
  intro w9 hw9 _
  refine up_end ?_
  refine HQ.out g0 g1 _ _ _ _ _ _ _ _ w9 (F2.trans hw9) (fun hg => At.keep0 (At.keep (HZ.out.keep0 hu2) f2 (by simp; omega)) hw9) (a2.keep0 hw9)
end Go.Proofs.Ytbohmnblegljkaa
