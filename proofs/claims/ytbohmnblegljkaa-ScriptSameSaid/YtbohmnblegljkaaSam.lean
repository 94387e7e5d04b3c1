/-
  Layer 31: the drawn region of the document's Same. (printed by gensame.py)
-/
import Derived.Test.YtbohmnblegljkaaOf
import Derived.Test.YtbohmnblegljkaaNum2
import Derived.Test.YtbohmnblegljkaaInv
namespace Go.Proofs.Ytbohmnblegljkaa
open Go.RowKit Go.Bl
set_option linter.unusedVariables false

def findRegion (k : Nat) : Code → Option Code
  | .region i ops d => if i = k then some (.region i ops d) else none
  | .loop c => findRegion k c
  | .seq a b => match findRegion k a with
    | some c => some c
    | none => findRegion k b
  | .block _ c => findRegion k c
  | .scope c => findRegion k c
  | .cond _ a b => match findRegion k a with
    | some c => some c
    | none => findRegion k b
  | _ => none
noncomputable def sameReg : Code := ((Try.f7.body.bind (findRegion 6)).getD .skip)
theorem up_pair' {P : Program} {ops : Array Oper} {Q : Exit → Go.Act → World → Prop} {a : Go.Act} {w : World} (k k' : Nat) (hk : k' = k + 1) (hst : pairAt ops (mkTbl ops) k = true)
    (h1 : opV P ops k a w fun _ p => opV P ops k' a p fun _ p' => Up P ops Q (k + 2) a p') (h2 : opV P ops k' a w fun _ p => opV P ops k a p fun _ p' => Up P ops Q (k + 2) a p') : Up P ops Q k a w := by
  subst hk
  exact up_pair (mkTbl ops) k hst h1 h2
theorem lt_of_cell {w : World} {b i : Nat} {v : Value} (h : w.cell? ⟨b, i, none⟩ = some v) : b < w.heap.size := by
  unfold World.cell? at h
  rcases Nat.lt_or_ge b w.heap.size with hb | hb
  · exact hb
  · rw [Array.getElem?_eq_none hb] at h; simp at h
theorem quiet_of_run {P : Program} {o : Oper} {a : Go.Act} {C : World → Prop} {K : Go.Act → Prop} (v : Value) (hr : ∀ w, C w → (execOp a.eval o).run P w = .ok (.value v) w) (hk : K (a.put o.dst v)) : o.quiet P a C K :=
  ⟨v, fun w hw => by
    unfold Oper.quietAt
    rw [hr w hw]
    first | exact ⟨rfl, rfl⟩ | exact ⟨rfl, hw⟩ | trivial, hk⟩
theorem run_load_row {P : Program} {ρ : Operand → Value} {o : Oper} {ty : TypeId} {d : TypeDesc} (x : Operand) (ho : o.op = .load ty x) (b off : Nat) (c : Array Value) (w : World) (hx : ρ x = .pointer (some ⟨b, off, none⟩)) (hc : w.rangeAt b off c.toList) (hu : P.underlying ty = some d) (hd : d.isRow = true) (hi : (P.info? ty).map (·.size) = some c.size) :
    (execOp ρ o).run P w = .ok (.value (.agg c)) w := by
  have := run_loadAt_mid (P := P) w b off ty c.toList d hc hu hd (by simpa using hi)
  unfold execOp
  simp only [ho, hx, Sem.run_bind, this, Result.andThen_ok, Sem.run_pure]
theorem range_keep {w w' : World} {b o : Nat} {cs : List Value} (h : w.rangeAt b o cs) (hf : Fr [] w w') : w'.rangeAt b o cs := fun j v hj => cell_mono hf (h j v hj)

set_option maxRecDepth 1000000 in
def RegI (w : World) (b0 o0 n0 cap0 b1 o1 n1 cap1 j : Nat) (X Y : Array Value) (c2 c3 c4 c8 c9 c10 c11 c12 c13 c14 c15 c16 c17 c26 c27 c28 c29 c30 c31 c32 c33 c34 c35 c36 c37 c38 c39 c40 c41 c42 c43 c44 c45 c46 c47 c48 c49 c50 c51 c52 c53 c54 c55 c56 c57 c58 c59 c60 c61 c62 c63 c64 c65 c66 c67 c68 c69 c70 c71 c72 c73 c74 c75 c76 c77 c78 c79 c80 c81 c82 c83 c84 c85 c86 c87 c88 c89 c90 c91 c92 c93 c94 c95 c96 c97 c98 c99 c100 c101 c102 c103 : Value) (dn : Nat → Bool) (a : Go.Act) (p : World) : Prop :=
  ∃ (g0 g1 : Nat) (u6 u7 u18 u19 u20 u21 u22 u23 u24 u25 : Value), a = ⟨(.slice (some ⟨b0, o0, none⟩) n0 cap0 :: .slice (some ⟨b1, o1, none⟩) n1 cap1 :: c2 :: c3 :: c4 :: .int .i64 j :: u6 :: u7 :: c8 :: c9 :: c10 :: c11 :: c12 :: c13 :: c14 :: c15 :: c16 :: c17 :: u18 :: u19 :: u20 :: u21 :: u22 :: u23 :: u24 :: u25 :: c26 :: c27 :: c28 :: c29 :: c30 :: c31 :: c32 :: c33 :: c34 :: c35 :: c36 :: c37 :: c38 :: c39 :: c40 :: c41 :: c42 :: c43 :: c44 :: c45 :: c46 :: c47 :: c48 :: c49 :: c50 :: c51 :: c52 :: c53 :: c54 :: c55 :: c56 :: c57 :: c58 :: c59 :: c60 :: c61 :: c62 :: c63 :: c64 :: c65 :: c66 :: c67 :: c68 :: c69 :: c70 :: c71 :: c72 :: c73 :: c74 :: c75 :: c76 :: c77 :: c78 :: c79 :: c80 :: c81 :: c82 :: c83 :: c84 :: c85 :: c86 :: c87 :: c88 :: c89 :: c90 :: c91 :: c92 :: c93 :: c94 :: c95 :: c96 :: c97 :: c98 :: c99 :: c100 :: c101 :: c102 :: c103 :: []).toArray, []⟩ ∧ RN w.heap.size w p ∧ (dn 0 = true → u18 = .slice (some ⟨b0, o0, none⟩) n0 cap0) ∧ (dn 1 = true → u19 = .int .i64 j) ∧ (dn 2 = true → u20 = .pointer (some ⟨b0, o0 + j * 16, none⟩)) ∧ (dn 3 = true → u21 = .agg X) ∧ (dn 4 = true → u22 = .slice (some ⟨b1, o1, none⟩) n1 cap1) ∧ (dn 5 = true → u23 = .int .i64 j) ∧ (dn 6 = true → u24 = .pointer (some ⟨b1, o1 + j * 16, none⟩)) ∧ (dn 7 = true → u25 = .agg Y) ∧
    (dn 8 = true → u6 = .pointer (some ⟨g0, 0, none⟩) ∧ w.heap.size ≤ g0 ∧ ∃ c : Array Value, c.size = 16 ∧ At p g0 (.cells c 44) ∧ (dn 10 = true → c = X)) ∧ (dn 9 = true → u7 = .pointer (some ⟨g1, 0, none⟩) ∧ w.heap.size ≤ g1 ∧ ∃ c : Array Value, c.size = 16 ∧ At p g1 (.cells c 44) ∧ (dn 11 = true → c = Y)) ∧
    (dn 8 = true → dn 9 = true → g0 ≠ g1) ∧ (dn 10 = true → dn 8 = true ∧ dn 9 = true) ∧ (dn 11 = true → dn 8 = true ∧ dn 9 = true ∧ dn 10 = true)

set_option maxRecDepth 1000000 in
set_option maxHeartbeats 8000000 in
theorem same_reg (w : World) (b0 o0 n0 cap0 b1 o1 n1 cap1 j : Nat) (ao eo : Option Addr) (an ac en ec : Nat) (x y : ActP) (c2 c3 c4 c8 c9 c10 c11 c12 c13 c14 c15 c16 c17 c26 c27 c28 c29 c30 c31 c32 c33 c34 c35 c36 c37 c38 c39 c40 c41 c42 c43 c44 c45 c46 c47 c48 c49 c50 c51 c52 c53 c54 c55 c56 c57 c58 c59 c60 c61 c62 c63 c64 c65 c66 c67 c68 c69 c70 c71 c72 c73 c74 c75 c76 c77 c78 c79 c80 c81 c82 c83 c84 c85 c86 c87 c88 c89 c90 c91 c92 c93 c94 c95 c96 c97 c98 c99 c100 c101 c102 c103 u6 u7 u18 u19 u20 u21 u22 u23 u24 u25 : Value) (Q : Exit → Go.Act → World → Prop)
    (hj0 : j < n0) (hj1 : j < n1) (hn : n0 ≤ 1000000) (hn1 : n1 ≤ 1000000)
    (h0 : w.rangeAt b0 (o0 + j * 16) #[.int .i64 x.kind, .int .i64 x.n, .int .i64 x.i, .int .i64 x.at_, .int .i64 x.by_, .string x.name, .slice ao an ac, .int .i64 x.p0, .int .i64 x.p1, .int .i64 x.p2, .int .i64 x.p3, .int .i64 x.p4, .int .i64 x.p5, .int .i64 x.kept, .int .i64 x.torn, .int .u64 x.scat].toList) (h1 : w.rangeAt b1 (o1 + j * 16) #[.int .i64 y.kind, .int .i64 y.n, .int .i64 y.i, .int .i64 y.at_, .int .i64 y.by_, .string y.name, .slice eo en ec, .int .i64 y.p0, .int .i64 y.p1, .int .i64 y.p2, .int .i64 y.p3, .int .i64 y.p4, .int .i64 y.p5, .int .i64 y.kept, .int .i64 y.torn, .int .u64 y.scat].toList)
    (hQ : ∀ (g0 g1 : Nat) (xu18 xu19 xu20 xu21 xu22 xu23 xu24 xu25 : Value) (w' : World), Fr [] w w' → g0 ≠ g1 → At w' g0 (.cells #[.int .i64 x.kind, .int .i64 x.n, .int .i64 x.i, .int .i64 x.at_, .int .i64 x.by_, .string x.name, .slice ao an ac, .int .i64 x.p0, .int .i64 x.p1, .int .i64 x.p2, .int .i64 x.p3, .int .i64 x.p4, .int .i64 x.p5, .int .i64 x.kept, .int .i64 x.torn, .int .u64 x.scat] 44) → At w' g1 (.cells #[.int .i64 y.kind, .int .i64 y.n, .int .i64 y.i, .int .i64 y.at_, .int .i64 y.by_, .string y.name, .slice eo en ec, .int .i64 y.p0, .int .i64 y.p1, .int .i64 y.p2, .int .i64 y.p3, .int .i64 y.p4, .int .i64 y.p5, .int .i64 y.kept, .int .i64 y.torn, .int .u64 y.scat] 44) → Q .normal ⟨(.slice (some ⟨b0, o0, none⟩) n0 cap0 :: .slice (some ⟨b1, o1, none⟩) n1 cap1 :: c2 :: c3 :: c4 :: .int .i64 j :: .pointer (some ⟨g0, 0, none⟩) :: .pointer (some ⟨g1, 0, none⟩) :: c8 :: c9 :: c10 :: c11 :: c12 :: c13 :: c14 :: c15 :: c16 :: c17 :: xu18 :: xu19 :: xu20 :: xu21 :: xu22 :: xu23 :: xu24 :: xu25 :: c26 :: c27 :: c28 :: c29 :: c30 :: c31 :: c32 :: c33 :: c34 :: c35 :: c36 :: c37 :: c38 :: c39 :: c40 :: c41 :: c42 :: c43 :: c44 :: c45 :: c46 :: c47 :: c48 :: c49 :: c50 :: c51 :: c52 :: c53 :: c54 :: c55 :: c56 :: c57 :: c58 :: c59 :: c60 :: c61 :: c62 :: c63 :: c64 :: c65 :: c66 :: c67 :: c68 :: c69 :: c70 :: c71 :: c72 :: c73 :: c74 :: c75 :: c76 :: c77 :: c78 :: c79 :: c80 :: c81 :: c82 :: c83 :: c84 :: c85 :: c86 :: c87 :: c88 :: c89 :: c90 :: c91 :: c92 :: c93 :: c94 :: c95 :: c96 :: c97 :: c98 :: c99 :: c100 :: c101 :: c102 :: c103 :: []).toArray, []⟩ w') :
    Code.wp Try.prog sameReg Q ⟨(.slice (some ⟨b0, o0, none⟩) n0 cap0 :: .slice (some ⟨b1, o1, none⟩) n1 cap1 :: c2 :: c3 :: c4 :: .int .i64 j :: u6 :: u7 :: c8 :: c9 :: c10 :: c11 :: c12 :: c13 :: c14 :: c15 :: c16 :: c17 :: u18 :: u19 :: u20 :: u21 :: u22 :: u23 :: u24 :: u25 :: c26 :: c27 :: c28 :: c29 :: c30 :: c31 :: c32 :: c33 :: c34 :: c35 :: c36 :: c37 :: c38 :: c39 :: c40 :: c41 :: c42 :: c43 :: c44 :: c45 :: c46 :: c47 :: c48 :: c49 :: c50 :: c51 :: c52 :: c53 :: c54 :: c55 :: c56 :: c57 :: c58 :: c59 :: c60 :: c61 :: c62 :: c63 :: c64 :: c65 :: c66 :: c67 :: c68 :: c69 :: c70 :: c71 :: c72 :: c73 :: c74 :: c75 :: c76 :: c77 :: c78 :: c79 :: c80 :: c81 :: c82 :: c83 :: c84 :: c85 :: c86 :: c87 :: c88 :: c89 :: c90 :: c91 :: c92 :: c93 :: c94 :: c95 :: c96 :: c97 :: c98 :: c99 :: c100 :: c101 :: c102 :: c103 :: []).toArray, []⟩ w := by
  have H0 := Lib.hid h0
  have H1 := Lib.hid h1
  have HQ := Lib.hid hQ
  clear h0 h1 hQ
  conv => arg 2; whnf
  refine wp_region_inv (RegI w b0 o0 n0 cap0 b1 o1 n1 cap1 j #[.int .i64 x.kind, .int .i64 x.n, .int .i64 x.i, .int .i64 x.at_, .int .i64 x.by_, .string x.name, .slice ao an ac, .int .i64 x.p0, .int .i64 x.p1, .int .i64 x.p2, .int .i64 x.p3, .int .i64 x.p4, .int .i64 x.p5, .int .i64 x.kept, .int .i64 x.torn, .int .u64 x.scat] #[.int .i64 y.kind, .int .i64 y.n, .int .i64 y.i, .int .i64 y.at_, .int .i64 y.by_, .string y.name, .slice eo en ec, .int .i64 y.p0, .int .i64 y.p1, .int .i64 y.p2, .int .i64 y.p3, .int .i64 y.p4, .int .i64 y.p5, .int .i64 y.kept, .int .i64 y.torn, .int .u64 y.scat] c2 c3 c4 c8 c9 c10 c11 c12 c13 c14 c15 c16 c17 c26 c27 c28 c29 c30 c31 c32 c33 c34 c35 c36 c37 c38 c39 c40 c41 c42 c43 c44 c45 c46 c47 c48 c49 c50 c51 c52 c53 c54 c55 c56 c57 c58 c59 c60 c61 c62 c63 c64 c65 c66 c67 c68 c69 c70 c71 c72 c73 c74 c75 c76 c77 c78 c79 c80 c81 c82 c83 c84 c85 c86 c87 c88 c89 c90 c91 c92 c93 c94 c95 c96 c97 c98 c99 c100 c101 c102 c103) (by kernel_rfl) (by kernel_rfl) ?_ ?_ ?_
  · intro w1 hw1
    exact ⟨0, 0, _, _, _, _, _, _, _, _, _, _, rfl, RN.of_fr hw1, (fun h => by cases h), (fun h => by cases h), (fun h => by cases h), (fun h => by cases h), (fun h => by cases h), (fun h => by cases h), (fun h => by cases h), (fun h => by cases h), (fun h => by cases h), (fun h => by cases h), (fun h => by cases h), (fun h => by cases h), (fun h => by cases h)⟩
  · intro i hi
    have hi : i < 12 := hi
    have hc : i = 0 ∨ i = 1 ∨ i = 2 ∨ i = 3 ∨ i = 4 ∨ i = 5 ∨ i = 6 ∨ i = 7 ∨ i = 8 ∨ i = 9 ∨ i = 10 ∨ i = 11 := by omega
    clear hi
    rcases hc with rfl | rfl | rfl | rfl | rfl | rfl | rfl | rfl | rfl | rfl | rfl | rfl
    · intro dn a p hdn ha ⟨g0, g1, u6, u7, u18, u19, u20, u21, u22, u23, u24, u25, e, hr, k0, k1, k2, k3, k4, k5, k6, k7, k8, k9, kd, ke, kf⟩
      subst e
      refine opV_run (v := .slice (some ⟨b0, o0, none⟩) n0 cap0) (p := p) _ (by simp only [List.getElem?_toArray, List.getElem?_cons_succ, List.getElem?_cons_zero]; rfl) rfl ((by rfl)) ?_
      unfold RegI
      simp only [also_self, also_ne dn (show (1 : Nat) ≠ 0 by decide), also_ne dn (show (2 : Nat) ≠ 0 by decide), also_ne dn (show (3 : Nat) ≠ 0 by decide), also_ne dn (show (4 : Nat) ≠ 0 by decide), also_ne dn (show (5 : Nat) ≠ 0 by decide), also_ne dn (show (6 : Nat) ≠ 0 by decide), also_ne dn (show (7 : Nat) ≠ 0 by decide), also_ne dn (show (8 : Nat) ≠ 0 by decide), also_ne dn (show (9 : Nat) ≠ 0 by decide), also_ne dn (show (10 : Nat) ≠ 0 by decide), also_ne dn (show (11 : Nat) ≠ 0 by decide)]
      exact ⟨g0, g1, _, _, _, _, _, _, _, _, _, _, rfl, hr, fun _ => rfl, k1, k2, k3, k4, k5, k6, k7, k8, k9, kd, ke, kf⟩
    · intro dn a p hdn ha ⟨g0, g1, u6, u7, u18, u19, u20, u21, u22, u23, u24, u25, e, hr, k0, k1, k2, k3, k4, k5, k6, k7, k8, k9, kd, ke, kf⟩
      subst e
      refine opV_run (v := .int .i64 j) (p := p) _ (by simp only [List.getElem?_toArray, List.getElem?_cons_succ, List.getElem?_cons_zero]; rfl) rfl ((by rfl)) ?_
      unfold RegI
      simp only [also_self, also_ne dn (show (0 : Nat) ≠ 1 by decide), also_ne dn (show (2 : Nat) ≠ 1 by decide), also_ne dn (show (3 : Nat) ≠ 1 by decide), also_ne dn (show (4 : Nat) ≠ 1 by decide), also_ne dn (show (5 : Nat) ≠ 1 by decide), also_ne dn (show (6 : Nat) ≠ 1 by decide), also_ne dn (show (7 : Nat) ≠ 1 by decide), also_ne dn (show (8 : Nat) ≠ 1 by decide), also_ne dn (show (9 : Nat) ≠ 1 by decide), also_ne dn (show (10 : Nat) ≠ 1 by decide), also_ne dn (show (11 : Nat) ≠ 1 by decide)]
      exact ⟨g0, g1, _, _, _, _, _, _, _, _, _, _, rfl, hr, k0, fun _ => rfl, k2, k3, k4, k5, k6, k7, k8, k9, kd, ke, kf⟩
    · intro dn a p hdn ha ⟨g0, g1, u6, u7, u18, u19, u20, u21, u22, u23, u24, u25, e, hr, k0, k1, k2, k3, k4, k5, k6, k7, k8, k9, kd, ke, kf⟩
      subst e
      obtain rfl := k0 (ha 0 (by kernel_rfl))
      obtain rfl := k1 (ha 1 (by kernel_rfl))
      refine opV_run (v := .pointer (some ⟨b0, o0 + j * 16, none⟩)) (p := p) _ (by simp only [List.getElem?_toArray, List.getElem?_cons_succ, List.getElem?_cons_zero]; rfl) rfl ((by unfold execOp; simp [go_sem, hj0, hn])) ?_
      unfold RegI
      simp only [also_self, also_ne dn (show (0 : Nat) ≠ 2 by decide), also_ne dn (show (1 : Nat) ≠ 2 by decide), also_ne dn (show (3 : Nat) ≠ 2 by decide), also_ne dn (show (4 : Nat) ≠ 2 by decide), also_ne dn (show (5 : Nat) ≠ 2 by decide), also_ne dn (show (6 : Nat) ≠ 2 by decide), also_ne dn (show (7 : Nat) ≠ 2 by decide), also_ne dn (show (8 : Nat) ≠ 2 by decide), also_ne dn (show (9 : Nat) ≠ 2 by decide), also_ne dn (show (10 : Nat) ≠ 2 by decide), also_ne dn (show (11 : Nat) ≠ 2 by decide)]
      exact ⟨g0, g1, _, _, _, _, _, _, _, _, _, _, rfl, hr, fun _ => rfl, fun _ => rfl, fun _ => rfl, k3, k4, k5, k6, k7, k8, k9, kd, ke, kf⟩
    · intro dn a p hdn ha ⟨g0, g1, u6, u7, u18, u19, u20, u21, u22, u23, u24, u25, e, hr, k0, k1, k2, k3, k4, k5, k6, k7, k8, k9, kd, ke, kf⟩
      subst e
      obtain rfl := k2 (ha 2 (by kernel_rfl))
      refine opV_run (v := .agg #[.int .i64 x.kind, .int .i64 x.n, .int .i64 x.i, .int .i64 x.at_, .int .i64 x.by_, .string x.name, .slice ao an ac, .int .i64 x.p0, .int .i64 x.p1, .int .i64 x.p2, .int .i64 x.p3, .int .i64 x.p4, .int .i64 x.p5, .int .i64 x.kept, .int .i64 x.torn, .int .u64 x.scat]) (p := p) _ (by simp only [List.getElem?_toArray, List.getElem?_cons_succ, List.getElem?_cons_zero]; rfl) rfl (run_load_row (.tmp 20) rfl b0 (o0 + j * 16) #[.int .i64 x.kind, .int .i64 x.n, .int .i64 x.i, .int .i64 x.at_, .int .i64 x.by_, .string x.name, .slice ao an ac, .int .i64 x.p0, .int .i64 x.p1, .int .i64 x.p2, .int .i64 x.p3, .int .i64 x.p4, .int .i64 x.p5, .int .i64 x.kept, .int .i64 x.torn, .int .u64 x.scat] _ rfl (fun j v hj => hr.cell (H0.out j v hj)) Try.underlying44 rfl (by kernel_rfl)) ?_
      unfold RegI
      simp only [also_self, also_ne dn (show (0 : Nat) ≠ 3 by decide), also_ne dn (show (1 : Nat) ≠ 3 by decide), also_ne dn (show (2 : Nat) ≠ 3 by decide), also_ne dn (show (4 : Nat) ≠ 3 by decide), also_ne dn (show (5 : Nat) ≠ 3 by decide), also_ne dn (show (6 : Nat) ≠ 3 by decide), also_ne dn (show (7 : Nat) ≠ 3 by decide), also_ne dn (show (8 : Nat) ≠ 3 by decide), also_ne dn (show (9 : Nat) ≠ 3 by decide), also_ne dn (show (10 : Nat) ≠ 3 by decide), also_ne dn (show (11 : Nat) ≠ 3 by decide)]
      exact ⟨g0, g1, _, _, _, _, _, _, _, _, _, _, rfl, hr, k0, k1, fun _ => rfl, fun _ => rfl, k4, k5, k6, k7, k8, k9, kd, ke, kf⟩
    · intro dn a p hdn ha ⟨g0, g1, u6, u7, u18, u19, u20, u21, u22, u23, u24, u25, e, hr, k0, k1, k2, k3, k4, k5, k6, k7, k8, k9, kd, ke, kf⟩
      subst e
      refine opV_run (v := .slice (some ⟨b1, o1, none⟩) n1 cap1) (p := p) _ (by simp only [List.getElem?_toArray, List.getElem?_cons_succ, List.getElem?_cons_zero]; rfl) rfl ((by rfl)) ?_
      unfold RegI
      simp only [also_self, also_ne dn (show (0 : Nat) ≠ 4 by decide), also_ne dn (show (1 : Nat) ≠ 4 by decide), also_ne dn (show (2 : Nat) ≠ 4 by decide), also_ne dn (show (3 : Nat) ≠ 4 by decide), also_ne dn (show (5 : Nat) ≠ 4 by decide), also_ne dn (show (6 : Nat) ≠ 4 by decide), also_ne dn (show (7 : Nat) ≠ 4 by decide), also_ne dn (show (8 : Nat) ≠ 4 by decide), also_ne dn (show (9 : Nat) ≠ 4 by decide), also_ne dn (show (10 : Nat) ≠ 4 by decide), also_ne dn (show (11 : Nat) ≠ 4 by decide)]
      exact ⟨g0, g1, _, _, _, _, _, _, _, _, _, _, rfl, hr, k0, k1, k2, k3, fun _ => rfl, k5, k6, k7, k8, k9, kd, ke, kf⟩
    · intro dn a p hdn ha ⟨g0, g1, u6, u7, u18, u19, u20, u21, u22, u23, u24, u25, e, hr, k0, k1, k2, k3, k4, k5, k6, k7, k8, k9, kd, ke, kf⟩
      subst e
      refine opV_run (v := .int .i64 j) (p := p) _ (by simp only [List.getElem?_toArray, List.getElem?_cons_succ, List.getElem?_cons_zero]; rfl) rfl ((by rfl)) ?_
      unfold RegI
      simp only [also_self, also_ne dn (show (0 : Nat) ≠ 5 by decide), also_ne dn (show (1 : Nat) ≠ 5 by decide), also_ne dn (show (2 : Nat) ≠ 5 by decide), also_ne dn (show (3 : Nat) ≠ 5 by decide), also_ne dn (show (4 : Nat) ≠ 5 by decide), also_ne dn (show (6 : Nat) ≠ 5 by decide), also_ne dn (show (7 : Nat) ≠ 5 by decide), also_ne dn (show (8 : Nat) ≠ 5 by decide), also_ne dn (show (9 : Nat) ≠ 5 by decide), also_ne dn (show (10 : Nat) ≠ 5 by decide), also_ne dn (show (11 : Nat) ≠ 5 by decide)]
      exact ⟨g0, g1, _, _, _, _, _, _, _, _, _, _, rfl, hr, k0, k1, k2, k3, k4, fun _ => rfl, k6, k7, k8, k9, kd, ke, kf⟩
    · intro dn a p hdn ha ⟨g0, g1, u6, u7, u18, u19, u20, u21, u22, u23, u24, u25, e, hr, k0, k1, k2, k3, k4, k5, k6, k7, k8, k9, kd, ke, kf⟩
      subst e
      obtain rfl := k4 (ha 4 (by kernel_rfl))
      obtain rfl := k5 (ha 5 (by kernel_rfl))
      refine opV_run (v := .pointer (some ⟨b1, o1 + j * 16, none⟩)) (p := p) _ (by simp only [List.getElem?_toArray, List.getElem?_cons_succ, List.getElem?_cons_zero]; rfl) rfl ((by unfold execOp; simp [go_sem, hj1, hn1])) ?_
      unfold RegI
      simp only [also_self, also_ne dn (show (0 : Nat) ≠ 6 by decide), also_ne dn (show (1 : Nat) ≠ 6 by decide), also_ne dn (show (2 : Nat) ≠ 6 by decide), also_ne dn (show (3 : Nat) ≠ 6 by decide), also_ne dn (show (4 : Nat) ≠ 6 by decide), also_ne dn (show (5 : Nat) ≠ 6 by decide), also_ne dn (show (7 : Nat) ≠ 6 by decide), also_ne dn (show (8 : Nat) ≠ 6 by decide), also_ne dn (show (9 : Nat) ≠ 6 by decide), also_ne dn (show (10 : Nat) ≠ 6 by decide), also_ne dn (show (11 : Nat) ≠ 6 by decide)]
      exact ⟨g0, g1, _, _, _, _, _, _, _, _, _, _, rfl, hr, k0, k1, k2, k3, fun _ => rfl, fun _ => rfl, fun _ => rfl, k7, k8, k9, kd, ke, kf⟩
    · intro dn a p hdn ha ⟨g0, g1, u6, u7, u18, u19, u20, u21, u22, u23, u24, u25, e, hr, k0, k1, k2, k3, k4, k5, k6, k7, k8, k9, kd, ke, kf⟩
      subst e
      obtain rfl := k6 (ha 6 (by kernel_rfl))
      refine opV_run (v := .agg #[.int .i64 y.kind, .int .i64 y.n, .int .i64 y.i, .int .i64 y.at_, .int .i64 y.by_, .string y.name, .slice eo en ec, .int .i64 y.p0, .int .i64 y.p1, .int .i64 y.p2, .int .i64 y.p3, .int .i64 y.p4, .int .i64 y.p5, .int .i64 y.kept, .int .i64 y.torn, .int .u64 y.scat]) (p := p) _ (by simp only [List.getElem?_toArray, List.getElem?_cons_succ, List.getElem?_cons_zero]; rfl) rfl (run_load_row (.tmp 24) rfl b1 (o1 + j * 16) #[.int .i64 y.kind, .int .i64 y.n, .int .i64 y.i, .int .i64 y.at_, .int .i64 y.by_, .string y.name, .slice eo en ec, .int .i64 y.p0, .int .i64 y.p1, .int .i64 y.p2, .int .i64 y.p3, .int .i64 y.p4, .int .i64 y.p5, .int .i64 y.kept, .int .i64 y.torn, .int .u64 y.scat] _ rfl (fun j v hj => hr.cell (H1.out j v hj)) Try.underlying44 rfl (by kernel_rfl)) ?_
      unfold RegI
      simp only [also_self, also_ne dn (show (0 : Nat) ≠ 7 by decide), also_ne dn (show (1 : Nat) ≠ 7 by decide), also_ne dn (show (2 : Nat) ≠ 7 by decide), also_ne dn (show (3 : Nat) ≠ 7 by decide), also_ne dn (show (4 : Nat) ≠ 7 by decide), also_ne dn (show (5 : Nat) ≠ 7 by decide), also_ne dn (show (6 : Nat) ≠ 7 by decide), also_ne dn (show (8 : Nat) ≠ 7 by decide), also_ne dn (show (9 : Nat) ≠ 7 by decide), also_ne dn (show (10 : Nat) ≠ 7 by decide), also_ne dn (show (11 : Nat) ≠ 7 by decide)]
      exact ⟨g0, g1, _, _, _, _, _, _, _, _, _, _, rfl, hr, k0, k1, k2, k3, k4, k5, fun _ => rfl, fun _ => rfl, k8, k9, kd, ke, kf⟩
    · intro dn a p hdn ha ⟨g0, g1, u6, u7, u18, u19, u20, u21, u22, u23, u24, u25, e, hr, k0, k1, k2, k3, k4, k5, k6, k7, k8, k9, kd, ke, kf⟩
      subst e
      refine opV_run (v := .pointer (some ⟨p.heap.size, 0, none⟩)) (p := p.alloc (.cells #[.int .i64 0, .int .i64 0, .int .i64 0, .int .i64 0, .int .i64 0, .string ⟨#[]⟩, .slice none 0 0, .int .i64 0, .int .i64 0, .int .i64 0, .int .i64 0, .int .i64 0, .int .i64 0, .int .i64 0, .int .i64 0, .int .u64 0] 44)) _ (by simp only [List.getElem?_toArray, List.getElem?_cons_succ, List.getElem?_cons_zero]; rfl) rfl (by kernel_rfl) ?_
      unfold RegI
      simp only [also_self, also_ne dn (show (0 : Nat) ≠ 8 by decide), also_ne dn (show (1 : Nat) ≠ 8 by decide), also_ne dn (show (2 : Nat) ≠ 8 by decide), also_ne dn (show (3 : Nat) ≠ 8 by decide), also_ne dn (show (4 : Nat) ≠ 8 by decide), also_ne dn (show (5 : Nat) ≠ 8 by decide), also_ne dn (show (6 : Nat) ≠ 8 by decide), also_ne dn (show (7 : Nat) ≠ 8 by decide), also_ne dn (show (9 : Nat) ≠ 8 by decide), also_ne dn (show (10 : Nat) ≠ 8 by decide), also_ne dn (show (11 : Nat) ≠ 8 by decide)]
      exact ⟨p.heap.size, g1, _, _, _, _, _, _, _, _, _, _, rfl, hr.trans (RN.of_fr (Fr.alloc (S := []) p _)), k0, k1, k2, k3, k4, k5, k6, k7, fun _ => ⟨rfl, hr.size, _, rfl, At.new rfl, fun h => absurd hdn (by simp [(ke h)])⟩, fun h => by
        obtain ⟨e1, e2, c, e3, e4, e5⟩ := k9 h
        exact ⟨e1, e2, c, e3, e4.al, e5⟩, fun _ h => by
        obtain ⟨e1, e2, c, e3, e4, e5⟩ := k9 h
        have := e4.lt
        omega, fun h => absurd hdn (by simp [ke h]), fun h => absurd hdn (by simp [kf h])⟩
    · intro dn a p hdn ha ⟨g0, g1, u6, u7, u18, u19, u20, u21, u22, u23, u24, u25, e, hr, k0, k1, k2, k3, k4, k5, k6, k7, k8, k9, kd, ke, kf⟩
      subst e
      refine opV_run (v := .pointer (some ⟨p.heap.size, 0, none⟩)) (p := p.alloc (.cells #[.int .i64 0, .int .i64 0, .int .i64 0, .int .i64 0, .int .i64 0, .string ⟨#[]⟩, .slice none 0 0, .int .i64 0, .int .i64 0, .int .i64 0, .int .i64 0, .int .i64 0, .int .i64 0, .int .i64 0, .int .i64 0, .int .u64 0] 44)) _ (by simp only [List.getElem?_toArray, List.getElem?_cons_succ, List.getElem?_cons_zero]; rfl) rfl (by kernel_rfl) ?_
      unfold RegI
      simp only [also_self, also_ne dn (show (0 : Nat) ≠ 9 by decide), also_ne dn (show (1 : Nat) ≠ 9 by decide), also_ne dn (show (2 : Nat) ≠ 9 by decide), also_ne dn (show (3 : Nat) ≠ 9 by decide), also_ne dn (show (4 : Nat) ≠ 9 by decide), also_ne dn (show (5 : Nat) ≠ 9 by decide), also_ne dn (show (6 : Nat) ≠ 9 by decide), also_ne dn (show (7 : Nat) ≠ 9 by decide), also_ne dn (show (8 : Nat) ≠ 9 by decide), also_ne dn (show (10 : Nat) ≠ 9 by decide), also_ne dn (show (11 : Nat) ≠ 9 by decide)]
      exact ⟨g0, p.heap.size, _, _, _, _, _, _, _, _, _, _, rfl, hr.trans (RN.of_fr (Fr.alloc (S := []) p _)), k0, k1, k2, k3, k4, k5, k6, k7, fun h => by
        obtain ⟨e1, e2, c, e3, e4, e5⟩ := k8 h
        exact ⟨e1, e2, c, e3, e4.al, e5⟩, fun _ => ⟨rfl, hr.size, _, rfl, At.new rfl, fun h => absurd hdn (by simp [(kf h)])⟩, fun h _ => by
        obtain ⟨e1, e2, c, e3, e4, e5⟩ := k8 h
        have := e4.lt
        omega, fun h => absurd hdn (by simp [ke h]), fun h => absurd hdn (by simp [kf h])⟩
    · intro dn a p hdn ha ⟨g0, g1, u6, u7, u18, u19, u20, u21, u22, u23, u24, u25, e, hr, k0, k1, k2, k3, k4, k5, k6, k7, k8, k9, kd, ke, kf⟩
      subst e
      obtain rfl := k3 (ha 3 (by kernel_rfl))
      have d8 := ha 8 (by kernel_rfl)
      have d9 := ha 9 (by kernel_rfl)
      obtain ⟨rfl, l8, cc8, s8, a8, z8⟩ := k8 d8
      obtain ⟨rfl, l9, cc9, s9, a9, z9⟩ := k9 d9
      have hne := kd d8 d9
      refine opV_of_wpl (K := RegI w b0 o0 n0 cap0 b1 o1 n1 cap1 j #[.int .i64 x.kind, .int .i64 x.n, .int .i64 x.i, .int .i64 x.at_, .int .i64 x.by_, .string x.name, .slice ao an ac, .int .i64 x.p0, .int .i64 x.p1, .int .i64 x.p2, .int .i64 x.p3, .int .i64 x.p4, .int .i64 x.p5, .int .i64 x.kept, .int .i64 x.torn, .int .u64 x.scat] #[.int .i64 y.kind, .int .i64 y.n, .int .i64 y.i, .int .i64 y.at_, .int .i64 y.by_, .string y.name, .slice eo en ec, .int .i64 y.p0, .int .i64 y.p1, .int .i64 y.p2, .int .i64 y.p3, .int .i64 y.p4, .int .i64 y.p5, .int .i64 y.kept, .int .i64 y.torn, .int .u64 y.scat] c2 c3 c4 c8 c9 c10 c11 c12 c13 c14 c15 c16 c17 c26 c27 c28 c29 c30 c31 c32 c33 c34 c35 c36 c37 c38 c39 c40 c41 c42 c43 c44 c45 c46 c47 c48 c49 c50 c51 c52 c53 c54 c55 c56 c57 c58 c59 c60 c61 c62 c63 c64 c65 c66 c67 c68 c69 c70 c71 c72 c73 c74 c75 c76 c77 c78 c79 c80 c81 c82 c83 c84 c85 c86 c87 c88 c89 c90 c91 c92 c93 c94 c95 c96 c97 c98 c99 c100 c101 c102 c103 (also dn 10)) _ (by simp only [List.getElem?_toArray, List.getElem?_cons_succ, List.getElem?_cons_zero]; rfl) ?_
      refine wpl_store_whole (.tmp 6) (.tmp 21) rfl rfl #[.int .i64 x.kind, .int .i64 x.n, .int .i64 x.i, .int .i64 x.at_, .int .i64 x.by_, .string x.name, .slice ao an ac, .int .i64 x.p0, .int .i64 x.p1, .int .i64 x.p2, .int .i64 x.p3, .int .i64 x.p4, .int .i64 x.p5, .int .i64 x.kept, .int .i64 x.torn, .int .u64 x.scat] rfl rfl (by kernel_rfl) a8 (by rw [s8]; rfl) (by simp [Value.oneCell']) ?_
      intro p1 f1 a1 _
      refine ⟨rfl, rfl, ?_⟩
      unfold RegI
      simp only [also_self, also_ne dn (show (0 : Nat) ≠ 10 by decide), also_ne dn (show (1 : Nat) ≠ 10 by decide), also_ne dn (show (2 : Nat) ≠ 10 by decide), also_ne dn (show (3 : Nat) ≠ 10 by decide), also_ne dn (show (4 : Nat) ≠ 10 by decide), also_ne dn (show (5 : Nat) ≠ 10 by decide), also_ne dn (show (6 : Nat) ≠ 10 by decide), also_ne dn (show (7 : Nat) ≠ 10 by decide), also_ne dn (show (8 : Nat) ≠ 10 by decide), also_ne dn (show (9 : Nat) ≠ 10 by decide), also_ne dn (show (11 : Nat) ≠ 10 by decide)]
      exact ⟨g0, g1, _, _, _, _, _, _, _, _, _, _, rfl, hr.trans (RN.of_store f1 l8 a8 a1 (by rw [s8]; rfl)), k0, k1, k2, fun _ => rfl, k4, k5, k6, k7, fun _ => ⟨rfl, l8, _, rfl, a1, fun _ => rfl⟩, fun _ => ⟨rfl, l9, cc9, s9, a9.keep f1 (by simp; omega), z9⟩, fun _ _ => hne, fun _ => ⟨d8, d9⟩, fun _ => ⟨d8, d9, trivial⟩⟩
    · intro dn a p hdn ha ⟨g0, g1, u6, u7, u18, u19, u20, u21, u22, u23, u24, u25, e, hr, k0, k1, k2, k3, k4, k5, k6, k7, k8, k9, kd, ke, kf⟩
      subst e
      obtain rfl := k7 (ha 7 (by kernel_rfl))
      have d8 := ha 8 (by kernel_rfl)
      have d9 := ha 9 (by kernel_rfl)
      obtain ⟨rfl, l8, cc8, s8, a8, z8⟩ := k8 d8
      obtain ⟨rfl, l9, cc9, s9, a9, z9⟩ := k9 d9
      have hne := kd d8 d9
      refine opV_of_wpl (K := RegI w b0 o0 n0 cap0 b1 o1 n1 cap1 j #[.int .i64 x.kind, .int .i64 x.n, .int .i64 x.i, .int .i64 x.at_, .int .i64 x.by_, .string x.name, .slice ao an ac, .int .i64 x.p0, .int .i64 x.p1, .int .i64 x.p2, .int .i64 x.p3, .int .i64 x.p4, .int .i64 x.p5, .int .i64 x.kept, .int .i64 x.torn, .int .u64 x.scat] #[.int .i64 y.kind, .int .i64 y.n, .int .i64 y.i, .int .i64 y.at_, .int .i64 y.by_, .string y.name, .slice eo en ec, .int .i64 y.p0, .int .i64 y.p1, .int .i64 y.p2, .int .i64 y.p3, .int .i64 y.p4, .int .i64 y.p5, .int .i64 y.kept, .int .i64 y.torn, .int .u64 y.scat] c2 c3 c4 c8 c9 c10 c11 c12 c13 c14 c15 c16 c17 c26 c27 c28 c29 c30 c31 c32 c33 c34 c35 c36 c37 c38 c39 c40 c41 c42 c43 c44 c45 c46 c47 c48 c49 c50 c51 c52 c53 c54 c55 c56 c57 c58 c59 c60 c61 c62 c63 c64 c65 c66 c67 c68 c69 c70 c71 c72 c73 c74 c75 c76 c77 c78 c79 c80 c81 c82 c83 c84 c85 c86 c87 c88 c89 c90 c91 c92 c93 c94 c95 c96 c97 c98 c99 c100 c101 c102 c103 (also dn 11)) _ (by simp only [List.getElem?_toArray, List.getElem?_cons_succ, List.getElem?_cons_zero]; rfl) ?_
      refine wpl_store_whole (.tmp 7) (.tmp 25) rfl rfl #[.int .i64 y.kind, .int .i64 y.n, .int .i64 y.i, .int .i64 y.at_, .int .i64 y.by_, .string y.name, .slice eo en ec, .int .i64 y.p0, .int .i64 y.p1, .int .i64 y.p2, .int .i64 y.p3, .int .i64 y.p4, .int .i64 y.p5, .int .i64 y.kept, .int .i64 y.torn, .int .u64 y.scat] rfl rfl (by kernel_rfl) a9 (by rw [s9]; rfl) (by simp [Value.oneCell']) ?_
      intro p1 f1 a1 _
      refine ⟨rfl, rfl, ?_⟩
      unfold RegI
      simp only [also_self, also_ne dn (show (0 : Nat) ≠ 11 by decide), also_ne dn (show (1 : Nat) ≠ 11 by decide), also_ne dn (show (2 : Nat) ≠ 11 by decide), also_ne dn (show (3 : Nat) ≠ 11 by decide), also_ne dn (show (4 : Nat) ≠ 11 by decide), also_ne dn (show (5 : Nat) ≠ 11 by decide), also_ne dn (show (6 : Nat) ≠ 11 by decide), also_ne dn (show (7 : Nat) ≠ 11 by decide), also_ne dn (show (8 : Nat) ≠ 11 by decide), also_ne dn (show (9 : Nat) ≠ 11 by decide), also_ne dn (show (10 : Nat) ≠ 11 by decide)]
      exact ⟨g0, g1, _, _, _, _, _, _, _, _, _, _, rfl, hr.trans (RN.of_store f1 l9 a9 a1 (by rw [s9]; rfl)), k0, k1, k2, k3, k4, k5, k6, fun _ => rfl, fun _ => ⟨rfl, l8, cc8, s8, a8.keep f1 (by simp; omega), z8⟩, fun _ => ⟨rfl, l9, _, rfl, a1, fun _ => rfl⟩, fun _ _ => hne, ke, fun _ => ⟨d8, d9, ha 10 (by kernel_rfl)⟩⟩
  · intro dn a p hall ⟨g0, g1, u6, u7, u18, u19, u20, u21, u22, u23, u24, u25, e, hr, k0, k1, k2, k3, k4, k5, k6, k7, k8, k9, kd, ke, kf⟩
    subst e
    obtain ⟨rfl, l8, cc8, s8, a8, z8⟩ := k8 (hall 8 (by decide))
    obtain ⟨rfl, l9, cc9, s9, a9, z9⟩ := k9 (hall 9 (by decide))
    obtain rfl := z8 (hall 10 (by decide))
    obtain rfl := z9 (hall 11 (by decide))
    exact HQ.out g0 g1 _ _ _ _ _ _ _ _ p hr.fr (kd (hall 8 (by decide)) (hall 9 (by decide))) a8 a9
end Go.Proofs.Ytbohmnblegljkaa
