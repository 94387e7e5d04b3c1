/-
  Layer 31: script.Same: its drawn region. (printed by genssm.py)
-/
import Derived.Test.YtbohmnblegljkaaSam
namespace Go.Proofs.Ytbohmnblegljkaa
open Go.RowKit Go.Bl
set_option linter.unusedVariables false

noncomputable def ssameReg : Code := ((Try.f13.body.bind (findRegion 1)).getD .skip)
set_option maxRecDepth 1000000 in
def RegS (w : World) (r2 r3 : Nat) (X Y : Array Value) (c0 c1 c4 c7 c10 c11 c12 c13 c14 c15 c16 c17 c18 c19 c20 c21 c22 c23 c24 c25 c26 c27 c28 c29 c30 c31 c32 c33 c34 c35 c36 c37 c38 c39 c40 c41 c42 c43 c44 c45 c46 c47 c48 c49 c50 c51 c52 c53 c54 c55 c56 c57 c58 c59 c60 c61 c62 c63 : Value) (dn : Nat → Bool) (a : Go.Act) (p : World) : Prop :=
  ∃ (g0 g1 : Nat) (u5 u6 u8 u9 : Value), a = ⟨(c0 :: c1 :: .pointer (some ⟨r2, 0, none⟩) :: .pointer (some ⟨r3, 0, none⟩) :: c4 :: u5 :: u6 :: c7 :: u8 :: u9 :: c10 :: c11 :: c12 :: c13 :: c14 :: c15 :: c16 :: c17 :: c18 :: c19 :: c20 :: c21 :: c22 :: c23 :: c24 :: c25 :: c26 :: c27 :: c28 :: c29 :: c30 :: c31 :: c32 :: c33 :: c34 :: c35 :: c36 :: c37 :: c38 :: c39 :: c40 :: c41 :: c42 :: c43 :: c44 :: c45 :: c46 :: c47 :: c48 :: c49 :: c50 :: c51 :: c52 :: c53 :: c54 :: c55 :: c56 :: c57 :: c58 :: c59 :: c60 :: c61 :: c62 :: c63 :: []).toArray, []⟩ ∧ RN w.heap.size w p ∧ (dn 0 = true → u8 = .agg X) ∧ (dn 1 = true → u9 = .agg Y) ∧
    (dn 2 = true → u5 = .pointer (some ⟨g0, 0, none⟩) ∧ w.heap.size ≤ g0 ∧ ∃ c : Array Value, c.size = 16 ∧ At p g0 (.cells c 39) ∧ (dn 4 = true → c = X)) ∧ (dn 3 = true → u6 = .pointer (some ⟨g1, 0, none⟩) ∧ w.heap.size ≤ g1 ∧ ∃ c : Array Value, c.size = 16 ∧ At p g1 (.cells c 39) ∧ (dn 5 = true → c = Y)) ∧
    (dn 2 = true → dn 3 = true → g0 ≠ g1) ∧ (dn 4 = true → dn 2 = true ∧ dn 3 = true) ∧ (dn 5 = true → dn 2 = true ∧ dn 3 = true ∧ dn 4 = true)

set_option maxRecDepth 1000000 in
set_option maxHeartbeats 8000000 in
theorem ssame_reg (w : World) (r2 r3 : Nat) (X Y : Array Value) (c0 c1 c4 c7 c10 c11 c12 c13 c14 c15 c16 c17 c18 c19 c20 c21 c22 c23 c24 c25 c26 c27 c28 c29 c30 c31 c32 c33 c34 c35 c36 c37 c38 c39 c40 c41 c42 c43 c44 c45 c46 c47 c48 c49 c50 c51 c52 c53 c54 c55 c56 c57 c58 c59 c60 c61 c62 c63 u5 u6 u8 u9 : Value) (Q : Exit → Go.Act → World → Prop)
    (sX : X.size = 16) (sY : Y.size = 16) (oX : X.all (·.oneCell') = true) (oY : Y.all (·.oneCell') = true) (h0 : At w r2 (.cells X 39)) (h1 : At w r3 (.cells Y 39))
    (hQ : ∀ (g0 g1 : Nat) (xu8 xu9 : Value) (w' : World), Fr [] w w' → w.heap.size ≤ g0 → w.heap.size ≤ g1 → g0 ≠ g1 → At w' g0 (.cells X 39) → At w' g1 (.cells Y 39) → Q .normal ⟨(c0 :: c1 :: .pointer (some ⟨r2, 0, none⟩) :: .pointer (some ⟨r3, 0, none⟩) :: c4 :: .pointer (some ⟨g0, 0, none⟩) :: .pointer (some ⟨g1, 0, none⟩) :: c7 :: xu8 :: xu9 :: c10 :: c11 :: c12 :: c13 :: c14 :: c15 :: c16 :: c17 :: c18 :: c19 :: c20 :: c21 :: c22 :: c23 :: c24 :: c25 :: c26 :: c27 :: c28 :: c29 :: c30 :: c31 :: c32 :: c33 :: c34 :: c35 :: c36 :: c37 :: c38 :: c39 :: c40 :: c41 :: c42 :: c43 :: c44 :: c45 :: c46 :: c47 :: c48 :: c49 :: c50 :: c51 :: c52 :: c53 :: c54 :: c55 :: c56 :: c57 :: c58 :: c59 :: c60 :: c61 :: c62 :: c63 :: []).toArray, []⟩ w') :
    Code.wp Try.prog ssameReg Q ⟨(c0 :: c1 :: .pointer (some ⟨r2, 0, none⟩) :: .pointer (some ⟨r3, 0, none⟩) :: c4 :: u5 :: u6 :: c7 :: u8 :: u9 :: c10 :: c11 :: c12 :: c13 :: c14 :: c15 :: c16 :: c17 :: c18 :: c19 :: c20 :: c21 :: c22 :: c23 :: c24 :: c25 :: c26 :: c27 :: c28 :: c29 :: c30 :: c31 :: c32 :: c33 :: c34 :: c35 :: c36 :: c37 :: c38 :: c39 :: c40 :: c41 :: c42 :: c43 :: c44 :: c45 :: c46 :: c47 :: c48 :: c49 :: c50 :: c51 :: c52 :: c53 :: c54 :: c55 :: c56 :: c57 :: c58 :: c59 :: c60 :: c61 :: c62 :: c63 :: []).toArray, []⟩ w := by
  have H0 := Lib.hid h0
  have H1 := Lib.hid h1
  have HQ := Lib.hid hQ
  have rX : w.rangeAt r2 0 X.toList := fun j v hj => by rw [Nat.zero_add, h0.cell]; simpa using hj
  have rY : w.rangeAt r3 0 Y.toList := fun j v hj => by rw [Nat.zero_add, h1.cell]; simpa using hj
  have iX : (Try.prog.info? 39).map (·.size) = some X.size := by rw [sX]; kernel_rfl
  have iY : (Try.prog.info? 39).map (·.size) = some Y.size := by rw [sY]; kernel_rfl
  clear h0 h1 hQ
  conv => arg 2; whnf
  refine wp_region_inv (RegS w r2 r3 X Y c0 c1 c4 c7 c10 c11 c12 c13 c14 c15 c16 c17 c18 c19 c20 c21 c22 c23 c24 c25 c26 c27 c28 c29 c30 c31 c32 c33 c34 c35 c36 c37 c38 c39 c40 c41 c42 c43 c44 c45 c46 c47 c48 c49 c50 c51 c52 c53 c54 c55 c56 c57 c58 c59 c60 c61 c62 c63) (by kernel_rfl) (by kernel_rfl) ?_ ?_ ?_
  · intro w1 hw1
    exact ⟨0, 0, _, _, _, _, rfl, RN.of_fr hw1, (fun h => by cases h), (fun h => by cases h), (fun h => by cases h), (fun h => by cases h), (fun h => by cases h), (fun h => by cases h), (fun h => by cases h)⟩
  · intro i hi
    have hi : i < 6 := hi
    have hc : i = 0 ∨ i = 1 ∨ i = 2 ∨ i = 3 ∨ i = 4 ∨ i = 5 := by omega
    clear hi
    rcases hc with rfl | rfl | rfl | rfl | rfl | rfl
    · intro dn a p hdn ha ⟨g0, g1, u5, u6, u8, u9, e, hr, k0, k1, k2, k3, kd, ke, kf⟩
      subst e
      refine opV_run (v := .agg X) (p := p) _ (by simp only [List.getElem?_toArray, List.getElem?_cons_succ, List.getElem?_cons_zero]; rfl) rfl (run_load_row (.tmp 2) rfl r2 0 X _ rfl (fun j v hj => hr.cell (rX j v hj)) Try.underlying39 rfl iX) ?_
      unfold RegS
      simp only [also_self, also_ne dn (show (1 : Nat) ≠ 0 by decide), also_ne dn (show (2 : Nat) ≠ 0 by decide), also_ne dn (show (3 : Nat) ≠ 0 by decide), also_ne dn (show (4 : Nat) ≠ 0 by decide), also_ne dn (show (5 : Nat) ≠ 0 by decide)]
      exact ⟨g0, g1, _, _, _, _, rfl, hr, fun _ => rfl, k1, k2, k3, kd, ke, kf⟩
    · intro dn a p hdn ha ⟨g0, g1, u5, u6, u8, u9, e, hr, k0, k1, k2, k3, kd, ke, kf⟩
      subst e
      refine opV_run (v := .agg Y) (p := p) _ (by simp only [List.getElem?_toArray, List.getElem?_cons_succ, List.getElem?_cons_zero]; rfl) rfl (run_load_row (.tmp 3) rfl r3 0 Y _ rfl (fun j v hj => hr.cell (rY j v hj)) Try.underlying39 rfl iY) ?_
      unfold RegS
      simp only [also_self, also_ne dn (show (0 : Nat) ≠ 1 by decide), also_ne dn (show (2 : Nat) ≠ 1 by decide), also_ne dn (show (3 : Nat) ≠ 1 by decide), also_ne dn (show (4 : Nat) ≠ 1 by decide), also_ne dn (show (5 : Nat) ≠ 1 by decide)]
      exact ⟨g0, g1, _, _, _, _, rfl, hr, k0, fun _ => rfl, k2, k3, kd, ke, kf⟩
    · intro dn a p hdn ha ⟨g0, g1, u5, u6, u8, u9, e, hr, k0, k1, k2, k3, kd, ke, kf⟩
      subst e
      refine opV_run (v := .pointer (some ⟨p.heap.size, 0, none⟩)) (p := p.alloc (.cells #[.int .i64 0, .int .i64 0, .int .i64 0, .int .i64 0, .int .i64 0, .string ⟨#[]⟩, .slice none 0 0, .int .i64 0, .int .i64 0, .int .i64 0, .int .i64 0, .int .i64 0, .int .i64 0, .int .i64 0, .int .i64 0, .int .u64 0] 39)) _ (by simp only [List.getElem?_toArray, List.getElem?_cons_succ, List.getElem?_cons_zero]; rfl) rfl (by kernel_rfl) ?_
      unfold RegS
      simp only [also_self, also_ne dn (show (0 : Nat) ≠ 2 by decide), also_ne dn (show (1 : Nat) ≠ 2 by decide), also_ne dn (show (3 : Nat) ≠ 2 by decide), also_ne dn (show (4 : Nat) ≠ 2 by decide), also_ne dn (show (5 : Nat) ≠ 2 by decide)]
      exact ⟨p.heap.size, g1, _, _, _, _, rfl, hr.trans (RN.of_fr (Fr.alloc (S := []) p _)), k0, k1, fun _ => ⟨rfl, hr.size, _, rfl, At.new rfl, fun h => absurd hdn (by simp [(ke h)])⟩, fun h => by
        obtain ⟨e1, e2, c, e3, e4, e5⟩ := k3 h
        exact ⟨e1, e2, c, e3, e4.al, e5⟩, fun _ h => by
        obtain ⟨e1, e2, c, e3, e4, e5⟩ := k3 h
        have := e4.lt
        omega, fun h => absurd hdn (by simp [ke h]), fun h => absurd hdn (by simp [kf h])⟩
    · intro dn a p hdn ha ⟨g0, g1, u5, u6, u8, u9, e, hr, k0, k1, k2, k3, kd, ke, kf⟩
      subst e
      refine opV_run (v := .pointer (some ⟨p.heap.size, 0, none⟩)) (p := p.alloc (.cells #[.int .i64 0, .int .i64 0, .int .i64 0, .int .i64 0, .int .i64 0, .string ⟨#[]⟩, .slice none 0 0, .int .i64 0, .int .i64 0, .int .i64 0, .int .i64 0, .int .i64 0, .int .i64 0, .int .i64 0, .int .i64 0, .int .u64 0] 39)) _ (by simp only [List.getElem?_toArray, List.getElem?_cons_succ, List.getElem?_cons_zero]; rfl) rfl (by kernel_rfl) ?_
      unfold RegS
      simp only [also_self, also_ne dn (show (0 : Nat) ≠ 3 by decide), also_ne dn (show (1 : Nat) ≠ 3 by decide), also_ne dn (show (2 : Nat) ≠ 3 by decide), also_ne dn (show (4 : Nat) ≠ 3 by decide), also_ne dn (show (5 : Nat) ≠ 3 by decide)]
      exact ⟨g0, p.heap.size, _, _, _, _, rfl, hr.trans (RN.of_fr (Fr.alloc (S := []) p _)), k0, k1, fun h => by
        obtain ⟨e1, e2, c, e3, e4, e5⟩ := k2 h
        exact ⟨e1, e2, c, e3, e4.al, e5⟩, fun _ => ⟨rfl, hr.size, _, rfl, At.new rfl, fun h => absurd hdn (by simp [(kf h)])⟩, fun h _ => by
        obtain ⟨e1, e2, c, e3, e4, e5⟩ := k2 h
        have := e4.lt
        omega, fun h => absurd hdn (by simp [ke h]), fun h => absurd hdn (by simp [kf h])⟩
    · intro dn a p hdn ha ⟨g0, g1, u5, u6, u8, u9, e, hr, k0, k1, k2, k3, kd, ke, kf⟩
      subst e
      obtain rfl := k0 (ha 0 (by kernel_rfl))
      have d2 := ha 2 (by kernel_rfl)
      have d3 := ha 3 (by kernel_rfl)
      obtain ⟨rfl, l2, cc2, s2, a2, z2⟩ := k2 d2
      obtain ⟨rfl, l3, cc3, s3, a3, z3⟩ := k3 d3
      have hne := kd d2 d3
      refine opV_of_wpl (K := RegS w r2 r3 X Y c0 c1 c4 c7 c10 c11 c12 c13 c14 c15 c16 c17 c18 c19 c20 c21 c22 c23 c24 c25 c26 c27 c28 c29 c30 c31 c32 c33 c34 c35 c36 c37 c38 c39 c40 c41 c42 c43 c44 c45 c46 c47 c48 c49 c50 c51 c52 c53 c54 c55 c56 c57 c58 c59 c60 c61 c62 c63 (also dn 4)) _ (by simp only [List.getElem?_toArray, List.getElem?_cons_succ, List.getElem?_cons_zero]; rfl) ?_
      refine wpl_store_whole (.tmp 5) (.tmp 8) rfl rfl X rfl rfl iX a2 (by rw [s2, sX]) oX ?_
      intro p1 f1 a1 _
      refine ⟨rfl, rfl, ?_⟩
      unfold RegS
      simp only [also_self, also_ne dn (show (0 : Nat) ≠ 4 by decide), also_ne dn (show (1 : Nat) ≠ 4 by decide), also_ne dn (show (2 : Nat) ≠ 4 by decide), also_ne dn (show (3 : Nat) ≠ 4 by decide), also_ne dn (show (5 : Nat) ≠ 4 by decide)]
      exact ⟨g0, g1, _, _, _, _, rfl, hr.trans (RN.of_store f1 l2 a2 a1 (by rw [s2, sX])), fun _ => rfl, k1, fun _ => ⟨rfl, l2, _, sX, a1, fun _ => rfl⟩, fun _ => ⟨rfl, l3, cc3, s3, a3.keep f1 (by simp; omega), z3⟩, fun _ _ => hne, fun _ => ⟨d2, d3⟩, fun _ => ⟨d2, d3, trivial⟩⟩
    · intro dn a p hdn ha ⟨g0, g1, u5, u6, u8, u9, e, hr, k0, k1, k2, k3, kd, ke, kf⟩
      subst e
      obtain rfl := k1 (ha 1 (by kernel_rfl))
      have d2 := ha 2 (by kernel_rfl)
      have d3 := ha 3 (by kernel_rfl)
      obtain ⟨rfl, l2, cc2, s2, a2, z2⟩ := k2 d2
      obtain ⟨rfl, l3, cc3, s3, a3, z3⟩ := k3 d3
      have hne := kd d2 d3
      refine opV_of_wpl (K := RegS w r2 r3 X Y c0 c1 c4 c7 c10 c11 c12 c13 c14 c15 c16 c17 c18 c19 c20 c21 c22 c23 c24 c25 c26 c27 c28 c29 c30 c31 c32 c33 c34 c35 c36 c37 c38 c39 c40 c41 c42 c43 c44 c45 c46 c47 c48 c49 c50 c51 c52 c53 c54 c55 c56 c57 c58 c59 c60 c61 c62 c63 (also dn 5)) _ (by simp only [List.getElem?_toArray, List.getElem?_cons_succ, List.getElem?_cons_zero]; rfl) ?_
      refine wpl_store_whole (.tmp 6) (.tmp 9) rfl rfl Y rfl rfl iY a3 (by rw [s3, sY]) oY ?_
      intro p1 f1 a1 _
      refine ⟨rfl, rfl, ?_⟩
      unfold RegS
      simp only [also_self, also_ne dn (show (0 : Nat) ≠ 5 by decide), also_ne dn (show (1 : Nat) ≠ 5 by decide), also_ne dn (show (2 : Nat) ≠ 5 by decide), also_ne dn (show (3 : Nat) ≠ 5 by decide), also_ne dn (show (4 : Nat) ≠ 5 by decide)]
      exact ⟨g0, g1, _, _, _, _, rfl, hr.trans (RN.of_store f1 l3 a3 a1 (by rw [s3, sY])), k0, fun _ => rfl, fun _ => ⟨rfl, l2, cc2, s2, a2.keep f1 (by simp; omega), z2⟩, fun _ => ⟨rfl, l3, _, sY, a1, fun _ => rfl⟩, fun _ _ => hne, ke, fun _ => ⟨d2, d3, ha 4 (by kernel_rfl)⟩⟩
  · intro dn a p hall ⟨g0, g1, u5, u6, u8, u9, e, hr, k0, k1, k2, k3, kd, ke, kf⟩
    subst e
    obtain ⟨rfl, l2, cc2, s2, a2, z2⟩ := k2 (hall 2 (by decide))
    obtain ⟨rfl, l3, cc3, s3, a3, z3⟩ := k3 (hall 3 (by decide))
    obtain rfl := z2 (hall 4 (by decide))
    obtain rfl := z3 (hall 5 (by decide))
    exact HQ.out g0 g1 _ _ p hr.fr l2 l3 (kd (hall 2 (by decide)) (hall 3 (by decide))) a2 a3
end Go.Proofs.Ytbohmnblegljkaa
