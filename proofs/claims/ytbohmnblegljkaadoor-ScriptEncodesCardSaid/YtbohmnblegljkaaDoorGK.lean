/-
  Layer 31: script.Same: its drawn region. (printed by genssm.py)
  Layer 31: script.Same.
  Layer 31: when two structs of integers are equal.
  Layer 31: script.Same.
  Layer 31: script.Same, as one law.
-/
import Derived.Test.YtbohmnblegljkaaDoorHlp
import Derived.Test.YtbohmnblegljkaaDoorOf
import Derived.Laws.StructEq
import Derived.Laws.Tables
import Derived.Laws.Cover2
namespace Go.Proofs.YtbohmnblegljkaaDoor
open Go.RowKit Go.Bl
set_option linter.unusedVariables false

noncomputable def ssameReg : Code := ((Tryd.f34.body.bind (findRegion 1)).getD .skip)
set_option maxRecDepth 1000000 in
def RegS (w : World) (r2 r3 : Nat) (X Y : Array Value) (c0 c1 c4 c7 c10 c11 c12 c13 c14 c15 c16 c17 c18 c19 c20 c21 c22 c23 c24 c25 c26 c27 c28 c29 c30 c31 c32 c33 c34 c35 c36 c37 c38 c39 c40 c41 c42 c43 c44 c45 c46 c47 c48 c49 c50 c51 c52 c53 c54 c55 c56 c57 c58 c59 c60 c61 c62 c63 : Value) (dn : Nat → Bool) (a : Go.Act) (p : World) : Prop :=
  ∃ (g0 g1 : Nat) (u5 u6 u8 u9 : Value), a = ⟨(c0 :: c1 :: .pointer (some ⟨r2, 0, none⟩) :: .pointer (some ⟨r3, 0, none⟩) :: c4 :: u5 :: u6 :: c7 :: u8 :: u9 :: c10 :: c11 :: c12 :: c13 :: c14 :: c15 :: c16 :: c17 :: c18 :: c19 :: c20 :: c21 :: c22 :: c23 :: c24 :: c25 :: c26 :: c27 :: c28 :: c29 :: c30 :: c31 :: c32 :: c33 :: c34 :: c35 :: c36 :: c37 :: c38 :: c39 :: c40 :: c41 :: c42 :: c43 :: c44 :: c45 :: c46 :: c47 :: c48 :: c49 :: c50 :: c51 :: c52 :: c53 :: c54 :: c55 :: c56 :: c57 :: c58 :: c59 :: c60 :: c61 :: c62 :: c63 :: []).toArray, []⟩ ∧ RN w.heap.size w p ∧ (dn 0 = true → u8 = .agg X) ∧ (dn 1 = true → u9 = .agg Y) ∧
    (dn 2 = true → u5 = .pointer (some ⟨g0, 0, none⟩) ∧ w.heap.size ≤ g0 ∧ ∃ c : Array Value, c.size = 16 ∧ At p g0 (.cells c 71) ∧ (dn 4 = true → c = X)) ∧ (dn 3 = true → u6 = .pointer (some ⟨g1, 0, none⟩) ∧ w.heap.size ≤ g1 ∧ ∃ c : Array Value, c.size = 16 ∧ At p g1 (.cells c 71) ∧ (dn 5 = true → c = Y)) ∧
    (dn 2 = true → dn 3 = true → g0 ≠ g1) ∧ (dn 4 = true → dn 2 = true ∧ dn 3 = true) ∧ (dn 5 = true → dn 2 = true ∧ dn 3 = true ∧ dn 4 = true)

set_option maxRecDepth 1000000 in
set_option maxHeartbeats 8000000 in
theorem ssame_reg (w : World) (r2 r3 : Nat) (X Y : Array Value) (c0 c1 c4 c7 c10 c11 c12 c13 c14 c15 c16 c17 c18 c19 c20 c21 c22 c23 c24 c25 c26 c27 c28 c29 c30 c31 c32 c33 c34 c35 c36 c37 c38 c39 c40 c41 c42 c43 c44 c45 c46 c47 c48 c49 c50 c51 c52 c53 c54 c55 c56 c57 c58 c59 c60 c61 c62 c63 u5 u6 u8 u9 : Value) (Q : Exit → Go.Act → World → Prop)
    (sX : X.size = 16) (sY : Y.size = 16) (oX : X.all (·.oneCell') = true) (oY : Y.all (·.oneCell') = true) (h0 : At w r2 (.cells X 71)) (h1 : At w r3 (.cells Y 71))
    (hQ : ∀ (g0 g1 : Nat) (xu8 xu9 : Value) (w' : World), Fr [] w w' → w.heap.size ≤ g0 → w.heap.size ≤ g1 → g0 ≠ g1 → At w' g0 (.cells X 71) → At w' g1 (.cells Y 71) → Q .normal ⟨(c0 :: c1 :: .pointer (some ⟨r2, 0, none⟩) :: .pointer (some ⟨r3, 0, none⟩) :: c4 :: .pointer (some ⟨g0, 0, none⟩) :: .pointer (some ⟨g1, 0, none⟩) :: c7 :: xu8 :: xu9 :: c10 :: c11 :: c12 :: c13 :: c14 :: c15 :: c16 :: c17 :: c18 :: c19 :: c20 :: c21 :: c22 :: c23 :: c24 :: c25 :: c26 :: c27 :: c28 :: c29 :: c30 :: c31 :: c32 :: c33 :: c34 :: c35 :: c36 :: c37 :: c38 :: c39 :: c40 :: c41 :: c42 :: c43 :: c44 :: c45 :: c46 :: c47 :: c48 :: c49 :: c50 :: c51 :: c52 :: c53 :: c54 :: c55 :: c56 :: c57 :: c58 :: c59 :: c60 :: c61 :: c62 :: c63 :: []).toArray, []⟩ w') :
    Code.wp Tryd.prog ssameReg Q ⟨(c0 :: c1 :: .pointer (some ⟨r2, 0, none⟩) :: .pointer (some ⟨r3, 0, none⟩) :: c4 :: u5 :: u6 :: c7 :: u8 :: u9 :: c10 :: c11 :: c12 :: c13 :: c14 :: c15 :: c16 :: c17 :: c18 :: c19 :: c20 :: c21 :: c22 :: c23 :: c24 :: c25 :: c26 :: c27 :: c28 :: c29 :: c30 :: c31 :: c32 :: c33 :: c34 :: c35 :: c36 :: c37 :: c38 :: c39 :: c40 :: c41 :: c42 :: c43 :: c44 :: c45 :: c46 :: c47 :: c48 :: c49 :: c50 :: c51 :: c52 :: c53 :: c54 :: c55 :: c56 :: c57 :: c58 :: c59 :: c60 :: c61 :: c62 :: c63 :: []).toArray, []⟩ w := by
  have H0 := Lib.hid h0
  have H1 := Lib.hid h1
  have HQ := Lib.hid hQ
  have rX : w.rangeAt r2 0 X.toList := fun j v hj => by rw [Nat.zero_add, h0.cell]; simpa using hj
  have rY : w.rangeAt r3 0 Y.toList := fun j v hj => by rw [Nat.zero_add, h1.cell]; simpa using hj
  have iX : (Tryd.prog.info? 71).map (·.size) = some X.size := by rw [sX]; kernel_rfl
  have iY : (Tryd.prog.info? 71).map (·.size) = some Y.size := by rw [sY]; kernel_rfl
  clear h0 h1 hQ
  conv => arg 2; whnf
  refine wp_region_inv (RegS w r2 r3 X Y c0 c1 c4 c7 c10 c11 c12 c13 c14 c15 c16 c17 c18 c19 c20 c21 c22 c23 c24 c25 c26 c27 c28 c29 c30 c31 c32 c33 c34 c35 c36 c37 c38 c39 c40 c41 c42 c43 c44 c45 c46 c47 c48 c49 c50 c51 c52 c53 c54 c55 c56 c57 c58 c59 c60 c61 c62 c63) (by kernel_rfl) (by kernel_rfl) ?_ ?_ ?_
  · intro w1 hw1
    exact ⟨0, 0, _, _, _, _, rfl, RN.of_fr hw1, (fun h => by cases h), (fun h => by cases h), (fun h => by cases h), (fun h => by cases h), (fun h => by cases h), (fun h => by cases h), (fun h => by cases h)⟩
  · intro i hi
    have hi : i < 6 := hi
    have hc : i = 0 ∨ i = 1 ∨ i = 2 ∨ i = 3 ∨ i = 4 ∨ i = 5 := by omega
    clear hi
    rcases hc with rfl | rfl | rfl | rfl | rfl | rfl
    · intro dn a p hdn ha ⟨g0, g1, u5, u6, u8, u9, e, hr, k0, k1, k2, k3, kd, ke, kf⟩
      subst e
      refine opV_run (v := .agg X) (p := p) _ (by simp only [List.getElem?_toArray, List.getElem?_cons_succ, List.getElem?_cons_zero]; rfl) rfl (run_load_row (.tmp 2) rfl r2 0 X _ rfl (fun j v hj => hr.cell (rX j v hj)) Tryd.underlying71 rfl iX) ?_
      unfold RegS
      simp only [also_self, also_ne dn (show (1 : Nat) ≠ 0 by decide), also_ne dn (show (2 : Nat) ≠ 0 by decide), also_ne dn (show (3 : Nat) ≠ 0 by decide), also_ne dn (show (4 : Nat) ≠ 0 by decide), also_ne dn (show (5 : Nat) ≠ 0 by decide)]
      exact ⟨g0, g1, _, _, _, _, rfl, hr, fun _ => rfl, k1, k2, k3, kd, ke, kf⟩
    · intro dn a p hdn ha ⟨g0, g1, u5, u6, u8, u9, e, hr, k0, k1, k2, k3, kd, ke, kf⟩
      subst e
      refine opV_run (v := .agg Y) (p := p) _ (by simp only [List.getElem?_toArray, List.getElem?_cons_succ, List.getElem?_cons_zero]; rfl) rfl (run_load_row (.tmp 3) rfl r3 0 Y _ rfl (fun j v hj => hr.cell (rY j v hj)) Tryd.underlying71 rfl iY) ?_
      unfold RegS
      simp only [also_self, also_ne dn (show (0 : Nat) ≠ 1 by decide), also_ne dn (show (2 : Nat) ≠ 1 by decide), also_ne dn (show (3 : Nat) ≠ 1 by decide), also_ne dn (show (4 : Nat) ≠ 1 by decide), also_ne dn (show (5 : Nat) ≠ 1 by decide)]
      exact ⟨g0, g1, _, _, _, _, rfl, hr, k0, fun _ => rfl, k2, k3, kd, ke, kf⟩
    · intro dn a p hdn ha ⟨g0, g1, u5, u6, u8, u9, e, hr, k0, k1, k2, k3, kd, ke, kf⟩
      subst e
      refine opV_run (v := .pointer (some ⟨p.heap.size, 0, none⟩)) (p := p.alloc (.cells #[.int .i64 0, .int .i64 0, .int .i64 0, .int .i64 0, .int .i64 0, .string ⟨#[]⟩, .slice none 0 0, .int .i64 0, .int .i64 0, .int .i64 0, .int .i64 0, .int .i64 0, .int .i64 0, .int .i64 0, .int .i64 0, .int .u64 0] 71)) _ (by simp only [List.getElem?_toArray, List.getElem?_cons_succ, List.getElem?_cons_zero]; rfl) rfl (by kernel_rfl) ?_
      unfold RegS
      simp only [also_self, also_ne dn (show (0 : Nat) ≠ 2 by decide), also_ne dn (show (1 : Nat) ≠ 2 by decide), also_ne dn (show (3 : Nat) ≠ 2 by decide), also_ne dn (show (4 : Nat) ≠ 2 by decide), also_ne dn (show (5 : Nat) ≠ 2 by decide)]
      exact ⟨p.heap.size, g1, _, _, _, _, rfl, hr.trans (RN.of_fr (Fr.alloc (S := []) p _)), k0, k1, fun _ => ⟨rfl, hr.size, _, rfl, At.new rfl, fun h => absurd hdn (by simp [(ke h)])⟩, fun h => by
        obtain ⟨e1, e2, c, e3, e4, e5⟩ := k3 h
        exact ⟨e1, e2, c, e3, e4.al, e5⟩, fun _ h => by
        obtain ⟨e1, e2, c, e3, e4, e5⟩ := k3 h
        have := e4.lt
        omega, fun h => absurd hdn (by simp [ke h]), fun h => absurd hdn (by simp [kf h])⟩
    · intro dn a p hdn ha ⟨g0, g1, u5, u6, u8, u9, e, hr, k0, k1, k2, k3, kd, ke, kf⟩
      subst e
      refine opV_run (v := .pointer (some ⟨p.heap.size, 0, none⟩)) (p := p.alloc (.cells #[.int .i64 0, .int .i64 0, .int .i64 0, .int .i64 0, .int .i64 0, .string ⟨#[]⟩, .slice none 0 0, .int .i64 0, .int .i64 0, .int .i64 0, .int .i64 0, .int .i64 0, .int .i64 0, .int .i64 0, .int .i64 0, .int .u64 0] 71)) _ (by simp only [List.getElem?_toArray, List.getElem?_cons_succ, List.getElem?_cons_zero]; rfl) rfl (by kernel_rfl) ?_
      unfold RegS
      simp only [also_self, also_ne dn (show (0 : Nat) ≠ 3 by decide), also_ne dn (show (1 : Nat) ≠ 3 by decide), also_ne dn (show (2 : Nat) ≠ 3 by decide), also_ne dn (show (4 : Nat) ≠ 3 by decide), also_ne dn (show (5 : Nat) ≠ 3 by decide)]
      exact ⟨g0, p.heap.size, _, _, _, _, rfl, hr.trans (RN.of_fr (Fr.alloc (S := []) p _)), k0, k1, fun h => by
        obtain ⟨e1, e2, c, e3, e4, e5⟩ := k2 h
        exact ⟨e1, e2, c, e3, e4.al, e5⟩, fun _ => ⟨rfl, hr.size, _, rfl, At.new rfl, fun h => absurd hdn (by simp [(kf h)])⟩, fun h _ => by
        obtain ⟨e1, e2, c, e3, e4, e5⟩ := k2 h
        have := e4.lt
        omega, fun h => absurd hdn (by simp [ke h]), fun h => absurd hdn (by simp [kf h])⟩
    · intro dn a p hdn ha ⟨g0, g1, u5, u6, u8, u9, e, hr, k0, k1, k2, k3, kd, ke, kf⟩
      subst e
      obtain rfl := k0 (ha 0 (by kernel_rfl))
      have d2 := ha 2 (by kernel_rfl)
      have d3 := ha 3 (by kernel_rfl)
      obtain ⟨rfl, l2, cc2, s2, a2, z2⟩ := k2 d2
      obtain ⟨rfl, l3, cc3, s3, a3, z3⟩ := k3 d3
      have hne := kd d2 d3
      refine opV_of_wpl (K := RegS w r2 r3 X Y c0 c1 c4 c7 c10 c11 c12 c13 c14 c15 c16 c17 c18 c19 c20 c21 c22 c23 c24 c25 c26 c27 c28 c29 c30 c31 c32 c33 c34 c35 c36 c37 c38 c39 c40 c41 c42 c43 c44 c45 c46 c47 c48 c49 c50 c51 c52 c53 c54 c55 c56 c57 c58 c59 c60 c61 c62 c63 (also dn 4)) _ (by simp only [List.getElem?_toArray, List.getElem?_cons_succ, List.getElem?_cons_zero]; rfl) ?_
      refine wpl_store_whole (.tmp 5) (.tmp 8) rfl rfl X rfl rfl iX a2 (by rw [s2, sX]) oX ?_
      intro p1 f1 a1 _
      refine ⟨rfl, rfl, ?_⟩
      unfold RegS
      simp only [also_self, also_ne dn (show (0 : Nat) ≠ 4 by decide), also_ne dn (show (1 : Nat) ≠ 4 by decide), also_ne dn (show (2 : Nat) ≠ 4 by decide), also_ne dn (show (3 : Nat) ≠ 4 by decide), also_ne dn (show (5 : Nat) ≠ 4 by decide)]
      exact ⟨g0, g1, _, _, _, _, rfl, hr.trans (RN.of_store f1 l2 a2 a1 (by rw [s2, sX])), fun _ => rfl, k1, fun _ => ⟨rfl, l2, _, sX, a1, fun _ => rfl⟩, fun _ => ⟨rfl, l3, cc3, s3, a3.keep f1 (by simp; omega), z3⟩, fun _ _ => hne, fun _ => ⟨d2, d3⟩, fun _ => ⟨d2, d3, trivial⟩⟩
    · intro dn a p hdn ha ⟨g0, g1, u5, u6, u8, u9, e, hr, k0, k1, k2, k3, kd, ke, kf⟩
      subst e
      obtain rfl := k1 (ha 1 (by kernel_rfl))
      have d2 := ha 2 (by kernel_rfl)
      have d3 := ha 3 (by kernel_rfl)
      obtain ⟨rfl, l2, cc2, s2, a2, z2⟩ := k2 d2
      obtain ⟨rfl, l3, cc3, s3, a3, z3⟩ := k3 d3
      have hne := kd d2 d3
      refine opV_of_wpl (K := RegS w r2 r3 X Y c0 c1 c4 c7 c10 c11 c12 c13 c14 c15 c16 c17 c18 c19 c20 c21 c22 c23 c24 c25 c26 c27 c28 c29 c30 c31 c32 c33 c34 c35 c36 c37 c38 c39 c40 c41 c42 c43 c44 c45 c46 c47 c48 c49 c50 c51 c52 c53 c54 c55 c56 c57 c58 c59 c60 c61 c62 c63 (also dn 5)) _ (by simp only [List.getElem?_toArray, List.getElem?_cons_succ, List.getElem?_cons_zero]; rfl) ?_
      refine wpl_store_whole (.tmp 6) (.tmp 9) rfl rfl Y rfl rfl iY a3 (by rw [s3, sY]) oY ?_
      intro p1 f1 a1 _
      refine ⟨rfl, rfl, ?_⟩
      unfold RegS
      simp only [also_self, also_ne dn (show (0 : Nat) ≠ 5 by decide), also_ne dn (show (1 : Nat) ≠ 5 by decide), also_ne dn (show (2 : Nat) ≠ 5 by decide), also_ne dn (show (3 : Nat) ≠ 5 by decide), also_ne dn (show (4 : Nat) ≠ 5 by decide)]
      exact ⟨g0, g1, _, _, _, _, rfl, hr.trans (RN.of_store f1 l3 a3 a1 (by rw [s3, sY])), k0, fun _ => rfl, fun _ => ⟨rfl, l2, cc2, s2, a2.keep f1 (by simp; omega), z2⟩, fun _ => ⟨rfl, l3, _, sY, a1, fun _ => rfl⟩, fun _ _ => hne, ke, fun _ => ⟨d2, d3, ha 4 (by kernel_rfl)⟩⟩
  · intro dn a p hall ⟨g0, g1, u5, u6, u8, u9, e, hr, k0, k1, k2, k3, kd, ke, kf⟩
    subst e
    obtain ⟨rfl, l2, cc2, s2, a2, z2⟩ := k2 (hall 2 (by decide))
    obtain ⟨rfl, l3, cc3, s3, a3, z3⟩ := k3 (hall 3 (by decide))
    obtain rfl := z2 (hall 4 (by decide))
    obtain rfl := z3 (hall 5 (by decide))
    exact HQ.out g0 g1 _ _ p hr.fr l2 l3 (kd (hall 2 (by decide)) (hall 3 (by decide))) a2 a3
end Go.Proofs.YtbohmnblegljkaaDoor
namespace Go.Proofs.YtbohmnblegljkaaDoor
open Go.RowKit Go.Bl
set_option linter.unusedVariables false

theorem bytes_ne {xs ys : List UInt8} (h : xs ≠ ys) : (⟨xs.toArray⟩ : ByteArray) ≠ ⟨ys.toArray⟩ := by
  intro e
  have := congrArg (·.data.toList) e
  exact h (by simpa using this)
theorem ba_no {a b : ByteArray} (h : a ≠ b) : (a == b) = false := by
  cases hh : a == b with
  | false => rfl
  | true =>
    obtain ⟨x⟩ := a
    obtain ⟨y⟩ := b
    have h2 : (x == y) = true := hh
    exact absurd (by rw [beq_iff_eq.1 h2]) h
theorem ba_yes {a b : ByteArray} (h : a = b) : (a == b) = true := by
  subst h
  obtain ⟨x⟩ := a
  show (x == x) = true
  simp
theorem tl_no {a b : ByteArray} (h : a ≠ b) : (a.toList == b.toList) = false := by
  have := ba_no h
  simpa [beq_toListBytes] using this
theorem tl_yes {a b : ByteArray} (h : a = b) : (a.toList == b.toList) = true := by
  subst h
  simp
theorem beq_yes (A : Nat → Prop) (w : World) (u v : Value) (xs : List UInt8) (h1 : Bs A w u xs) (h2 : Bs A w v xs) :
    Calls Tryd.prog 56 #[u, v] w fun e w' => e = .returned (.bool true) ∧ Fr [] w w' := by
  have H1 := Lib.hid h1
  have H2 := Lib.hid h2
  obtain ⟨o1, n1, c1, rfl⟩ := bs_shape h1
  obtain ⟨o2, n2, c2, rfl⟩ := bs_shape h2
  clear h1 h2
  go_enter Tryd.func56, Tryd.ntmps56
  go_wp2_with (first | (refine wpl_str (src := 59) (dst := 9) Tryd.underlying59 Tryd.underlying5 Tryd.underlying9 (.tmp 5) rfl rfl rfl H1.out ?_) | (refine wpl_str (src := 59) (dst := 9) Tryd.underlying59 Tryd.underlying5 Tryd.underlying9 (.tmp 7) rfl rfl rfl H2.out ?_))
  go_ret
  exact ⟨rfl, Fr.refl _ _⟩
theorem beq_no (A : Nat → Prop) (w : World) (u v : Value) (xs ys : List UInt8) (h1 : Bs A w u xs) (h2 : Bs A w v ys) (hne : xs ≠ ys) :
    Calls Tryd.prog 56 #[u, v] w fun e w' => e = .returned (.bool false) ∧ Fr [] w w' := by
  have H1 := Lib.hid h1
  have H2 := Lib.hid h2
  obtain ⟨o1, n1, c1, rfl⟩ := bs_shape h1
  obtain ⟨o2, n2, c2, rfl⟩ := bs_shape h2
  have hb : (xs == ys) = false := by rw [beq_eq_false_iff_ne]; exact hne
  clear h1 h2
  go_enter Tryd.func56, Tryd.ntmps56
  go_wp2_with (first | (refine wpl_str (src := 59) (dst := 9) Tryd.underlying59 Tryd.underlying5 Tryd.underlying9 (.tmp 5) rfl rfl rfl H1.out ?_) | (refine wpl_str (src := 59) (dst := 9) Tryd.underlying59 Tryd.underlying5 Tryd.underlying9 (.tmp 7) rfl rfl rfl H2.out ?_))
  go_ret
  exact ⟨rfl, Fr.refl _ _⟩
end Go.Proofs.YtbohmnblegljkaaDoor
namespace Go.Proofs.YtbohmnblegljkaaDoor
open Go.RowKit Go.Bl
set_option linter.unusedVariables false

set_option maxHeartbeats 4000000 in
theorem eq_p42 (a0 a1 a2 a3 a4 a5 b0 b1 b2 b3 b4 b5 : Int) (w : World) (r : Bool) (hr : r = decide (a0 = b0 ∧ a1 = b1 ∧ a2 = b2 ∧ a3 = b3 ∧ a4 = b4 ∧ a5 = b5)) : (Op.equalIn 10000 40 (.agg #[.int .i64 a0, .int .i64 a1, .int .i64 a2, .int .i64 a3, .int .i64 a4, .int .i64 a5]) (.agg #[.int .i64 b0, .int .i64 b1, .int .i64 b2, .int .i64 b3, .int .i64 b4, .int .i64 b5])).run Tryd.prog w = .ok r w := by
  subst hr
  have hS : Tryd.prog.underlying 40 = some (.struct (Tryd.prog.fieldsOf 40)) := by kernel_rfl
  rw [show (10000 : Nat) = 9999 + 1 from rfl, run_equalIn_agg w 9999 40 _ _ hS (by kernel_rfl)]
  simp only [Program.fieldsOf, Tryd.underlying40]
  go_simp
  (repeat' split) <;> simp_all

set_option maxHeartbeats 4000000 in
theorem eq_p34 (a0 a1 a2 a3 a4 a5 b0 b1 b2 b3 b4 b5 : Int) (w : World) (r : Bool) (hr : r = decide (a0 = b0 ∧ a1 = b1 ∧ a2 = b2 ∧ a3 = b3 ∧ a4 = b4 ∧ a5 = b5)) : (Op.equalIn 10000 36 (.agg #[.int .i64 a0, .int .i64 a1, .int .i64 a2, .int .i64 a3, .int .i64 a4, .int .i64 a5]) (.agg #[.int .i64 b0, .int .i64 b1, .int .i64 b2, .int .i64 b3, .int .i64 b4, .int .i64 b5])).run Tryd.prog w = .ok r w := by
  subst hr
  have hS : Tryd.prog.underlying 36 = some (.struct (Tryd.prog.fieldsOf 36)) := by kernel_rfl
  rw [show (10000 : Nat) = 9999 + 1 from rfl, run_equalIn_agg w 9999 36 _ _ hS (by kernel_rfl)]
  simp only [Program.fieldsOf, Tryd.underlying36]
  go_simp
  (repeat' split) <;> simp_all

set_option maxHeartbeats 4000000 in
theorem eq_crash (a0 a1 a2 b0 b1 b2 : Int) (w : World) (r : Bool) (hr : r = decide (a0 = b0 ∧ a1 = b1 ∧ a2 = b2)) : (Op.equalIn 10000 69 (.agg #[.int .i64 a0, .int .i64 a1, .int .u64 a2]) (.agg #[.int .i64 b0, .int .i64 b1, .int .u64 b2])).run Tryd.prog w = .ok r w := by
  subst hr
  have hS : Tryd.prog.underlying 69 = some (.struct (Tryd.prog.fieldsOf 69)) := by kernel_rfl
  rw [show (10000 : Nat) = 9999 + 1 from rfl, run_equalIn_agg w 9999 69 _ _ hS (by kernel_rfl)]
  simp only [Program.fieldsOf, Tryd.underlying69]
  go_simp
  (repeat' split) <;> simp_all

set_option maxHeartbeats 4000000 in
theorem eq_arr (a0 a1 a2 a3 a4 b0 b1 b2 b3 b4 : Int) (w : World) (r : Bool) (hr : r = decide (a0 = b0 ∧ a1 = b1 ∧ a2 = b2 ∧ a3 = b3 ∧ a4 = b4)) : (Op.equalIn 10000 109 (.agg #[.int .i64 a0, .int .i64 a1, .int .i64 a2, .int .i64 a3, .int .i64 a4]) (.agg #[.int .i64 b0, .int .i64 b1, .int .i64 b2, .int .i64 b3, .int .i64 b4])).run Tryd.prog w = .ok r w := by
  subst hr
  rw [show (10000 : Nat) = 9999 + 1 from rfl, Op.equalIn]
  simp only [Sem.run_bind, run_underlying Tryd.underlying109, Result.andThen_ok]
  simp only [Std.Legacy.Range.forIn_eq_forIn_range', Std.Legacy.Range.size, Nat.sub_zero, Nat.add_sub_cancel, Nat.div_one, List.range'_succ, List.range'_zero, List.forIn_cons, List.forIn_nil]
  go_simp
  (repeat' split) <;> simp_all
end Go.Proofs.YtbohmnblegljkaaDoor
namespace Go.Proofs.YtbohmnblegljkaaDoor
open Go.RowKit Go.Bl
set_option linter.unusedVariables false

set_option maxRecDepth 1000000 in
set_option maxHeartbeats 8000000 in
theorem ssame_head (A : Nat → Prop) (w : World) (x y : ActP) (bx bv : Value) (hx : Bs A w bx x.bytes) (hy : Bs A w bv y.bytes) (h_head : ¬ (x.kind = y.kind ∧ x.n = y.n ∧ x.i = y.i ∧ x.at_ = y.at_ ∧ x.by_ = y.by_)) :
    Calls Tryd.prog 34 #[.agg (actC x bx), .agg (actC y bv)] w fun e w' => e = .returned (.bool false) ∧ Fr [] w w' := by
  have BX := Lib.hid hx
  have BY := Lib.hid hy
  obtain ⟨ao, an, ac, rfl⟩ := bs_shape hx
  obtain ⟨eo, en, ec, rfl⟩ := bs_shape hy
  clear hx hy
  have HA := Lib.hid (show At ((w.alloc (actO x (.slice ao an ac) 71)).alloc (actO y (.slice eo en ec) 71)) w.heap.size (actO x (.slice ao an ac) 71) from (At.new rfl).al)
  have HB := Lib.hid (show At ((w.alloc (actO x (.slice ao an ac) 71)).alloc (actO y (.slice eo en ec) 71)) (w.heap.size + 1) (actO y (.slice eo en ec) 71) from At.new (by simp))
  have HF := Lib.hid (show Fr [] w ((w.alloc (actO x (.slice ao an ac) 71)).alloc (actO y (.slice eo en ec) 71)) from Fr.al (Fr.alloc _ _))
  have q_head := fun w => eq_arr x.kind x.n x.i x.at_ x.by_ y.kind y.n y.i y.at_ y.by_ w false (decide_eq_false h_head).symm
  clear h_head
  go_enter Tryd.func34, Tryd.ntmps34
  go_wp2_with fail
  refine ssame_reg _ w.heap.size (w.heap.size + 1) (actC x (.slice ao an ac)) (actC y (.slice eo en ec)) _ _ _ _ _ _ _ _ _ _ _ _ _ _ _ _ _ _ _ _ _ _ _ _ _ _ _ _ _ _ _ _ _ _ _ _ _ _ _ _ _ _ _ _ _ _ _ _ _ _ _ _ _ _ _ _ _ _ _ _ _ _ _ rfl rfl (by simp [actC, Value.oneCell']) (by simp [actC, Value.oneCell']) HA.out HB.out ?_
  intro g0 g1 u8 u9 w2 hf2 l0 l1 hne hA0 hA1
  have HA2 := Lib.hid (HA.out.keep0 hf2)
  have HB2 := Lib.hid (HB.out.keep0 hf2)
  have F2 := Lib.hid (HF.out.trans hf2)
  have HG0 := Lib.hid hA0
  have HG1 := Lib.hid hA1
  simp only [World.alloc, Array.size_push] at l0 l1
  replace BX := Lib.hid (BX.out.mono (A' := fun b => w.heap.size ≤ b) F2.out (by simp) (fun b h => .inr h))
  replace BY := Lib.hid (BY.out.mono (A' := fun b => w.heap.size ≤ b) F2.out (by simp) (fun b h => .inr h))
  clear hf2 hA0 hA1 HA HB HF
  go_wp2_with (refine wpl_store_one (.tmp 10) (.const (.slice none 0 0)) rfl rfl (.slice none 0 0) rfl rfl HG0.out (by simp [actC]) (by kernel_rfl) (by rfl) ?_)
  intro w3 f3 a3 _
  replace HG0 := Lib.hid (show At w3 g0 (actO x (.slice none 0 0) 71) from a3)
  replace HG1 := Lib.hid (HG1.out.keep f3 (by simp; omega))
  replace HA2 := Lib.hid (HA2.out.keep f3 (by simp; omega))
  replace HB2 := Lib.hid (HB2.out.keep f3 (by simp; omega))
  replace BX := Lib.hid (BX.out.keep f3 (by simp; omega))
  replace BY := Lib.hid (BY.out.keep f3 (by simp; omega))
  replace F2 := Lib.hid (F2.out.then f3 (by intro b hb; simp at hb; omega))
  clear f3 a3
  go_wp2_with (refine wpl_store_one (.tmp 11) (.const (.slice none 0 0)) rfl rfl (.slice none 0 0) rfl rfl HG1.out (by simp [actC]) (by kernel_rfl) (by rfl) ?_)
  intro w4 f4 a4 _
  replace HG1 := Lib.hid (show At w4 g1 (actO y (.slice none 0 0) 71) from a4)
  replace HG0 := Lib.hid (HG0.out.keep f4 (by simp; omega))
  replace HA2 := Lib.hid (HA2.out.keep f4 (by simp; omega))
  replace HB2 := Lib.hid (HB2.out.keep f4 (by simp; omega))
  replace BX := Lib.hid (BX.out.keep f4 (by simp; omega))
  replace BY := Lib.hid (BY.out.keep f4 (by simp; omega))
  replace F2 := Lib.hid (F2.out.then f4 (by intro b hb; simp at hb; omega))
  clear f4 a4
  obtain ⟨p0, p1, p2, p3, p4, p5, p6, p7, p8, p9, p10, p11, p12, p13, p14, p15⟩ := actCells HG0.out
  obtain ⟨r0, r1, r2, r3, r4, r5, r6, r7, r8, r9, r10, r11, r12, r13, r14, r15⟩ := actCells HG1.out
  have q6 := (actCells HA2.out).2.2.2.2.2.2.1
  have s6 := (actCells HB2.out).2.2.2.2.2.2.1
  go_wp2
  go_ret
  exact ⟨rfl, F2.out⟩

set_option maxRecDepth 1000000 in
set_option maxHeartbeats 8000000 in
theorem ssame_name (A : Nat → Prop) (w : World) (x y : ActP) (bx bv : Value) (hx : Bs A w bx x.bytes) (hy : Bs A w bv y.bytes) (h_head : (x.kind = y.kind ∧ x.n = y.n ∧ x.i = y.i ∧ x.at_ = y.at_ ∧ x.by_ = y.by_)) (h_name : ¬ (x.name = y.name)) :
    Calls Tryd.prog 34 #[.agg (actC x bx), .agg (actC y bv)] w fun e w' => e = .returned (.bool false) ∧ Fr [] w w' := by
  have BX := Lib.hid hx
  have BY := Lib.hid hy
  obtain ⟨ao, an, ac, rfl⟩ := bs_shape hx
  obtain ⟨eo, en, ec, rfl⟩ := bs_shape hy
  clear hx hy
  have HA := Lib.hid (show At ((w.alloc (actO x (.slice ao an ac) 71)).alloc (actO y (.slice eo en ec) 71)) w.heap.size (actO x (.slice ao an ac) 71) from (At.new rfl).al)
  have HB := Lib.hid (show At ((w.alloc (actO x (.slice ao an ac) 71)).alloc (actO y (.slice eo en ec) 71)) (w.heap.size + 1) (actO y (.slice eo en ec) 71) from At.new (by simp))
  have HF := Lib.hid (show Fr [] w ((w.alloc (actO x (.slice ao an ac) 71)).alloc (actO y (.slice eo en ec) 71)) from Fr.al (Fr.alloc _ _))
  have q_head := fun w => eq_arr x.kind x.n x.i x.at_ x.by_ y.kind y.n y.i y.at_ y.by_ w true (by simp [h_head])
  have q_name : (x.name.toList == y.name.toList) = false := tl_no h_name
  clear h_head h_name
  go_enter Tryd.func34, Tryd.ntmps34
  go_wp2_with fail
  refine ssame_reg _ w.heap.size (w.heap.size + 1) (actC x (.slice ao an ac)) (actC y (.slice eo en ec)) _ _ _ _ _ _ _ _ _ _ _ _ _ _ _ _ _ _ _ _ _ _ _ _ _ _ _ _ _ _ _ _ _ _ _ _ _ _ _ _ _ _ _ _ _ _ _ _ _ _ _ _ _ _ _ _ _ _ _ _ _ _ _ rfl rfl (by simp [actC, Value.oneCell']) (by simp [actC, Value.oneCell']) HA.out HB.out ?_
  intro g0 g1 u8 u9 w2 hf2 l0 l1 hne hA0 hA1
  have HA2 := Lib.hid (HA.out.keep0 hf2)
  have HB2 := Lib.hid (HB.out.keep0 hf2)
  have F2 := Lib.hid (HF.out.trans hf2)
  have HG0 := Lib.hid hA0
  have HG1 := Lib.hid hA1
  simp only [World.alloc, Array.size_push] at l0 l1
  replace BX := Lib.hid (BX.out.mono (A' := fun b => w.heap.size ≤ b) F2.out (by simp) (fun b h => .inr h))
  replace BY := Lib.hid (BY.out.mono (A' := fun b => w.heap.size ≤ b) F2.out (by simp) (fun b h => .inr h))
  clear hf2 hA0 hA1 HA HB HF
  go_wp2_with (refine wpl_store_one (.tmp 10) (.const (.slice none 0 0)) rfl rfl (.slice none 0 0) rfl rfl HG0.out (by simp [actC]) (by kernel_rfl) (by rfl) ?_)
  intro w3 f3 a3 _
  replace HG0 := Lib.hid (show At w3 g0 (actO x (.slice none 0 0) 71) from a3)
  replace HG1 := Lib.hid (HG1.out.keep f3 (by simp; omega))
  replace HA2 := Lib.hid (HA2.out.keep f3 (by simp; omega))
  replace HB2 := Lib.hid (HB2.out.keep f3 (by simp; omega))
  replace BX := Lib.hid (BX.out.keep f3 (by simp; omega))
  replace BY := Lib.hid (BY.out.keep f3 (by simp; omega))
  replace F2 := Lib.hid (F2.out.then f3 (by intro b hb; simp at hb; omega))
  clear f3 a3
  go_wp2_with (refine wpl_store_one (.tmp 11) (.const (.slice none 0 0)) rfl rfl (.slice none 0 0) rfl rfl HG1.out (by simp [actC]) (by kernel_rfl) (by rfl) ?_)
  intro w4 f4 a4 _
  replace HG1 := Lib.hid (show At w4 g1 (actO y (.slice none 0 0) 71) from a4)
  replace HG0 := Lib.hid (HG0.out.keep f4 (by simp; omega))
  replace HA2 := Lib.hid (HA2.out.keep f4 (by simp; omega))
  replace HB2 := Lib.hid (HB2.out.keep f4 (by simp; omega))
  replace BX := Lib.hid (BX.out.keep f4 (by simp; omega))
  replace BY := Lib.hid (BY.out.keep f4 (by simp; omega))
  replace F2 := Lib.hid (F2.out.then f4 (by intro b hb; simp at hb; omega))
  clear f4 a4
  obtain ⟨p0, p1, p2, p3, p4, p5, p6, p7, p8, p9, p10, p11, p12, p13, p14, p15⟩ := actCells HG0.out
  obtain ⟨r0, r1, r2, r3, r4, r5, r6, r7, r8, r9, r10, r11, r12, r13, r14, r15⟩ := actCells HG1.out
  have q6 := (actCells HA2.out).2.2.2.2.2.2.1
  have s6 := (actCells HB2.out).2.2.2.2.2.2.1
  go_wp2
  go_ret
  exact ⟨rfl, F2.out⟩

set_option maxRecDepth 1000000 in
set_option maxHeartbeats 8000000 in
theorem ssame_par (A : Nat → Prop) (w : World) (x y : ActP) (bx bv : Value) (hx : Bs A w bx x.bytes) (hy : Bs A w bv y.bytes) (h_head : (x.kind = y.kind ∧ x.n = y.n ∧ x.i = y.i ∧ x.at_ = y.at_ ∧ x.by_ = y.by_)) (h_name : (x.name = y.name)) (h_par : ¬ (x.p0 = y.p0 ∧ x.p1 = y.p1 ∧ x.p2 = y.p2 ∧ x.p3 = y.p3 ∧ x.p4 = y.p4 ∧ x.p5 = y.p5)) :
    Calls Tryd.prog 34 #[.agg (actC x bx), .agg (actC y bv)] w fun e w' => e = .returned (.bool false) ∧ Fr [] w w' := by
  have BX := Lib.hid hx
  have BY := Lib.hid hy
  obtain ⟨ao, an, ac, rfl⟩ := bs_shape hx
  obtain ⟨eo, en, ec, rfl⟩ := bs_shape hy
  clear hx hy
  have HA := Lib.hid (show At ((w.alloc (actO x (.slice ao an ac) 71)).alloc (actO y (.slice eo en ec) 71)) w.heap.size (actO x (.slice ao an ac) 71) from (At.new rfl).al)
  have HB := Lib.hid (show At ((w.alloc (actO x (.slice ao an ac) 71)).alloc (actO y (.slice eo en ec) 71)) (w.heap.size + 1) (actO y (.slice eo en ec) 71) from At.new (by simp))
  have HF := Lib.hid (show Fr [] w ((w.alloc (actO x (.slice ao an ac) 71)).alloc (actO y (.slice eo en ec) 71)) from Fr.al (Fr.alloc _ _))
  have q_head := fun w => eq_arr x.kind x.n x.i x.at_ x.by_ y.kind y.n y.i y.at_ y.by_ w true (by simp [h_head])
  have q_name : (x.name.toList == y.name.toList) = true := tl_yes h_name
  have q_par := fun w => eq_p34 x.p0 x.p1 x.p2 x.p3 x.p4 x.p5 y.p0 y.p1 y.p2 y.p3 y.p4 y.p5 w false (decide_eq_false h_par).symm
  clear h_head h_name h_par
  go_enter Tryd.func34, Tryd.ntmps34
  go_wp2_with fail
  refine ssame_reg _ w.heap.size (w.heap.size + 1) (actC x (.slice ao an ac)) (actC y (.slice eo en ec)) _ _ _ _ _ _ _ _ _ _ _ _ _ _ _ _ _ _ _ _ _ _ _ _ _ _ _ _ _ _ _ _ _ _ _ _ _ _ _ _ _ _ _ _ _ _ _ _ _ _ _ _ _ _ _ _ _ _ _ _ _ _ _ rfl rfl (by simp [actC, Value.oneCell']) (by simp [actC, Value.oneCell']) HA.out HB.out ?_
  intro g0 g1 u8 u9 w2 hf2 l0 l1 hne hA0 hA1
  have HA2 := Lib.hid (HA.out.keep0 hf2)
  have HB2 := Lib.hid (HB.out.keep0 hf2)
  have F2 := Lib.hid (HF.out.trans hf2)
  have HG0 := Lib.hid hA0
  have HG1 := Lib.hid hA1
  simp only [World.alloc, Array.size_push] at l0 l1
  replace BX := Lib.hid (BX.out.mono (A' := fun b => w.heap.size ≤ b) F2.out (by simp) (fun b h => .inr h))
  replace BY := Lib.hid (BY.out.mono (A' := fun b => w.heap.size ≤ b) F2.out (by simp) (fun b h => .inr h))
  clear hf2 hA0 hA1 HA HB HF
  go_wp2_with (refine wpl_store_one (.tmp 10) (.const (.slice none 0 0)) rfl rfl (.slice none 0 0) rfl rfl HG0.out (by simp [actC]) (by kernel_rfl) (by rfl) ?_)
  intro w3 f3 a3 _
  replace HG0 := Lib.hid (show At w3 g0 (actO x (.slice none 0 0) 71) from a3)
  replace HG1 := Lib.hid (HG1.out.keep f3 (by simp; omega))
  replace HA2 := Lib.hid (HA2.out.keep f3 (by simp; omega))
  replace HB2 := Lib.hid (HB2.out.keep f3 (by simp; omega))
  replace BX := Lib.hid (BX.out.keep f3 (by simp; omega))
  replace BY := Lib.hid (BY.out.keep f3 (by simp; omega))
  replace F2 := Lib.hid (F2.out.then f3 (by intro b hb; simp at hb; omega))
  clear f3 a3
  go_wp2_with (refine wpl_store_one (.tmp 11) (.const (.slice none 0 0)) rfl rfl (.slice none 0 0) rfl rfl HG1.out (by simp [actC]) (by kernel_rfl) (by rfl) ?_)
  intro w4 f4 a4 _
  replace HG1 := Lib.hid (show At w4 g1 (actO y (.slice none 0 0) 71) from a4)
  replace HG0 := Lib.hid (HG0.out.keep f4 (by simp; omega))
  replace HA2 := Lib.hid (HA2.out.keep f4 (by simp; omega))
  replace HB2 := Lib.hid (HB2.out.keep f4 (by simp; omega))
  replace BX := Lib.hid (BX.out.keep f4 (by simp; omega))
  replace BY := Lib.hid (BY.out.keep f4 (by simp; omega))
  replace F2 := Lib.hid (F2.out.then f4 (by intro b hb; simp at hb; omega))
  clear f4 a4
  obtain ⟨p0, p1, p2, p3, p4, p5, p6, p7, p8, p9, p10, p11, p12, p13, p14, p15⟩ := actCells HG0.out
  obtain ⟨r0, r1, r2, r3, r4, r5, r6, r7, r8, r9, r10, r11, r12, r13, r14, r15⟩ := actCells HG1.out
  have q6 := (actCells HA2.out).2.2.2.2.2.2.1
  have s6 := (actCells HB2.out).2.2.2.2.2.2.1
  go_wp2
  go_ret
  exact ⟨rfl, F2.out⟩

set_option maxRecDepth 1000000 in
set_option maxHeartbeats 8000000 in
theorem ssame_crash (A : Nat → Prop) (w : World) (x y : ActP) (bx bv : Value) (hx : Bs A w bx x.bytes) (hy : Bs A w bv y.bytes) (h_head : (x.kind = y.kind ∧ x.n = y.n ∧ x.i = y.i ∧ x.at_ = y.at_ ∧ x.by_ = y.by_)) (h_name : (x.name = y.name)) (h_par : (x.p0 = y.p0 ∧ x.p1 = y.p1 ∧ x.p2 = y.p2 ∧ x.p3 = y.p3 ∧ x.p4 = y.p4 ∧ x.p5 = y.p5)) (h_crash : ¬ (x.kept = y.kept ∧ x.torn = y.torn ∧ x.scat = y.scat)) :
    Calls Tryd.prog 34 #[.agg (actC x bx), .agg (actC y bv)] w fun e w' => e = .returned (.bool false) ∧ Fr [] w w' := by
  have BX := Lib.hid hx
  have BY := Lib.hid hy
  obtain ⟨ao, an, ac, rfl⟩ := bs_shape hx
  obtain ⟨eo, en, ec, rfl⟩ := bs_shape hy
  clear hx hy
  have HA := Lib.hid (show At ((w.alloc (actO x (.slice ao an ac) 71)).alloc (actO y (.slice eo en ec) 71)) w.heap.size (actO x (.slice ao an ac) 71) from (At.new rfl).al)
  have HB := Lib.hid (show At ((w.alloc (actO x (.slice ao an ac) 71)).alloc (actO y (.slice eo en ec) 71)) (w.heap.size + 1) (actO y (.slice eo en ec) 71) from At.new (by simp))
  have HF := Lib.hid (show Fr [] w ((w.alloc (actO x (.slice ao an ac) 71)).alloc (actO y (.slice eo en ec) 71)) from Fr.al (Fr.alloc _ _))
  have q_head := fun w => eq_arr x.kind x.n x.i x.at_ x.by_ y.kind y.n y.i y.at_ y.by_ w true (by simp [h_head])
  have q_name : (x.name.toList == y.name.toList) = true := tl_yes h_name
  have q_par := fun w => eq_p34 x.p0 x.p1 x.p2 x.p3 x.p4 x.p5 y.p0 y.p1 y.p2 y.p3 y.p4 y.p5 w true (by simp [h_par])
  have q_crash := fun w => eq_crash x.kept x.torn x.scat y.kept y.torn y.scat w false (decide_eq_false h_crash).symm
  clear h_head h_name h_par h_crash
  go_enter Tryd.func34, Tryd.ntmps34
  go_wp2_with fail
  refine ssame_reg _ w.heap.size (w.heap.size + 1) (actC x (.slice ao an ac)) (actC y (.slice eo en ec)) _ _ _ _ _ _ _ _ _ _ _ _ _ _ _ _ _ _ _ _ _ _ _ _ _ _ _ _ _ _ _ _ _ _ _ _ _ _ _ _ _ _ _ _ _ _ _ _ _ _ _ _ _ _ _ _ _ _ _ _ _ _ _ rfl rfl (by simp [actC, Value.oneCell']) (by simp [actC, Value.oneCell']) HA.out HB.out ?_
  intro g0 g1 u8 u9 w2 hf2 l0 l1 hne hA0 hA1
  have HA2 := Lib.hid (HA.out.keep0 hf2)
  have HB2 := Lib.hid (HB.out.keep0 hf2)
  have F2 := Lib.hid (HF.out.trans hf2)
  have HG0 := Lib.hid hA0
  have HG1 := Lib.hid hA1
  simp only [World.alloc, Array.size_push] at l0 l1
  replace BX := Lib.hid (BX.out.mono (A' := fun b => w.heap.size ≤ b) F2.out (by simp) (fun b h => .inr h))
  replace BY := Lib.hid (BY.out.mono (A' := fun b => w.heap.size ≤ b) F2.out (by simp) (fun b h => .inr h))
  clear hf2 hA0 hA1 HA HB HF
  go_wp2_with (refine wpl_store_one (.tmp 10) (.const (.slice none 0 0)) rfl rfl (.slice none 0 0) rfl rfl HG0.out (by simp [actC]) (by kernel_rfl) (by rfl) ?_)
  intro w3 f3 a3 _
  replace HG0 := Lib.hid (show At w3 g0 (actO x (.slice none 0 0) 71) from a3)
  replace HG1 := Lib.hid (HG1.out.keep f3 (by simp; omega))
  replace HA2 := Lib.hid (HA2.out.keep f3 (by simp; omega))
  replace HB2 := Lib.hid (HB2.out.keep f3 (by simp; omega))
  replace BX := Lib.hid (BX.out.keep f3 (by simp; omega))
  replace BY := Lib.hid (BY.out.keep f3 (by simp; omega))
  replace F2 := Lib.hid (F2.out.then f3 (by intro b hb; simp at hb; omega))
  clear f3 a3
  go_wp2_with (refine wpl_store_one (.tmp 11) (.const (.slice none 0 0)) rfl rfl (.slice none 0 0) rfl rfl HG1.out (by simp [actC]) (by kernel_rfl) (by rfl) ?_)
  intro w4 f4 a4 _
  replace HG1 := Lib.hid (show At w4 g1 (actO y (.slice none 0 0) 71) from a4)
  replace HG0 := Lib.hid (HG0.out.keep f4 (by simp; omega))
  replace HA2 := Lib.hid (HA2.out.keep f4 (by simp; omega))
  replace HB2 := Lib.hid (HB2.out.keep f4 (by simp; omega))
  replace BX := Lib.hid (BX.out.keep f4 (by simp; omega))
  replace BY := Lib.hid (BY.out.keep f4 (by simp; omega))
  replace F2 := Lib.hid (F2.out.then f4 (by intro b hb; simp at hb; omega))
  clear f4 a4
  obtain ⟨p0, p1, p2, p3, p4, p5, p6, p7, p8, p9, p10, p11, p12, p13, p14, p15⟩ := actCells HG0.out
  obtain ⟨r0, r1, r2, r3, r4, r5, r6, r7, r8, r9, r10, r11, r12, r13, r14, r15⟩ := actCells HG1.out
  have q6 := (actCells HA2.out).2.2.2.2.2.2.1
  have s6 := (actCells HB2.out).2.2.2.2.2.2.1
  go_wp2
  go_ret
  exact ⟨rfl, F2.out⟩

set_option maxRecDepth 1000000 in
set_option maxHeartbeats 8000000 in
theorem ssame_bytes (A : Nat → Prop) (w : World) (x y : ActP) (bx bv : Value) (hx : Bs A w bx x.bytes) (hy : Bs A w bv y.bytes) (h_head : (x.kind = y.kind ∧ x.n = y.n ∧ x.i = y.i ∧ x.at_ = y.at_ ∧ x.by_ = y.by_)) (h_name : (x.name = y.name)) (h_par : (x.p0 = y.p0 ∧ x.p1 = y.p1 ∧ x.p2 = y.p2 ∧ x.p3 = y.p3 ∧ x.p4 = y.p4 ∧ x.p5 = y.p5)) (h_crash : (x.kept = y.kept ∧ x.torn = y.torn ∧ x.scat = y.scat)) (h_bytes : ¬ (x.bytes = y.bytes)) :
    Calls Tryd.prog 34 #[.agg (actC x bx), .agg (actC y bv)] w fun e w' => e = .returned (.bool false) ∧ Fr [] w w' := by
  have BX := Lib.hid hx
  have BY := Lib.hid hy
  obtain ⟨ao, an, ac, rfl⟩ := bs_shape hx
  obtain ⟨eo, en, ec, rfl⟩ := bs_shape hy
  clear hx hy
  have HA := Lib.hid (show At ((w.alloc (actO x (.slice ao an ac) 71)).alloc (actO y (.slice eo en ec) 71)) w.heap.size (actO x (.slice ao an ac) 71) from (At.new rfl).al)
  have HB := Lib.hid (show At ((w.alloc (actO x (.slice ao an ac) 71)).alloc (actO y (.slice eo en ec) 71)) (w.heap.size + 1) (actO y (.slice eo en ec) 71) from At.new (by simp))
  have HF := Lib.hid (show Fr [] w ((w.alloc (actO x (.slice ao an ac) 71)).alloc (actO y (.slice eo en ec) 71)) from Fr.al (Fr.alloc _ _))
  have q_head := fun w => eq_arr x.kind x.n x.i x.at_ x.by_ y.kind y.n y.i y.at_ y.by_ w true (by simp [h_head])
  have q_name : (x.name.toList == y.name.toList) = true := tl_yes h_name
  have q_par := fun w => eq_p34 x.p0 x.p1 x.p2 x.p3 x.p4 x.p5 y.p0 y.p1 y.p2 y.p3 y.p4 y.p5 w true (by simp [h_par])
  have q_crash := fun w => eq_crash x.kept x.torn x.scat y.kept y.torn y.scat w true (by simp [h_crash])
  have H_bytes := Lib.hid h_bytes
  clear h_bytes
  clear h_head h_name h_par h_crash
  go_enter Tryd.func34, Tryd.ntmps34
  go_wp2_with fail
  refine ssame_reg _ w.heap.size (w.heap.size + 1) (actC x (.slice ao an ac)) (actC y (.slice eo en ec)) _ _ _ _ _ _ _ _ _ _ _ _ _ _ _ _ _ _ _ _ _ _ _ _ _ _ _ _ _ _ _ _ _ _ _ _ _ _ _ _ _ _ _ _ _ _ _ _ _ _ _ _ _ _ _ _ _ _ _ _ _ _ _ rfl rfl (by simp [actC, Value.oneCell']) (by simp [actC, Value.oneCell']) HA.out HB.out ?_
  intro g0 g1 u8 u9 w2 hf2 l0 l1 hne hA0 hA1
  have HA2 := Lib.hid (HA.out.keep0 hf2)
  have HB2 := Lib.hid (HB.out.keep0 hf2)
  have F2 := Lib.hid (HF.out.trans hf2)
  have HG0 := Lib.hid hA0
  have HG1 := Lib.hid hA1
  simp only [World.alloc, Array.size_push] at l0 l1
  replace BX := Lib.hid (BX.out.mono (A' := fun b => w.heap.size ≤ b) F2.out (by simp) (fun b h => .inr h))
  replace BY := Lib.hid (BY.out.mono (A' := fun b => w.heap.size ≤ b) F2.out (by simp) (fun b h => .inr h))
  clear hf2 hA0 hA1 HA HB HF
  go_wp2_with (refine wpl_store_one (.tmp 10) (.const (.slice none 0 0)) rfl rfl (.slice none 0 0) rfl rfl HG0.out (by simp [actC]) (by kernel_rfl) (by rfl) ?_)
  intro w3 f3 a3 _
  replace HG0 := Lib.hid (show At w3 g0 (actO x (.slice none 0 0) 71) from a3)
  replace HG1 := Lib.hid (HG1.out.keep f3 (by simp; omega))
  replace HA2 := Lib.hid (HA2.out.keep f3 (by simp; omega))
  replace HB2 := Lib.hid (HB2.out.keep f3 (by simp; omega))
  replace BX := Lib.hid (BX.out.keep f3 (by simp; omega))
  replace BY := Lib.hid (BY.out.keep f3 (by simp; omega))
  replace F2 := Lib.hid (F2.out.then f3 (by intro b hb; simp at hb; omega))
  clear f3 a3
  go_wp2_with (refine wpl_store_one (.tmp 11) (.const (.slice none 0 0)) rfl rfl (.slice none 0 0) rfl rfl HG1.out (by simp [actC]) (by kernel_rfl) (by rfl) ?_)
  intro w4 f4 a4 _
  replace HG1 := Lib.hid (show At w4 g1 (actO y (.slice none 0 0) 71) from a4)
  replace HG0 := Lib.hid (HG0.out.keep f4 (by simp; omega))
  replace HA2 := Lib.hid (HA2.out.keep f4 (by simp; omega))
  replace HB2 := Lib.hid (HB2.out.keep f4 (by simp; omega))
  replace BX := Lib.hid (BX.out.keep f4 (by simp; omega))
  replace BY := Lib.hid (BY.out.keep f4 (by simp; omega))
  replace F2 := Lib.hid (F2.out.then f4 (by intro b hb; simp at hb; omega))
  clear f4 a4
  obtain ⟨p0, p1, p2, p3, p4, p5, p6, p7, p8, p9, p10, p11, p12, p13, p14, p15⟩ := actCells HG0.out
  obtain ⟨r0, r1, r2, r3, r4, r5, r6, r7, r8, r9, r10, r11, r12, r13, r14, r15⟩ := actCells HG1.out
  have q6 := (actCells HA2.out).2.2.2.2.2.2.1
  have s6 := (actCells HB2.out).2.2.2.2.2.2.1
  go_wp2_with fail
  refine (beq_no _ _ _ _ x.bytes y.bytes BX.out BY.out H_bytes.out).mono ?_
  rintro e w5 ⟨rfl, f5⟩
  replace F2 := Lib.hid (F2.out.trans f5)
  clear f5
  go_wp2
  go_ret
  exact ⟨rfl, F2.out⟩

set_option maxRecDepth 1000000 in
set_option maxHeartbeats 8000000 in
theorem ssame_all (A : Nat → Prop) (w : World) (x y : ActP) (bx bv : Value) (hx : Bs A w bx x.bytes) (hy : Bs A w bv y.bytes) (h_head : (x.kind = y.kind ∧ x.n = y.n ∧ x.i = y.i ∧ x.at_ = y.at_ ∧ x.by_ = y.by_)) (h_name : (x.name = y.name)) (h_par : (x.p0 = y.p0 ∧ x.p1 = y.p1 ∧ x.p2 = y.p2 ∧ x.p3 = y.p3 ∧ x.p4 = y.p4 ∧ x.p5 = y.p5)) (h_crash : (x.kept = y.kept ∧ x.torn = y.torn ∧ x.scat = y.scat)) (h_bytes : (x.bytes = y.bytes)) :
    Calls Tryd.prog 34 #[.agg (actC x bx), .agg (actC y bv)] w fun e w' => e = .returned (.bool true) ∧ Fr [] w w' := by
  have BX := Lib.hid hx
  have BY := Lib.hid hy
  obtain ⟨ao, an, ac, rfl⟩ := bs_shape hx
  obtain ⟨eo, en, ec, rfl⟩ := bs_shape hy
  clear hx hy
  have HA := Lib.hid (show At ((w.alloc (actO x (.slice ao an ac) 71)).alloc (actO y (.slice eo en ec) 71)) w.heap.size (actO x (.slice ao an ac) 71) from (At.new rfl).al)
  have HB := Lib.hid (show At ((w.alloc (actO x (.slice ao an ac) 71)).alloc (actO y (.slice eo en ec) 71)) (w.heap.size + 1) (actO y (.slice eo en ec) 71) from At.new (by simp))
  have HF := Lib.hid (show Fr [] w ((w.alloc (actO x (.slice ao an ac) 71)).alloc (actO y (.slice eo en ec) 71)) from Fr.al (Fr.alloc _ _))
  have q_head := fun w => eq_arr x.kind x.n x.i x.at_ x.by_ y.kind y.n y.i y.at_ y.by_ w true (by simp [h_head])
  have q_name : (x.name.toList == y.name.toList) = true := tl_yes h_name
  have q_par := fun w => eq_p34 x.p0 x.p1 x.p2 x.p3 x.p4 x.p5 y.p0 y.p1 y.p2 y.p3 y.p4 y.p5 w true (by simp [h_par])
  have q_crash := fun w => eq_crash x.kept x.torn x.scat y.kept y.torn y.scat w true (by simp [h_crash])
  have H_bytes := Lib.hid h_bytes
  clear h_bytes
  clear h_head h_name h_par h_crash
  go_enter Tryd.func34, Tryd.ntmps34
  go_wp2_with fail
  refine ssame_reg _ w.heap.size (w.heap.size + 1) (actC x (.slice ao an ac)) (actC y (.slice eo en ec)) _ _ _ _ _ _ _ _ _ _ _ _ _ _ _ _ _ _ _ _ _ _ _ _ _ _ _ _ _ _ _ _ _ _ _ _ _ _ _ _ _ _ _ _ _ _ _ _ _ _ _ _ _ _ _ _ _ _ _ _ _ _ _ rfl rfl (by simp [actC, Value.oneCell']) (by simp [actC, Value.oneCell']) HA.out HB.out ?_
  intro g0 g1 u8 u9 w2 hf2 l0 l1 hne hA0 hA1
  have HA2 := Lib.hid (HA.out.keep0 hf2)
  have HB2 := Lib.hid (HB.out.keep0 hf2)
  have F2 := Lib.hid (HF.out.trans hf2)
  have HG0 := Lib.hid hA0
  have HG1 := Lib.hid hA1
  simp only [World.alloc, Array.size_push] at l0 l1
  replace BX := Lib.hid (BX.out.mono (A' := fun b => w.heap.size ≤ b) F2.out (by simp) (fun b h => .inr h))
  replace BY := Lib.hid (BY.out.mono (A' := fun b => w.heap.size ≤ b) F2.out (by simp) (fun b h => .inr h))
  clear hf2 hA0 hA1 HA HB HF
  go_wp2_with (refine wpl_store_one (.tmp 10) (.const (.slice none 0 0)) rfl rfl (.slice none 0 0) rfl rfl HG0.out (by simp [actC]) (by kernel_rfl) (by rfl) ?_)
  intro w3 f3 a3 _
  replace HG0 := Lib.hid (show At w3 g0 (actO x (.slice none 0 0) 71) from a3)
  replace HG1 := Lib.hid (HG1.out.keep f3 (by simp; omega))
  replace HA2 := Lib.hid (HA2.out.keep f3 (by simp; omega))
  replace HB2 := Lib.hid (HB2.out.keep f3 (by simp; omega))
  replace BX := Lib.hid (BX.out.keep f3 (by simp; omega))
  replace BY := Lib.hid (BY.out.keep f3 (by simp; omega))
  replace F2 := Lib.hid (F2.out.then f3 (by intro b hb; simp at hb; omega))
  clear f3 a3
  go_wp2_with (refine wpl_store_one (.tmp 11) (.const (.slice none 0 0)) rfl rfl (.slice none 0 0) rfl rfl HG1.out (by simp [actC]) (by kernel_rfl) (by rfl) ?_)
  intro w4 f4 a4 _
  replace HG1 := Lib.hid (show At w4 g1 (actO y (.slice none 0 0) 71) from a4)
  replace HG0 := Lib.hid (HG0.out.keep f4 (by simp; omega))
  replace HA2 := Lib.hid (HA2.out.keep f4 (by simp; omega))
  replace HB2 := Lib.hid (HB2.out.keep f4 (by simp; omega))
  replace BX := Lib.hid (BX.out.keep f4 (by simp; omega))
  replace BY := Lib.hid (BY.out.keep f4 (by simp; omega))
  replace F2 := Lib.hid (F2.out.then f4 (by intro b hb; simp at hb; omega))
  clear f4 a4
  obtain ⟨p0, p1, p2, p3, p4, p5, p6, p7, p8, p9, p10, p11, p12, p13, p14, p15⟩ := actCells HG0.out
  obtain ⟨r0, r1, r2, r3, r4, r5, r6, r7, r8, r9, r10, r11, r12, r13, r14, r15⟩ := actCells HG1.out
  have q6 := (actCells HA2.out).2.2.2.2.2.2.1
  have s6 := (actCells HB2.out).2.2.2.2.2.2.1
  go_wp2_with fail
  refine (beq_yes _ _ _ _ x.bytes BX.out (by rw [H_bytes.out]; exact BY.out)).mono ?_
  rintro e w5 ⟨rfl, f5⟩
  replace F2 := Lib.hid (F2.out.trans f5)
  clear f5
  go_wp2
  go_ret
  exact ⟨rfl, F2.out⟩
end Go.Proofs.YtbohmnblegljkaaDoor
namespace Go.Proofs.YtbohmnblegljkaaDoor
open Go.RowKit Go.Bl
set_option linter.unusedVariables false

theorem ssame_eq (A : Nat → Prop) (w : World) (x y : ActP) (bx bv : Value) (hx : Bs A w bx x.bytes) (hy : Bs A w bv y.bytes) (h : x = y) :
    Calls Tryd.prog 34 #[.agg (actC x bx), .agg (actC y bv)] w fun e w' => e = .returned (.bool true) ∧ Fr [] w w' := by
  subst h
  exact ssame_all A w x x bx bv hx hy ⟨rfl, rfl, rfl, rfl, rfl⟩ rfl ⟨rfl, rfl, rfl, rfl, rfl, rfl⟩ ⟨rfl, rfl, rfl⟩ rfl
theorem ssame_ne (A : Nat → Prop) (w : World) (x y : ActP) (bx bv : Value) (hx : Bs A w bx x.bytes) (hy : Bs A w bv y.bytes) (h : x ≠ y) :
    Calls Tryd.prog 34 #[.agg (actC x bx), .agg (actC y bv)] w fun e w' => e = .returned (.bool false) ∧ Fr [] w w' := by
  by_cases e0 : x.kind = y.kind ∧ x.n = y.n ∧ x.i = y.i ∧ x.at_ = y.at_ ∧ x.by_ = y.by_
  rotate_left
  · exact ssame_head A w x y bx bv hx hy e0
  by_cases e1 : x.name = y.name
  rotate_left
  · exact ssame_name A w x y bx bv hx hy e0 e1
  by_cases e2 : x.p0 = y.p0 ∧ x.p1 = y.p1 ∧ x.p2 = y.p2 ∧ x.p3 = y.p3 ∧ x.p4 = y.p4 ∧ x.p5 = y.p5
  rotate_left
  · exact ssame_par A w x y bx bv hx hy e0 e1 e2
  by_cases e3 : x.kept = y.kept ∧ x.torn = y.torn ∧ x.scat = y.scat
  rotate_left
  · exact ssame_crash A w x y bx bv hx hy e0 e1 e2 e3
  by_cases e4 : x.bytes = y.bytes
  rotate_left
  · exact ssame_bytes A w x y bx bv hx hy e0 e1 e2 e3 e4
  exfalso
  refine h ?_
  obtain ⟨x0, x1, x2, x3, x4, x5, x6, x7, x8, x9, x10, x11, x12, x13, x14, x15⟩ := x
  obtain ⟨y0, y1, y2, y3, y4, y5, y6, y7, y8, y9, y10, y11, y12, y13, y14, y15⟩ := y
  simp_all
theorem ssame_any (A : Nat → Prop) (w : World) (x y : ActP) (bx bv : Value) (hx : Bs A w bx x.bytes) (hy : Bs A w bv y.bytes) (r : Bool) (hr : (r = true ∧ x = y) ∨ (r = false ∧ x ≠ y)) :
    Calls Tryd.prog 34 #[.agg (actC x bx), .agg (actC y bv)] w fun e w' => e = .returned (.bool r) ∧ Fr [] w w' := by
  rcases hr with ⟨rfl, h⟩ | ⟨rfl, h⟩
  · exact ssame_eq A w x y bx bv hx hy h
  · exact ssame_ne A w x y bx bv hx hy h
end Go.Proofs.YtbohmnblegljkaaDoor
