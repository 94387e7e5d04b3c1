/-
  Layer 31: an act's plain form: the drawn region of kind 1. (printed by genpl1.py)
-/
import Derived.Test.YtbohmnblegljkaaDoorGE
import Derived.Test.YtbohmnblegljkaaDoorGB
namespace Go.Proofs.YtbohmnblegljkaaDoor
open Go.RowKit Go.Bl
set_option linter.unusedVariables false

def findRegion' (k : Nat) : Code → Option Code
  | .region i ops d => if i = k then some (.region i ops d) else none
  | .loop c => findRegion' k c
  | .seq a b => match findRegion' k a with
    | some c => some c
    | none => findRegion' k b
  | .block _ c => findRegion' k c
  | .scope c => findRegion' k c
  | .cond _ a b => match findRegion' k a with
    | some c => some c
    | none => findRegion' k b
  | _ => none
theorem run_len_str (w : World) (ρ : Operand → Value) (nm : ByteArray) (k : Nat) (o : Oper) (h : ρ (.tmp k) = .string nm) (ho : o.op = .call { callee := .builtin .len, args := #[.tmp k], argTypes := #[9] }) :
    (execOp ρ o).run Tryd.prog w = .ok (.value (.int .i64 nm.size)) w := by
  unfold execOp
  simp only [ho, resolve, invoke, builtin, Sem.run_bind, Sem.run_pure, Result.andThen_ok, List.map_toArray, List.map_cons, List.map_nil, h]
  simp [go_sem]
theorem run_min (w : World) (ρ : Operand → Value) (n mn : Nat) (k c : Nat) (hm : min n c = mn) (o : Oper) (h : ρ (.tmp k) = .int .i64 n) (ho : o.op = .call { callee := .builtin .min, args := #[.tmp k, .const (.int .i64 c)], argTypes := #[3, 3] }) (hc : ρ (.const (.int .i64 c)) = .int .i64 c) :
    (execOp ρ o).run Tryd.prog w = .ok (.value (.int .i64 mn)) w := by
  unfold execOp
  simp only [ho, resolve, invoke, builtin, Sem.run_bind, Sem.run_pure, Result.andThen_ok, List.map_toArray, List.map_cons, List.map_nil, h, hc]
  simp [go_sem]
  split <;> omega
theorem run_cut_str (w : World) (ρ : Operand → Value) (nm : ByteArray) (mn k m : Nat) (hm : mn ≤ nm.size) (o : Oper) (h : ρ (.tmp k) = .string nm) (h2 : ρ (.tmp m) = .int .i64 mn) (ho : o.op = .slice 9 (.tmp k) none (some (.tmp m)) none) :
    (execOp ρ o).run Tryd.prog w = .ok (.value (.string (nm.extract 0 mn))) w := by
  unfold execOp
  simp only [ho, Sem.run_bind, Sem.run_pure, Result.andThen_ok, h, h2, Option.map_some, Option.map_none]
  simp [go_sem]
  intro hh
  omega
theorem range7 {w : World} {b : Nat} {a : ActP} {bv : Value} (h : At w b (actO a bv 71)) : w.rangeAt b 7 [.int .i64 a.p0, .int .i64 a.p1, .int .i64 a.p2, .int .i64 a.p3, .int .i64 a.p4, .int .i64 a.p5] := by
  intro j v hj
  have hl : j < 6 := by
    rcases Nat.lt_or_ge j 6 with h | h
    · exact h
    · rw [List.getElem?_eq_none (by simpa using h)] at hj; cases hj
  have hc : j = 0 ∨ j = 1 ∨ j = 2 ∨ j = 3 ∨ j = 4 ∨ j = 5 := by omega
  obtain ⟨-, -, -, -, -, -, -, q0, q1, q2, q3, q4, q5, -⟩ := actCells h
  rcases hc with rfl | rfl | rfl | rfl | rfl | rfl
  · rw [← hj]; exact q0
  · rw [← hj]; exact q1
  · rw [← hj]; exact q2
  · rw [← hj]; exact q3
  · rw [← hj]; exact q4
  · rw [← hj]; exact q5
theorem run_load_row' {P : Program} {ρ : Operand → Value} {o : Oper} {ty : TypeId} {d : TypeDesc} (x : Operand) (ho : o.op = .load ty x) (b off : Nat) (c : Array Value) (w : World) (hx : ρ x = .pointer (some ⟨b, off, none⟩)) (hc : w.rangeAt b off c.toList) (hu : P.underlying ty = some d) (hd : d.isRow = true) (hi : (P.info? ty).map (·.size) = some c.size) :
    (execOp ρ o).run P w = .ok (.value (.agg c)) w := by
  have := run_loadAt_mid (P := P) w b off ty c.toList d hc hu hd (by simpa using hi)
  unfold execOp
  simp only [ho, hx, Sem.run_bind, this, Result.andThen_ok, Sem.run_pure]
noncomputable def plainReg : Code := ((Tryd.f33.body.bind (findRegion' 8)).getD .skip)

def RegP (w : World) (r1 b3 : Nat) (a : ActP) (mn : Nat) (c0 c2 c4 c5 c6 c7 c8 c9 c10 c11 c12 c13 c14 c15 c16 c17 c18 c19 c20 c21 c22 c23 c24 c25 c26 c27 c28 c29 c30 c31 c32 c33 c34 c35 c36 c37 c38 c39 c40 c53 c54 c55 c56 c57 c58 c59 c60 c61 c62 : Value) (dn : Nat → Bool) (b : Go.Act) (p : World) : Prop :=
  ∃ (u41 u42 u43 u44 u45 u46 u47 u48 u49 u50 u51 u52 : Value), b = ⟨(c0 :: .pointer (some ⟨r1, 0, none⟩) :: c2 :: .pointer (some ⟨b3, 0, none⟩) :: c4 :: c5 :: c6 :: c7 :: c8 :: c9 :: c10 :: c11 :: c12 :: c13 :: c14 :: c15 :: c16 :: c17 :: c18 :: c19 :: c20 :: c21 :: c22 :: c23 :: c24 :: c25 :: c26 :: c27 :: c28 :: c29 :: c30 :: c31 :: c32 :: c33 :: c34 :: c35 :: c36 :: c37 :: c38 :: c39 :: c40 :: u41 :: u42 :: u43 :: u44 :: u45 :: u46 :: u47 :: u48 :: u49 :: u50 :: u51 :: u52 :: c53 :: c54 :: c55 :: c56 :: c57 :: c58 :: c59 :: c60 :: c61 :: c62 :: []).toArray, []⟩ ∧ Fr [b3] w p ∧ (dn 0 = true → u41 = .pointer (some ⟨r1, 5, none⟩)) ∧ (dn 1 = true → u42 = .string a.name) ∧ (dn 2 = true → u43 = .pointer (some ⟨r1, 5, none⟩)) ∧ (dn 3 = true → u44 = .string a.name) ∧ (dn 4 = true → u45 = .int .i64 a.name.size) ∧ (dn 5 = true → u46 = .int .i64 mn) ∧ (dn 6 = true → u47 = .string (a.name.extract 0 mn)) ∧ (dn 7 = true → u48 = .pointer (some ⟨r1, 7, none⟩)) ∧ (dn 8 = true → u49 = .agg #[.int .i64 a.p0, .int .i64 a.p1, .int .i64 a.p2, .int .i64 a.p3, .int .i64 a.p4, .int .i64 a.p5]) ∧ (dn 9 = true → u50 = .agg #[.int .i64 (a.p0 % 65536), .int .i64 (a.p1 % 256), .int .i64 (a.p2 % 256), .int .i64 (a.p3 % 65536), .int .i64 (a.p4 % 65536), .int .i64 (a.p5 % 256)]) ∧ (dn 10 = true → u51 = .pointer (some ⟨b3, 5, none⟩)) ∧ (dn 12 = true → u52 = .pointer (some ⟨b3, 7, none⟩)) ∧
    ∃ c : Array Value, At p b3 (.cells c 71) ∧ (dn 11 = false → c = (actC (plainBase a) (.slice none 0 0))) ∧ (dn 11 = true → dn 13 = false → c = (actC { plainBase a with name := a.name.extract 0 mn } (.slice none 0 0))) ∧ (dn 13 = true → dn 11 = true ∧ c = (actC { plainBase a with name := a.name.extract 0 mn, p0 := a.p0 % 65536, p1 := a.p1 % 256, p2 := a.p2 % 256, p3 := a.p3 % 65536, p4 := a.p4 % 65536, p5 := a.p5 % 256 } (.slice none 0 0)))
set_option maxRecDepth 1000000 in
set_option maxHeartbeats 8000000 in
theorem plain_reg (w : World) (r1 b3 : Nat) (hne : r1 ≠ b3) (a : ActP) (bv : Value) (mn : Nat) (hmn : min a.name.size 255 = mn) (c0 c2 c4 c5 c6 c7 c8 c9 c10 c11 c12 c13 c14 c15 c16 c17 c18 c19 c20 c21 c22 c23 c24 c25 c26 c27 c28 c29 c30 c31 c32 c33 c34 c35 c36 c37 c38 c39 c40 c53 c54 c55 c56 c57 c58 c59 c60 c61 c62 u41 u42 u43 u44 u45 u46 u47 u48 u49 u50 u51 u52 : Value) (Q : Exit → Go.Act → World → Prop)
    (hA : At w r1 (actO a bv 71)) (hB : At w b3 (actO (plainBase a) (.slice none 0 0) 71))
    (hQ : ∀ (xu41 xu42 xu43 xu44 xu45 xu46 xu47 xu48 xu49 xu50 xu51 xu52 : Value) (w' : World), Fr [b3] w w' → At w' b3 (actO { plainBase a with name := a.name.extract 0 mn, p0 := a.p0 % 65536, p1 := a.p1 % 256, p2 := a.p2 % 256, p3 := a.p3 % 65536, p4 := a.p4 % 65536, p5 := a.p5 % 256 } (.slice none 0 0) 71) → Q .normal ⟨(c0 :: .pointer (some ⟨r1, 0, none⟩) :: c2 :: .pointer (some ⟨b3, 0, none⟩) :: c4 :: c5 :: c6 :: c7 :: c8 :: c9 :: c10 :: c11 :: c12 :: c13 :: c14 :: c15 :: c16 :: c17 :: c18 :: c19 :: c20 :: c21 :: c22 :: c23 :: c24 :: c25 :: c26 :: c27 :: c28 :: c29 :: c30 :: c31 :: c32 :: c33 :: c34 :: c35 :: c36 :: c37 :: c38 :: c39 :: c40 :: xu41 :: xu42 :: xu43 :: xu44 :: xu45 :: xu46 :: xu47 :: xu48 :: xu49 :: xu50 :: xu51 :: xu52 :: c53 :: c54 :: c55 :: c56 :: c57 :: c58 :: c59 :: c60 :: c61 :: c62 :: []).toArray, []⟩ w') :
    Code.wp Tryd.prog plainReg Q ⟨(c0 :: .pointer (some ⟨r1, 0, none⟩) :: c2 :: .pointer (some ⟨b3, 0, none⟩) :: c4 :: c5 :: c6 :: c7 :: c8 :: c9 :: c10 :: c11 :: c12 :: c13 :: c14 :: c15 :: c16 :: c17 :: c18 :: c19 :: c20 :: c21 :: c22 :: c23 :: c24 :: c25 :: c26 :: c27 :: c28 :: c29 :: c30 :: c31 :: c32 :: c33 :: c34 :: c35 :: c36 :: c37 :: c38 :: c39 :: c40 :: u41 :: u42 :: u43 :: u44 :: u45 :: u46 :: u47 :: u48 :: u49 :: u50 :: u51 :: u52 :: c53 :: c54 :: c55 :: c56 :: c57 :: c58 :: c59 :: c60 :: c61 :: c62 :: []).toArray, []⟩ w := by
  have HA := Lib.hid hA
  have HB := Lib.hid hB
  have HQ := Lib.hid hQ
  have HM := Lib.hid hmn
  clear hA hB hQ hmn
  conv => arg 2; whnf
  refine wp_region_inv (RegP w r1 b3 a mn c0 c2 c4 c5 c6 c7 c8 c9 c10 c11 c12 c13 c14 c15 c16 c17 c18 c19 c20 c21 c22 c23 c24 c25 c26 c27 c28 c29 c30 c31 c32 c33 c34 c35 c36 c37 c38 c39 c40 c53 c54 c55 c56 c57 c58 c59 c60 c61 c62) (by kernel_rfl) (by kernel_rfl) ?_ ?_ ?_
  · intro w1 hw1
    exact ⟨_, _, _, _, _, _, _, _, _, _, _, _, rfl, hw1.weak, (fun h => by cases h), (fun h => by cases h), (fun h => by cases h), (fun h => by cases h), (fun h => by cases h), (fun h => by cases h), (fun h => by cases h), (fun h => by cases h), (fun h => by cases h), (fun h => by cases h), (fun h => by cases h), (fun h => by cases h), _, HB.out.keep0 hw1, fun _ => rfl, (fun h => by cases h), (fun h => by cases h)⟩
  · intro i hi
    have hi : i < 14 := hi
    have hc : i = 0 ∨ i = 1 ∨ i = 2 ∨ i = 3 ∨ i = 4 ∨ i = 5 ∨ i = 6 ∨ i = 7 ∨ i = 8 ∨ i = 9 ∨ i = 10 ∨ i = 11 ∨ i = 12 ∨ i = 13 := by omega
    clear hi
    rcases hc with rfl | rfl | rfl | rfl | rfl | rfl | rfl | rfl | rfl | rfl | rfl | rfl | rfl | rfl
    · intro dn b p hdn ha ⟨u41, u42, u43, u44, u45, u46, u47, u48, u49, u50, u51, u52, e, hr, k0, k1, k2, k3, k4, k5, k6, k7, k8, k9, k10, k12, c, hc, kc, kd, ke⟩
      subst e
      refine opV_run (v := .pointer (some ⟨r1, 5, none⟩)) (p := p) _ (by simp only [List.getElem?_toArray, List.getElem?_cons_succ, List.getElem?_cons_zero]; rfl) rfl ((by unfold execOp; simp [go_sem])) ?_
      unfold RegP
      simp only [also_self, also_ne dn (show (1 : Nat) ≠ 0 by decide), also_ne dn (show (2 : Nat) ≠ 0 by decide), also_ne dn (show (3 : Nat) ≠ 0 by decide), also_ne dn (show (4 : Nat) ≠ 0 by decide), also_ne dn (show (5 : Nat) ≠ 0 by decide), also_ne dn (show (6 : Nat) ≠ 0 by decide), also_ne dn (show (7 : Nat) ≠ 0 by decide), also_ne dn (show (8 : Nat) ≠ 0 by decide), also_ne dn (show (9 : Nat) ≠ 0 by decide), also_ne dn (show (10 : Nat) ≠ 0 by decide), also_ne dn (show (11 : Nat) ≠ 0 by decide), also_ne dn (show (12 : Nat) ≠ 0 by decide), also_ne dn (show (13 : Nat) ≠ 0 by decide)]
      exact ⟨_, _, _, _, _, _, _, _, _, _, _, _, rfl, hr, fun _ => rfl, k1, k2, k3, k4, k5, k6, k7, k8, k9, k10, k12, c, hc, kc, kd, ke⟩
    · intro dn b p hdn ha ⟨u41, u42, u43, u44, u45, u46, u47, u48, u49, u50, u51, u52, e, hr, k0, k1, k2, k3, k4, k5, k6, k7, k8, k9, k10, k12, c, hc, kc, kd, ke⟩
      subst e
      obtain rfl := k0 (ha 0 (by kernel_rfl))
      refine opV_run (v := .string a.name) (p := p) _ (by simp only [List.getElem?_toArray, List.getElem?_cons_succ, List.getElem?_cons_zero]; rfl) rfl ((by unfold execOp; simp [go_sem, show p.cell? ⟨r1, 5, none⟩ = some (.string a.name) from (actCells (HA.out.keep hr (by simp; omega))).2.2.2.2.2.1])) ?_
      unfold RegP
      simp only [also_self, also_ne dn (show (0 : Nat) ≠ 1 by decide), also_ne dn (show (2 : Nat) ≠ 1 by decide), also_ne dn (show (3 : Nat) ≠ 1 by decide), also_ne dn (show (4 : Nat) ≠ 1 by decide), also_ne dn (show (5 : Nat) ≠ 1 by decide), also_ne dn (show (6 : Nat) ≠ 1 by decide), also_ne dn (show (7 : Nat) ≠ 1 by decide), also_ne dn (show (8 : Nat) ≠ 1 by decide), also_ne dn (show (9 : Nat) ≠ 1 by decide), also_ne dn (show (10 : Nat) ≠ 1 by decide), also_ne dn (show (11 : Nat) ≠ 1 by decide), also_ne dn (show (12 : Nat) ≠ 1 by decide), also_ne dn (show (13 : Nat) ≠ 1 by decide)]
      exact ⟨_, _, _, _, _, _, _, _, _, _, _, _, rfl, hr, fun _ => rfl, fun _ => rfl, k2, k3, k4, k5, k6, k7, k8, k9, k10, k12, c, hc, kc, kd, ke⟩
    · intro dn b p hdn ha ⟨u41, u42, u43, u44, u45, u46, u47, u48, u49, u50, u51, u52, e, hr, k0, k1, k2, k3, k4, k5, k6, k7, k8, k9, k10, k12, c, hc, kc, kd, ke⟩
      subst e
      refine opV_run (v := .pointer (some ⟨r1, 5, none⟩)) (p := p) _ (by simp only [List.getElem?_toArray, List.getElem?_cons_succ, List.getElem?_cons_zero]; rfl) rfl ((by unfold execOp; simp [go_sem])) ?_
      unfold RegP
      simp only [also_self, also_ne dn (show (0 : Nat) ≠ 2 by decide), also_ne dn (show (1 : Nat) ≠ 2 by decide), also_ne dn (show (3 : Nat) ≠ 2 by decide), also_ne dn (show (4 : Nat) ≠ 2 by decide), also_ne dn (show (5 : Nat) ≠ 2 by decide), also_ne dn (show (6 : Nat) ≠ 2 by decide), also_ne dn (show (7 : Nat) ≠ 2 by decide), also_ne dn (show (8 : Nat) ≠ 2 by decide), also_ne dn (show (9 : Nat) ≠ 2 by decide), also_ne dn (show (10 : Nat) ≠ 2 by decide), also_ne dn (show (11 : Nat) ≠ 2 by decide), also_ne dn (show (12 : Nat) ≠ 2 by decide), also_ne dn (show (13 : Nat) ≠ 2 by decide)]
      exact ⟨_, _, _, _, _, _, _, _, _, _, _, _, rfl, hr, k0, k1, fun _ => rfl, k3, k4, k5, k6, k7, k8, k9, k10, k12, c, hc, kc, kd, ke⟩
    · intro dn b p hdn ha ⟨u41, u42, u43, u44, u45, u46, u47, u48, u49, u50, u51, u52, e, hr, k0, k1, k2, k3, k4, k5, k6, k7, k8, k9, k10, k12, c, hc, kc, kd, ke⟩
      subst e
      obtain rfl := k2 (ha 2 (by kernel_rfl))
      refine opV_run (v := .string a.name) (p := p) _ (by simp only [List.getElem?_toArray, List.getElem?_cons_succ, List.getElem?_cons_zero]; rfl) rfl ((by unfold execOp; simp [go_sem, show p.cell? ⟨r1, 5, none⟩ = some (.string a.name) from (actCells (HA.out.keep hr (by simp; omega))).2.2.2.2.2.1])) ?_
      unfold RegP
      simp only [also_self, also_ne dn (show (0 : Nat) ≠ 3 by decide), also_ne dn (show (1 : Nat) ≠ 3 by decide), also_ne dn (show (2 : Nat) ≠ 3 by decide), also_ne dn (show (4 : Nat) ≠ 3 by decide), also_ne dn (show (5 : Nat) ≠ 3 by decide), also_ne dn (show (6 : Nat) ≠ 3 by decide), also_ne dn (show (7 : Nat) ≠ 3 by decide), also_ne dn (show (8 : Nat) ≠ 3 by decide), also_ne dn (show (9 : Nat) ≠ 3 by decide), also_ne dn (show (10 : Nat) ≠ 3 by decide), also_ne dn (show (11 : Nat) ≠ 3 by decide), also_ne dn (show (12 : Nat) ≠ 3 by decide), also_ne dn (show (13 : Nat) ≠ 3 by decide)]
      exact ⟨_, _, _, _, _, _, _, _, _, _, _, _, rfl, hr, k0, k1, fun _ => rfl, fun _ => rfl, k4, k5, k6, k7, k8, k9, k10, k12, c, hc, kc, kd, ke⟩
    · intro dn b p hdn ha ⟨u41, u42, u43, u44, u45, u46, u47, u48, u49, u50, u51, u52, e, hr, k0, k1, k2, k3, k4, k5, k6, k7, k8, k9, k10, k12, c, hc, kc, kd, ke⟩
      subst e
      obtain rfl := k3 (ha 3 (by kernel_rfl))
      refine opV_run (v := .int .i64 a.name.size) (p := p) _ (by simp only [List.getElem?_toArray, List.getElem?_cons_succ, List.getElem?_cons_zero]; rfl) rfl (run_len_str _ _ a.name 44 _ rfl rfl) ?_
      unfold RegP
      simp only [also_self, also_ne dn (show (0 : Nat) ≠ 4 by decide), also_ne dn (show (1 : Nat) ≠ 4 by decide), also_ne dn (show (2 : Nat) ≠ 4 by decide), also_ne dn (show (3 : Nat) ≠ 4 by decide), also_ne dn (show (5 : Nat) ≠ 4 by decide), also_ne dn (show (6 : Nat) ≠ 4 by decide), also_ne dn (show (7 : Nat) ≠ 4 by decide), also_ne dn (show (8 : Nat) ≠ 4 by decide), also_ne dn (show (9 : Nat) ≠ 4 by decide), also_ne dn (show (10 : Nat) ≠ 4 by decide), also_ne dn (show (11 : Nat) ≠ 4 by decide), also_ne dn (show (12 : Nat) ≠ 4 by decide), also_ne dn (show (13 : Nat) ≠ 4 by decide)]
      exact ⟨_, _, _, _, _, _, _, _, _, _, _, _, rfl, hr, k0, k1, k2, fun _ => rfl, fun _ => rfl, k5, k6, k7, k8, k9, k10, k12, c, hc, kc, kd, ke⟩
    · intro dn b p hdn ha ⟨u41, u42, u43, u44, u45, u46, u47, u48, u49, u50, u51, u52, e, hr, k0, k1, k2, k3, k4, k5, k6, k7, k8, k9, k10, k12, c, hc, kc, kd, ke⟩
      subst e
      obtain rfl := k4 (ha 4 (by kernel_rfl))
      refine opV_run (v := .int .i64 mn) (p := p) _ (by simp only [List.getElem?_toArray, List.getElem?_cons_succ, List.getElem?_cons_zero]; rfl) rfl (run_min _ _ a.name.size mn 45 255 HM.out _ rfl rfl rfl) ?_
      unfold RegP
      simp only [also_self, also_ne dn (show (0 : Nat) ≠ 5 by decide), also_ne dn (show (1 : Nat) ≠ 5 by decide), also_ne dn (show (2 : Nat) ≠ 5 by decide), also_ne dn (show (3 : Nat) ≠ 5 by decide), also_ne dn (show (4 : Nat) ≠ 5 by decide), also_ne dn (show (6 : Nat) ≠ 5 by decide), also_ne dn (show (7 : Nat) ≠ 5 by decide), also_ne dn (show (8 : Nat) ≠ 5 by decide), also_ne dn (show (9 : Nat) ≠ 5 by decide), also_ne dn (show (10 : Nat) ≠ 5 by decide), also_ne dn (show (11 : Nat) ≠ 5 by decide), also_ne dn (show (12 : Nat) ≠ 5 by decide), also_ne dn (show (13 : Nat) ≠ 5 by decide)]
      exact ⟨_, _, _, _, _, _, _, _, _, _, _, _, rfl, hr, k0, k1, k2, k3, fun _ => rfl, fun _ => rfl, k6, k7, k8, k9, k10, k12, c, hc, kc, kd, ke⟩
    · intro dn b p hdn ha ⟨u41, u42, u43, u44, u45, u46, u47, u48, u49, u50, u51, u52, e, hr, k0, k1, k2, k3, k4, k5, k6, k7, k8, k9, k10, k12, c, hc, kc, kd, ke⟩
      subst e
      obtain rfl := k1 (ha 1 (by kernel_rfl))
      obtain rfl := k5 (ha 5 (by kernel_rfl))
      refine opV_run (v := .string (a.name.extract 0 mn)) (p := p) _ (by simp only [List.getElem?_toArray, List.getElem?_cons_succ, List.getElem?_cons_zero]; rfl) rfl (run_cut_str _ _ a.name mn 42 46 (by have := HM.out; omega) _ rfl rfl rfl) ?_
      unfold RegP
      simp only [also_self, also_ne dn (show (0 : Nat) ≠ 6 by decide), also_ne dn (show (1 : Nat) ≠ 6 by decide), also_ne dn (show (2 : Nat) ≠ 6 by decide), also_ne dn (show (3 : Nat) ≠ 6 by decide), also_ne dn (show (4 : Nat) ≠ 6 by decide), also_ne dn (show (5 : Nat) ≠ 6 by decide), also_ne dn (show (7 : Nat) ≠ 6 by decide), also_ne dn (show (8 : Nat) ≠ 6 by decide), also_ne dn (show (9 : Nat) ≠ 6 by decide), also_ne dn (show (10 : Nat) ≠ 6 by decide), also_ne dn (show (11 : Nat) ≠ 6 by decide), also_ne dn (show (12 : Nat) ≠ 6 by decide), also_ne dn (show (13 : Nat) ≠ 6 by decide)]
      exact ⟨_, _, _, _, _, _, _, _, _, _, _, _, rfl, hr, k0, fun _ => rfl, k2, k3, k4, fun _ => rfl, fun _ => rfl, k7, k8, k9, k10, k12, c, hc, kc, kd, ke⟩
    · intro dn b p hdn ha ⟨u41, u42, u43, u44, u45, u46, u47, u48, u49, u50, u51, u52, e, hr, k0, k1, k2, k3, k4, k5, k6, k7, k8, k9, k10, k12, c, hc, kc, kd, ke⟩
      subst e
      refine opV_run (v := .pointer (some ⟨r1, 7, none⟩)) (p := p) _ (by simp only [List.getElem?_toArray, List.getElem?_cons_succ, List.getElem?_cons_zero]; rfl) rfl ((by unfold execOp; simp [go_sem])) ?_
      unfold RegP
      simp only [also_self, also_ne dn (show (0 : Nat) ≠ 7 by decide), also_ne dn (show (1 : Nat) ≠ 7 by decide), also_ne dn (show (2 : Nat) ≠ 7 by decide), also_ne dn (show (3 : Nat) ≠ 7 by decide), also_ne dn (show (4 : Nat) ≠ 7 by decide), also_ne dn (show (5 : Nat) ≠ 7 by decide), also_ne dn (show (6 : Nat) ≠ 7 by decide), also_ne dn (show (8 : Nat) ≠ 7 by decide), also_ne dn (show (9 : Nat) ≠ 7 by decide), also_ne dn (show (10 : Nat) ≠ 7 by decide), also_ne dn (show (11 : Nat) ≠ 7 by decide), also_ne dn (show (12 : Nat) ≠ 7 by decide), also_ne dn (show (13 : Nat) ≠ 7 by decide)]
      exact ⟨_, _, _, _, _, _, _, _, _, _, _, _, rfl, hr, k0, k1, k2, k3, k4, k5, k6, fun _ => rfl, k8, k9, k10, k12, c, hc, kc, kd, ke⟩
    · intro dn b p hdn ha ⟨u41, u42, u43, u44, u45, u46, u47, u48, u49, u50, u51, u52, e, hr, k0, k1, k2, k3, k4, k5, k6, k7, k8, k9, k10, k12, c, hc, kc, kd, ke⟩
      subst e
      obtain rfl := k7 (ha 7 (by kernel_rfl))
      refine opV_run (v := .agg #[.int .i64 a.p0, .int .i64 a.p1, .int .i64 a.p2, .int .i64 a.p3, .int .i64 a.p4, .int .i64 a.p5]) (p := p) _ (by simp only [List.getElem?_toArray, List.getElem?_cons_succ, List.getElem?_cons_zero]; rfl) rfl (run_load_row' (.tmp 48) rfl r1 7 #[.int .i64 a.p0, .int .i64 a.p1, .int .i64 a.p2, .int .i64 a.p3, .int .i64 a.p4, .int .i64 a.p5] _ rfl (range7 (HA.out.keep hr (by simp; omega))) Tryd.underlying36 rfl (by kernel_rfl)) ?_
      unfold RegP
      simp only [also_self, also_ne dn (show (0 : Nat) ≠ 8 by decide), also_ne dn (show (1 : Nat) ≠ 8 by decide), also_ne dn (show (2 : Nat) ≠ 8 by decide), also_ne dn (show (3 : Nat) ≠ 8 by decide), also_ne dn (show (4 : Nat) ≠ 8 by decide), also_ne dn (show (5 : Nat) ≠ 8 by decide), also_ne dn (show (6 : Nat) ≠ 8 by decide), also_ne dn (show (7 : Nat) ≠ 8 by decide), also_ne dn (show (9 : Nat) ≠ 8 by decide), also_ne dn (show (10 : Nat) ≠ 8 by decide), also_ne dn (show (11 : Nat) ≠ 8 by decide), also_ne dn (show (12 : Nat) ≠ 8 by decide), also_ne dn (show (13 : Nat) ≠ 8 by decide)]
      exact ⟨_, _, _, _, _, _, _, _, _, _, _, _, rfl, hr, k0, k1, k2, k3, k4, k5, k6, fun _ => rfl, fun _ => rfl, k9, k10, k12, c, hc, kc, kd, ke⟩
    · intro dn b p hdn ha ⟨u41, u42, u43, u44, u45, u46, u47, u48, u49, u50, u51, u52, e, hr, k0, k1, k2, k3, k4, k5, k6, k7, k8, k9, k10, k12, c, hc, kc, kd, ke⟩
      subst e
      obtain rfl := k8 (ha 8 (by kernel_rfl))
      refine opV_of_wpl (K := RegP w r1 b3 a mn c0 c2 c4 c5 c6 c7 c8 c9 c10 c11 c12 c13 c14 c15 c16 c17 c18 c19 c20 c21 c22 c23 c24 c25 c26 c27 c28 c29 c30 c31 c32 c33 c34 c35 c36 c37 c38 c39 c40 c53 c54 c55 c56 c57 c58 c59 c60 c61 c62 (also dn 9)) _ (by simp only [List.getElem?_toArray, List.getElem?_cons_succ, List.getElem?_cons_zero]; rfl) ?_
      go_wp2_with fail
      refine (plainp_any _ _ _ _ _ _ _).mono ?_
      rintro e p1 ⟨rfl, hf⟩
      rename_i K hK
      refine hK _ _ ?_
      refine ⟨rfl, rfl, ?_⟩
      clear hK K
      unfold RegP
      simp only [also_self, also_ne dn (show (0 : Nat) ≠ 9 by decide), also_ne dn (show (1 : Nat) ≠ 9 by decide), also_ne dn (show (2 : Nat) ≠ 9 by decide), also_ne dn (show (3 : Nat) ≠ 9 by decide), also_ne dn (show (4 : Nat) ≠ 9 by decide), also_ne dn (show (5 : Nat) ≠ 9 by decide), also_ne dn (show (6 : Nat) ≠ 9 by decide), also_ne dn (show (7 : Nat) ≠ 9 by decide), also_ne dn (show (8 : Nat) ≠ 9 by decide), also_ne dn (show (10 : Nat) ≠ 9 by decide), also_ne dn (show (11 : Nat) ≠ 9 by decide), also_ne dn (show (12 : Nat) ≠ 9 by decide), also_ne dn (show (13 : Nat) ≠ 9 by decide)]
      exact ⟨_, _, _, _, _, _, _, _, _, _, _, _, rfl, hr.trans hf.weak, k0, k1, k2, k3, k4, k5, k6, k7, fun _ => rfl, fun _ => rfl, k10, k12, c, hc.keep0 hf, kc, kd, ke⟩
    · intro dn b p hdn ha ⟨u41, u42, u43, u44, u45, u46, u47, u48, u49, u50, u51, u52, e, hr, k0, k1, k2, k3, k4, k5, k6, k7, k8, k9, k10, k12, c, hc, kc, kd, ke⟩
      subst e
      refine opV_run (v := .pointer (some ⟨b3, 5, none⟩)) (p := p) _ (by simp only [List.getElem?_toArray, List.getElem?_cons_succ, List.getElem?_cons_zero]; rfl) rfl ((by unfold execOp; simp [go_sem])) ?_
      unfold RegP
      simp only [also_self, also_ne dn (show (0 : Nat) ≠ 10 by decide), also_ne dn (show (1 : Nat) ≠ 10 by decide), also_ne dn (show (2 : Nat) ≠ 10 by decide), also_ne dn (show (3 : Nat) ≠ 10 by decide), also_ne dn (show (4 : Nat) ≠ 10 by decide), also_ne dn (show (5 : Nat) ≠ 10 by decide), also_ne dn (show (6 : Nat) ≠ 10 by decide), also_ne dn (show (7 : Nat) ≠ 10 by decide), also_ne dn (show (8 : Nat) ≠ 10 by decide), also_ne dn (show (9 : Nat) ≠ 10 by decide), also_ne dn (show (11 : Nat) ≠ 10 by decide), also_ne dn (show (12 : Nat) ≠ 10 by decide), also_ne dn (show (13 : Nat) ≠ 10 by decide)]
      exact ⟨_, _, _, _, _, _, _, _, _, _, _, _, rfl, hr, k0, k1, k2, k3, k4, k5, k6, k7, k8, k9, fun _ => rfl, k12, c, hc, kc, kd, ke⟩
    · intro dn b p hdn ha ⟨u41, u42, u43, u44, u45, u46, u47, u48, u49, u50, u51, u52, e, hr, k0, k1, k2, k3, k4, k5, k6, k7, k8, k9, k10, k12, c, hc, kc, kd, ke⟩
      subst e
      obtain rfl := k10 (ha 10 (by kernel_rfl))
      obtain rfl := k6 (ha 6 (by kernel_rfl))
      have h13 : dn 13 = false := by
        cases h : dn 13 with
        | false => rfl
        | true => exact absurd hdn (by simp [(ke h).1])
      obtain rfl := kc hdn
      refine opV_of_wpl (K := RegP w r1 b3 a mn c0 c2 c4 c5 c6 c7 c8 c9 c10 c11 c12 c13 c14 c15 c16 c17 c18 c19 c20 c21 c22 c23 c24 c25 c26 c27 c28 c29 c30 c31 c32 c33 c34 c35 c36 c37 c38 c39 c40 c53 c54 c55 c56 c57 c58 c59 c60 c61 c62 (also dn 11)) _ (by simp only [List.getElem?_toArray, List.getElem?_cons_succ, List.getElem?_cons_zero]; rfl) ?_
      refine wpl_store_one (.tmp 51) (.tmp 47) rfl rfl (.string (a.name.extract 0 mn)) rfl rfl hc (by simp [actC]) (by kernel_rfl) (by rfl) ?_
      intro p1 f1 a1 _
      refine ⟨rfl, rfl, ?_⟩
      unfold RegP
      simp only [also_self, also_ne dn (show (0 : Nat) ≠ 11 by decide), also_ne dn (show (1 : Nat) ≠ 11 by decide), also_ne dn (show (2 : Nat) ≠ 11 by decide), also_ne dn (show (3 : Nat) ≠ 11 by decide), also_ne dn (show (4 : Nat) ≠ 11 by decide), also_ne dn (show (5 : Nat) ≠ 11 by decide), also_ne dn (show (6 : Nat) ≠ 11 by decide), also_ne dn (show (7 : Nat) ≠ 11 by decide), also_ne dn (show (8 : Nat) ≠ 11 by decide), also_ne dn (show (9 : Nat) ≠ 11 by decide), also_ne dn (show (10 : Nat) ≠ 11 by decide), also_ne dn (show (12 : Nat) ≠ 11 by decide), also_ne dn (show (13 : Nat) ≠ 11 by decide)]
      exact ⟨_, _, _, _, _, _, _, _, _, _, _, _, rfl, hr.trans f1, k0, k1, k2, k3, k4, k5, fun _ => rfl, k7, k8, k9, fun _ => rfl, k12, _, a1, (fun h => by cases h), fun _ _ => rfl, fun h => absurd h (by simp [h13])⟩
    · intro dn b p hdn ha ⟨u41, u42, u43, u44, u45, u46, u47, u48, u49, u50, u51, u52, e, hr, k0, k1, k2, k3, k4, k5, k6, k7, k8, k9, k10, k12, c, hc, kc, kd, ke⟩
      subst e
      refine opV_run (v := .pointer (some ⟨b3, 7, none⟩)) (p := p) _ (by simp only [List.getElem?_toArray, List.getElem?_cons_succ, List.getElem?_cons_zero]; rfl) rfl ((by unfold execOp; simp [go_sem])) ?_
      unfold RegP
      simp only [also_self, also_ne dn (show (0 : Nat) ≠ 12 by decide), also_ne dn (show (1 : Nat) ≠ 12 by decide), also_ne dn (show (2 : Nat) ≠ 12 by decide), also_ne dn (show (3 : Nat) ≠ 12 by decide), also_ne dn (show (4 : Nat) ≠ 12 by decide), also_ne dn (show (5 : Nat) ≠ 12 by decide), also_ne dn (show (6 : Nat) ≠ 12 by decide), also_ne dn (show (7 : Nat) ≠ 12 by decide), also_ne dn (show (8 : Nat) ≠ 12 by decide), also_ne dn (show (9 : Nat) ≠ 12 by decide), also_ne dn (show (10 : Nat) ≠ 12 by decide), also_ne dn (show (11 : Nat) ≠ 12 by decide), also_ne dn (show (13 : Nat) ≠ 12 by decide)]
      exact ⟨_, _, _, _, _, _, _, _, _, _, _, _, rfl, hr, k0, k1, k2, k3, k4, k5, k6, k7, k8, k9, k10, fun _ => rfl, c, hc, kc, kd, ke⟩
    · intro dn b p hdn ha ⟨u41, u42, u43, u44, u45, u46, u47, u48, u49, u50, u51, u52, e, hr, k0, k1, k2, k3, k4, k5, k6, k7, k8, k9, k10, k12, c, hc, kc, kd, ke⟩
      subst e
      obtain rfl := k12 (ha 12 (by kernel_rfl))
      obtain rfl := k9 (ha 9 (by kernel_rfl))
      have d11 := ha 11 (by kernel_rfl)
      obtain rfl := kd d11 hdn
      refine opV_of_wpl (K := RegP w r1 b3 a mn c0 c2 c4 c5 c6 c7 c8 c9 c10 c11 c12 c13 c14 c15 c16 c17 c18 c19 c20 c21 c22 c23 c24 c25 c26 c27 c28 c29 c30 c31 c32 c33 c34 c35 c36 c37 c38 c39 c40 c53 c54 c55 c56 c57 c58 c59 c60 c61 c62 (also dn 13)) _ (by simp only [List.getElem?_toArray, List.getElem?_cons_succ, List.getElem?_cons_zero]; rfl) ?_
      refine wpl_store_at (.tmp 52) (.tmp 50) rfl rfl #[.int .i64 (a.p0 % 65536), .int .i64 (a.p1 % 256), .int .i64 (a.p2 % 256), .int .i64 (a.p3 % 65536), .int .i64 (a.p4 % 65536), .int .i64 (a.p5 % 256)] rfl rfl (by kernel_rfl) hc (by simp [actC]) (by simp [Value.oneCell']) ?_
      intro p1 f1 a1 _
      refine ⟨rfl, rfl, ?_⟩
      unfold RegP
      simp only [also_self, also_ne dn (show (0 : Nat) ≠ 13 by decide), also_ne dn (show (1 : Nat) ≠ 13 by decide), also_ne dn (show (2 : Nat) ≠ 13 by decide), also_ne dn (show (3 : Nat) ≠ 13 by decide), also_ne dn (show (4 : Nat) ≠ 13 by decide), also_ne dn (show (5 : Nat) ≠ 13 by decide), also_ne dn (show (6 : Nat) ≠ 13 by decide), also_ne dn (show (7 : Nat) ≠ 13 by decide), also_ne dn (show (8 : Nat) ≠ 13 by decide), also_ne dn (show (9 : Nat) ≠ 13 by decide), also_ne dn (show (10 : Nat) ≠ 13 by decide), also_ne dn (show (11 : Nat) ≠ 13 by decide), also_ne dn (show (12 : Nat) ≠ 13 by decide)]
      exact ⟨_, _, _, _, _, _, _, _, _, _, _, _, rfl, hr.trans f1, k0, k1, k2, k3, k4, k5, k6, k7, k8, fun _ => rfl, k10, fun _ => rfl, _, a1, fun h => absurd d11 (by simp [h]), (fun _ h => by cases h), fun _ => ⟨d11, rfl⟩⟩
  · intro dn b p hall ⟨u41, u42, u43, u44, u45, u46, u47, u48, u49, u50, u51, u52, e, hr, k0, k1, k2, k3, k4, k5, k6, k7, k8, k9, k10, k12, c, hc, kc, kd, ke⟩
    subst e
    obtain ⟨-, rfl⟩ := ke (hall 13 (by decide))
    exact HQ.out _ _ _ _ _ _ _ _ _ _ _ _ p hr hc
end Go.Proofs.YtbohmnblegljkaaDoor
