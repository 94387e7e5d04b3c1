import Derived.Test.YtnafknkchbfpaaaGreatDoorGV
import Derived.Test.YtnafknkchbfpaaaGreatDoorHV
import Derived.Test.YtnafknkchbfpaaaGreatDoorGT
set_option maxRecDepth 1000000
set_option maxHeartbeats 8000000
namespace Go.Proofs.YtnafknkchbfpaaaGreatDoor
open Go.RowKit Go.Bl
set_option linter.unusedVariables false
theorem Xb {ops : Array Oper} {i : Nat} {b : Go.Act} {p : World} (o : Oper) (ho : ops[i]? = some o) (hg : o.guard = none) (k1 k2 : Nat) (hop : o.op = .call { callee := .value (.func 160), args := #[.tmp k1, .tmp k2], argTypes := #[5, 5] })
  (x y : UInt8) (h1 : b.eval (.tmp k1) = .int .u8 (x.toNat : Int)) (h2 : b.eval (.tmp k2) = .int .u8 (y.toNat : Int)) :
  opV Tryz.prog ops i b p fun v p' => v = .int .u8 ((qX x y).toNat : Int) /\ Fr [] p p' := by
 have hf : b.eval (.func 160) = .func (.func 160) #[] #[] := rfl
 unfold opV
 simp only [ho, Region.wanted, hg, if_true]
 obtain ⟨ρ, hρ⟩ := exq (b.eval)
 rw [hρ] at h1 h2 hf ⊢
 have hr : (execOp ρ o).run Tryz.prog p = .ok (.enter 160 #[u8v x, u8v y]) p := by
  unfold execOp
  simp [hop, resolve, invoke, go_sem, h1, h2, hf, u8v]
 rw [hr]
 refine (U4 p x y).mono ?_
 rintro e p' ⟨rfl, hf⟩
 exact ⟨rfl, hf⟩
noncomputable def KM : Code := ((Tryz.f159.body.bind (qn 10)).getD .skip)
theorem qaD (w : World) (a : Go.Act) (hsz : a.tmps.size = 50) (g n i : Nat) (out : List UInt8) (x y : UInt8) (hik : i < n) (hn : n <= 1000000) (hol : out.length = n) (h4 : qd a 4 = .slice (some ⟨g, 0, none⟩) n n) (h5 : qd a 5 = .int .i64 (i : Int)) (h6 : qd a 6 = .int .u8 (x.toNat : Int)) (h2 : qd a 2 = .int .u8 (y.toNat : Int)) (hA : At w g (.cells (out.map u8v).toArray 5)) (Q : Exit -> Go.Act -> World -> Prop)
  (hQ : ∀ (b : Go.Act) (p : World), b.defers = a.defers -> b.tmps.size = a.tmps.size -> (∀ s, s ∉ ([23, 24, 25, 26, 27, 28, 29, 30, 31, 32, 33] : List Nat) -> qd b s = qd a s) -> Fr [g] w p -> At p g (.cells ((jY out i (qX x y)).map u8v).toArray 5) -> Q .normal b p) : Code.wp Tryz.prog KM Q a w := by
 conv => arg 2; whnf
 refine jR qf qf [some 23, some 24, some 25, some 26, some 27, some 28, some 29, some 30, some 31, some 32, some 33, none] [8, 11] [.rd (.slice (some ⟨g, 0, none⟩) n n) 2, .rd (.int .i64 (i : Int)) 2, .rd (.slice (some ⟨g, 0, none⟩) n n) 2, .rd (.int .i64 (i : Int)) 2, .rd (.pointer (some ⟨g, i, none⟩)) 2, .rd (.int .u8 ((out.getD i 0).toNat : Int)) 1, .rd (.int .u8 (x.toNat : Int)) 2, .rd (.int .u8 (y.toNat : Int)) 2, .st 0, .rd (.int .u8 ((out.getD i 0 ^^^ qX x y).toNat : Int)) 2, .rd (.pointer (some ⟨g, i, none⟩)) 2, .st 1] (fun j => if j = 0 then (.int .u8 ((qX x y).toNat : Int)) else undef) (fun s p => Fr [g] w p /\ At p g (.cells (if s <= 1 then (out.map u8v).toArray else ((jY out i (qX x y)).map u8v).toArray) 5)) qf qw xz qf qf qe ?_ ⟨?_, ?_, ?_, ?_, ?_, ?_, ?_, ?_, ?_, ?_, ?_, ?_, trivial⟩ ?_
 ·intro w1 hw1
  exact ⟨hw1.weak, by rw [if_pos qe]; exact hA.keep0 hw1⟩
 ·refine ⟨⟨23, rfl⟩, .inl rfl, fun b p s hs hS h => ?_⟩
  have e0 : b.eval (.tmp 4) = .slice (some ⟨g, 0, none⟩) n n := (h.old 4 qe).trans h4
  exact Y2
 ·refine ⟨⟨24, rfl⟩, .inl rfl, fun b p s hs hS h => ?_⟩
  have e0 : b.eval (.tmp 5) = .int .i64 (i : Int) := (h.old 5 qe).trans h5
  exact Y2
 ·refine ⟨⟨25, rfl⟩, .inl rfl, fun b p s hs hS h => ?_⟩
  have e0 : b.eval (.tmp 4) = .slice (some ⟨g, 0, none⟩) n n := (h.old 4 qe).trans h4
  exact Y2
 ·refine ⟨⟨26, rfl⟩, .inl rfl, fun b p s hs hS h => ?_⟩
  have e0 : b.eval (.tmp 5) = .int .i64 (i : Int) := (h.old 5 qe).trans h5
  exact Y2
 ·refine ⟨⟨27, rfl⟩, .inl rfl, fun b p s hs hS h => ?_⟩
  have e0 := h.er 2 25 qf rfl rfl
  have e1 := h.er 3 26 qf rfl rfl
  exact Y52
 ·refine ⟨⟨28, rfl⟩, .inr ⟨11, rfl, by kernel_rfl⟩, fun b p s hs hS h => ?_⟩
  have e0 := h.er 4 27 qf rfl rfl
  have c0 := (show p.cell? ⟨g, i, none⟩ = some (.int .u8 ((out.getD i 0).toNat : Int)) from by have hA := hS.2; rw [if_pos hs] at hA; exact zX hA Y95)
  exact Y7
 ·refine ⟨⟨29, rfl⟩, .inl rfl, fun b p s hs hS h => ?_⟩
  have e0 : b.eval (.tmp 6) = .int .u8 (x.toNat : Int) := (h.old 6 qe).trans h6
  exact Y2
 ·refine ⟨⟨30, rfl⟩, .inl rfl, fun b p s hs hS h => ?_⟩
  have e0 : b.eval (.tmp 2) = .int .u8 (y.toNat : Int) := (h.old 2 qe).trans h2
  exact Y2
 ·refine ⟨rfl, .inl rfl, fun b p hS h => ?_⟩
  have e0 := h.er 6 29 qf rfl rfl
  have e1 := h.er 7 30 qf rfl rfl
  obtain ⟨hf, hA⟩ := hS
  refine jf (K := fun v p' => v = .int .u8 ((qX x y).toNat : Int) /\ Fr [] p p') (fun v p' hv => ⟨⟨hf.trans hv.2.weak, by rw [if_pos qe] at hA ⊢; exact hA.keep0 hv.2⟩, .inr hv.1⟩) ?_
  exact Xb _ qw rfl 29 30 rfl x y e0 e1
 ·refine ⟨⟨32, rfl⟩, .inl rfl, fun b p s hs hS h => ?_⟩
  have e0 := h.er 5 28 qf rfl rfl
  have e1 := (show b.eval (.tmp 31) = .int .u8 ((qX x y).toNat : Int) from h.st 8 _ 31 qf rfl rfl)
  exact Y20
 ·refine ⟨⟨33, rfl⟩, .inl rfl, fun b p s hs hS h => ?_⟩
  have e0 := h.er 0 23 qf rfl rfl
  have e1 := h.er 1 24 qf rfl rfl
  exact Y52
 ·refine ⟨rfl, .inr ⟨8, rfl, by kernel_rfl⟩, fun b p hS h => ?_⟩
  have e0 := h.er 10 33 qf rfl rfl
  have e1 := h.er 9 32 qf rfl rfl
  obtain ⟨hf, hA⟩ := hS
  rw [if_pos qe] at hA
  refine jf (K := fun _ p' => Fr [g] w p' /\ At p' g (.cells ((jY out i (qX x y)).map u8v).toArray 5)) (fun v p' hv => ⟨by show Fr [g] w p' /\ At p' g (.cells (if 1 + 1 <= 1 then (out.map u8v).toArray else ((jY out i (qX x y)).map u8v).toArray) 5); rw [if_neg qe]; exact hv, .inl rfl⟩) ?_
  refine qW (K := fun _ p' => Fr [g] w p' /\ At p' g (.cells ((jY out i (qX x y)).map u8v).toArray 5)) _ qw ?_
  refine qj (.tmp 33) (.tmp 32) rfl rfl (.int .u8 ((out.getD i 0 ^^^ qX x y).toNat : Int)) e0 e1 hA jF qf rfl ?_
  intro p1 f1 a1 _
  exact ⟨rfl, rfl, hf.trans f1, by rw [y7]; exact a1⟩
 ·exact Y86
noncomputable def KV : Code := ((Tryz.f127.body.bind (qn 13)).getD .skip)
theorem qa4 (w : World) (a : Go.Act) (hsz : a.tmps.size = 61) (base g gg n cp gc i k m : Nat) (out : List UInt8) (x y : UInt8) (hik : i + k < n) (hkm : m + k = 32) (hn : n <= 1000000) (hol : out.length = n) (hgg : gg ≠ g) (h5 : qd a 5 = .slice (some ⟨g, 0, none⟩) n cp) (h6 : qd a 6 = .int .i64 (i : Int)) (h8 : qd a 8 = .int .i64 (k : Int)) (h7 : qd a 7 = .int .u8 (x.toNat : Int)) (h4 : qd a 4 = .slice (some ⟨gg, 0, none⟩) 33 gc) (hy : w.cell? ⟨gg, m, none⟩ = some (.int .u8 (y.toNat : Int))) (hA : qi 5 base w (.slice (some ⟨g, 0, none⟩) n cp) out) (Q : Exit -> Go.Act -> World -> Prop)
  (hQ : ∀ (b : Go.Act) (p : World), b.defers = a.defers -> b.tmps.size = a.tmps.size -> (∀ s, s ∉ ([37, 38, 39, 40, 41, 42, 43, 44, 45, 46, 47, 48, 49, 50, 51, 52, 53, 54, 55] : List Nat) -> qd b s = qd a s) -> Fr [g] w p -> qi 5 base p (.slice (some ⟨g, 0, none⟩) n cp) (jY out (i + k) (qX x y)) -> Q .normal b p) : Code.wp Tryz.prog KV Q a w := by
 conv => arg 2; whnf
 refine jR qf qf [some 37, some 38, some 39, some 40, some 41, some 42, some 43, some 44, some 45, some 46, some 47, some 48, some 49, some 50, some 51, some 52, some 53, some 54, some 55, none] [16, 19] [.rd (.slice (some ⟨g, 0, none⟩) n cp) 2, .rd (.int .i64 (i : Int)) 2, .rd (.int .i64 (k : Int)) 2, .rd (.int .i64 ((i + k : Nat) : Int)) 2, .rd (.slice (some ⟨g, 0, none⟩) n cp) 2, .rd (.int .i64 (i : Int)) 2, .rd (.int .i64 (k : Int)) 2, .rd (.int .i64 ((i + k : Nat) : Int)) 2, .rd (.pointer (some ⟨g, i + k, none⟩)) 2, .rd (.int .u8 ((out.getD (i + k) 0).toNat : Int)) 1, .rd (.int .u8 (x.toNat : Int)) 2, .rd (.slice (some ⟨gg, 0, none⟩) 33 gc) 2, .rd (.int .i64 (k : Int)) 2, .rd (.int .i64 (m : Int)) 2, .rd (.pointer (some ⟨gg, m, none⟩)) 2, .rd (.int .u8 (y.toNat : Int)) 0, .st 0, .rd (.int .u8 ((out.getD (i + k) 0 ^^^ qX x y).toNat : Int)) 2, .rd (.pointer (some ⟨g, i + k, none⟩)) 2, .st 1] (fun j => if j = 0 then (.int .u8 ((qX x y).toNat : Int)) else undef) (fun s p => Fr [g] w p /\ qi 5 base p (.slice (some ⟨g, 0, none⟩) n cp) (if s <= 1 then out else (jY out (i + k) (qX x y)))) qf qw xz qf qf qe ?_ ⟨?_, ?_, ?_, ?_, ?_, ?_, ?_, ?_, ?_, ?_, ?_, ?_, ?_, ?_, ?_, ?_, ?_, ?_, ?_, ?_, trivial⟩ ?_
 ·intro w1 hw1
  exact ⟨hw1.weak, by rw [if_pos qe]; exact hA.keep hw1 qg⟩
 ·refine ⟨⟨37, rfl⟩, .inl rfl, fun b p s hs hS h => ?_⟩
  have e0 : b.eval (.tmp 5) = .slice (some ⟨g, 0, none⟩) n cp := (h.old 5 qe).trans h5
  exact Y2
 ·refine ⟨⟨38, rfl⟩, .inl rfl, fun b p s hs hS h => ?_⟩
  have e0 : b.eval (.tmp 6) = .int .i64 (i : Int) := (h.old 6 qe).trans h6
  exact Y2
 ·refine ⟨⟨39, rfl⟩, .inl rfl, fun b p s hs hS h => ?_⟩
  have e0 : b.eval (.tmp 8) = .int .i64 (k : Int) := (h.old 8 qe).trans h8
  exact Y2
 ·refine ⟨⟨40, rfl⟩, .inl rfl, fun b p s hs hS h => ?_⟩
  have e0 := h.er 1 38 qf rfl rfl
  have e1 := h.er 2 39 qf rfl rfl
  exact Y22
 ·refine ⟨⟨41, rfl⟩, .inl rfl, fun b p s hs hS h => ?_⟩
  have e0 : b.eval (.tmp 5) = .slice (some ⟨g, 0, none⟩) n cp := (h.old 5 qe).trans h5
  exact Y2
 ·refine ⟨⟨42, rfl⟩, .inl rfl, fun b p s hs hS h => ?_⟩
  have e0 : b.eval (.tmp 6) = .int .i64 (i : Int) := (h.old 6 qe).trans h6
  exact Y2
 ·refine ⟨⟨43, rfl⟩, .inl rfl, fun b p s hs hS h => ?_⟩
  have e0 : b.eval (.tmp 8) = .int .i64 (k : Int) := (h.old 8 qe).trans h8
  exact Y2
 ·refine ⟨⟨44, rfl⟩, .inl rfl, fun b p s hs hS h => ?_⟩
  have e0 := h.er 5 42 qf rfl rfl
  have e1 := h.er 6 43 qf rfl rfl
  exact Y22
 ·refine ⟨⟨45, rfl⟩, .inl rfl, fun b p s hs hS h => ?_⟩
  have e0 := h.er 4 41 qf rfl rfl
  have e1 := h.er 7 44 qf rfl rfl
  exact Y12
 ·refine ⟨⟨46, rfl⟩, .inr ⟨19, rfl, by kernel_rfl⟩, fun b p s hs hS h => ?_⟩
  have e0 := h.er 8 45 qf rfl rfl
  have c0 := (show p.cell? ⟨g, i + k, none⟩ = some (.int .u8 ((out.getD (i + k) 0).toNat : Int)) from by have hA := hS.2; rw [if_pos hs] at hA; obtain ⟨cur, k1, -, k3, -⟩ := Qo hA; rw [qE k1]; exact k3 _ Y95)
  exact Y7
 ·refine ⟨⟨47, rfl⟩, .inl rfl, fun b p s hs hS h => ?_⟩
  have e0 : b.eval (.tmp 7) = .int .u8 (x.toNat : Int) := (h.old 7 qe).trans h7
  exact Y2
 ·refine ⟨⟨48, rfl⟩, .inl rfl, fun b p s hs hS h => ?_⟩
  have e0 : b.eval (.tmp 4) = .slice (some ⟨gg, 0, none⟩) 33 gc := (h.old 4 qe).trans h4
  exact Y2
 ·refine ⟨⟨49, rfl⟩, .inl rfl, fun b p s hs hS h => ?_⟩
  have e0 : b.eval (.tmp 8) = .int .i64 (k : Int) := (h.old 8 qe).trans h8
  exact Y2
 ·refine ⟨⟨50, rfl⟩, .inl rfl, fun b p s hs hS h => ?_⟩
  have e0 := h.er 12 49 qf rfl rfl
  have ec : ∀ v, b.eval (.const v) = v := fun _ => rfl
  obtain ⟨ρ, hρ⟩ := exq (b.eval)
  rw [hρ] at e0 ec ⊢
  exact ⟨_, by rfl, rfl, by unfold execOp; simp [go_sem, e0, ec, show IntKind.i64.wrap (32 - (k : Int)) = (m : Int) by rw [IntKind.wrap_i64]; omega]⟩
 ·refine ⟨⟨51, rfl⟩, .inl rfl, fun b p s hs hS h => ?_⟩
  have e0 := h.er 11 48 qf rfl rfl
  have e1 := h.er 13 50 qf rfl rfl
  have ec : ∀ v, b.eval (.const v) = v := fun _ => rfl
  obtain ⟨ρ, hρ⟩ := exq (b.eval)
  rw [hρ] at e0 e1 ec ⊢
  exact ⟨_, by rfl, rfl, by unfold execOp; simp [go_sem, e0, e1, ec, show (m : Int) < 33 by omega, show m < 33 by omega]⟩
 ·refine ⟨⟨52, rfl⟩, .inr ⟨16, rfl, by kernel_rfl⟩, fun b p s hs hS h => ?_⟩
  have e0 := h.er 14 51 qf rfl rfl
  have c0 := (show p.cell? ⟨gg, m, none⟩ = some (.int .u8 (y.toNat : Int)) from qm hS.1 (by simpa using hgg) hy)
  exact Y7
 ·refine ⟨rfl, .inl rfl, fun b p hS h => ?_⟩
  have e0 := h.er 10 47 qf rfl rfl
  have e1 := h.er 15 52 qf rfl rfl
  obtain ⟨hf, hA⟩ := hS
  refine jf (K := fun v p' => v = .int .u8 ((qX x y).toNat : Int) /\ Fr [] p p') (fun v p' hv => ⟨⟨hf.trans hv.2.weak, by rw [if_pos qe] at hA ⊢; exact hA.keep hv.2 qg⟩, .inr hv.1⟩) ?_
  exact Xb _ qw rfl 47 52 rfl x y e0 e1
 ·refine ⟨⟨54, rfl⟩, .inl rfl, fun b p s hs hS h => ?_⟩
  have e0 := h.er 9 46 qf rfl rfl
  have e1 := (show b.eval (.tmp 53) = .int .u8 ((qX x y).toNat : Int) from h.st 16 _ 53 qf rfl rfl)
  exact Y20
 ·refine ⟨⟨55, rfl⟩, .inl rfl, fun b p s hs hS h => ?_⟩
  have e0 := h.er 0 37 qf rfl rfl
  have e1 := h.er 3 40 qf rfl rfl
  exact Y12
 ·refine ⟨rfl, .inr ⟨16, rfl, by kernel_rfl⟩, fun b p hS h => ?_⟩
  have e0 := h.er 18 55 qf rfl rfl
  have e1 := h.er 17 54 qf rfl rfl
  obtain ⟨hf, hA⟩ := hS
  rw [if_pos qe] at hA
  obtain ⟨cur, k1, k2, -, k4⟩ := Qo hA
  refine jf (K := fun _ p' => Fr [g] w p' /\ qi 5 base p' (.slice (some ⟨g, 0, none⟩) n cp) (jY out (i + k) (qX x y))) (fun v p' hv => ⟨by show Fr [g] w p' /\ qi 5 base p' (.slice (some ⟨g, 0, none⟩) n cp) (if 1 + 1 <= 1 then out else (jY out (i + k) (qX x y))); rw [if_neg qe]; exact hv, .inl rfl⟩) ?_
  refine qW (K := fun _ p' => Fr [g] w p' /\ qi 5 base p' (.slice (some ⟨g, 0, none⟩) n cp) (jY out (i + k) (qX x y))) _ qw ?_
  refine qj (.tmp 55) (.tmp 54) rfl rfl (.int .u8 ((out.getD (i + k) 0 ^^^ qX x y).toNat : Int)) e0 e1 k1 Y95 qf rfl ?_
  intro p1 f1 a1 _
  exact ⟨rfl, rfl, hf.trans f1, k4 p1 (i + k) _ a1⟩
 ·exact Y86
theorem Ug (A : Nat -> Prop) (w : World) (c : UInt8) (e : TypeId) (hA : ¬ A w.heap.size) : Bs A (w.alloc (.cells #[.int .u8 (c.toNat : Int)] e)) (.slice (some ⟨w.heap.size, 0, none⟩) 1 1) [c] :=
 ⟨some ⟨w.heap.size, 0, none⟩, 1, rfl, Nat.le_refl _, by simp [maxLen], Row.of_block (c := #[.int .u8 (c.toNat : Int)]) (jW rfl) hA⟩
theorem LM (w : World) (v : Value) (xs : List UInt8) (hb : Bs (fun _ => False) w v xs) (hl : xs.length <= 100000) :
  Calls Tryz.prog 126 #[v] w fun e w' => ∃ u, e = .returned u /\ qi 5 w.heap.size w' u (zu xs) /\ Fr [] w w' := by
 have HB := Hdq hb
 obtain ⟨a, cap, rfl, k2, k3, -⟩ := hb
 unfold maxLen at k3
 obtain ⟨N, hN⟩ := exq (xs.length)
 rw [hN] at HB k2 hl ⊢
 have HN := Hdq hN
 clear hN
 obtain ⟨B, hB⟩ := exq (w.heap.size)
 have HBB := Hdq hB
 have HE := Hdq (show qi 5 B (w.alloc (.cells #[] 5)) (.slice (some ⟨B, 0, none⟩) 0 0) [] by
  have h := qi.empty 5 B w Y95
  rwa [hB] at h)
 have HBa := Hdq (show Bs (fun _ => False) (w.alloc (.cells #[] 5)) (.slice a N cap) xs from HB.out.keep (Fr.alloc (S := []) _ _) qg)
 have hbs : B <= (w.alloc (.cells #[] 5)).heap.size := by simp; omega
 go_enter Tryz.func126, Tryz.ntmps126
 go_wp2_with (at_builtin; refine qh (A := fun _ => False) (ys := xs) (base := B) Tryz.underlying22 Tryz.infoByte rfl (.tmp 4) (.tmp 5) rfl rfl rfl HE.out HBa.out (by simp; have := HN.out; omega) hbs ?_)
 intro v2 w2 ho2 hg2
 have HF2 := Hdq (show Fr [] w w2 from qi.fr HE.out (Fr.alloc _ _) hg2 Y95)
 have HO2 := Hdq (show qi 5 B w2 v2 (xs ++ List.replicate 0 0) by simpa using ho2)
 have hs2 : B <= w2.heap.size := by have := hg2.size; omega
 obtain ⟨p, hp⟩ := exq (KB N)
 have hp2 : (N = 0 -> p = 8) /\ (N ≠ 0 -> p = (8 - N % 8) % 8) := by
  rw [<- hp]; unfold KB; constructor <;> intro h <;> simp [h]
 have HP := Hdq hp
 clear ho2 hg2 HE HBa hbs hp
 go_wp2
 go_loopw [3] (fun o wr => ∃ i n : Nat, i <= p /\ Hid (n = N + i) /\ Hid (qi 5 B wr o (xs ++ List.replicate i 0)) /\ B <= wr.heap.size /\ (∃ a c, o = .slice a n c /\ n <= c /\ c <= maxLen) /\ Hid (Fr [] w wr)) (fun o _ => 2000000 - (match o with | .slice _ n _ => n | _ => 0))
 case atStart =>
  refine ⟨0, N, by omega, Hdq rfl, HO2, hs2, ?_, HF2⟩
  obtain ⟨a', c', e, q1, q2, -⟩ := HO2.out.bs (A := fun _ => False) qg
  have hl : (xs ++ List.replicate 0 (0 : UInt8)).length = N := by simp; exact HN.out
  rw [hl] at e q1
  exact ⟨a', c', e, q1, q2⟩
 case round =>
  clear HO2 HF2 hs2
  obtain ⟨i, n, hi, HNI, HO, hbw, ⟨a', c', rfl, hn1, hn2⟩, HF⟩ := hrel
  unfold maxLen at hn2
  have hnb : n <= 200000 := by have := HNI.out; omega
  have hlen : (xs ++ List.replicate i (0 : UInt8)).length = n := by have := HNI.out; have := HN.out; simp; omega
  have HLE := Hdq hlen
  clear hlen
  by_cases hip : i < p
  ·have HOa := Hdq (show qi 5 B (wr.alloc (.cells #[.int .u8 0] 5)) (.slice a' n c') (xs ++ List.replicate i 0) from HO.out.keep (Fr.alloc (S := []) _ _) qg)
   have HLi := Hdq (show Bs (fun _ => False) (wr.alloc (.cells #[.int .u8 0] 5)) (.slice (some ⟨wr.heap.size, 0, none⟩) 1 1) [0] from Ug _ wr 0 5 qg)
   have hba : B <= (wr.alloc (.cells #[.int .u8 0] 5)).heap.size := by simp; omega
   have hfa := Hdq (show Fr [] w (wr.alloc (.cells #[.int .u8 0] 5)) from HF.out.al)
   have hc2 : n = 0 ∨ (n ≠ 0 /\ ((n : Int) % 8 != 0) = true) := by
    rw [bne_iff_ne]
    have h1 := HNI.out
    rcases Nat.eq_zero_or_pos N with h0 | h0
    ·have := hp2.1 h0; omega
    ·have := hp2.2 Y95; omega
   clear HO
   rcases hc2 with h0 | ⟨h0, hr⟩
   case inl => 
    obtain rfl : n = 0 := h0
    go_wp2_with (at_builtin; refine qh (A := fun _ => False) (ys := [0]) (base := B) Tryz.underlying22 Tryz.infoByte rfl (.tmp 16) (.tmp 17) rfl rfl rfl HOa.out HLi.out (by rw [HLE.out]; simp) hba ?_)
    intro v' w' h5 h6
    have HO5 := Hdq (show qi 5 B w' v' (xs ++ List.replicate (i + 1) 0) by rw [List.replicate_succ']; exact h5)
    have HF5 := Hdq (show Fr [] w w' from qi.fr HOa.out hfa.out h6 (by have := HBB.out; omega))
    have hb5 : B <= w'.heap.size := by have := h6.size; omega
    have hl5 : (xs ++ List.replicate (i + 1) (0 : UInt8)).length = 1 := by have := HNI.out; have := HN.out; simp; omega
    obtain ⟨a5, c5, e5, p5, p6, -⟩ := HO5.out.bs (A := fun _ => False) qg
    rw [hl5] at e5 p5
    have HNI5 := Hdq (show 1 = N + (i + 1) by have := HNI.out; omega)
    subst e5
    clear h5 h6 HOa HLi hfa hl5 hba HNI HLE
    go_wp2
    constructor
    ·exact ⟨i + 1, 1, by omega, HNI5, HO5, hb5, ⟨a5, c5, rfl, p5, p6⟩, HF5⟩
    ·first | (simp; done) | (simp; omega)
   case inr =>
    go_wp2_with (at_builtin; refine qh (A := fun _ => False) (ys := [0]) (base := B) Tryz.underlying22 Tryz.infoByte rfl (.tmp 16) (.tmp 17) rfl rfl rfl HOa.out HLi.out (by rw [HLE.out]; simp; omega) hba ?_)
    intro v' w' h5 h6
    have HO5 := Hdq (show qi 5 B w' v' (xs ++ List.replicate (i + 1) 0) by rw [List.replicate_succ']; exact h5)
    have HF5 := Hdq (show Fr [] w w' from qi.fr HOa.out hfa.out h6 (by have := HBB.out; omega))
    have hb5 : B <= w'.heap.size := by have := h6.size; omega
    have hl5 : (xs ++ List.replicate (i + 1) (0 : UInt8)).length = (n + 1) := by have := HNI.out; have := HN.out; simp; omega
    obtain ⟨a5, c5, e5, p5, p6, -⟩ := HO5.out.bs (A := fun _ => False) qg
    rw [hl5] at e5 p5
    have HNI5 := Hdq (show (n + 1) = N + (i + 1) by have := HNI.out; omega)
    subst e5
    clear h5 h6 HOa HLi hfa hl5 hba HNI HLE
    go_wp2
    constructor
    ·exact ⟨i + 1, (n + 1), by omega, HNI5, HO5, hb5, ⟨a5, c5, rfl, p5, p6⟩, HF5⟩
    ·first | (simp; done) | (simp; omega)
  ·obtain rfl : i = p := by omega
   have hc2 : n ≠ 0 /\ (n : Int).tmod 8 = 0 := by
    have h1 := HNI.out
    rw [Int.tmod_eq_emod_of_nonneg Y95]
    rcases Nat.eq_zero_or_pos N with h0 | h0
    ·have := hp2.1 h0; omega
    ·have := hp2.2 Y95; omega
   obtain ⟨h0, hr⟩ := hc2
   have HR := Hdq (show qi 5 w.heap.size wr (.slice a' n c') (zu xs) by
    have h := HO.out
    rw [<- HP.out, <- HN.out] at h
    rw [HBB.out]
    exact h)
   clear HO
   go_wp2
   go_ret
   exact ⟨_, rfl, HR.out, HF.out⟩
end Go.Proofs.YtnafknkchbfpaaaGreatDoor
