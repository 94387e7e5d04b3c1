import Derived.Test.YtnafknkchbfpaaaGreatDoorSStr
set_option maxRecDepth 1000000
set_option maxHeartbeats 8000000
namespace Go.Proofs.YtnafknkchbfpaaaGreatDoor
open Go.RowKit Go.Bl
set_option linter.unusedVariables false
noncomputable def WJ : Code := ((Tryz.f28.body.bind (qn 6)).getD .skip)
theorem K9 (w : World) (a : Go.Act) (hsz : a.tmps.size = 28) (b1 o1 c1 b2 o2 c2 n k : Nat) (x y : Value) (xs : List UInt8) (S : ByteArray) (hS1 : (⟨xs.toArray⟩ : ByteArray) = S) (hkn : k < n) (hn : n <= 1000000) (h0 : qd a 0 = .slice (some ⟨b1, o1, none⟩) n c1) (h1 : qd a 1 = .slice (some ⟨b2, o2, none⟩) n c2) (h5 : qd a 5 = .int .i64 (k : Int)) (hx : w.cell? ⟨b1, o1 + k, none⟩ = some x) (hy : w.cell? ⟨b2, o2 + k, none⟩ = some y) (hbx : Bs (fun _ => False) w x xs) (hby : Bs (fun _ => False) w y xs) (Q : Exit -> Go.Act -> World -> Prop)
  (hQ : ∀ (b : Go.Act) (p : World), b.defers = a.defers -> b.tmps.size = a.tmps.size -> (∀ s, s ∉ ([16, 17, 18, 19, 20, 21, 22, 23, 24, 25, 26] : List Nat) -> qd b s = qd a s) -> qd b 26 = .bool false -> Fr [] w p -> Q .normal b p) : Code.wp Tryz.prog WJ Q a w := by
 conv => arg 2; whnf
 refine jR qf qf [some 16, some 17, some 18, some 19, some 20, some 21, some 22, some 23, some 24, some 25, some 26] [] [.rd (.slice (some ⟨b1, o1, none⟩) n c1) 0, .rd (.int .i64 (k : Int)) 0, .rd (.pointer (some ⟨b1, o1 + k, none⟩)) 0, .rd (x) 0, .rd (.string S) 0, .rd (.slice (some ⟨b2, o2, none⟩) n c2) 0, .rd (.int .i64 (k : Int)) 0, .rd (.pointer (some ⟨b2, o2 + k, none⟩)) 0, .rd (y) 0, .rd (.string S) 0, .rd (.bool false) 0] (fun j => undef) (fun _ p => Fr [] w p) qf qw xz qf qf qe ?_ ⟨?_, ?_, ?_, ?_, ?_, ?_, ?_, ?_, ?_, ?_, ?_, trivial⟩ ?_
 ·intro w1 hw1
  exact hw1
 ·refine ⟨⟨16, rfl⟩, .inl rfl, fun b p s hs hS h => ?_⟩
  have e0 : b.eval (.tmp 0) = .slice (some ⟨b1, o1, none⟩) n c1 := (h.old 0 qe).trans h0
  exact Y2
 ·refine ⟨⟨17, rfl⟩, .inl rfl, fun b p s hs hS h => ?_⟩
  have e0 : b.eval (.tmp 5) = .int .i64 (k : Int) := (h.old 5 qe).trans h5
  exact Y2
 ·refine ⟨⟨18, rfl⟩, .inl rfl, fun b p s hs hS h => ?_⟩
  have e0 := h.er 0 16 qf rfl rfl
  have e1 := h.er 1 17 qf rfl rfl
  exact Y53
 ·refine ⟨⟨19, rfl⟩, .inl rfl, fun b p s hs hS h => ?_⟩
  have e0 := h.er 2 18 qf rfl rfl
  have c0 := jZ hS hx
  exact Y7
 ·refine ⟨⟨20, rfl⟩, .inl rfl, fun b p s hs hS h => ?_⟩
  have e0 := h.er 3 19 qf rfl rfl
  exact ⟨_, by rfl, rfl, UV (src := 22) (dst := 9) Tryz.underlying22 Tryz.underlying5 Tryz.underlying9 (.tmp 19) rfl e0 (hbx.keep hS qg) S hS1⟩
 ·refine ⟨⟨21, rfl⟩, .inl rfl, fun b p s hs hS h => ?_⟩
  have e0 : b.eval (.tmp 1) = .slice (some ⟨b2, o2, none⟩) n c2 := (h.old 1 qe).trans h1
  exact Y2
 ·refine ⟨⟨22, rfl⟩, .inl rfl, fun b p s hs hS h => ?_⟩
  have e0 : b.eval (.tmp 5) = .int .i64 (k : Int) := (h.old 5 qe).trans h5
  exact Y2
 ·refine ⟨⟨23, rfl⟩, .inl rfl, fun b p s hs hS h => ?_⟩
  have e0 := h.er 5 21 qf rfl rfl
  have e1 := h.er 6 22 qf rfl rfl
  exact Y53
 ·refine ⟨⟨24, rfl⟩, .inl rfl, fun b p s hs hS h => ?_⟩
  have e0 := h.er 7 23 qf rfl rfl
  have c0 := jZ hS hy
  exact Y7
 ·refine ⟨⟨25, rfl⟩, .inl rfl, fun b p s hs hS h => ?_⟩
  have e0 := h.er 8 24 qf rfl rfl
  exact ⟨_, by rfl, rfl, UV (src := 22) (dst := 9) Tryz.underlying22 Tryz.underlying5 Tryz.underlying9 (.tmp 24) rfl e0 (hby.keep hS qg) S hS1⟩
 ·refine ⟨⟨26, rfl⟩, .inl rfl, fun b p s hs hS h => ?_⟩
  have e0 := h.er 4 20 qf rfl rfl
  have e1 := h.er 9 25 qf rfl rfl
  have ec : ∀ v, b.eval (.const v) = v := fun _ => rfl
  obtain ⟨ρ, hρ⟩ := exq (b.eval)
  rw [hρ] at e0 e1 ec ⊢
  exact ⟨_, by rfl, rfl, by unfold execOp; simp [go_sem, e0, e1, ec]⟩
 ·intro b p h1 h2 h3 h4 h5
  exact hQ b p h1 h2 (fun s hs => h3 s (fun hm => hs vd)) (h5 10 (.bool false) 0 26 rfl rfl) h4
theorem JN (w : World) (u v : Value) (ls1 ls2 : List (Value × List UInt8)) (h1 : RdB (fun _ => False) w u ls1) (h2 : RdB (fun _ => False) w v ls2) (he : ls1.map (·.2) = ls2.map (·.2)) (hl : ls1.length <= 100000) :
  Calls Tryz.prog 28 #[u, v] w fun e w' => e = .returned (.bool true) /\ Fr [] w w' := by
 have HL := Hdq (show ls1.length = ls2.length by have h := congrArg List.length he; simpa using h)
 have HE := Hdq he
 have H1 := Hdq h1
 have H2 := Hdq h2
 obtain ⟨a1, c1, rfl, p1, p2⟩ := jI h1
 obtain ⟨a2, c2, rfl, q1, q2⟩ := jI h2
 unfold maxLen at p2 q2
 rw [<- HL.out] at H2 q1 ⊢
 obtain ⟨n, hn⟩ := exq (ls1.length)
 rw [hn] at H1 H2 p1 q1 hl ⊢
 have HN := Hdq hn
 clear h1 h2 he hn
 go_enter Tryz.func28, Tryz.ntmps28
 go_wp2
 go_loopw [13] (fun i wr => ∃ k, k <= n /\ i = .int .i64 k /\ Hid (Fr [] w wr)) (fun i _ => n - (intOf i).toNat)
 case atStart => exact ⟨0, by omega, rfl, Hdq (Fr.refl _ _)⟩
 case round =>
  obtain ⟨k, hk, rfl, HF⟩ := hrel
  by_cases hkn : k < n
  ·obtain ⟨x, hx⟩ : ∃ x, ls1[k]? = some x := ⟨_, List.getElem?_eq_getElem ux⟩
   obtain ⟨y, hy⟩ : ∃ y, ls2[k]? = some y := ⟨_, List.getElem?_eq_getElem (by have := HN.out; have := HL.out; omega)⟩
   have hxy : x.2 = y.2 := by
    have h := congrArg (fun l : List (List UInt8) => l[k]?) HE.out
    simp only [List.getElem?_map, hx, hy, Option.map_some, Option.some.injEq] at h
    exact h
   obtain ⟨b1, o1, rfl, d1, d2⟩ := zG (H1.out.keep HF.out qg) k x hx
   obtain ⟨b2, o2, rfl, d3, d4⟩ := zG (H2.out.keep HF.out qg) k y hy
   rw [<- hxy] at d4
   obtain ⟨x, xs⟩ := x
   obtain ⟨y, ys⟩ := y
   simp only at d1 d2 d3 d4
   have D1 := Hdq d1
   have D2 := Hdq d2
   have D3 := Hdq d3
   have D4 := Hdq d4
   clear hx hy hxy d1 d2 d3 d4
   go_wp2_with fail
   refine K9 _ _ rfl b1 o1 c1 b2 o2 c2 n k x y xs _ rfl hkn Y95 rfl rfl rfl D1.out D3.out D2.out D4.out _ ?_
   intro b' p e1 e2 e3 e4 hf
   have HF2 := Hdq (HF.out.trans hf)
   obtain ⟨f, hb⟩ := ZJ b' _ _ e1 e2 e3
   have hf26 : f 26 = .bool false := by
    rw [hb] at e4
    simpa [qd, Go.Act.put] using e4
   clear e1 e2 e3 e4 hf HF D1 D2 D3 D4
   subst hb
   simp only [List.foldl_cons, List.foldl_nil, Go.Act.put, List.setIfInBounds_toArray, List.set_cons_succ, List.set_cons_zero, hf26]
   go_wp2
   go_roundw
   case rel => exact ⟨k + 1, by omega, by go_num, HF2⟩
   case measure => simp [intOf]; omega
  ·obtain rfl : k = n := by omega
   go_wp2
   exact Y82
end Go.Proofs.YtnafknkchbfpaaaGreatDoor
