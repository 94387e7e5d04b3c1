/-
  Opening an argument: a ledger's state.
-/
import Derived.Test.YtdkhgpnidamalaaDoorOpT
import Derived.Test.YtdkhgpnidamalaaDoorStq
namespace Go.Proofs.YtdkhgpnidamalaaDoor
open Go.ChangeShapes Go.WideShapes Go.ChangeAt Go.RowKit Go.Bl
set_option linter.unusedVariables false
theorem drop_split {α : Type} (l : List α) (k m : Nat) : (l.drop k).take m ++ l.drop (k + m) = l.drop k := by
  rw [← List.drop_drop]
  exact List.take_append_drop m (l.drop k)
set_option maxRecDepth 100000 in
theorem par_of_trod {H : Type} {enc : TypeId × Value → H} {W : World} {fuel : Nat} {l : List Value} {x : DataW H × List MemPlace} (hf : DataW.trod enc Tryd.prog W 0 (fun _ => true) true fuel 28 l = some x) :
    ∃ a b c d e f : Int, l = [.int .i64 a, .int .i64 b, .int .i64 c, .int .i64 d, .int .i64 e, .int .i64 f] ∧ (inI a ∧ inI b ∧ inI c) ∧ inI d ∧ inI e ∧ inI f := by
  have h6 : Tryd.prog.cellsOf 28 = 6 := by kernel_rfl
  have si : Tryd.prog.cellsOf 3 = 1 := by kernel_rfl
  obtain ⟨xs, n, -, -, hcl, hlen, hg⟩ := DataW.trod_struct Tryd.underlying28 hf
  match l, hcl.trans h6 with
  | [c0, c1, c2, c3, c4, c5], _ =>
    have hl6 : xs.length = 6 := hlen
    have some_of : ∀ i, i < 6 → ∃ y, xs[i]? = some y := fun i hi => ⟨_, List.getElem?_eq_getElem (by omega)⟩
    obtain ⟨y0, e0⟩ := some_of 0 (by omega)
    obtain ⟨y1, e1⟩ := some_of 1 (by omega)
    obtain ⟨y2, e2⟩ := some_of 2 (by omega)
    obtain ⟨y3, e3⟩ := some_of 3 (by omega)
    obtain ⟨y4, e4⟩ := some_of 4 (by omega)
    obtain ⟨y5, e5⟩ := some_of 5 (by omega)
    have g0 := (hg 0 _ rfl).trans e0
    have g1 := (hg 1 _ rfl).trans e1
    have g2 := (hg 2 _ rfl).trans e2
    have g3 := (hg 3 _ rfl).trans e3
    have g4 := (hg 4 _ rfl).trans e4
    have g5 := (hg 5 _ rfl).trans e5
    simp only [List.getElem_toArray, List.getElem_cons_succ, List.getElem_cons_zero, si, List.drop_zero, List.drop_succ_cons, List.take_succ_cons, List.take_zero] at g0 g1 g2 g3 g4 g5
    obtain ⟨n0, z0, -, w0⟩ := DataW.trod_int Tryd.underlying3 g0
    obtain ⟨n1, z1, -, w1⟩ := DataW.trod_int Tryd.underlying3 g1
    obtain ⟨n2, z2, -, w2⟩ := DataW.trod_int Tryd.underlying3 g2
    obtain ⟨n3, z3, -, w3⟩ := DataW.trod_int Tryd.underlying3 g3
    obtain ⟨n4, z4, -, w4⟩ := DataW.trod_int Tryd.underlying3 g4
    obtain ⟨n5, z5, -, w5⟩ := DataW.trod_int Tryd.underlying3 g5
    simp only [List.cons.injEq, and_true] at z0 z1 z2 z3 z4 z5
    subst z0 z1 z2 z3 z4 z5
    exact ⟨n0, n1, n2, n3, n4, n5, rfl, ⟨inI_of w0, inI_of w1, inI_of w2⟩, inI_of w3, inI_of w4, inI_of w5⟩
set_option maxRecDepth 100000 in
theorem item_of_trod {H : Type} {enc : TypeId × Value → H} {W : World} {fuel : Nat} {l : List Value} {x : DataW H × List MemPlace} (hf : DataW.trod enc Tryd.prog W 0 (fun _ => true) true fuel 32 l = some x) :
    ∃ y : ItP, l = itC y ∧ y.wf := by
  have h76 : Tryd.prog.cellsOf 32 = 76 := by kernel_rfl
  have si : Tryd.prog.cellsOf 3 = 1 := by kernel_rfl
  have ss : Tryd.prog.cellsOf 9 = 1 := by kernel_rfl
  have sb : Tryd.prog.cellsOf 4 = 1 := by kernel_rfl
  have sp : Tryd.prog.cellsOf 28 = 6 := by kernel_rfl
  have sd : Tryd.prog.cellsOf 30 = 32 := by kernel_rfl
  obtain ⟨xs, n, -, -, hcl, hlen, hg⟩ := DataW.trod_struct Tryd.underlying32 hf
  have hl : l.length = 76 := hcl.trans h76
  have hl9 : xs.length = 9 := hlen
  have some_of : ∀ i, i < 9 → ∃ y, xs[i]? = some y := fun i hi => ⟨_, List.getElem?_eq_getElem (by omega)⟩
  obtain ⟨y0, e0⟩ := some_of 0 (by omega)
  obtain ⟨y1, e1⟩ := some_of 1 (by omega)
  obtain ⟨y2, e2⟩ := some_of 2 (by omega)
  obtain ⟨y3, e3⟩ := some_of 3 (by omega)
  obtain ⟨y4, e4⟩ := some_of 4 (by omega)
  obtain ⟨y5, e5⟩ := some_of 5 (by omega)
  obtain ⟨y6, e6⟩ := some_of 6 (by omega)
  obtain ⟨y7, e7⟩ := some_of 7 (by omega)
  obtain ⟨y8, e8⟩ := some_of 8 (by omega)
  have g0 := (hg 0 _ rfl).trans e0
  have g1 := (hg 1 _ rfl).trans e1
  have g2 := (hg 2 _ rfl).trans e2
  have g3 := (hg 3 _ rfl).trans e3
  have g4 := (hg 4 _ rfl).trans e4
  have g5 := (hg 5 _ rfl).trans e5
  have g6 := (hg 6 _ rfl).trans e6
  have g7 := (hg 7 _ rfl).trans e7
  have g8 := (hg 8 _ rfl).trans e8
  simp only [List.getElem_toArray, List.getElem_cons_succ, List.getElem_cons_zero, si, ss, sb, sp, sd] at g0 g1 g2 g3 g4 g5 g6 g7 g8
  obtain ⟨n0, z0, -, w0⟩ := DataW.trod_int Tryd.underlying3 g0
  obtain ⟨n1, z1, -, w1⟩ := DataW.trod_string Tryd.underlying9 g1
  obtain ⟨pa, pb, pc, pd, pe, pf, z2, ⟨w2a, w2b, w2c⟩, w2d, w2e, w2f⟩ := par_of_trod g2
  obtain ⟨d3, l3, z3⟩ := dig_of_trod g3
  obtain ⟨d4, l4, z4⟩ := dig_of_trod g4
  obtain ⟨n5, z5, -, w5⟩ := DataW.trod_int Tryd.underlying3 g5
  obtain ⟨b6, z6, -⟩ := DataW.trod_bool Tryd.underlying4 g6
  obtain ⟨n7, z7, -, w7⟩ := DataW.trod_int Tryd.underlying3 g7
  obtain ⟨n8, z8, -, w8⟩ := DataW.trod_int Tryd.underlying3 g8
  refine ⟨⟨n0, n1.data.toList, pa, pb, pc, pd, pe, pf, d3, d4, n5, b6, n7, n8⟩, ?_, ⟨inI_of w0, w2a, w2b, inI_of w7, inI_of w8, l3, l4⟩⟩
  have k0 := drop_split l 0 1
  have k1 := drop_split l 1 1
  have k2 := drop_split l 2 6
  have k3 := drop_split l 8 32
  have k4 := drop_split l 40 32
  have k5 := drop_split l 72 1
  have k6 := drop_split l 73 1
  have k7 := drop_split l 74 1
  have k8 := drop_split l 75 1
  rw [z0] at k0
  rw [z1] at k1
  rw [z2] at k2
  rw [z3] at k3
  rw [z4] at k4
  rw [z5] at k5
  rw [z6] at k6
  rw [z7] at k7
  rw [z8] at k8
  have k9 : l.drop 76 = [] := List.drop_eq_nil_of_le (by omega)
  simp only [Nat.reduceAdd, Nat.zero_add, List.drop_zero] at k0 k1 k2 k3 k4 k5 k6 k7 k8
  rw [← k0, ← k1, ← k2, ← k3, ← k4, ← k5, ← k6, ← k7, ← k8, k9]
  rfl
set_option maxRecDepth 100000 in
theorem entry_of_trod {H : Type} {enc : TypeId × Value → H} {W : World} {fuel : Nat} {l : List Value} {x : DataW H × List MemPlace} (hf : DataW.trod enc Tryd.prog W 0 (fun _ => true) true fuel 40 l = some x) :
    ∃ y : EntP, l = entR y ∧ y.ok ∧ inI y.tick := by
  have h7 : Tryd.prog.cellsOf 40 = 7 := by kernel_rfl
  have si : Tryd.prog.cellsOf 3 = 1 := by kernel_rfl
  obtain ⟨xs, n, -, -, hcl, hlen, hg⟩ := DataW.trod_struct Tryd.underlying40 hf
  match l, hcl.trans h7 with
  | [c0, c1, c2, c3, c4, c5, c6], _ =>
    have hl6 : xs.length = 7 := hlen
    have some_of : ∀ i, i < 7 → ∃ y, xs[i]? = some y := fun i hi => ⟨_, List.getElem?_eq_getElem (by omega)⟩
    obtain ⟨y0, e0⟩ := some_of 0 (by omega)
    obtain ⟨y1, e1⟩ := some_of 1 (by omega)
    obtain ⟨y2, e2⟩ := some_of 2 (by omega)
    obtain ⟨y3, e3⟩ := some_of 3 (by omega)
    obtain ⟨y4, e4⟩ := some_of 4 (by omega)
    obtain ⟨y5, e5⟩ := some_of 5 (by omega)
    obtain ⟨y6, e6⟩ := some_of 6 (by omega)
    have g0 := (hg 0 _ rfl).trans e0
    have g1 := (hg 1 _ rfl).trans e1
    have g2 := (hg 2 _ rfl).trans e2
    have g3 := (hg 3 _ rfl).trans e3
    have g4 := (hg 4 _ rfl).trans e4
    have g5 := (hg 5 _ rfl).trans e5
    have g6 := (hg 6 _ rfl).trans e6
    simp only [List.getElem_toArray, List.getElem_cons_succ, List.getElem_cons_zero, si, List.drop_zero, List.drop_succ_cons, List.take_succ_cons, List.take_zero] at g0 g1 g2 g3 g4 g5 g6
    obtain ⟨n0, z0, -, w0⟩ := DataW.trod_int Tryd.underlying3 g0
    obtain ⟨n1, z1, -, w1⟩ := DataW.trod_int Tryd.underlying3 g1
    obtain ⟨n2, z2, -, w2⟩ := DataW.trod_int Tryd.underlying3 g2
    obtain ⟨n3, z3, -, w3⟩ := DataW.trod_int Tryd.underlying3 g3
    obtain ⟨n4, z4, -, w4⟩ := DataW.trod_int Tryd.underlying3 g4
    obtain ⟨n5, z5, -, w5⟩ := DataW.trod_int Tryd.underlying3 g5
    obtain ⟨n6, z6, -, w6⟩ := DataW.trod_int Tryd.underlying3 g6
    simp only [List.cons.injEq, and_true] at z0 z1 z2 z3 z4 z5 z6
    subst z0 z1 z2 z3 z4 z5 z6
    exact ⟨⟨n0, n1, n2, n3, n4, n5, n6⟩, rfl, ⟨inI_of w0, inI_of w1, inI_of w2, inI_of w3, inI_of w5, inI_of w6⟩, inI_of w4⟩
set_option maxRecDepth 100000 in
theorem rows_of_trod {α : Type} {C : α → List Value} {K : α → Prop} {H : Type} {enc : TypeId × Value → H} {W : World} {ts te s : Nat} (us : Tryd.prog.underlying ts = some (.slice te)) (hs : Tryd.prog.cellsOf te = s) (h0 : 0 < s)
    (hl : ∀ y, K y → (C y).length = s) (hel : ∀ (fuel : Nat) (l : List Value) (x : DataW H × List MemPlace), DataW.trod enc Tryd.prog W 0 (fun _ => true) true fuel te l = some x → ∃ y, l = C y ∧ K y)
    {fuel : Nat} {cs : List Value} {x : DataW H × List MemPlace} (hf : DataW.trod enc Tryd.prog W 0 (fun _ => true) true fuel ts cs = some x) :
    ∃ (v : Value) (l : List α), cs = [v] ∧ RdK (fun _ => False) s W v (l.map C) ∧ ∀ y ∈ l, K y := by
  rcases Go.Deep.open_slice us hf with ⟨hcs, hx⟩ | ⟨a, len, cap, m, n, D, Pl, hcs, _, hll, hm, hmm, hx, hq⟩
  · exact ⟨_, [], hcs, ⟨⟨none, 0, rfl, Nat.le_refl _, by simp [maxLen], .inl rfl⟩, by simp⟩, by simp⟩
  · simp only [if_true] at hmm
    rw [hs] at hq
    have key : ∀ i, i < len → ∃ y : α, K y ∧ ∀ f, f < s → W.cell? (a.add (i * s + f)) = (C y)[f]? := fun i hi => by
      obtain ⟨cs', hc, ht⟩ := hq i (by omega)
      obtain ⟨y, he, hb⟩ := hel _ _ _ ht
      have hcc := (World.cells?_some hc).2.2
      refine ⟨y, hb, fun f hf => ?_⟩
      have := hcc f hf
      rw [he, Addr.add_add] at this
      exact this
    obtain ⟨l, hdl, hp⟩ := list_ofT len key
    refine ⟨_, l, hcs, rdk_of h0 (by rw [List.length_map, hdl]) (by omega) hm (fun i r hr => ?_), fun y hy => ?_⟩
    · rw [List.getElem?_map] at hr
      cases hdi : l[i]? with
      | none => rw [hdi] at hr; cases hr
      | some d =>
        rw [hdi] at hr
        cases hr
        exact ⟨hl _ (hp i d hdi).1, (hp i d hdi).2⟩
    · obtain ⟨i, hi⟩ := List.mem_iff_getElem?.1 hy
      exact (hp i y hi).1
set_option maxRecDepth 100000 in
theorem open_state {H : Type} {enc : TypeId × Value → H} {W : World} {base : Nat} {v : Value} {d : DataW H} {p : List MemPlace} (hval : Value.okWide Tryd.prog W .any base 25 v) (h : DataW.Trod enc Tryd.prog W 0 (fun _ => true) true 25 v d p) :
    ∃ (ia ea : Option Addr) (IN ic EN ec : Nat) (its : List ItP) (ens : List EntP), v = .agg #[.slice ia IN ic, .slice ea EN ec] ∧ StA (fun _ => False) W (.slice ia IN ic) (.slice ea EN ec) its ens ∧ its.length = IN ∧ ens.length = EN ∧ IN ≤ maxLen ∧ EN ≤ maxLen := by
  obtain ⟨cs, rfl, hsz⟩ := okWide_struct Tryd.underlying25 hval
  obtain ⟨q⟩ := cs
  have h2 : Tryd.prog.cellsOf 25 = 2 := by kernel_rfl
  have si : Tryd.prog.cellsOf 22 = 1 := by kernel_rfl
  have se : Tryd.prog.cellsOf 23 = 1 := by kernel_rfl
  match q, hsz.trans h2 with
  | [c0, c1], _ =>
    obtain ⟨fuel, hf⟩ := h
    obtain ⟨xs, n, -, -, -, hlen, hg⟩ := DataW.trod_struct Tryd.underlying25 hf
    have hl2 : xs.length = 2 := hlen
    have some_of : ∀ i, i < 2 → ∃ y, xs[i]? = some y := fun i hi => ⟨_, List.getElem?_eq_getElem (by omega)⟩
    obtain ⟨y0, e0⟩ := some_of 0 (by omega)
    obtain ⟨y1, e1⟩ := some_of 1 (by omega)
    have g0 := (hg 0 _ rfl).trans e0
    have g1 := (hg 1 _ rfl).trans e1
    simp only [List.getElem_toArray, List.getElem_cons_succ, List.getElem_cons_zero, Value.cells, si, se, List.drop_zero, List.drop_succ_cons, List.take_succ_cons, List.take_zero] at g0 g1
    obtain ⟨v0, its, z0, r0, k0⟩ := rows_of_trod (C := itC) (K := ItP.wf) (s := 76) Tryd.underlying22 (by kernel_rfl) (by decide) (fun y hy => itC_len hy) (fun _ _ _ h => item_of_trod h) g0
    obtain ⟨v1, ens, z1, r1, k1⟩ := rows_of_trod (C := entR) (K := EntP.ok) (s := 7) Tryd.underlying23 (by kernel_rfl) (by decide) (fun y hy => rfl) (fun _ _ _ h => by obtain ⟨y, a, b, -⟩ := entry_of_trod h; exact ⟨y, a, b⟩) g1
    simp only [List.cons.injEq, and_true] at z0 z1
    subst z0 z1
    obtain ⟨ia, ic, e0', q1, q2⟩ := r0.shape
    obtain ⟨ea, ec, e1', q3, q4⟩ := r1.shape
    rw [List.length_map] at e0' e1' q1 q3
    subst e0' e1'
    exact ⟨ia, ea, _, ic, _, ec, its, ens, rfl, ⟨r0, r1, k0, k1⟩, rfl, rfl, by omega, by omega⟩
end Go.Proofs.YtdkhgpnidamalaaDoor
