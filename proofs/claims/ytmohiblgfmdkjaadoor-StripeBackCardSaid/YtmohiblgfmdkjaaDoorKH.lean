/-
  Hits (a place, whether the block is gone, and by what it is changed) that can be read.
  Opening an argument: a list of hits.
-/
import Derived.Test.YtmohiblgfmdkjaaDoorGA
import Derived.Deep.MidRow
import Derived.Test.YtmohiblgfmdkjaaDoorGN
import Derived.Deep.Slices
namespace Go.Bl
open Go.RowKit
set_option linter.unusedVariables false
structure HitP where
  place : Int
  gone : Bool
  by_ : List UInt8
  eight : by_.length = 8
def hitC (x : HitP) : List Value := .int .i64 x.place :: .bool x.gone :: x.by_.map u8v
theorem hitC_ten (x : HitP) : (hitC x).length = 10 := by simp [hitC, x.eight]
theorem hitC_len : ∀ l : List HitP, (l.flatMap hitC).length = l.length * 10
  | [] => rfl
  | x :: l => by
    rw [List.flatMap_cons, List.length_append, hitC_len l, List.length_cons, hitC_ten]
    omega
theorem hitC_get (l : List HitP) : ∀ (j f : Nat) (x : HitP), l[j]? = some x → f < 10 → (l.flatMap hitC)[j * 10 + f]? = (hitC x)[f]? := by
  induction l with
  | nil => intro j f x h; simp at h
  | cons e l ih =>
    intro j f x h hf
    have hl := hitC_ten e
    rw [List.flatMap_cons]
    cases j with
    | zero =>
      simp at h; subst h
      rw [List.getElem?_append_left (by omega)]; simp
    | succ j =>
      rw [List.getElem?_append_right (by omega), hl, show (j + 1) * 10 + f - 10 = j * 10 + f by omega]
      exact ih j f x (by simpa using h) hf
def RdH (w : World) (v : Value) (l : List HitP) : Prop := ∃ a cap, v = .slice a l.length cap ∧ l.length ≤ cap ∧ cap ≤ maxLen ∧ Row (fun _ => False) w a (l.flatMap hitC)
theorem RdH.keep {w w' : World} {v : Value} {l : List HitP} (h : RdH w v l) (hf : Fr [] w w') : RdH w' v l := by
  obtain ⟨a, cap, h1, h2, h3, h4⟩ := h
  exact ⟨a, cap, h1, h2, h3, h4.keep hf (by simp)⟩
theorem RdH.cell {w : World} {a : Option Addr} {n cap : Nat} {l : List HitP} (h : RdH w (.slice a n cap) l) (j : Nat) (x : HitP) (hx : l[j]? = some x) :
    ∃ b off, a = some ⟨b, off, none⟩ ∧ ∀ f, f < 10 → w.cell? ⟨b, off + j * 10 + f, none⟩ = (hitC x)[f]? := by
  obtain ⟨a', cap', e, h2, h3, h4⟩ := h
  cases e
  have hj := (List.getElem?_eq_some_iff.1 hx).1
  obtain ⟨b, off, rfl, -, hc⟩ := h4.some_of (by rw [hitC_len]; omega)
  refine ⟨b, off, rfl, fun f hf => ?_⟩
  have := hc (j * 10 + f) (by rw [hitC_len]; omega)
  rw [Nat.add_assoc, this, hitC_get l j f x hx hf]
/-- the cells of one hit lie in a row -/
theorem RdH.row {w : World} {a : Option Addr} {n cap : Nat} {l : List HitP} (h : RdH w (.slice a n cap) l) (j : Nat) (x : HitP) (hx : l[j]? = some x) :
    ∃ b off, a = some ⟨b, off, none⟩ ∧ Row (fun _ => False) w (some ⟨b, off + j * 10, none⟩) (hitC x) := by
  obtain ⟨a', cap', e, h2, h3, h4⟩ := h
  cases e
  have hj := (List.getElem?_eq_some_iff.1 hx).1
  obtain ⟨b, off, rfl, -, hc⟩ := h4.some_of (by rw [hitC_len]; omega)
  refine ⟨b, off, rfl, ?_⟩
  have h5 := (h4.drop (j * 10)).take 10
  have e : ((l.flatMap hitC).drop (j * 10)).take 10 = hitC x := by
    apply List.ext_getElem?
    intro f
    rw [List.getElem?_take]
    split
    · rename_i hf
      rw [List.getElem?_drop, hitC_get l j f x hx hf]
    · rename_i hf
      rw [List.getElem?_eq_none (by rw [hitC_ten]; omega)]
  rwa [e] at h5
/-- a struct loaded out of cells that are known -/
theorem wpl_load_mid {P : Program} {w : World} {ops : Array Oper} {rest : List Oper} {o : Oper} {a : Go.Act} {Q : Exit → Go.Act → World → Prop} {ty : TypeId} {d : TypeDesc} (x : Operand) (ho : o.op = .load ty x) (hgd : o.guard = none)
    (b off : Nat) (c : Array Value) (hx : a.eval x = .pointer (some ⟨b, off, none⟩)) (hc : w.rangeAt b off c.toList) (hu : P.underlying ty = some d) (hd : d.isRow = true) (hi : (P.info? ty).map (·.size) = some c.size)
    (h : wpList P ops Q rest (a.put o.dst (.agg c)) w) : wpList P ops Q (o :: rest) a w := by
  refine wpl_val _ ho hgd (.agg c) ?_ h
  have := run_loadAt_mid (P := P) w b off ty c.toList d hc hu hd (by simpa using hi)
  unfold execOp
  simp only [ho, hx, Sem.run_bind, this, Result.andThen_ok, Sem.run_pure]
theorem RdH.range {w : World} {a : Option Addr} {n cap : Nat} {l : List HitP} (h : RdH w (.slice a n cap) l) (j : Nat) (x : HitP) (hx : l[j]? = some x) :
    ∃ b off, a = some ⟨b, off, none⟩ ∧ w.rangeAt b (off + j * 10) (hitC x) := by
  obtain ⟨b, off, e, hc⟩ := h.cell j x hx
  refine ⟨b, off, e, fun f v hv => ?_⟩
  have hf := (List.getElem?_eq_some_iff.1 hv).1
  rw [hitC_ten] at hf
  rw [hc f hf, hv]
end Go.Bl
namespace Go.Proofs.YtmohiblgfmdkjaaDoor
open Go.ChangeShapes Go.WideShapes Go.ChangeAt Go.RowKit Go.Bl
set_option linter.unusedVariables false
theorem list_ofH {α : Type} {P : Nat → α → Prop} : ∀ (n : Nat), (∀ i, i < n → ∃ x, P i x) → ∃ l : List α, l.length = n ∧ ∀ i x, l[i]? = some x → P i x
  | 0, _ => ⟨[], rfl, fun i x h => by simp at h⟩
  | n + 1, h => by
    obtain ⟨l, hl, hp⟩ := list_ofH n (fun i hi => h i (by omega))
    obtain ⟨x, hx⟩ := h n (by omega)
    refine ⟨l ++ [x], by simp [hl], fun i y hy => ?_⟩
    rcases Nat.lt_or_ge i n with hi | hi
    · rw [List.getElem?_append_left (by omega)] at hy
      exact hp i y hy
    · rw [List.getElem?_append_right (by omega)] at hy
      have : i = n := by
        rcases Nat.lt_or_ge i (n + 1) with h1 | h1
        · omega
        · rw [List.getElem?_eq_none (by simp; omega)] at hy; cases hy
      subst this
      rw [hl] at hy
      simp at hy
      subst hy
      exact hx
set_option maxRecDepth 100000 in
theorem arr8_of_trod {H : Type} {enc : TypeId × Value → H} {W : World} {fuel : Nat} {l : List Value} {x : DataW H × List MemPlace} (hf : DataW.trod enc Tryd.prog W 0 (fun _ => true) true fuel 104 l = some x) :
    ∃ ys : List UInt8, ys.length = 8 ∧ l = ys.map u8v := by
  have h8 : Tryd.prog.cellsOf 104 = 8 := by kernel_rfl
  have su : Tryd.prog.cellsOf 5 = 1 := by kernel_rfl
  obtain ⟨xs, m, -, -, hcl, hlen, hg⟩ := DataW.trod_array Tryd.underlying104 hf
  rw [h8] at hcl
  rw [su] at hg
  have key : ∀ i, i < 8 → ∃ c : UInt8, l[i]? = some (u8v c) := fun i hi => by
    have h1 := hg i hi
    obtain ⟨y, hy⟩ : ∃ y, xs[i]? = some y := ⟨_, List.getElem?_eq_getElem (by omega)⟩
    rw [hy] at h1
    obtain ⟨n, hn, -, hwf⟩ := DataW.trod_int Tryd.underlying5 h1
    have hr : 0 ≤ n ∧ n ≤ 255 := by simpa [Lit.wf, IntKind.min, IntKind.max, IntKind.signed, IntKind.bits] using hwf
    refine ⟨UInt8.ofNat n.toNat, ?_⟩
    have h2 := congrArg (fun q : List Value => q[0]?) hn
    simp only [Nat.mul_one, List.getElem?_take, List.getElem?_drop, List.getElem?_cons_zero] at h2
    rw [if_pos (by decide), Nat.add_zero] at h2
    rw [h2]
    unfold u8v
    congr 2
    rw [UInt8.toNat_ofNat']
    omega
  obtain ⟨ys, hl, hp⟩ := list_ofH (P := fun i (c : UInt8) => l[i]? = some (u8v c)) 8 key
  refine ⟨ys, hl, ?_⟩
  apply List.ext_getElem?
  intro i
  rw [List.getElem?_map]
  rcases Nat.lt_or_ge i 8 with hi | hi
  · obtain ⟨c, hc⟩ : ∃ c, ys[i]? = some c := ⟨_, List.getElem?_eq_getElem (by omega)⟩
    rw [hc, hp i c hc]
    rfl
  · rw [List.getElem?_eq_none (by omega), List.getElem?_eq_none (by omega)]
    rfl
set_option maxRecDepth 100000 in
theorem hit_of_trod {H : Type} {enc : TypeId × Value → H} {W : World} {fuel : Nat} {l : List Value} {x : DataW H × List MemPlace} (hf : DataW.trod enc Tryd.prog W 0 (fun _ => true) true fuel 106 l = some x) :
    ∃ y : HitP, l = hitC y := by
  have h2 : Tryd.prog.cellsOf 106 = 10 := by kernel_rfl
  have si : Tryd.prog.cellsOf 3 = 1 := by kernel_rfl
  have sb : Tryd.prog.cellsOf 4 = 1 := by kernel_rfl
  have sa : Tryd.prog.cellsOf 104 = 8 := by kernel_rfl
  obtain ⟨xs, n, -, -, hcl, hlen, hg⟩ := DataW.trod_struct Tryd.underlying106 hf
  match l, hcl.trans h2 with
  | [c0, c1, c2, c3, c4, c5, c6, c7, c8, c9], _ =>
    have hl3 : xs.length = 3 := hlen
    have some_of : ∀ i, i < 3 → ∃ y, xs[i]? = some y := fun i hi => ⟨_, List.getElem?_eq_getElem (by omega)⟩
    obtain ⟨y0, e0⟩ := some_of 0 (by omega)
    obtain ⟨y1, e1⟩ := some_of 1 (by omega)
    obtain ⟨y2, e2⟩ := some_of 2 (by omega)
    have g0 := (hg 0 _ rfl).trans e0
    have g1 := (hg 1 _ rfl).trans e1
    have g2 := (hg 2 _ rfl).trans e2
    simp only [List.getElem_toArray, List.getElem_cons_succ, List.getElem_cons_zero, si, sb, sa, List.drop_zero, List.drop_succ_cons, List.take_succ_cons, List.take_zero] at g0 g1 g2
    obtain ⟨n0, z0, -⟩ := DataW.trod_int Tryd.underlying3 g0
    obtain ⟨b1, z1, -⟩ := DataW.trod_bool Tryd.underlying4 g1
    obtain ⟨ys, hy, z2⟩ := arr8_of_trod g2
    simp only [List.cons.injEq, and_true] at z0 z1
    subst z0 z1
    refine ⟨⟨n0, b1, ys, hy⟩, ?_⟩
    show _ = Value.int .i64 n0 :: .bool b1 :: ys.map u8v
    rw [← z2]
set_option maxRecDepth 100000 in
theorem open_hits {H : Type} {enc : TypeId × Value → H} {W : World} {base : Nat} {v : Value} {d : DataW H} {p : List MemPlace} (hval : Value.okWide Tryd.prog W .any base 23 v) (h : DataW.Trod enc Tryd.prog W 0 (fun _ => true) true 23 v d p) :
    ∃ l : List HitP, RdH W v l := by
  obtain ⟨a1, len, cap, rfl⟩ := okWide_slice Tryd.underlying23 hval
  obtain ⟨fuel, hf⟩ := h
  have h2 : Tryd.prog.cellsOf 106 = 10 := by kernel_rfl
  rcases Go.Deep.open_slice Tryd.underlying23 hf with ⟨hcs, hx⟩ | ⟨a, len', cap', m, n, D, Pl, hcs, _, hl, hm, hmm, hx, hel⟩
  · simp [Value.cells] at hcs
    obtain ⟨rfl, rfl, rfl⟩ := hcs
    exact ⟨[], ⟨none, 0, rfl, Nat.le_refl _, by simp [maxLen], .inl rfl⟩⟩
  · simp [Value.cells] at hcs
    obtain ⟨rfl, rfl, rfl⟩ := hcs
    simp only [if_true] at hmm
    rw [h2] at hel
    have key : ∀ i, i < len → ∃ x : HitP, ∀ f, f < 10 → W.cell? (a.add (i * 10 + f)) = (hitC x)[f]? := fun i hi => by
      obtain ⟨cs', hc, ht⟩ := hel i (by omega)
      obtain ⟨x, hx⟩ := hit_of_trod ht
      have hcc := (World.cells?_some hc).2.2
      refine ⟨x, fun f hf => ?_⟩
      have := hcc f hf
      rw [hx, Addr.add_add] at this
      exact this
    obtain ⟨l, hl, hp⟩ := list_ofH len key
    refine ⟨l, ⟨some a, cap, by rw [hl], by omega, hm, row_of_cells fun i hi => ?_⟩⟩
    rw [hitC_len] at hi
    obtain ⟨x, hx⟩ : ∃ x, l[i / 10]? = some x := ⟨_, List.getElem?_eq_getElem (by omega)⟩
    have h1 := (hp _ x hx) (i % 10) (by omega)
    rw [← hitC_get l (i / 10) (i % 10) x hx (by omega), show i / 10 * 10 + i % 10 = i by omega] at h1
    exact h1
end Go.Proofs.YtmohiblgfmdkjaaDoor
