/-
  Laws over XPo: a region that draws its order, where stores into blocks made in it stand in their place among what only reads older blocks.
-/
import Derived.Test.YtenjpnhccnmnpaaDoorPo2
namespace Go.Bl
open Go.RowKit
set_option linter.unusedVariables false

/-- blocks below N stand, the shapes of all blocks stand -/
structure RN (N : Nat) (x y : World) : Prop where
  os : y.os = x.os
  tape : y.tape = x.tape
  output : y.output = x.output
  size : x.heap.size ≤ y.heap.size
  below : ∀ k, k < N → k < x.heap.size → y.heap[k]? = x.heap[k]?
  shape : ∀ (k : Nat) (c : Array Value) (t : TypeId), x.heap[k]? = some (.cells c t (0, 0)) → ∃ c', c'.size = c.size ∧ y.heap[k]? = some (.cells c' t (0, 0))
theorem RN.refl (N : Nat) (x : World) : RN N x x := ⟨rfl, rfl, rfl, Nat.le_refl _, fun _ _ _ => rfl, fun _ c _ h => ⟨c, rfl, h⟩⟩
theorem RN.trans {N : Nat} {x y z : World} (h : RN N x y) (k : RN N y z) : RN N x z :=
  ⟨k.os.trans h.os, k.tape.trans h.tape, k.output.trans h.output, Nat.le_trans h.size k.size, fun i hi hx => (k.below i hi (Nat.lt_of_lt_of_le hx h.size)).trans (h.below i hi hx), fun i c t hc => by
    obtain ⟨c1, h1, h2⟩ := h.shape i c t hc
    obtain ⟨c2, h3, h4⟩ := k.shape i c1 t h2
    exact ⟨c2, h3.trans h1, h4⟩⟩
theorem RN.of_fr {N : Nat} {x y : World} (h : Fr [] x y) : RN N x y :=
  ⟨h.os, h.tape, h.output, h.size, fun k _ hk => h.block k hk (by simp), fun k c t hc => ⟨c, rfl, h.keep hc (by simp)⟩⟩
theorem RN.of_store {N g : Nat} {x y : World} {c c' : Array Value} {t : TypeId} (h : Fr [g] x y) (hg : N ≤ g) (h1 : At x g (.cells c t (0, 0))) (h2 : At y g (.cells c' t (0, 0))) (hs : c'.size = c.size) : RN N x y :=
  ⟨h.os, h.tape, h.output, h.size, fun k hk hx => h.block k hx (by simp; omega), fun k d t' hc => by
    by_cases hk : k = g
    · subst hk
      have := hc.symm.trans h1
      cases this
      exact ⟨c', hs, h2⟩
    · exact ⟨d, rfl, h.keep hc (by simpa using hk)⟩⟩
theorem RN.at {N : Nat} {x y : World} {b : Nat} {o : Obj} (h : RN N x y) (hb : At x b o) (hN : b < N) : At y b o := (h.below b hN hb.lt).trans hb
theorem RN.cell {x y : World} {b i : Nat} {v : Value} (h : RN x.heap.size x y) (hc : x.cell? ⟨b, i, none⟩ = some v) : y.cell? ⟨b, i, none⟩ = some v := by
  unfold World.cell? at hc ⊢
  rcases Nat.lt_or_ge b x.heap.size with hb | hb
  · rw [h.below b hb hb]; exact hc
  · rw [Array.getElem?_eq_none hb] at hc; simp at hc

/-- worlds that come of w0 so -/
structure KinR (RC : World → World → Prop) (w0 : World) where
  w : World
  fr : RC w0 w
instance (N : Nat) (w0 : World) : Nonempty (KinR (RN N) w0) := ⟨⟨w0, RN.refl _ _⟩⟩
def poR (P : Program) (ops : Array Oper) (Q : Exit → Act → World → Prop) (N : Nat) (w0 : World) (π : List (Kind × Nat)) (a : Act) (w : World) : Prop :=
  poW P ops Q (Fr []) (RN N) w0 π a w
theorem up_pr {P : Program} {ops : List Oper} {Q : Exit → Act → World → Prop} {a : Act} {w : World} (N k1 k2 : Nat) (π : List (Kind × Nat))
    (hst : staticAt ops.toArray (mkTbl ops.toArray) k1 k2 π a.tmps.size = true)
    (h : poR P ops.toArray (fun e a' w' => e = .normal → Up P ops.toArray Q k2 a' w') N w π a w) : Up P ops.toArray Q k1 a w :=
  po_stage (Fr []) (RN N) (Fr.refl _) (fun _ _ _ h k => h.trans k) (RN.refl _) (fun _ _ _ h k => h.trans k) (fun _ _ h => RN.of_fr h) (mkTbl ops.toArray) k1 k2 π hst h

theorem poR_vals {P : Program} {ops : Array Oper} {Q : Exit → Act → World → Prop} {N : Nat} {w0 : World} : ∀ (n : Nat) (π : List (Kind × Nat)) (a : Act) (w : World), valsOk ops (π.take n) = true →
    wpQuiet P ops (fun w' => ∃ x : KinR (RN N) w0, w' = x.w) (fun a' => poR P ops Q N w0 (π.drop n) a' w) (opersOf ops (π.take n)) a → poR P ops Q N w0 π a w
  | 0, π, a, w, _, h => by simpa [opersOf, wpQuiet] using h
  | n + 1, [], a, w, _, h => by simpa [opersOf, wpQuiet] using h
  | n + 1, (k, i) :: π, a, w, hv, h => by
    simp only [List.take_succ_cons, valsOk, List.all_cons, Bool.and_eq_true, decide_eq_true_eq] at hv
    obtain ⟨⟨hk, hi⟩, hv⟩ := hv
    subst hk
    cases ho : ops[i]? with
    | none => simp [ho] at hi
    | some o =>
      simp only [ho] at hi
      have hop : opersOf ops (((Kind.val, i) :: π).take (n + 1)) = o :: opersOf ops (π.take n) := by simp [opersOf, ho]
      rw [hop] at h
      have hd : dstOf ops i = o.dst := by simp [dstOf, ho]
      unfold poR poW
      unfold wpQuiet at h
      by_cases hw : Region.wanted o (yielded ops a.tmps) = true
      · rw [if_pos hw] at h
        obtain ⟨v, h1, h2⟩ := h
        refine ⟨v, fun u hu => runV_of_quiet ho hw (noEnter_of hi u) (h1 u ⟨⟨u, hu⟩, rfl⟩), ?_⟩
        rw [hd]
        exact poR_vals n π _ w hv h2
      · rw [if_neg hw] at h
        refine ⟨undef, fun u hu => ?_, ?_⟩
        · unfold runV
          simp [ho, hw]
        · rw [hd]
          exact poR_vals n π _ w hv h
/-- memory is made: its shape stands -/
theorem poR_new {P : Program} {ops : Array Oper} {Q : Exit → Act → World → Prop} {N : Nat} {w0 : World} {i : Nat} {π : List (Kind × Nat)} {a : Act} {w : World} (o : Oper) (ho : ops[i]? = some o) (hg : o.guard = none) (cs : Array Value) (t : TypeId) (V : Nat → Value)
    (hr : ∀ u : World, (execOp a.eval o).run P u = .ok (.value (V u.heap.size)) (u.alloc (.cells cs t)))
    (h : ∀ (b : Nat) (w' : World) (c : Array Value), w0.heap.size ≤ b → Fr [] w w' → c.size = cs.size → At w' b (.cells c t (0, 0)) → poR P ops Q N w0 π (a.put o.dst (V b)) w') : poR P ops Q N w0 ((.mem, i) :: π) a w := by
  intro u hu
  have hd : dstOf ops i = o.dst := by simp [dstOf, ho]
  refine ⟨V u.heap.size, u.alloc (.cells cs t), ?_, Fr.alloc _ _, fun w' h1 h2 => ?_⟩
  · unfold runV
    have hw : Region.wanted o (yielded ops a.tmps) = true := by simp [Region.wanted, hg]
    simp only [ho, hw, if_true, hr]
  · rw [hd]
    obtain ⟨c, h3, h4⟩ := h2.shape _ cs t (At.new rfl)
    exact h _ w' c hu.size h1 h3 h4
/-- an operation that stands in its place: a store into a block that is not old -/
theorem poR_call {P : Program} {ops : Array Oper} {Q : Exit → Act → World → Prop} {N : Nat} {w0 : World} {i : Nat} {π : List (Kind × Nat)} {a : Act} {w : World} (o : Oper) (ho : ops[i]? = some o)
    (h : ∀ u : World, Fr [] w u → wpList P ops (fun e a' w' => e = .normal ∧ a'.defers = a.defers ∧ RN N u w' ∧ poR P ops Q N w0 π a' w') [o] a u) : poR P ops Q N w0 ((.call, i) :: π) a w :=
  fun u hu => opV_of_wpl (K := fun a' w' => RN N u w' ∧ poR P ops Q N w0 π a' w') o ho (h u hu)
theorem poR_end {P : Program} {ops : Array Oper} {Q : Exit → Act → World → Prop} {N : Nat} {w0 : World} {a : Act} {w : World} (h : ∀ w' : World, Fr [] w w' → Q .normal a w') : poR P ops Q N w0 [] a w := h
/-- a whole struct stored over a block that is known by its shape -/
theorem wpl_store_whole {P : Program} {w : World} {ops : Array Oper} {rest : List Oper} {o : Oper} {a : Act} {Q : Exit → Act → World → Prop} {t te : TypeId} {cur : Array Value} {g : Nat} (p x : Operand) (hgd : o.guard = none)
    (ho : o.op = .store t p x) (c' : Array Value) (hp : a.eval p = .pointer (some ⟨g, 0, none⟩)) (hx : a.eval x = .agg c') (hi : (P.info? t).map (·.size) = some c'.size) (hb : At w g (.cells cur te (0, 0))) (hsz : cur.size = c'.size) (h1 : c'.all (·.oneCell') = true)
    (h : ∀ w', Fr [g] w w' → At w' g (.cells c' te (0, 0)) → w'.heap.size = w.heap.size → wpList P ops Q rest (a.put o.dst undef) w') : wpList P ops Q (o :: rest) a w :=
  wpl_store_at p x hgd ho c' hp hx hi hb (by omega) h1 fun w' h1 h2 h3 => h w' h1 (by
    rw [List.drop_of_length_le (by simp; omega), List.take_zero, List.nil_append, List.append_nil, Array.toArray_toList] at h2
    exact h2) h3
end Go.Bl
