/-
  Laws over XPo: a region that draws its order, step by step, where all but its tail turns nothing old.
-/
import Derived.Test.YtenjpnhccnmnpaaDoorPo
import Derived.Test.YtenjpnhccnmnpaaDoorG3
import Derived.BigQuiet
namespace Go.Bl
open Go.RowKit
set_option linter.unusedVariables false

/-- the walk in a fixed order, where what floats turns nothing old -/
def poF (P : Program) (ops : Array Oper) (Q : Exit → Act → World → Prop) (w0 : World) (π : List (Kind × Nat)) (a : Act) (w : World) : Prop :=
  poW P ops Q (Fr []) (Fr []) w0 π a w

theorem wp_region_pf {P : Program} {ops : List Oper} {Q : Exit → Act → World → Prop} {id : Nat} {a : Act} {w : World} (π : List (Kind × Nat)) (hm : P.follows .mixedOrders = true)
    (hst : staticAt ops.toArray (mkTbl ops.toArray) 0 ops.toArray.size π a.tmps.size = true)
    (h : ∀ w1 : World, Fr [] w w1 → poF P ops.toArray Q w1 π a w1) : (Code.region id ops.toArray true).wp P Q a w :=
  wp_region_po (Fr []) (Fr []) (Fr.refl _) (fun _ _ _ h k => h.trans k) (Fr.refl _) (fun _ _ _ h k => h.trans k) (fun _ _ h => h) (mkTbl ops.toArray) π hm hst
    (fun w1 h1 h2 h3 h4 => h w1 (Fr.of_heap h1 h2 h3 h4))

/-- the same, stage by stage -/
theorem wp_region_upF {P : Program} {ops : List Oper} {Q : Exit → Act → World → Prop} {id : Nat} {a : Act} {w : World} (hm : P.follows .mixedOrders = true)
    (h : ∀ w1 : World, Fr [] w w1 → Up P ops.toArray Q 0 a w1) : (Code.region id ops.toArray true).wp P Q a w :=
  wp_region_up hm fun w1 h1 h2 h3 h4 => h w1 (Fr.of_heap h1 h2 h3 h4)
theorem up_pf {P : Program} {ops : List Oper} {Q : Exit → Act → World → Prop} {a : Act} {w : World} (k1 k2 : Nat) (π : List (Kind × Nat))
    (hst : staticAt ops.toArray (mkTbl ops.toArray) k1 k2 π a.tmps.size = true)
    (h : poF P ops.toArray (fun e a' w' => e = .normal → Up P ops.toArray Q k2 a' w') w π a w) : Up P ops.toArray Q k1 a w :=
  po_stage (Fr []) (Fr []) (Fr.refl _) (fun _ _ _ h k => h.trans k) (Fr.refl _) (fun _ _ _ h k => h.trans k) (fun _ _ h => h) (mkTbl ops.toArray) k1 k2 π hst h

/-- an operation that gives a value and is no call -/
def isVal : Op → Bool
  | .move _ | .assign _ | .pick _ _ _ | .build _ _ | .load _ _ | .binOp _ _ _ _ _ | .unOp _ _ _ | .convert _ _ _ | .fieldAddr _ _ _ | .field _ _ _ | .indexAddr _ _ _ | .index _ _ _ | .nilCheck _ | .extract _ _ | .slice _ _ _ _ _ => true
  | _ => false

def NoEnter : Result Next → Prop
  | .ok (.enter _ _) _ => False
  | .ok (.row _ _) _ => False
  | .ok (.defer _) _ => False
  | _ => True
theorem noEnter_v {P : Program} (s : Sem Value) (w : World) : NoEnter ((do pure (Next.value (← s)) : Sem Next).run P w) := by
  simp only [Sem.run_bind, Sem.run_pure]
  cases s.run P w <;> simp [Result.andThen, NoEnter]
theorem noEnter_p {P : Program} (v : Value) (w : World) : NoEnter ((pure (Next.value v) : Sem Next).run P w) := by
  simp [NoEnter]
theorem noEnter_bind {P : Program} {α : Type} (s : Sem α) (k : α → Sem Next) (w : World) (h : ∀ a w', NoEnter ((k a).run P w')) : NoEnter ((s >>= k).run P w) := by
  simp only [Sem.run_bind]
  cases s.run P w with
  | ok a w' => simpa [Result.andThen] using h a w'
  | halt x w' => simp [Result.andThen, NoEnter]
theorem noEnter_nil {P : Program} {ρ : Operand → Value} {o : Oper} (x : Operand) (ho : o.op = .nilCheck x) (w : World) : NoEnter ((execOp ρ o).run P w) := by
  unfold execOp
  simp only [ho]
  repeat' split
  all_goals first
    | exact noEnter_p _ _
    | (refine noEnter_bind _ _ _ fun a w' => ?_
       refine noEnter_bind _ _ _ fun a w' => ?_
       first
         | exact noEnter_p _ _
         | (split <;> first | exact noEnter_p _ _ | (refine noEnter_bind _ _ _ fun a w' => ?_; exact noEnter_p _ _) | simp [go_sem, NoEnter]))
    | simp [go_sem, NoEnter]
theorem noEnter_of {P : Program} {ρ : Operand → Value} {o : Oper} (h : isVal o.op = true) (w : World) : NoEnter ((execOp ρ o).run P w) := by
  cases ho : o.op
  case nilCheck x => exact noEnter_nil x ho w
  all_goals
    unfold execOp
    simp only [ho, isVal, Bool.false_eq_true] at h ⊢
  all_goals first
    | exact noEnter_v _ _
    | exact noEnter_p _ _
    | (simp only [Sem.run_bind, Sem.run_pure]
       cases (asBool _).run P w <;> simp [Result.andThen, NoEnter])

/-- what a nil check lets by -/
theorem run_nilCheck {P : Program} {ρ : Operand → Value} {o : Oper} (x : Operand) (ho : o.op = .nilCheck x) (a : Addr) (hx : ρ x = .pointer (some a)) (w : World) :
    (execOp ρ o).run P w = .ok (.value (.pointer (some a))) w := by
  unfold execOp
  simp only [ho, hx, Sem.run_pure]

theorem runV_of_quiet {P : Program} {ops : Array Oper} {i : Nat} {o : Oper} {a : Act} {C : World → Prop} {v : Value} {u : World} (ho : ops[i]? = some o) (hw : Region.wanted o (yielded ops a.tmps) = true)
    (hn : NoEnter ((execOp a.eval o).run P u)) (h : o.quietAt P a C u v) : runV P ops i a u = some (v, u) := by
  unfold runV
  simp only [ho, hw, if_true]
  unfold Oper.quietAt at h
  revert h hn
  generalize (execOp a.eval o).run P u = r
  intro hn h
  cases r with
  | ok n w' =>
    cases n with
    | value v' => obtain ⟨rfl, rfl⟩ := h; rfl
    | skip => obtain ⟨rfl, rfl⟩ := h; rfl
    | enter f args => exact hn.elim
    | _ => exact h.elim
  | halt x w' => exact h.elim

/-- the operations that a piece of the order names -/
def opersOf (ops : Array Oper) (π : List (Kind × Nat)) : List Oper := π.filterMap fun s => ops[s.2]?
def isNil : Op → Bool
  | .nilCheck _ => true
  | _ => false
def valsOk (ops : Array Oper) (π : List (Kind × Nat)) : Bool := π.all fun s => decide (s.1 = .val) && match ops[s.2]? with | some o => isVal o.op | none => false

/-- a run of operations that only read -/
theorem poF_vals {P : Program} {ops : Array Oper} {Q : Exit → Act → World → Prop} {w0 : World} : ∀ (n : Nat) (π : List (Kind × Nat)) (a : Act) (w : World), valsOk ops (π.take n) = true →
    wpQuiet P ops (fun w' => ∃ x : Kin w0, w' = x.w) (fun a' => poF P ops Q w0 (π.drop n) a' w) (opersOf ops (π.take n)) a → poF P ops Q w0 π a w
  | 0, π, a, w, _, h => by simpa [opersOf, wpQuiet] using h
  | n + 1, [], a, w, _, h => by simpa [opersOf, wpQuiet] using h
  | n + 1, (k, i) :: π, a, w, hv, h => by
    simp only [List.take_succ_cons, valsOk, List.all_cons, Bool.and_eq_true, decide_eq_true_eq] at hv
    obtain ⟨⟨hk, hi⟩, hv⟩ := hv
    subst hk
    cases ho : ops[i]? with
    | none => simp [ho] at hi
    | some o =>
      simp only [ho] at hi
      have hop : opersOf ops (((Kind.val, i) :: π).take (n + 1)) = o :: opersOf ops (π.take n) := by simp [opersOf, ho]
      rw [hop] at h
      have hd : dstOf ops i = o.dst := by simp [dstOf, ho]
      unfold poF poW
      unfold wpQuiet at h
      by_cases hw : Region.wanted o (yielded ops a.tmps) = true
      · rw [if_pos hw] at h
        obtain ⟨v, h1, h2⟩ := h
        refine ⟨v, fun u hu => runV_of_quiet ho hw (noEnter_of hi u) (h1 u ⟨⟨u, hu⟩, rfl⟩), ?_⟩
        rw [hd]
        exact poF_vals n π _ w hv h2
      · rw [if_neg hw] at h
        refine ⟨undef, fun u hu => ?_, ?_⟩
        · unfold runV
          simp [ho, hw]
        · rw [hd]
          exact poF_vals n π _ w hv h
/-- a nil check -/
theorem poF_nil {P : Program} {ops : Array Oper} {Q : Exit → Act → World → Prop} {w0 : World} {i : Nat} {π : List (Kind × Nat)} {a : Act} {w : World} (o : Oper) (x : Operand) (ho : ops[i]? = some o) (hg : o.guard = none) (hop : o.op = .nilCheck x)
    (ad : Addr) (hx : a.eval x = .pointer (some ad)) (h : poF P ops Q w0 π (a.put o.dst (.pointer (some ad))) w) : poF P ops Q w0 ((.val, i) :: π) a w := by
  refine ⟨.pointer (some ad), fun u hu => ?_, ?_⟩
  · unfold runV
    have hw : Region.wanted o (yielded ops a.tmps) = true := by simp [Region.wanted, hg]
    simp only [ho, hw, if_true, run_nilCheck x hop ad hx]
  · have hd : dstOf ops i = o.dst := by simp [dstOf, ho]
    rw [hd]
    exact h
/-- memory is made -/
theorem poF_new {P : Program} {ops : Array Oper} {Q : Exit → Act → World → Prop} {w0 : World} {i : Nat} {π : List (Kind × Nat)} {a : Act} {w : World} (o : Oper) (ho : ops[i]? = some o) (hg : o.guard = none) (obj : Obj) (V : Nat → Value)
    (hr : ∀ u : World, (execOp a.eval o).run P u = .ok (.value (V u.heap.size)) (u.alloc obj))
    (h : ∀ (b : Nat) (w' : World), w0.heap.size ≤ b → Fr [] w w' → At w' b obj → poF P ops Q w0 π (a.put o.dst (V b)) w') : poF P ops Q w0 ((.mem, i) :: π) a w := by
  intro u hu
  have hd : dstOf ops i = o.dst := by simp [dstOf, ho]
  refine ⟨V u.heap.size, u.alloc obj, ?_, Fr.alloc _ _, fun w' h1 h2 => ?_⟩
  · unfold runV
    have hw : Region.wanted o (yielded ops a.tmps) = true := by simp [Region.wanted, hg]
    simp only [ho, hw, if_true, hr]
  · rw [hd]
    exact h _ w' hu.size h1 (At.keep0 (At.new rfl) h2)
/-- a step out of the walk of a single operation -/
theorem opV_of_wpl {P : Program} {ops : Array Oper} {K : Act → World → Prop} {i : Nat} {a : Act} {u : World} (o : Oper) (ho : ops[i]? = some o)
    (h : wpList P ops (fun e a' w' => e = .normal ∧ a'.defers = a.defers ∧ K a' w') [o] a u) : opV P ops i a u fun v p => K (a.put (dstOf ops i) v) p := by
  have hd : dstOf ops i = o.dst := by simp [dstOf, ho]
  rw [hd]
  unfold opV
  simp only [ho]
  unfold wpList at h
  by_cases hw : Region.wanted o (yielded ops a.tmps) = true
  · rw [if_pos hw] at h ⊢
    rcases h with h | ⟨_, h⟩
    · unfold Oper.wp at h
      revert h
      generalize (execOp a.eval o).run P u = r
      intro h
      cases r with
      | ok n w' =>
        cases n with
        | value v' => exact h.2.2
        | skip => exact h.2.2
        | enter f args =>
          refine Calls.mono h fun e w'' he => ?_
          cases e with
          | returned v => exact he.2.2
          | panicked c => cases he.1
          | outgrown =>
            obtain ⟨_, _, h⟩ := he
            cases h.1
        | row r args => exact Rows.mono h fun v w'' he => he.2.2
        | defer d =>
          have := h.2.1
          rw [defers_put] at this
          simp at this
        | _ => exact h.elim
      | halt x w' =>
        cases x with
        | panic v => cases h.1
        | _ => exact h.elim
    · obtain ⟨_, _, h⟩ := h
      cases h.1
  · rw [if_neg hw] at h ⊢
    exact h.2.2
/-- a call that stands in its place -/
theorem poF_call {P : Program} {ops : Array Oper} {Q : Exit → Act → World → Prop} {w0 : World} {i : Nat} {π : List (Kind × Nat)} {a : Act} {w : World} (o : Oper) (ho : ops[i]? = some o)
    (h : ∀ u : World, Fr [] w u → wpList P ops (fun e a' w' => e = .normal ∧ a'.defers = a.defers ∧ Fr [] u w' ∧ poF P ops Q w0 π a' w') [o] a u) : poF P ops Q w0 ((.call, i) :: π) a w :=
  fun u hu => opV_of_wpl (K := fun a' w' => Fr [] u w' ∧ poF P ops Q w0 π a' w') o ho (h u hu)
/-- the end: it may write -/
theorem poF_tail {P : Program} {ops : Array Oper} {Q : Exit → Act → World → Prop} {w0 : World} {i : Nat} {π : List (Kind × Nat)} {a : Act} {w : World} (o : Oper) (ho : ops[i]? = some o)
    (h : ∀ u : World, Fr [] w u → wpList P ops (fun e a' w' => e = .normal ∧ a'.defers = a.defers ∧ poF P ops Q w0 π a' w') [o] a u) : poF P ops Q w0 ((.tail, i) :: π) a w :=
  fun u hu => opV_of_wpl (K := fun a' w' => poF P ops Q w0 π a' w') o ho (h u hu)
theorem poF_end {P : Program} {ops : Array Oper} {Q : Exit → Act → World → Prop} {w0 : World} {a : Act} {w : World} (h : ∀ w' : World, Fr [] w w' → Q .normal a w') : poF P ops Q w0 [] a w := h

/-- a struct or array stored into a block that is known -/
theorem wpl_store_at {P : Program} {w : World} {ops : Array Oper} {rest : List Oper} {o : Oper} {a : Act} {Q : Exit → Act → World → Prop} {t te : TypeId} {cur : Array Value} {g off : Nat} (p x : Operand) (hgd : o.guard = none)
    (ho : o.op = .store t p x) (c' : Array Value) (hp : a.eval p = .pointer (some ⟨g, off, none⟩)) (hx : a.eval x = .agg c') (hi : (P.info? t).map (·.size) = some c'.size) (hb : At w g (.cells cur te (0, 0))) (hsz : off + c'.size ≤ cur.size) (h1 : c'.all (·.oneCell') = true)
    (h : ∀ w', Fr [g] w w' → At w' g (.cells (cur.toList.take off ++ c'.toList ++ cur.toList.drop (off + c'.size)).toArray te (0, 0)) → w'.heap.size = w.heap.size → wpList P ops Q rest (a.put o.dst undef) w') : wpList P ops Q (o :: rest) a w := by
  refine wpList_plain hgd fun K hK => ?_
  have hst := run_storeCells_at P g off te c'.toList 0 cur w hb (by simpa using hsz) (by intro v hv; exact (Array.all_eq_true'.1 h1) v (by simpa using hv))
  simp only [Nat.add_zero, Array.length_toList] at hst
  cases hq : P.info? t with
  | none => simp [hq] at hi
  | some i =>
    have hs : i.size = c'.size := by simpa [hq] using hi
    unfold Oper.wp execOp
    simp only [ho, hp, hx, Instr.storeAt, Instr.sureAddr, Sem.run_bind, Sem.run_pure, Result.andThen_ok]
    have : (storeVar t ⟨g, off, none⟩ (.agg c')).run P w = .ok () (w.setRow g (cur.toList.take off ++ c'.toList ++ cur.toList.drop (off + c'.size)).toArray) := by
      simp [storeVar, sizeOf, typeInfo, hq, Value.cells, hs, hst]
    rw [this]
    refine hK _ _ (h _ ⟨rfl, rfl, rfl, by simp [World.setRow], fun k hk hn => ?_⟩ (setRow_heap w g cur _ te (0, 0) hb) (by simp [World.setRow]))
    exact setRow_other w g k _ (by simpa using hn)
end Go.Bl
