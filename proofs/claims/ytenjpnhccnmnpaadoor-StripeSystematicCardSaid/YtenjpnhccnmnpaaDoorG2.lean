/-
  Laws of the walk on whole rows: a struct or array stored into the block made last, or loaded from a block that is known.
-/
import Derived.Test.YtenjpnhccnmnpaaDoorG
import Derived.Deep.WholeRow
import Derived.BigQuiet
namespace Go.Bl
open Go.RowKit
set_option linter.unusedVariables false

/-- a whole array or struct into the block that was made last -/
theorem wpl_store_new {P : Program} {w : World} {ops : Array Oper} {rest : List Oper} {o : Oper} {a : Act} {Q : Exit → Act → World → Prop} {t : TypeId} {c : Array Value} (p x : Operand) (hgd : o.guard = none)
    (ho : o.op = .store t p x) (c' : Array Value) (hp : a.eval p = .pointer (some ⟨w.heap.size, 0, none⟩)) (hx : a.eval x = .agg c') (hi : (P.info? t).map (·.size) = some c'.size) (hsz : c.size = c'.size) (h1 : c'.all (·.oneCell') = true)
    (h : wpList P ops Q rest (a.put o.dst undef) (w.alloc (.cells c' t))) : wpList P ops Q (o :: rest) a (w.alloc (.cells c t)) := by
  refine wpList_plain hgd fun K hK => ?_
  unfold Oper.wp execOp
  simp only [ho, hp, hx, Sem.run_bind, Sem.run_pure, Result.andThen_ok, run_storeAt_new w t c c' hi hsz h1]
  exact hK _ _ h
/-- worlds that came of w0 by calls that turned nothing old -/
structure Kin (w0 : World) where
  w : World
  fr : Fr [] w0 w
instance (w0 : World) : Nonempty (Kin w0) := ⟨⟨w0, Fr.refl _ _⟩⟩
/-- A region that draws its order, whose operations only read and whose callees turn nothing old, walked once -/
theorem wp_region_calm {P : Program} {id : Nat} {Q : Exit → Act → World → Prop} {a : Act} {w : World} {l : List Oper} (w0 : World) (hm : P.follows .mixedOrders = true) (hB : Region.lexB .any l.toArray = true) (hf : Fr [] w0 w)
    (h : wpQuiet P l.toArray (fun w' => ∃ x : Kin w0, w' = x.w) (fun a' => ∀ w', (∃ x : Kin w0, w' = x.w) → Q .normal a' w') l a) : (Code.region id l.toArray true).wp P Q a w :=
  wp_region_quiet (C := fun w' => ∃ x : Kin w0, w' = x.w) hm hB ⟨⟨{ w with drawn := w.drawn + 1 }, hf.trans ⟨rfl, rfl, rfl, Nat.le_refl _, fun _ _ _ => rfl⟩⟩, rfl⟩ (by simpa using h)
/-- a callee's contract at such a world -/
theorem calm_of {P : Program} {f : FuncId} {args : Array Value} {w0 : World} {x : Kin w0} {v : Value} (h : Calls P f args x.w fun e w' => e = .returned v ∧ Fr [] x.w w') :
    Calls P f args x.w fun e w'' => e = .returned v ∧ ∃ y : Kin w0, w'' = y.w :=
  h.mono fun e w' ⟨he, hf⟩ => ⟨he, ⟨w', x.fr.trans hf⟩, rfl⟩
theorem Kin.cell {w0 : World} {b : Nat} {o : Obj} (h : w0.heap[b]? = some o) (x : Kin w0) : x.w.heap[b]? = some o := x.fr.keep h (by simp)

/-- an operation that reads no memory, by its own run -/
theorem wpl_val {P : Program} {w : World} {ops : Array Oper} {rest : List Oper} {o : Oper} {a : Act} {Q : Exit → Act → World → Prop} (p : Op) (ho : o.op = p) (hgd : o.guard = none) (v : Value)
    (hr : (execOp a.eval o).run P w = .ok (.value v) w) (h : wpList P ops Q rest (a.put o.dst v) w) : wpList P ops Q (o :: rest) a w := by
  refine wpList_plain hgd fun K hK => ?_
  unfold Oper.wp
  rw [hr]
  exact hK _ _ h
/-- append of one value that lies in a block made last -/
theorem wpl_append_1 {P : Program} {w : World} {ops : Array Oper} {rest : List Oper} {o : Oper} {a : Act} {Q : Exit → Act → World → Prop} {t e : TypeId} {z : Value} {bytes : Nat}
    (ht : P.underlying t = some (.slice e)) (hinfo : (P.info? e).map (fun i => (i.zero, i.size, i.bytes)) = some (some z, 1, bytes)) (hz1 : z.cells.size = 1) (hgd : o.guard = none) (s x : Operand)
    (ho : o.op = .call { callee := .builtin .append, args := #[s, x], argTypes := #[t, t] })
    {base b : Nat} {v u : Value} {xs : List Value} (hs : a.eval s = v) (hx : a.eval x = .slice (some ⟨b, 0, none⟩) 1 1) (hb : w.heap[b]? = some (.cells #[u] e (0, 0))) (hu : u.oneCell' = true) (hown : OwnV e base w v xs)
    (hlen : (xs.length + 1) * bytes ≤ 140737488355328) (h63 : xs.length + 1 ≤ maxLen) (hbase : base ≤ w.heap.size)
    (h : ∀ v' w', OwnV e base w' v' (xs ++ [u]) → w.grownBy w' v.ownBlock → wpList P ops Q rest (a.put o.dst v') w') : wpList P ops Q (o :: rest) a w := by
  have hv : Vs (fun _ => False) w (.slice (some ⟨b, 0, none⟩) 1 1) [u] := ⟨_, 1, rfl, by simp, by simp [maxLen], Row.of_block hb (by simp)⟩
  exact wpl_append_vs ht hinfo hz1 hgd s x ho hs hx hown hv (by simpa using hu) (by simpa using h63) (by simpa using hlen) hbase h
theorem wpl_append_n {P : Program} {w : World} {ops : Array Oper} {rest : List Oper} {o : Oper} {a : Act} {Q : Exit → Act → World → Prop} {t e : TypeId}
    (ht : P.underlying t = some (.slice e)) (hinfo : (P.info? e).map (fun i => (i.zero, i.size, i.bytes)) = some (some (.int .i64 0), 1, 8)) (hgd : o.guard = none) (s x : Operand)
    (ho : o.op = .call { callee := .builtin .append, args := #[s, x], argTypes := #[t, t] })
    {base b : Nat} {v : Value} {n : Int} {xs : List Int} (hs : a.eval s = v) (hx : a.eval x = .slice (some ⟨b, 0, none⟩) 1 1) (hb : w.heap[b]? = some (.cells #[.int .i64 n] e (0, 0))) (hown : OwnI e base w v xs)
    (hlen : xs.length ≤ 17592186044414) (hbase : base ≤ w.heap.size)
    (h : ∀ v' w', OwnI e base w' v' (xs ++ [n]) → w.grownBy w' v.ownBlock → wpList P ops Q rest (a.put o.dst v') w') : wpList P ops Q (o :: rest) a w := by
  refine wpl_append_1 ht hinfo rfl hgd s x ho hs hx hb rfl hown (by simp; omega) (by simp [maxLen]; omega) hbase fun v' w' h1 h2 => ?_
  refine h v' w' ?_ h2
  unfold OwnI
  rw [List.map_append]
  exact h1
theorem OwnI.keepS {e : TypeId} {base : Nat} {w w' : World} {v : Value} {xs : List Int} {S : List Nat} (h : OwnI e base w v xs) (hf : Fr S w w') (hS : ∀ g ∈ S, g < base) : OwnI e base w' v xs := OwnV.keep h hf hS
/-- the block stays over a frame that leaves it alone -/
theorem heap_set_other {w : World} {b : Nat} {o : Obj} {a : Addr} {v : Value} (h : w.heap[b]? = some o) (hne : a.block ≠ b) : (w.setCell a v).heap[b]? = some o := by
  rw [Below.heap_setCell _ _ _ _ (Ne.symm hne)]; exact h
theorem heap_alloc_old {w : World} {b : Nat} {o o' : Obj} (h : w.heap[b]? = some o) : (w.alloc o').heap[b]? = some o := by
  rw [Below.heap_alloc _ _ _ (lt_of_heap h)]; exact h
theorem heap_alloc_at {w : World} {b : Nat} {o : Obj} (h : b = w.heap.size) : (w.alloc o).heap[b]? = some o := by subst h; exact heap_alloc_new _ _
theorem grown_keep {w w' : World} {row : Option Nat} {b : Nat} {o : Obj} (h : w.grownBy w' row) (hb : w.heap[b]? = some o) (hne : row ≠ some b) : w'.heap[b]? = some o :=
  (Fr.grown (S := row.toList) h (by intro k hk; simp [hk])).keep hb (by simp [hne])
theorem OwnI.ne {e : TypeId} {base : Nat} {w : World} {v : Value} {xs : List Int} (h : OwnI e base w v xs) {b : Nat} (hb : b < base) : v.ownBlock ≠ some b := fun e => by
  have := OwnV.blk h (g := b) (by simp [e]); omega
end Go.Bl
