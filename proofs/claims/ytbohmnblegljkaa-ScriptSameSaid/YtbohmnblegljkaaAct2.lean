/-
  Layer 31: an act is read.
-/
import Derived.Test.YtbohmnblegljkaaAct
import Derived.Laws.IdiomStrings
import Derived.Lib.BufferRead
namespace Go.Proofs.Ytbohmnblegljkaa
open Go.RowKit Go.Bl
set_option linter.unusedVariables false

/-- bytes as a string -/
theorem run_str_bs {P : Program} {A : Nat → Prop} {w : World} {src dst e : TypeId} {v : Value} {xs : List UInt8} (hs : P.underlying src = some (.slice e)) (he : P.underlying e = some (.int .u8)) (hd : P.underlying dst = some .string) (hb : Bs A w v xs) :
    (convert src dst v).run P w = .ok (.string ⟨xs.toArray⟩) w := by
  obtain ⟨a, cap, rfl, h2, h3, h4⟩ := hb
  cases a with
  | none =>
    have hx : xs = [] := by
      rcases h4 with h | ⟨b, off, c, e, fz, h, _⟩
      · simpa using h
      · cases h
    subst hx
    exact Lib.run_convert_nil_bytes w src dst e cap hs he hd
  | some ad =>
    refine run_convert_bytes_back w src dst e ad cap xs hs he hd fun j hj => ?_
    rw [h4.cell j (by simpa using hj)]
    simp [u8v, hj]
theorem wpl_str {P : Program} {A : Nat → Prop} {w : World} {ops : Array Oper} {rest : List Oper} {o : Oper} {a : Act} {Q : Exit → Act → World → Prop} {src dst e : TypeId} {v : Value} {xs : List UInt8} (hs : P.underlying src = some (.slice e)) (he : P.underlying e = some (.int .u8)) (hd : P.underlying dst = some .string)
    (x : Operand) (ho : o.op = .convert src dst x) (hgd : o.guard = none) (hx : a.eval x = v) (hb : Bs A w v xs) (h : wpList P ops Q rest (a.put o.dst (.string ⟨xs.toArray⟩)) w) : wpList P ops Q (o :: rest) a w := by
  refine wpl_val _ ho hgd (.string ⟨xs.toArray⟩) ?_ h
  unfold execOp
  simp only [ho, hx, Sem.run_bind, run_str_bs hs he hd hb, Result.andThen_ok, Sem.run_pure]

/-- one cell stored into a block that is known -/
theorem wpl_store_one {P : Program} {w : World} {ops : Array Oper} {rest : List Oper} {o : Oper} {a : Act} {Q : Exit → Act → World → Prop} {t te : TypeId} {cur : Array Value} {g off : Nat} (p x : Operand) (hgd : o.guard = none)
    (ho : o.op = .store t p x) (u : Value) (hp : a.eval p = .pointer (some ⟨g, off, none⟩)) (hx : a.eval x = u) (hb : At w g (.cells cur te (0, 0))) (hsz : off < cur.size) (hi : (P.info? t).map (·.size) = some 1) (h1 : u.oneCell' = true)
    (h : ∀ w', Fr [g] w w' → At w' g (.cells (cur.setIfInBounds off u) te (0, 0)) → w'.heap.size = w.heap.size → wpList P ops Q rest (a.put o.dst undef) w') : wpList P ops Q (o :: rest) a w := by
  refine wpList_plain hgd fun K hK => ?_
  have hst := run_storeCells_at P g off te [u] 0 cur w hb (by simp; omega) (by intro v hv; simp at hv; subst hv; exact h1)
  simp only [Nat.add_zero] at hst
  have hcells : u.cells = #[u] := by
    cases u <;> simp_all [Value.cells, Value.oneCell']
  cases hq : P.info? t with
  | none => simp [hq] at hi
  | some i =>
    have hs : i.size = 1 := by simpa [hq] using hi
    unfold Oper.wp execOp
    simp only [ho, hp, hx, Instr.storeAt, Instr.sureAddr, Sem.run_bind, Sem.run_pure, Result.andThen_ok]
    have hset : (cur.toList.take off ++ [u] ++ cur.toList.drop (off + [u].length)).toArray = cur.setIfInBounds off u := by
      apply Array.ext'
      rw [Array.toList_setIfInBounds]
      simp only [List.toList_toArray, List.length_singleton]
      rw [List.set_eq_take_append_cons_drop, if_pos (by simpa using hsz)]
      simp
    have : (storeVar t ⟨g, off, none⟩ u).run P w = .ok () (w.setRow g (cur.setIfInBounds off u)) := by
      rw [← hset]
      cases u <;> simp_all [storeVar, sizeOf, typeInfo, Value.cells, Value.oneCell']
    rw [this]
    refine hK _ _ (h _ ⟨rfl, rfl, rfl, by simp [World.setRow], fun k hk hn => ?_⟩ (setRow_heap w g cur _ te (0, 0) hb) (by simp [World.setRow]))
    exact setRow_other w g k _ (by simpa using hn)

def actO (a : ActP) (bv : Value) (ty : TypeId) : Obj := .cells (actC a bv) ty
theorem actCells {w : World} {b ty : Nat} {a : ActP} {bv : Value} (h : At w b (actO a bv ty)) :
    w.cell? ⟨b, 0, none⟩ = some (.int .i64 a.kind) ∧ w.cell? ⟨b, 1, none⟩ = some (.int .i64 a.n) ∧ w.cell? ⟨b, 2, none⟩ = some (.int .i64 a.i) ∧ w.cell? ⟨b, 3, none⟩ = some (.int .i64 a.at_) ∧ w.cell? ⟨b, 4, none⟩ = some (.int .i64 a.by_) ∧ w.cell? ⟨b, 5, none⟩ = some (.string a.name) ∧ w.cell? ⟨b, 6, none⟩ = some bv ∧
    w.cell? ⟨b, 7, none⟩ = some (.int .i64 a.p0) ∧ w.cell? ⟨b, 8, none⟩ = some (.int .i64 a.p1) ∧ w.cell? ⟨b, 9, none⟩ = some (.int .i64 a.p2) ∧ w.cell? ⟨b, 10, none⟩ = some (.int .i64 a.p3) ∧ w.cell? ⟨b, 11, none⟩ = some (.int .i64 a.p4) ∧ w.cell? ⟨b, 12, none⟩ = some (.int .i64 a.p5) ∧
    w.cell? ⟨b, 13, none⟩ = some (.int .i64 a.kept) ∧ w.cell? ⟨b, 14, none⟩ = some (.int .i64 a.torn) ∧ w.cell? ⟨b, 15, none⟩ = some (.int .u64 a.scat) :=
  ⟨by rw [cell_of h]; rfl, by rw [cell_of h]; rfl, by rw [cell_of h]; rfl, by rw [cell_of h]; rfl, by rw [cell_of h]; rfl, by rw [cell_of h]; rfl, by rw [cell_of h]; rfl, by rw [cell_of h]; rfl, by rw [cell_of h]; rfl, by rw [cell_of h]; rfl, by rw [cell_of h]; rfl, by rw [cell_of h]; rfl, by rw [cell_of h]; rfl, by rw [cell_of h]; rfl, by rw [cell_of h]; rfl, by rw [cell_of h]; rfl⟩

def baseA (xs : List UInt8) : ActP := ⟨nb 1 xs, nb 2 xs.tail, nb 2 (xs.drop 3), nb 2 (xs.drop 5), nb 1 (xs.drop 7), ⟨#[]⟩, [], 0, 0, 0, 0, 0, 0, 0, 0, 0⟩
def parA (a : ActP) (xs : List UInt8) (j : Nat) : ActP := { a with p0 := nb 2 (xs.drop j), p1 := nb 1 (xs.drop (j + 2)), p2 := nb 1 (xs.drop (j + 3)), p3 := nb 2 (xs.drop (j + 4)), p4 := nb 2 (xs.drop (j + 6)), p5 := nb 1 (xs.drop (j + 8)) }
/-- the act at the beginning, and how many bytes it has at most -/
def rdAct (xs : List UInt8) : ActP × Nat :=
  if nb 1 xs = 10 then ({ baseA xs with kept := nb 1 (xs.drop 8), torn := nb 1 (xs.drop 9), scat := nb 8 (xs.drop 10) }, 18)
  else if nb 1 xs = 1 then
    ({ parA (baseA xs) xs (9 + nb 1 (xs.drop 8)) with name := ⟨((xs.drop 9).take (nb 1 (xs.drop 8))).toArray⟩, bytes := (xs.drop (9 + nb 1 (xs.drop 8) + 11)).take (nb 2 (xs.drop (9 + nb 1 (xs.drop 8) + 9))) }, 9 + nb 1 (xs.drop 8) + 11 + nb 2 (xs.drop (9 + nb 1 (xs.drop 8) + 9)))
  else if nb 1 xs = 9 ∨ nb 1 xs = 13 then ({ baseA xs with bytes := (xs.drop 10).take (nb 2 (xs.drop 8)) }, 10 + nb 2 (xs.drop 8))
  else (baseA xs, 8)

end Go.Proofs.Ytbohmnblegljkaa
