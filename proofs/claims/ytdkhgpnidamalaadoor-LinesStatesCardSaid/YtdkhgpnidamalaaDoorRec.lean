/-
  Rows of records of some cells each: read, grown, made.
-/
import Derived.Test.YtdkhgpnidamalaaDoorGA
import Derived.Deep.MidRow
import Derived.Great.BuildSlice
namespace Go.Bl
open Go.RowKit
set_option linter.unusedVariables false
theorem flat_len (s : Nat) : ∀ (rs : List (List Value)), (∀ r ∈ rs, r.length = s) → rs.flatten.length = rs.length * s
  | [], _ => by simp
  | r :: rs, h => by
    rw [List.flatten_cons, List.length_append, h r (by simp), flat_len s rs (fun x hx => h x (by simp [hx])), List.length_cons, Nat.succ_mul]
    omega
theorem flat_get (s : Nat) : ∀ (rs : List (List Value)) (j f : Nat) (r : List Value), (∀ r ∈ rs, r.length = s) → rs[j]? = some r → f < s → rs.flatten[j * s + f]? = r[f]?
  | [], j, f, r, _, h, _ => by simp at h
  | x :: rs, 0, f, r, h, hj, hf => by
    simp at hj; subst hj
    rw [List.flatten_cons, List.getElem?_append_left (by rw [h x (by simp)]; omega)]
    simp
  | x :: rs, j + 1, f, r, h, hj, hf => by
    have hx := h x (by simp)
    rw [List.flatten_cons, List.getElem?_append_right (by rw [hx, Nat.succ_mul]; omega), hx, show (j + 1) * s + f - s = j * s + f by rw [Nat.succ_mul]; omega]
    exact flat_get s rs j f r (fun x hx => h x (by simp [hx])) (by simpa using hj) hf
/-- records that can be read -/
def RdK (A : Nat → Prop) (s : Nat) (w : World) (v : Value) (rs : List (List Value)) : Prop :=
  (∃ a cap, v = .slice a rs.length cap ∧ rs.length ≤ cap ∧ cap ≤ maxLen ∧ Row A w a rs.flatten) ∧ ∀ r ∈ rs, r.length = s
theorem RdK.keep {A : Nat → Prop} {s : Nat} {w w' : World} {S : List Nat} {v : Value} {rs : List (List Value)} (h : RdK A s w v rs) (hf : Fr S w w') (hS : ∀ b ∈ S, A b) : RdK A s w' v rs := by
  obtain ⟨⟨a, cap, h1, h2, h3, h4⟩, h5⟩ := h
  exact ⟨⟨a, cap, h1, h2, h3, h4.keep hf hS⟩, h5⟩
theorem RdK.keep0 {A : Nat → Prop} {s : Nat} {w w' : World} {v : Value} {rs : List (List Value)} (h : RdK A s w v rs) (hf : Fr [] w w') : RdK A s w' v rs := h.keep hf (by simp)
theorem RdK.shape {A : Nat → Prop} {s : Nat} {w : World} {v : Value} {rs : List (List Value)} (h : RdK A s w v rs) : ∃ a cap, v = .slice a rs.length cap ∧ rs.length ≤ cap ∧ cap ≤ maxLen := by
  obtain ⟨⟨a, cap, h1, h2, h3, -⟩, -⟩ := h
  exact ⟨a, cap, h1, h2, h3⟩
theorem RdK.range {A : Nat → Prop} {s : Nat} {w : World} {a : Option Addr} {n cap : Nat} {rs : List (List Value)} (h : RdK A s w (.slice a n cap) rs) (hs : 0 < s) (j : Nat) (r : List Value) (hr : rs[j]? = some r) :
    ∃ b off, a = some ⟨b, off, none⟩ ∧ ¬ A b ∧ w.rangeAt b (off + j * s) r := by
  obtain ⟨⟨a', cap', e, h2, h3, h4⟩, h5⟩ := h
  cases e
  have hj := (List.getElem?_eq_some_iff.1 hr).1
  have hl := flat_len s rs h5
  have hm : j * s + s ≤ rs.length * s := by
    rw [← Nat.succ_mul]
    exact Nat.mul_le_mul_right s hj
  obtain ⟨b, off, rfl, hA, hc⟩ := h4.some_of (by omega)
  refine ⟨b, off, rfl, hA, fun f v hv => ?_⟩
  have hf := (List.getElem?_eq_some_iff.1 hv).1
  rw [h5 r (List.mem_of_getElem? hr)] at hf
  rw [Nat.add_assoc, hc (j * s + f) (by omega), flat_get s rs j f r h5 hr hf, hv]
/-- records of the call's own -/
def OwnK (e base s : Nat) (w : World) (v : Value) (rs : List (List Value)) : Prop := w.ownsRow base e s v rs.length rs.flatten ∧ ∀ r ∈ rs, r.length = s
theorem OwnK.nil (e base s : Nat) (w : World) : OwnK e base s w (.slice none 0 0) [] := ⟨World.ownsRow_nil _ _ _ _, by simp⟩
theorem OwnK.rd {A : Nat → Prop} {e base s : Nat} {w : World} {v : Value} {rs : List (List Value)} (h : OwnK e base s w v rs) (hA : ∀ b, A b → b < base) : RdK A s w v rs := ⟨Row.of_own h.1 hA, h.2⟩
theorem OwnK.keep {e base s : Nat} {w w' : World} {v : Value} {rs : List (List Value)} {S : List Nat} (h : OwnK e base s w v rs) (hf : Fr S w w') (hS : ∀ g, v.ownBlock = some g → g ∉ S) : OwnK e base s w' v rs := ⟨own_keep h.1 hf hS, h.2⟩
theorem OwnK.keep0 {e base s : Nat} {w w' : World} {v : Value} {rs : List (List Value)} (h : OwnK e base s w v rs) (hf : Fr [] w w') : OwnK e base s w' v rs := h.keep hf (by simp)
theorem OwnK.shape {e base s : Nat} {w : World} {v : Value} {rs : List (List Value)} (h : OwnK e base s w v rs) : ∃ a cap, v = .slice a rs.length cap := by
  rcases h.1.2 with ⟨rfl, h0⟩ | ⟨g, cap, cur, rfl, -⟩
  · exact ⟨none, 0, by rw [h0]⟩
  · exact ⟨_, cap, rfl⟩
theorem OwnK.fr {S : List Nat} {w0 w w' : World} {e base s : Nat} {v : Value} {rs : List (List Value)} (h : Fr S w0 w) (hown : OwnK e base s w v rs) (hg : w.grownBy w' v.ownBlock) (hb : w0.heap.size ≤ base) : Fr S w0 w' :=
  Fr.own h hg hown.1 hb
theorem OwnK.base {e base base' s : Nat} {w : World} {v : Value} {rs : List (List Value)} (h : OwnK e base s w v rs) (hb : base' ≤ base) : OwnK e base' s w v rs := ⟨own_base h.1 hb, h.2⟩
/-- append of one record that lies in a block -/
theorem wpl_append_k {P : Program} {w : World} {ops : Array Oper} {rest : List Oper} {o : Oper} {a : Act} {Q : Exit → Act → World → Prop} {t e : TypeId} {z : Value} {s bytes : Nat}
    (ht : P.underlying t = some (.slice e)) (hinfo : (P.info? e).map (fun i => (i.zero, i.size, i.bytes)) = some (some z, s, bytes)) (hz1 : z.cells.size = s) (hs0 : 0 < s) (hgd : o.guard = none) (sl x : Operand)
    (ho : o.op = .call { callee := .builtin .append, args := #[sl, x], argTypes := #[t, t] })
    {base b : Nat} {v : Value} {r : List Value} {rs : List (List Value)} (hs : a.eval sl = v) (hx : a.eval x = .slice (some ⟨b, 0, none⟩) 1 1) (hb : w.heap[b]? = some (.cells r.toArray e (0, 0))) (hr : r.length = s) (hu : ∀ u ∈ r, u.oneCell' = true) (hown : OwnK e base s w v rs)
    (hlen : (rs.length + 1) * bytes ≤ 140737488355328) (h63 : rs.length + 1 ≤ maxLen) (hbase : base ≤ w.heap.size)
    (h : ∀ v' w', OwnK e base s w' v' (rs ++ [r]) → w.grownBy w' v.ownBlock → wpList P ops Q rest (a.put o.dst v') w') : wpList P ops Q (o :: rest) a w := by
  obtain ⟨i, hi, hz, hsz, hby⟩ := info_bytes hinfo
  have hrow : Row (fun _ => False) w (some ⟨b, 0, none⟩) r := by
    have := Row.of_block (A := fun _ => False) hb (by simp)
    simpa using this
  refine wpl_append hgd sl x t ho base e i z s bytes ht hi hz hsz hby hz1 hs0 v rs.length _ hs hown.1 (some ⟨b, 0, none⟩) 1 1 r hx (by rw [hr]; omega) hrow hu h63 hlen hbase fun v' w' h2 h3 => ?_
  refine h v' w' ⟨?_, ?_⟩ h3
  · rw [List.length_append, List.flatten_append]
    simpa using h2
  · intro y hy
    rcases List.mem_append.1 hy with hy | hy
    · exact hown.2 y hy
    · simp at hy; subst hy; exact hr
/-- a slice literal of one record -/
theorem wpl_build_k {P : Program} {w : World} {ops : Array Oper} {rest : List Oper} {o : Oper} {a : Act} {Q : Exit → Act → World → Prop} {t e : TypeId} {z : Value} {s bytes : Nat}
    (ht : P.underlying t = some (.slice e)) (hinfo : (P.info? e).map (fun i => (i.zero, i.size, i.bytes)) = some (some z, s, bytes)) (hs0 : 0 < s) (hs1 : s ≤ 1000) (hgd : o.guard = none) (x : Operand)
    (ho : o.op = .buildSlice t 1 #[(0, x)]) (r : List Value) (hx : a.eval x = .agg r.toArray) (hr : r.length = s)
    (h : wpList P ops Q rest (a.put o.dst (.slice (some ⟨w.heap.size, 0, none⟩) 1 1)) (w.alloc (.cells r.toArray e))) : wpList P ops Q (o :: rest) a w := by
  obtain ⟨i, hi, hz, hsz, hby⟩ := info_bytes hinfo
  refine wpList_buildSlice hgd t e 1 #[(0, x)] ho r.toArray i z ht hi hz (by rw [hsz]; omega) (by rw [hsz]; omega) ?_ h
  have := Great.fill_whole hs0 [.agg r.toArray] ((Array.range (1 * i.size)).map (z.cells[· % z.cells.size]!)) (fun v hv => by simp at hv; subst hv; simp [Value.cells, hr]) (by simp [hsz])
  rw [hsz]
  rw [hsz] at this
  obtain ⟨ZC, hZC⟩ : ∃ c, (Array.range (1 * s)).map (z.cells[· % z.cells.size]!) = c := ⟨_, rfl⟩
  rw [hZC] at this ⊢
  simp only [List.flatMap_cons, List.flatMap_nil, List.append_nil, Value.cells] at this
  simpa [hx] using this
/-- a struct loaded out of cells that are known -/
theorem wpl_load_k {P : Program} {w : World} {ops : Array Oper} {rest : List Oper} {o : Oper} {a : Act} {Q : Exit → Act → World → Prop} {ty : TypeId} {d : TypeDesc} (x : Operand) (ho : o.op = .load ty x) (hgd : o.guard = none)
    (b off : Nat) (c : List Value) (hx : a.eval x = .pointer (some ⟨b, off, none⟩)) (hc : w.rangeAt b off c) (hu : P.underlying ty = some d) (hd : d.isRow = true) (hi : (P.info? ty).map (·.size) = some c.length)
    (h : wpList P ops Q rest (a.put o.dst (.agg c.toArray)) w) : wpList P ops Q (o :: rest) a w := by
  refine wpl_val _ ho hgd (.agg c.toArray) ?_ h
  have := run_loadAt_mid (P := P) w b off ty c d hc hu hd hi
  unfold execOp
  simp only [ho, hx, Sem.run_bind, this, Result.andThen_ok, Sem.run_pure]
theorem range_of {w : World} {b : Nat} {c : List Value} {e : TypeId} {fz : Nat × Nat} (h : At w b (.cells c.toArray e fz)) : w.rangeAt b 0 c := fun j v hv => by
  rw [Nat.zero_add, h.cell j, List.getElem?_toArray, hv]
/-- a result that lies in a block -/
theorem results_cell {P : Program} {fn : Func} {t : Tmp} {ty : TypeId} {d : TypeDesc} (h : fn.results = #[.cell t ty]) (tmps : Array Value) (w : World) (b : Nat) (cs : List Value) (hp : tmps.getD t undef = .pointer (some ⟨b, 0, none⟩)) (hc : w.rangeAt b 0 cs)
    (hu : P.underlying ty = some d) (hd : d.isRow = true) (hi : (P.info? ty).map (·.size) = some cs.length) : (results fn tmps).run P w = .ok (.agg cs.toArray) w := by
  have h1 := run_loadVar_mid (P := P) w b 0 ty cs d hc hu hd hi
  have hp2 : tmps[t]?.getD undef = .pointer (some ⟨b, 0, none⟩) := by rw [← hp, Array.getD_eq_getD_getElem?]
  simp [results, h, hp2, asAddr, h1]
end Go.Bl
