import Derived.Deep.MidRow
import Derived.Great.BuildSlice
import Derived.Test.YtnafknkchbfpaaaGreatDoorGD
import Derived.OrdersIn
import Derived.RangeFuncCalls
namespace Go.Bl
open Go.RowKit
set_option linter.unusedVariables false
theorem Uj (s : Nat) : ∀ (rs : List (List Value)), (∀ r ∈ rs, r.length = s) -> rs.flatten.length = rs.length * s
 | [], _ => by simp
 | r :: rs, h => by
  rw [List.flatten_cons, List.length_append, h r qf, Uj s rs (fun x hx => h x (by simp [hx])), List.length_cons, Nat.succ_mul]
  omega
theorem XY (s : Nat) : ∀ (rs : List (List Value)) (j f : Nat) (r : List Value), (∀ r ∈ rs, r.length = s) -> rs[j]? = some r -> f < s -> rs.flatten[j * s + f]? = r[f]?
 | [], j, f, r, _, h, _ => by simp at h
 | x :: rs, 0, f, r, h, hj, hf => by
  simp at hj; subst hj
  rw [List.flatten_cons, List.getElem?_append_left (by rw [h x qf]; omega)]
  simp
 | x :: rs, j + 1, f, r, h, hj, hf => by
  have hx := h x qf
  rw [List.flatten_cons, List.getElem?_append_right (by rw [hx, Nat.succ_mul]; omega), hx, show (j + 1) * s + f - s = j * s + f by rw [Nat.succ_mul]; omega]
  exact XY s rs j f r (fun x hx => h x (by simp [hx])) Y92 hf
def RdK (A : Nat -> Prop) (s : Nat) (w : World) (v : Value) (rs : List (List Value)) : Prop :=
 (∃ a cap, v = .slice a rs.length cap /\ rs.length <= cap /\ cap <= maxLen /\ Row A w a rs.flatten) /\ ∀ r ∈ rs, r.length = s
theorem RdK.keep {A : Nat -> Prop} {s : Nat} {w w' : World} {S : List Nat} {v : Value} {rs : List (List Value)} (h : RdK A s w v rs) (hf : Fr S w w') (hS : ∀ b ∈ S, A b) : RdK A s w' v rs := by
 obtain ⟨⟨a, cap, h1, h2, h3, h4⟩, h5⟩ := h
 exact ⟨⟨a, cap, h1, h2, h3, h4.keep hf hS⟩, h5⟩
theorem RdK.keep0 {A : Nat -> Prop} {s : Nat} {w w' : World} {v : Value} {rs : List (List Value)} (h : RdK A s w v rs) (hf : Fr [] w w') : RdK A s w' v rs := h.keep hf qf
theorem RdK.shape {A : Nat -> Prop} {s : Nat} {w : World} {v : Value} {rs : List (List Value)} (h : RdK A s w v rs) : ∃ a cap, v = .slice a rs.length cap /\ rs.length <= cap /\ cap <= maxLen := by
 obtain ⟨⟨a, cap, h1, h2, h3, -⟩, -⟩ := h
 exact ⟨a, cap, h1, h2, h3⟩
theorem RdK.range {A : Nat -> Prop} {s : Nat} {w : World} {a : Option Addr} {n cap : Nat} {rs : List (List Value)} (h : RdK A s w (.slice a n cap) rs) (hs : 0 < s) (j : Nat) (r : List Value) (hr : rs[j]? = some r) :
  ∃ b off, a = some ⟨b, off, none⟩ /\ ¬ A b /\ w.rangeAt b (off + j * s) r := by
 obtain ⟨⟨a', cap', e, h2, h3, h4⟩, h5⟩ := h
 cases e
 have hj := (List.getElem?_eq_some_iff.1 hr).1
 have hl := Uj s rs h5
 have hm : j * s + s <= rs.length * s := by
  rw [<- Nat.succ_mul]
  exact Nat.mul_le_mul_right s hj
 obtain ⟨b, off, rfl, hA, hc⟩ := h4.some_of Y62
 refine ⟨b, off, rfl, hA, fun f v hv => ?_⟩
 have hf := (List.getElem?_eq_some_iff.1 hv).1
 rw [h5 r (List.mem_of_getElem? hr)] at hf
 rw [Nat.add_assoc, hc (j * s + f) Y62, XY s rs j f r h5 hr hf, hv]
def jc (e base s : Nat) (w : World) (v : Value) (rs : List (List Value)) : Prop := w.ownsRow base e s v rs.length rs.flatten /\ ∀ r ∈ rs, r.length = s
theorem jc.nil (e base s : Nat) (w : World) : jc e base s w (.slice none 0 0) [] := ⟨World.ownsRow_nil _ _ _ _, by simp⟩
theorem jc.rd {A : Nat -> Prop} {e base s : Nat} {w : World} {v : Value} {rs : List (List Value)} (h : jc e base s w v rs) (hA : ∀ b, A b -> b < base) : RdK A s w v rs := ⟨Row.of_own h.1 hA, h.2⟩
theorem jc.keep {e base s : Nat} {w w' : World} {v : Value} {rs : List (List Value)} {S : List Nat} (h : jc e base s w v rs) (hf : Fr S w w') (hS : ∀ g, v.ownBlock = some g -> g ∉ S) : jc e base s w' v rs := ⟨uN h.1 hf hS, h.2⟩
theorem jc.keep0 {e base s : Nat} {w w' : World} {v : Value} {rs : List (List Value)} (h : jc e base s w v rs) (hf : Fr [] w w') : jc e base s w' v rs := h.keep hf qf
theorem jc.shape {e base s : Nat} {w : World} {v : Value} {rs : List (List Value)} (h : jc e base s w v rs) : ∃ a cap, v = .slice a rs.length cap := by
 rcases h.1.2 with ⟨rfl, h0⟩ | ⟨g, cap, cur, rfl, -⟩
 ·exact ⟨none, 0, by rw [h0]⟩
 ·exact ⟨_, cap, rfl⟩
theorem jc.fr {S : List Nat} {w0 w w' : World} {e base s : Nat} {v : Value} {rs : List (List Value)} (h : Fr S w0 w) (hown : jc e base s w v rs) (hg : w.grownBy w' v.ownBlock) (hb : w0.heap.size <= base) : Fr S w0 w' :=
 Fr.own h hg hown.1 hb
theorem jc.base {e base base' s : Nat} {w : World} {v : Value} {rs : List (List Value)} (h : jc e base s w v rs) (hb : base' <= base) : jc e base' s w v rs := ⟨Ug h.1 hb, h.2⟩
theorem xh {P : Program} {w : World} {ops : Array Oper} {rest : List Oper} {o : Oper} {a : Act} {Q : Exit -> Act -> World -> Prop} {t e : TypeId} {z : Value} {s bytes : Nat}
  (ht : P.underlying t = some (.slice e)) (hinfo : (P.info? e).map (fun i => (i.zero, i.size, i.bytes)) = some (some z, s, bytes)) (hz1 : z.cells.size = s) (hs0 : 0 < s) (hgd : o.guard = none) (sl x : Operand)
  (ho : o.op = .call { callee := .builtin .append, args := #[sl, x], argTypes := #[t, t] })
  {base b : Nat} {v : Value} {r : List Value} {rs : List (List Value)} (hs : a.eval sl = v) (hx : a.eval x = .slice (some ⟨b, 0, none⟩) 1 1) (hb : w.heap[b]? = some (.cells r.toArray e (0, 0))) (hr : r.length = s) (hu : ∀ u ∈ r, u.oneCell' = true) (hown : jc e base s w v rs)
  (hlen : (rs.length + 1) * bytes <= 140737488355328) (h63 : rs.length + 1 <= maxLen) (hbase : base <= w.heap.size)
  (h : ∀ v' w', jc e base s w' v' (rs ++ [r]) -> w.grownBy w' v.ownBlock -> wpList P ops Q rest (a.put o.dst v') w') : wpList P ops Q (o :: rest) a w := by
 obtain ⟨i, hi, hz, hsz, hby⟩ := qR hinfo
 have hrow : Row (fun _ => False) w (some ⟨b, 0, none⟩) r := by
  have := Row.of_block (A := fun _ => False) hb qf
  simpa using this
 refine xf hgd sl x t ho base e i z s bytes ht hi hz hsz hby hz1 hs0 v rs.length _ hs hown.1 (some ⟨b, 0, none⟩) 1 1 r hx (by rw [hr]; omega) hrow hu h63 hlen hbase fun v' w' h2 h3 => ?_
 refine h v' w' ⟨?_, ?_⟩ h3
 ·rw [List.length_append, List.flatten_append]
  simpa using h2
 ·intro y hy
  rcases List.mem_append.1 hy with hy | hy
  ·exact hown.2 y hy
  ·simp at hy; subst hy; exact hr
theorem ya {P : Program} {w : World} {ops : Array Oper} {rest : List Oper} {o : Oper} {a : Act} {Q : Exit -> Act -> World -> Prop} {t e : TypeId} {z : Value} {s bytes : Nat}
  (ht : P.underlying t = some (.slice e)) (hinfo : (P.info? e).map (fun i => (i.zero, i.size, i.bytes)) = some (some z, s, bytes)) (hs0 : 0 < s) (hs1 : s <= 1000) (hgd : o.guard = none) (x : Operand)
  (ho : o.op = .buildSlice t 1 #[(0, x)]) (r : List Value) (hx : a.eval x = .agg r.toArray) (hr : r.length = s)
  (h : wpList P ops Q rest (a.put o.dst (.slice (some ⟨w.heap.size, 0, none⟩) 1 1)) (w.alloc (.cells r.toArray e))) : wpList P ops Q (o :: rest) a w := by
 obtain ⟨i, hi, hz, hsz, hby⟩ := qR hinfo
 refine wpList_buildSlice hgd t e 1 #[(0, x)] ho r.toArray i z ht hi hz Y76 Y76 ?_ h
 have := Great.fill_whole hs0 [.agg r.toArray] ((Array.range (1 * i.size)).map (z.cells[· % z.cells.size]!)) (fun v hv => by simp at hv; subst hv; simp [Value.cells, hr]) (by simp [hsz])
 rw [hsz]
 rw [hsz] at this
 obtain ⟨ZC, hZC⟩ := exq ((Array.range (1 * s)).map (z.cells[· % z.cells.size]!))
 rw [hZC] at this ⊢
 simp only [List.flatMap_cons, List.flatMap_nil, List.append_nil, Value.cells] at this
 simpa [hx] using this
theorem qI {P : Program} {w : World} {ops : Array Oper} {rest : List Oper} {o : Oper} {a : Act} {Q : Exit -> Act -> World -> Prop} {ty : TypeId} {d : TypeDesc} (x : Operand) (ho : o.op = .load ty x) (hgd : o.guard = none)
  (b off : Nat) (c : List Value) (hx : a.eval x = .pointer (some ⟨b, off, none⟩)) (hc : w.rangeAt b off c) (hu : P.underlying ty = some d) (hd : d.isRow = true) (hi : (P.info? ty).map (·.size) = some c.length)
  (h : wpList P ops Q rest (a.put o.dst (.agg c.toArray)) w) : wpList P ops Q (o :: rest) a w := by
 refine qy _ ho hgd (.agg c.toArray) ?_ h
 exact Y28
theorem qC {w : World} {b : Nat} {c : List Value} {e : TypeId} {fz : Nat × Nat} (h : At w b (.cells c.toArray e fz)) : w.rangeAt b 0 c := fun j v hv => by
 rw [Nat.zero_add, h.cell j, List.getElem?_toArray, hv]
theorem jk {P : Program} {fn : Func} {t : Tmp} {ty : TypeId} {d : TypeDesc} (h : fn.results = #[.cell t ty]) (tmps : Array Value) (w : World) (b : Nat) (cs : List Value) (hp : tmps.getD t undef = .pointer (some ⟨b, 0, none⟩)) (hc : w.rangeAt b 0 cs)
  (hu : P.underlying ty = some d) (hd : d.isRow = true) (hi : (P.info? ty).map (·.size) = some cs.length) : (results fn tmps).run P w = .ok (.agg cs.toArray) w := by
 have h1 := run_loadVar_mid (P := P) w b 0 ty cs d hc hu hd hi
 have hp2 : tmps[t]?.getD undef = .pointer (some ⟨b, 0, none⟩) := by rw [<- hp, Array.getD_eq_getD_getElem?]
 simp [results, h, hp2, asAddr, h1]
end Go.Bl
namespace Go.Bl
open Go.RowKit
abbrev cellsL (vs : List Value) : List Value := vs.flatMap fun v => v.cells.toList
theorem qat {w : World} {b o : Nat} {A B C : List Value} (h : w.rangeAt b o (A ++ (B ++ C))) {n : Nat} (hn : A.length = n) : w.rangeAt b (o + n) B := fun j v hv => by
 have hj := (List.getElem?_eq_some_iff.1 hv).1
 rw [Nat.add_assoc, <- hn]
 exact h (A.length + j) v (by rw [List.getElem?_append_right Y62, Nat.add_sub_cancel_left, List.getElem?_append_left hj, hv])
end Go.Bl
namespace Go.Proofs.YtnafknkchbfpaaaGreatDoor
open Go.RowKit Go.Bl
set_option linter.unusedVariables false
theorem qdk {P : Program} {ρ : Operand -> Value} {o : Oper} {w : World} {ty : TypeId} {d : TypeDesc} {x : Operand} {b off : Nat} {c : List Value} (ho : o.op = .load ty x) (hx : ρ x = .pointer (some ⟨b, off, none⟩)) (hc : w.rangeAt b off c) (hu : P.underlying ty = some d) (hd : d.isRow = true) (hi : (P.info? ty).map (·.size) = some c.length) :
  (execOp ρ o).run P w = .ok (.value (.agg c.toArray)) w := by
 exact Y28
end Go.Proofs.YtnafknkchbfpaaaGreatDoor
namespace Go.Bl
open Go.RowKit
def qct (ops : Array Oper) (D : List (Option Nat)) (use : List (List Nat)) : Bool :=
 (List.range use.length).all fun k => (use.getD k []).all fun s => (List.range ops.size).all fun i => !(D.getD i none == some s) || i == k || jd ops 12 k i
theorem Ym {ops : Array Oper} {D : List (Option Nat)} {use : List (List Nat)} (h : qct ops D use = true) {k i s : Nat} (hk : k < use.length) (hi : i < ops.size) (hs : s ∈ use.getD k []) (hd : D[i]? = some (some s)) : i = k ∨ jd ops 12 k i = true := by
 have h1 := List.all_eq_true.1 (List.all_eq_true.1 (List.all_eq_true.1 h k (List.mem_range.2 hk)) s hs) i (List.mem_range.2 hi)
 rw [List.getD_eq_getElem?_getD, hd] at h1
 simpa using h1
def KH (ops : Array Oper) (D : List (Option Nat)) (ex use : List (List Nat)) : Bool :=
 (List.range ex.length).all fun e => (use.getD e []).all fun s => (List.range ops.size).all fun i => !(D.getD i none == some s) || (ex.getD e []).any fun x => i == x || jd ops 12 x i
theorem UY {ops : Array Oper} {D : List (Option Nat)} {ex use : List (List Nat)} (h : KH ops D ex use = true) {e i s : Nat} (he : e < ex.length) (hi : i < ops.size) (hs : s ∈ use.getD e []) (hd : D[i]? = some (some s)) : ∃ x, x ∈ ex.getD e [] /\ (i = x ∨ jd ops 12 x i = true) := by
 have h1 := List.all_eq_true.1 (List.all_eq_true.1 (List.all_eq_true.1 h e (List.mem_range.2 he)) s hs) i (List.mem_range.2 hi)
 rw [List.getD_eq_getElem?_getD, hd] at h1
 have h2 : ((ex.getD e []).any fun x => i == x || jd ops 12 x i) = true := by simpa using h1
 obtain ⟨x, hx, h3⟩ := List.any_eq_true.1 h2
 exact ⟨x, hx, by simpa using h3⟩
theorem qN {P : Program} {ops : List Oper} {Q : Exit -> Act -> World -> Prop} {id : Nat} {a : Act} {w : World} (S : List Nat) (F : Nat -> Act -> World -> Prop) (G : Nat -> Act -> World -> Prop) (D : List (Option Nat)) (use : List (List Nat)) (ex useG : List (List Nat)) (cons : List (Nat × Nat)) (hm : P.follows .mixedOrders = true)
  (hlt : ((List.range ops.toArray.size).all fun i => (qz ops.toArray i).all fun k => decide (k < i)) = true)
  (hD : (List.range ops.toArray.size).map (qv ops.toArray) = D)
  (hcl : qct ops.toArray D use = true) (hclG : KH ops.toArray D ex useG = true)
  (hex : (ex.all fun l => !l.isEmpty) = true)
  (h0 : ∀ w1, Fr [] w w1 -> ∀ k, ops.toArray.size <= k -> k < use.length -> F k a w1)
  (huse : ∀ k b b' p, (∀ s, s ∈ use.getD k [] -> slot b s = slot b' s) -> F k b p -> F k b' p)
  (huseG : ∀ e b b' p, (∀ s, s ∈ useG.getD e [] -> slot b s = slot b' s) -> G e b p -> G e b' p)
  (step : ∀ i, i < ops.toArray.size -> ∀ (dn : Nat -> Bool) (b : Act) (p : World), b.tmps.size = a.tmps.size -> (∀ s, some s ∉ D -> slot b s = slot a s) -> Fr S w p -> (∀ k, k < use.length -> (k < ops.toArray.size -> dn k = true) -> (∀ c, (k, c) ∈ cons -> dn c = false) -> F k b p) -> (∀ e, e < ex.length -> (∀ x, x ∈ ex.getD e [] -> dn x = true) -> G e b p) -> dn i = false -> (∀ x k, dn x = true -> jd ops.toArray 12 x k = true -> dn k = true) -> (∀ k, jd ops.toArray 12 i k = true -> k < ops.toArray.size /\ dn k = true) ->
   opV P ops.toArray i b p fun v p' => Fr S w p' /\ (∀ k, k ≠ i -> jd ops.toArray 12 k i = false -> (k, i) ∉ cons -> (∀ c, (k, c) ∈ cons -> dn c = false) -> F k b p -> F k b p') /\ F i (b.put (qv ops.toArray i) v) p' /\
    (∀ e, e < ex.length -> i ∉ ex.getD e [] -> G e b p -> G e b p') /\ ∀ e, e < ex.length -> i ∈ ex.getD e [] -> (∀ x, x ∈ ex.getD e [] -> x ≠ i -> dn x = true) -> G e (b.put (qv ops.toArray i) v) p')
  (hQ : ∀ (b : Act) (p : World), b.defers = a.defers -> b.tmps.size = a.tmps.size -> (∀ s, some s ∉ D -> slot b s = slot a s) -> Fr S w p -> (∀ k, k < use.length -> (∀ c, (k, c) ∉ cons) -> F k b p) -> (∀ e, e < ex.length -> (∀ x, x ∈ ex.getD e [] -> x < ops.toArray.size) -> G e b p) -> Q .normal b p) :
  (Code.region id ops.toArray true).wp P Q a w := by
 have hdst : ∀ i, i < ops.toArray.size -> D[i]? = some (qv ops.toArray i) := by
  exact Y14
 have hoth : ∀ (i : Nat) (b : Act) v s, some s ≠ qv ops.toArray i -> slot (b.put (qv ops.toArray i) v) s = slot b s := fun i b v s hs => by
  cases hd : qv ops.toArray i with
  | none => rfl
  | some d => exact x8 (fun e => hs (by rw [hd, e]))
 refine zo (fun dn b p => b.defers = a.defers /\ b.tmps.size = a.tmps.size /\ (∀ s, some s ∉ D -> slot b s = slot a s) /\ Fr S w p /\
  (∀ x k, dn x = true -> (qz ops.toArray x).contains k = true -> dn k = true) /\ (∀ k, k < use.length -> (k < ops.toArray.size -> dn k = true) -> (∀ c, (k, c) ∈ cons -> dn c = false) -> F k b p) /\ ∀ e, e < ex.length -> (∀ x, x ∈ ex.getD e [] -> dn x = true) -> G e b p) hm hlt ?_ ?_ ?_
 ·intro w1 hw1
  refine ⟨rfl, rfl, fun _ _ => rfl, hw1.weak, (fun _ _ h => by cases h), (fun k hk h _ => h0 w1 hw1 k qfS hk), fun e he h => ?_⟩
  have h1 := List.all_eq_true.1 hex (ex.getD e []) qfR
  cases hl : ex.getD e [] with
  | nil => rw [hl] at h1; simp at h1
  | cons x l => exact absurd (h x (by rw [hl]; exact List.mem_cons_self)) qf
 ·intro i hi dn b p hdn haft ⟨h1, h2, h3, h4, h5, h6, h7⟩
  have hDi := hdst i hi
  have hrl : ∀ (n i k : Nat), i < ops.toArray.size -> jd ops.toArray n i k = true -> k < ops.toArray.size := by
   intro n
   induction n with
   | zero => intro i k _ h; simp [jd] at h
   | succ n ih =>
    intro i k hi hr
    obtain ⟨m, hm, h3⟩ := List.any_eq_true.1 hr
    have hmi : m < i := of_decide_eq_true (List.all_eq_true.1 (List.all_eq_true.1 hlt i (List.mem_range.2 hi)) m hm)
    have h3' : (m == k) = true ∨ jd ops.toArray n m k = true := by simpa using h3
    rcases h3' with h3 | h3
    ·have : m = k := by simpa using h3
     omega
    ·exact ih m k Y62 h3
  refine jA (fun v p' hv => ?_) (step i hi dn b p h2 h3 h4 h6 h7 hdn (fun x k hx hk => jr h5 12 x k (fun m hm => h5 x m hx hm) hk) (fun k hk => ⟨hrl 12 i k hi hk, jr h5 12 i k haft hk⟩))
  obtain ⟨v1, v2, v3, v4, v5⟩ := hv
  refine ⟨?_, ?_, ?_, v1, ?_, ?_, ?_⟩
  ·cases qv ops.toArray i <;> exact h1
  ·cases qv ops.toArray i <;> simp [Act.put, h2]
  ·intro s hs
   rw [hoth i b v s (fun e => hs Y96)]
   exact h3 s hs
  ·intro x k hx hk
   by_cases hki : k = i
   ·subst hki; exact also_self dn k
   ·rw [also_ne dn hki]
    by_cases hxi : x = i
    ·subst hxi; exact haft k hk
    ·rw [also_ne dn hxi] at hx; exact h5 x k hx hk
  ·intro k hk hdk hco
   by_cases hki : k = i
   ·subst hki; exact v3
   ·rw [also_ne dn hki] at hdk
    have hrn : ∀ (n : Nat), ¬ k < ops.toArray.size -> jd ops.toArray n k i = false := by
     intro n hn
     cases n with
     | zero => rfl
     | succ n =>
      have : qz ops.toArray k = [] := by
       unfold qz
       rw [show ops.toArray[k]? = none from Array.getElem?_eq_none Y62]
      rw [jd, this]
      rfl
    have hnr : jd ops.toArray 12 k i = false := by
     cases hr : jd ops.toArray 12 k i with
     | false => rfl
     | true =>
      rcases Nat.lt_or_ge k ops.toArray.size with hk2 | hk2
      ·have := jr h5 12 k i (fun m hm => h5 k m (hdk hk2) hm) hr
       exact Y43
      ·rw [hrn 12 Y62] at hr; cases hr
    have hco' : ∀ c, (k, c) ∈ cons -> dn c = false := fun c hc => by
     have := hco c hc
     rwa [also_ne dn (fun e => by rw [e, also_self] at this; cases this)] at this
    refine huse k b _ p' (fun s hs => ?_) (v2 k hki hnr (fun hc => by have := hco i hc; rw [also_self] at this; cases this) hco' (h6 k hk hdk hco'))
    refine (hoth i b v s (fun e => ?_)).symm
    rcases Ym hcl hk hi hs (by rw [hDi, e]) with h | h
    ·exact hki h.symm
    ·rw [hnr] at h; cases h
  ·intro e he hde
   by_cases hie : i ∈ ex.getD e []
   ·exact v5 e he hie fun x hx hxi => by have := hde x hx; rwa [also_ne dn hxi] at this
   ·have hd2 : ∀ x, x ∈ ex.getD e [] -> dn x = true := fun x hx => by
     have := hde x hx
     rwa [also_ne dn (fun h => hie (by rw [<- h]; exact hx))] at this
    refine huseG e b _ p' (fun s hs => ?_) (v4 e he hie (h7 e he hd2))
    refine (hoth i b v s (fun h => ?_)).symm
    obtain ⟨x, hx, hxi⟩ := UY hclG he hi hs (by rw [hDi, h])
    rcases hxi with rfl | hxi
    ·exact hie hx
    ·have := jr h5 12 x i (fun m hm => h5 x m (hd2 x hx) hm) hxi
     exact Y43
 ·exact Y40
theorem opV_step {P : Program} {ops : Array Oper} {i : Nat} {S : List Nat} {w : World} {F G : Nat -> Act -> World -> Prop} {cons : List (Nat × Nat)} {ex : List (List Nat)} {dn : Nat -> Bool} {b : Act} {p : World} (o : Oper) (ho : ops[i]? = some o)
  (h : wpList P ops (fun e b' p' => e = .normal /\ b'.defers = b.defers /\ (Fr S w p' /\ (∀ k, k ≠ i -> jd ops 12 k i = false -> (k, i) ∉ cons -> (∀ c, (k, c) ∈ cons -> dn c = false) -> F k b p -> F k b p') /\ F i b' p' /\
   (∀ e, e < ex.length -> i ∉ ex.getD e [] -> G e b p -> G e b p') /\ ∀ e, e < ex.length -> i ∈ ex.getD e [] -> (∀ x, x ∈ ex.getD e [] -> x ≠ i -> dn x = true) -> G e b' p')) [o] b p) :
  opV P ops i b p fun v p' => Fr S w p' /\ (∀ k, k ≠ i -> jd ops 12 k i = false -> (k, i) ∉ cons -> (∀ c, (k, c) ∈ cons -> dn c = false) -> F k b p -> F k b p') /\ F i (b.put (qv ops i) v) p' /\
   (∀ e, e < ex.length -> i ∉ ex.getD e [] -> G e b p -> G e b p') /\ ∀ e, e < ex.length -> i ∈ ex.getD e [] -> (∀ x, x ∈ ex.getD e [] -> x ≠ i -> dn x = true) -> G e (b.put (qv ops i) v) p' := jj (K := fun b' p' => Fr S w p' /\ (∀ k, k ≠ i -> jd ops 12 k i = false -> (k, i) ∉ cons -> (∀ c, (k, c) ∈ cons -> dn c = false) -> F k b p -> F k b p') /\ F i b' p' /\
   (∀ e, e < ex.length -> i ∉ ex.getD e [] -> G e b p -> G e b p') /\ ∀ e, e < ex.length -> i ∈ ex.getD e [] -> (∀ x, x ∈ ex.getD e [] -> x ≠ i -> dn x = true) -> G e b' p') o ho h
theorem fstep_end {ops : Array Oper} {i : Nat} {S : List Nat} {w : World} {F G : Nat -> Act -> World -> Prop} {cons : List (Nat × Nat)} {dn : Nat -> Bool} {b b' : Act} {p : World} (hf : Fr S w p) (hF : F i b' p) (hd : b'.defers = b.defers := by rfl) :
  Exit.normal = Exit.normal /\ b'.defers = b.defers /\ (Fr S w p /\ (∀ k, k ≠ i -> jd ops 12 k i = false -> (k, i) ∉ cons -> (∀ c, (k, c) ∈ cons -> dn c = false) -> F k b p -> F k b p) /\ F i b' p /\
   (∀ e, e < ([] : List (List Nat)).length -> i ∉ ([] : List (List Nat)).getD e [] -> G e b p -> G e b p) /\ ∀ e, e < ([] : List (List Nat)).length -> i ∈ ([] : List (List Nat)).getD e [] -> (∀ x, x ∈ ([] : List (List Nat)).getD e [] -> x ≠ i -> dn x = true) -> G e b' p) :=
 ⟨rfl, hd, hf, fun _ _ _ _ _ h => h, hF, fun _ h _ _ => absurd h (Nat.not_lt_zero _), fun _ h _ _ => absurd h (Nat.not_lt_zero _)⟩
theorem xe {P : Program} {w : World} {ops : Array Oper} {rest : List Oper} {o : Oper} {a : Act} {Q : Exit -> Act -> World -> Prop} {t e : TypeId} {z : Value} {bytes : Nat}
  (ht : P.underlying t = some (.slice e)) (hinfo : (P.info? e).map (fun i => (i.zero, i.size, i.bytes)) = some (some z, 1, bytes)) (hgd : o.guard = none) (x : Operand)
  (ho : o.op = .buildSlice t 1 #[(0, x)]) (V : Value) (hx : a.eval x = V) (hV : V.cells = #[V])
  (h : wpList P ops Q rest (a.put o.dst (.slice (some ⟨w.heap.size, 0, none⟩) 1 1)) (w.alloc (.cells #[V] e))) : wpList P ops Q (o :: rest) a w := by
 obtain ⟨i, hi, hz, hsz, hby⟩ := qR hinfo
 refine wpList_buildSlice hgd t e 1 #[(0, x)] ho #[V] i z ht hi hz Y76 Y76 ?_ h
 have := Great.fill_whole (s := 1) qd [V] ((Array.range (1 * 1)).map (z.cells[· % z.cells.size]!)) (fun v hv => by simp at hv; subst hv; rw [hV]; rfl) qf
 rw [hsz]
 obtain ⟨ZC, hZC⟩ := exq ((Array.range (1 * 1)).map (z.cells[· % z.cells.size]!))
 rw [hZC] at this ⊢
 simp only [List.flatMap_cons, List.flatMap_nil, List.append_nil, hV] at this
 simpa [hx] using this
theorem xj {P : Program} {w : World} {ops : Array Oper} {rest : List Oper} {o : Oper} {a : Act} {Q : Exit -> Act -> World -> Prop} {t e : TypeId} {z : Value} {bytes : Nat}
  (ht : P.underlying t = some (.slice e)) (hinfo : (P.info? e).map (fun i => (i.zero, i.size, i.bytes)) = some (some z, 1, bytes)) (hgd : o.guard = none) (x y : Operand)
  (ho : o.op = .buildSlice t 2 #[(0, x), (1, y)]) (V U : Value) (hx : a.eval x = V) (hy : a.eval y = U) (hV : V.cells = #[V]) (hU : U.cells = #[U])
  (h : wpList P ops Q rest (a.put o.dst (.slice (some ⟨w.heap.size, 0, none⟩) 2 2)) (w.alloc (.cells #[V, U] e))) : wpList P ops Q (o :: rest) a w := by
 obtain ⟨i, hi, hz, hsz, hby⟩ := qR hinfo
 refine wpList_buildSlice hgd t e 2 #[(0, x), (1, y)] ho #[V, U] i z ht hi hz Y76 Y76 ?_ h
 have := Great.fill_whole (s := 1) qd [V, U] ((Array.range (2 * 1)).map (z.cells[· % z.cells.size]!)) (fun v hv => by simp at hv; rcases hv with rfl | rfl; (rw [hV]; rfl); (rw [hU]; rfl)) qf
 rw [hsz]
 obtain ⟨ZC, hZC⟩ := exq ((Array.range (2 * 1)).map (z.cells[· % z.cells.size]!))
 rw [hZC] at this ⊢
 simp only [List.flatMap_cons, List.flatMap_nil, List.append_nil, hV, hU] at this
 simpa [hx, hy] using this
theorem Ke {P : Program} {w : World} {ops : Array Oper} {rest : List Oper} {o : Oper} {a : Act} {Q : Exit -> Act -> World -> Prop} {t e : TypeId} {z : Value} {bytes : Nat}
  (ht : P.underlying t = some (.slice e)) (hinfo : (P.info? e).map (fun i => (i.zero, i.size, i.bytes)) = some (some z, 1, bytes)) (hgd : o.guard = none) (x y q : Operand)
  (ho : o.op = .buildSlice t 3 #[(0, x), (1, y), (2, q)]) (V U R : Value) (hx : a.eval x = V) (hy : a.eval y = U) (hq : a.eval q = R) (hV : V.cells = #[V]) (hU : U.cells = #[U]) (hR : R.cells = #[R])
  (h : wpList P ops Q rest (a.put o.dst (.slice (some ⟨w.heap.size, 0, none⟩) 3 3)) (w.alloc (.cells #[V, U, R] e))) : wpList P ops Q (o :: rest) a w := by
 obtain ⟨i, hi, hz, hsz, hby⟩ := qR hinfo
 refine wpList_buildSlice hgd t e 3 #[(0, x), (1, y), (2, q)] ho #[V, U, R] i z ht hi hz Y76 Y76 ?_ h
 have := Great.fill_whole (s := 1) qd [V, U, R] ((Array.range (3 * 1)).map (z.cells[· % z.cells.size]!)) (fun v hv => by simp at hv; rcases hv with rfl | rfl | rfl; (rw [hV]; rfl); (rw [hU]; rfl); (rw [hR]; rfl)) qf
 rw [hsz]
 obtain ⟨ZC, hZC⟩ := exq ((Array.range (3 * 1)).map (z.cells[· % z.cells.size]!))
 rw [hZC] at this ⊢
 simp only [List.flatMap_cons, List.flatMap_nil, List.append_nil, hV, hU, hR] at this
 simpa [hx, hy, hq] using this
theorem yn {P : Program} {w : World} {ops : Array Oper} {rest : List Oper} {o : Oper} {a : Act} {Q : Exit -> Act -> World -> Prop} (hgd : o.guard = none) (v : Value) (w' : World)
  (hr : (execOp a.eval o).run P w = .ok (.value v) w') (h : wpList P ops Q rest (a.put o.dst v) w') : wpList P ops Q (o :: rest) a w := by
 refine wpList_plain hgd fun K hK => ?_
 unfold Oper.wp
 rw [hr]
 exact hK _ _ h
theorem qA (b : Act) (d : Nat) (v : Value) (h : d < b.tmps.size) (X : Act -> Prop) (H : ∀ b', slot b' d = v -> (∀ s, s ≠ d -> slot b' s = slot b s) -> X b') : X (b.put (some d) v) :=
 H _ (slotc_self h) fun s hs => x8 hs
end Go.Bl
namespace Go.Bl
open Go.RowKit
def J7 (ops : Array Oper) : Bool := (List.range ops.size).all fun i => match ops[i]? with | some o => (match o.op with | .defer _ => false | _ => true) | none => true
theorem WP {ops : Array Oper} (h : J7 ops = true) {i : Nat} {o : Oper} (ho : ops[i]? = some o) : ∀ c, o.op ≠ .defer c := by
 intro c hc
 have h1 := List.all_eq_true.1 h i (List.mem_range.2 (Array.getElem?_eq_some_iff.1 ho).1)
 rw [ho] at h1
 simp [hc] at h1
theorem UC {P : Program} {ops : Array Oper} {Q : Exit -> Act -> World -> Prop} {i l nn : Nat} {a : Act} {w : World} {K : Act -> World -> Prop} {Kv : Value -> World -> Prop} (hdf : J7 ops = true)
  (hh : opV P ops i a w Kv) (hK : ∀ v p, Kv v p -> K (a.put (qv ops i) v) p) : wpOpIn (Fence.wide.inRound l) nn P ops Q i K a w := by
 unfold opV at hh
 unfold wpOpIn
 split at hh
 ·exact hh.elim
 ·rename_i o ho
  have hd : qv ops i = o.dst := by simp [qv, ho]
  rw [hd] at hK
  simp only [ho]
  have hsem : o.semAt (Fence.wide.inRound l).round a.eval = execOp a.eval o := Oper.semAt_eq _ _ _ (WP hdf ho)
  split
  ·rename_i hw
   simp only [hw, if_true] at hh
   unfold Oper.wpIn
   refine ⟨fun f _ => trivial, ?_⟩
   rw [hsem]
   generalize (execOp a.eval o).run P w = r at *
   cases r with
   | ok n w' =>
    cases n <;> simp only [Oper.uponIn_value, Oper.uponIn_skip, Oper.uponIn_enter, Oper.uponIn_row, Kx] at hh ⊢
    case value v => exact hK _ _ hh
    case skip => exact hK _ _ hh
    case enter f args =>
     refine ⟨fun h => by simp [Fence.inRound, Fence.wide] at h, ?_⟩
     exact CallsIn.inRound l (callsIn_wide.2 (Calls.mono hh fun e w he => by cases e <;> first | exact hK _ _ he | exact he.elim))
    case row row args =>
     refine ⟨fun h => by simp [Fence.inRound, Fence.wide] at h, fun c cs _ => ?_⟩
     obtain ⟨v, w2, r, s⟩ := hh c cs
     exact ⟨v, w2, hK _ _ r, stepsIn_wide.2 s⟩
   | halt x w' => exact hh.elim
  ·rename_i hw
   simp only [hw] at hh
   exact ⟨fun f _ => trivial, hK _ _ hh⟩
theorem ZY {P : Program} {l nn : Nat} {ops : List Oper} {Q : Exit -> Act -> World -> Prop} {id : Nat} {a : Act} {w : World} (I : (Nat -> Bool) -> Act -> World -> Prop) (hm : P.follows .mixedOrders = true)
  (hdf : J7 ops.toArray = true)
  (hlt : ((List.range ops.toArray.size).all fun i => (qz ops.toArray i).all fun k => decide (k < i)) = true)
  (h0 : ∀ w1 : World, Fr [] w w1 -> I (fun _ => false) a w1)
  (step : ∀ i, i < ops.toArray.size -> ∀ (dn : Nat -> Bool) (a : Act) (w : World), dn i = false -> (∀ k, (qz ops.toArray i).contains k = true -> dn k = true) -> I dn a w ->
   opV P ops.toArray i a w fun v p => I (zR dn i) (a.put (qv ops.toArray i) v) p)
  (fin : ∀ (dn : Nat -> Bool) (a : Act) (w : World), (∀ i, i < ops.toArray.size -> dn i = true) -> I dn a w -> Q .normal a w) : (Code.region id ops.toArray true).wpIn (Fence.wide.inRound l) nn P Q a w := by
 obtain ⟨A, hA⟩ := exq (ops.toArray)
 rw [hA] at hdf hlt step fin ⊢
 clear hA
 have lt : ∀ i, i < A.size -> ∀ k ∈ qz A i, k < i := fun i hi k hk => of_decide_eq_true (List.all_eq_true.1 (List.all_eq_true.1 hlt i (List.mem_range.2 hi)) k hk)
 have main : ∀ (fuel : Nat) (listed : Array Bool) (dn : Nat -> Bool) (a : Act) (w : World), listed.size = A.size -> (∀ i, i < A.size -> isDone listed i = dn i) ->
   (((List.range A.size).map fun i => (Kind.val, i)).filter fun s => !isDone listed s.2).length <= fuel -> I dn a w -> wpAnyIn (Fence.wide.inRound l) nn P .any A Q fuel listed a w := by
  intro fuel
  have nil : ∀ (listed : Array Bool), listed.size = A.size -> Region.ready .any A listed = [] -> ∀ i, i < A.size -> isDone listed i = true := by
   intro listed hz hr i
   induction i using Nat.strongRecOn with
   | _ i ih =>
    intro hi
    cases hd : isDone listed i with
    | true => rfl
    | false =>
     exfalso
     exact Y53
  induction fuel with
  | zero =>
   intro listed dn a w hz hd hc hI
   have hall : ∀ i, i < A.size -> isDone listed i = true := by
    intro i hi
    cases hx : isDone listed i with
    | true => rfl
    | false =>
     exfalso
     have : (Kind.val, i) ∈ ((List.range A.size).map fun i => (Kind.val, i)).filter fun s => !isDone listed s.2 := by
      rw [List.mem_filter]
      exact ⟨List.mem_map.2 ⟨i, List.mem_range.2 hi, rfl⟩, by simp [hx]⟩
     have := List.length_pos_of_mem this
     omega
   exact Y34
  | succ fuel ih =>
   intro listed dn a w hz hd hc hI
   refine ⟨fun hr => fin dn a w (fun i hi => by rw [<- hd i hi]; exact nil listed hz hr i hi) hI, fun i hi => ?_⟩
   have hl := ready_lt hi
   obtain ⟨q1, q2⟩ := (ready_iff hz hl).1 hi
   refine UC hdf (step i hl dn a w (by rw [<- hd i hl]; exact q1) (fun k hk => ?_) hI) fun v p hp => ?_
   ·have hk' : k ∈ qz A i := by simpa using hk
    rw [<- hd k (by have := lt i hl k hk'; omega)]
    exact q2 k hk'
   ·refine ih (listed.setIfInBounds i true) (zR dn i) _ p (by simpa using hz) (fun k hk => ?_) ?_ hp
    ·by_cases hki : k = i
     ·subst hki
      rw [Qo Y62, also_self]
     ·rw [vu hki, also_ne dn hki]
      exact hd k hk
    ·exact Y46
 refine wpIn_region_any hm ?_
 exact Y27
theorem vw {P : Program} {l nn : Nat} {ops : List Oper} {Q : Exit -> Act -> World -> Prop} {id : Nat} {a : Act} {w : World} (S : List Nat) (F : Nat -> Act -> World -> Prop) (G : Nat -> Act -> World -> Prop) (D : List (Option Nat)) (use : List (List Nat)) (ex useG : List (List Nat)) (cons : List (Nat × Nat)) (hdf : J7 ops.toArray = true) (hm : P.follows .mixedOrders = true)
  (hlt : ((List.range ops.toArray.size).all fun i => (qz ops.toArray i).all fun k => decide (k < i)) = true)
  (hD : (List.range ops.toArray.size).map (qv ops.toArray) = D)
  (hcl : qct ops.toArray D use = true) (hclG : KH ops.toArray D ex useG = true)
  (hex : (ex.all fun l => !l.isEmpty) = true)
  (h0 : ∀ w1, Fr [] w w1 -> ∀ k, ops.toArray.size <= k -> k < use.length -> F k a w1)
  (huse : ∀ k b b' p, (∀ s, s ∈ use.getD k [] -> slot b s = slot b' s) -> F k b p -> F k b' p)
  (huseG : ∀ e b b' p, (∀ s, s ∈ useG.getD e [] -> slot b s = slot b' s) -> G e b p -> G e b' p)
  (step : ∀ i, i < ops.toArray.size -> ∀ (dn : Nat -> Bool) (b : Act) (p : World), b.tmps.size = a.tmps.size -> (∀ s, some s ∉ D -> slot b s = slot a s) -> Fr S w p -> (∀ k, k < use.length -> (k < ops.toArray.size -> dn k = true) -> (∀ c, (k, c) ∈ cons -> dn c = false) -> F k b p) -> (∀ e, e < ex.length -> (∀ x, x ∈ ex.getD e [] -> dn x = true) -> G e b p) -> dn i = false -> (∀ x k, dn x = true -> jd ops.toArray 12 x k = true -> dn k = true) -> (∀ k, jd ops.toArray 12 i k = true -> k < ops.toArray.size /\ dn k = true) ->
   opV P ops.toArray i b p fun v p' => Fr S w p' /\ (∀ k, k ≠ i -> jd ops.toArray 12 k i = false -> (k, i) ∉ cons -> (∀ c, (k, c) ∈ cons -> dn c = false) -> F k b p -> F k b p') /\ F i (b.put (qv ops.toArray i) v) p' /\
    (∀ e, e < ex.length -> i ∉ ex.getD e [] -> G e b p -> G e b p') /\ ∀ e, e < ex.length -> i ∈ ex.getD e [] -> (∀ x, x ∈ ex.getD e [] -> x ≠ i -> dn x = true) -> G e (b.put (qv ops.toArray i) v) p')
  (hQ : ∀ (b : Act) (p : World), b.defers = a.defers -> b.tmps.size = a.tmps.size -> (∀ s, some s ∉ D -> slot b s = slot a s) -> Fr S w p -> (∀ k, k < use.length -> (∀ c, (k, c) ∉ cons) -> F k b p) -> (∀ e, e < ex.length -> (∀ x, x ∈ ex.getD e [] -> x < ops.toArray.size) -> G e b p) -> Q .normal b p) :
  (Code.region id ops.toArray true).wpIn (Fence.wide.inRound l) nn P Q a w := by
 have hdst : ∀ i, i < ops.toArray.size -> D[i]? = some (qv ops.toArray i) := by
  exact Y14
 have hoth : ∀ (i : Nat) (b : Act) v s, some s ≠ qv ops.toArray i -> slot (b.put (qv ops.toArray i) v) s = slot b s := fun i b v s hs => by
  cases hd : qv ops.toArray i with
  | none => rfl
  | some d => exact x8 (fun e => hs (by rw [hd, e]))
 refine ZY (fun dn b p => b.defers = a.defers /\ b.tmps.size = a.tmps.size /\ (∀ s, some s ∉ D -> slot b s = slot a s) /\ Fr S w p /\
  (∀ x k, dn x = true -> (qz ops.toArray x).contains k = true -> dn k = true) /\ (∀ k, k < use.length -> (k < ops.toArray.size -> dn k = true) -> (∀ c, (k, c) ∈ cons -> dn c = false) -> F k b p) /\ ∀ e, e < ex.length -> (∀ x, x ∈ ex.getD e [] -> dn x = true) -> G e b p) hm hdf hlt ?_ ?_ ?_
 ·intro w1 hw1
  refine ⟨rfl, rfl, fun _ _ => rfl, hw1.weak, (fun _ _ h => by cases h), (fun k hk h _ => h0 w1 hw1 k qfS hk), fun e he h => ?_⟩
  have h1 := List.all_eq_true.1 hex (ex.getD e []) qfR
  cases hl : ex.getD e [] with
  | nil => rw [hl] at h1; simp at h1
  | cons x l => exact absurd (h x (by rw [hl]; exact List.mem_cons_self)) qf
 ·intro i hi dn b p hdn haft ⟨h1, h2, h3, h4, h5, h6, h7⟩
  have hDi := hdst i hi
  have hrl : ∀ (n i k : Nat), i < ops.toArray.size -> jd ops.toArray n i k = true -> k < ops.toArray.size := by
   intro n
   induction n with
   | zero => intro i k _ h; simp [jd] at h
   | succ n ih =>
    intro i k hi hr
    obtain ⟨m, hm, h3⟩ := List.any_eq_true.1 hr
    have hmi : m < i := of_decide_eq_true (List.all_eq_true.1 (List.all_eq_true.1 hlt i (List.mem_range.2 hi)) m hm)
    have h3' : (m == k) = true ∨ jd ops.toArray n m k = true := by simpa using h3
    rcases h3' with h3 | h3
    ·have : m = k := by simpa using h3
     omega
    ·exact ih m k Y62 h3
  refine jA (fun v p' hv => ?_) (step i hi dn b p h2 h3 h4 h6 h7 hdn (fun x k hx hk => jr h5 12 x k (fun m hm => h5 x m hx hm) hk) (fun k hk => ⟨hrl 12 i k hi hk, jr h5 12 i k haft hk⟩))
  obtain ⟨v1, v2, v3, v4, v5⟩ := hv
  refine ⟨?_, ?_, ?_, v1, ?_, ?_, ?_⟩
  ·cases qv ops.toArray i <;> exact h1
  ·cases qv ops.toArray i <;> simp [Act.put, h2]
  ·intro s hs
   rw [hoth i b v s (fun e => hs Y96)]
   exact h3 s hs
  ·intro x k hx hk
   by_cases hki : k = i
   ·subst hki; exact also_self dn k
   ·rw [also_ne dn hki]
    by_cases hxi : x = i
    ·subst hxi; exact haft k hk
    ·rw [also_ne dn hxi] at hx; exact h5 x k hx hk
  ·intro k hk hdk hco
   by_cases hki : k = i
   ·subst hki; exact v3
   ·rw [also_ne dn hki] at hdk
    have hrn : ∀ (n : Nat), ¬ k < ops.toArray.size -> jd ops.toArray n k i = false := by
     intro n hn
     cases n with
     | zero => rfl
     | succ n =>
      have : qz ops.toArray k = [] := by
       unfold qz
       rw [show ops.toArray[k]? = none from Array.getElem?_eq_none Y62]
      rw [jd, this]
      rfl
    have hnr : jd ops.toArray 12 k i = false := by
     cases hr : jd ops.toArray 12 k i with
     | false => rfl
     | true =>
      rcases Nat.lt_or_ge k ops.toArray.size with hk2 | hk2
      ·have := jr h5 12 k i (fun m hm => h5 k m (hdk hk2) hm) hr
       exact Y43
      ·rw [hrn 12 Y62] at hr; cases hr
    have hco' : ∀ c, (k, c) ∈ cons -> dn c = false := fun c hc => by
     have := hco c hc
     rwa [also_ne dn (fun e => by rw [e, also_self] at this; cases this)] at this
    refine huse k b _ p' (fun s hs => ?_) (v2 k hki hnr (fun hc => by have := hco i hc; rw [also_self] at this; cases this) hco' (h6 k hk hdk hco'))
    refine (hoth i b v s (fun e => ?_)).symm
    rcases Ym hcl hk hi hs (by rw [hDi, e]) with h | h
    ·exact hki h.symm
    ·rw [hnr] at h; cases h
  ·intro e he hde
   by_cases hie : i ∈ ex.getD e []
   ·exact v5 e he hie fun x hx hxi => by have := hde x hx; rwa [also_ne dn hxi] at this
   ·have hd2 : ∀ x, x ∈ ex.getD e [] -> dn x = true := fun x hx => by
     have := hde x hx
     rwa [also_ne dn (fun h => hie (by rw [<- h]; exact hx))] at this
    refine huseG e b _ p' (fun s hs => ?_) (v4 e he hie (h7 e he hd2))
    refine (hoth i b v s (fun h => ?_)).symm
    obtain ⟨x, hx, hxi⟩ := UY hclG he hi hs (by rw [hDi, h])
    rcases hxi with rfl | hxi
    ·exact hie hx
    ·have := jr h5 12 x i (fun m hm => h5 x m (hd2 x hx) hm) hxi
     exact Y43
 ·exact Y40
end Go.Bl
