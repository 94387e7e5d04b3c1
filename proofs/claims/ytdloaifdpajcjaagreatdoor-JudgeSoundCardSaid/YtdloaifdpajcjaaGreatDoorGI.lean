import Derived.Deep.MidRow
import Derived.Great.BuildSlice
import Derived.Test.YtdloaifdpajcjaaGreatDoorGD
import Derived.OrdersIn
import Derived.RangeFuncCalls
set_option linter.unusedVariables false
set_option linter.unusedSimpArgs false
namespace Go.Bl
open Go.RowKit
theorem Wy (s : Nat) : ∀ (rs : List (List Value)), (∀ r ∈ rs, r.length = s) -> rs.flatten.length = rs.length * s
 | [], _ => by simp
 | r :: rs, h => by
  rw [List.flatten_cons, List.length_append, h r Y85, Wy s rs (fun x hx => h x (by simp [hx])), List.length_cons, Nat.succ_mul]
  omega
theorem Kg (s : Nat) : ∀ (rs : List (List Value)) (j f : Nat) (r : List Value), (∀ r ∈ rs, r.length = s) -> rs[j]? = some r -> f < s -> rs.flatten[j * s + f]? = r[f]?
 | [], j, f, r, _, h, _ => by simp at h
 | x :: rs, 0, f, r, h, hj, hf => by
  simp at hj; subst hj
  rw [List.flatten_cons, List.getElem?_append_left (by rw [h x Y85]; omega)]
  simp
 | x :: rs, j + 1, f, r, h, hj, hf => by
  have hx := h x Y85
  rw [List.flatten_cons, List.getElem?_append_right (by rw [hx, Nat.succ_mul]; omega), hx, show (j + 1) * s + f - s = j * s + f by rw [Nat.succ_mul]; omega]
  exact Kg s rs j f r (fun x hx => h x (by simp [hx])) Y74 hf
def RdK (A : Nat -> Prop) (s : Nat) (w : World) (v : Value) (rs : List (List Value)) : Prop :=
 (∃ a cap, v = .slice a rs.length cap /\ rs.length <= cap /\ cap <= maxLen /\ Row A w a rs.flatten) /\ ∀ r ∈ rs, r.length = s
theorem RdK.keep {A : Nat -> Prop} {s : Nat} {w w' : World} {S : List Nat} {v : Value} {rs : List (List Value)} (h : RdK A s w v rs) (hf : Fr S w w') (hS : ∀ b ∈ S, A b) : RdK A s w' v rs := by
 obtain ⟨⟨a, cap, h1, h2, h3, h4⟩, h5⟩ := h
 exact ⟨⟨a, cap, h1, h2, h3, h4.keep hf hS⟩, h5⟩
theorem RdK.keep0 {A : Nat -> Prop} {s : Nat} {w w' : World} {v : Value} {rs : List (List Value)} (h : RdK A s w v rs) (hf : Fr [] w w') : RdK A s w' v rs := h.keep hf Y85
theorem RdK.shape {A : Nat -> Prop} {s : Nat} {w : World} {v : Value} {rs : List (List Value)} (h : RdK A s w v rs) : ∃ a cap, v = .slice a rs.length cap /\ rs.length <= cap /\ cap <= maxLen := by
 obtain ⟨⟨a, cap, h1, h2, h3, -⟩, -⟩ := h
 exact ⟨a, cap, h1, h2, h3⟩
theorem RdK.range {A : Nat -> Prop} {s : Nat} {w : World} {a : Option Addr} {n cap : Nat} {rs : List (List Value)} (h : RdK A s w (.slice a n cap) rs) (hs : 0 < s) (j : Nat) (r : List Value) (hr : rs[j]? = some r) :
  ∃ b off, a = some ⟨b, off, none⟩ /\ ¬ A b /\ w.rangeAt b (off + j * s) r := by
 obtain ⟨⟨a', cap', e, h2, h3, h4⟩, h5⟩ := h
 cases e
 have hj := (List.getElem?_eq_some_iff.1 hr).1
 have hl := Wy s rs h5
 have hm : j * s + s <= rs.length * s := by
  rw [<- Nat.succ_mul]
  exact Nat.mul_le_mul_right s hj
 obtain ⟨b, off, rfl, hA, hc⟩ := h4.some_of Y54
 refine ⟨b, off, rfl, hA, fun f v hv => ?_⟩
 have hf := (List.getElem?_eq_some_iff.1 hv).1
 rw [h5 r (List.mem_of_getElem? hr)] at hf
 rw [Nat.add_assoc, hc (j * s + f) Y54, Kg s rs j f r h5 hr hf, hv]
def ye (e base s : Nat) (w : World) (v : Value) (rs : List (List Value)) : Prop := w.ownsRow base e s v rs.length rs.flatten /\ ∀ r ∈ rs, r.length = s
theorem ye.nil (e base s : Nat) (w : World) : ye e base s w (.slice none 0 0) [] := ⟨World.ownsRow_nil _ _ _ _, by simp⟩
theorem ye.rd {A : Nat -> Prop} {e base s : Nat} {w : World} {v : Value} {rs : List (List Value)} (h : ye e base s w v rs) (hA : ∀ b, A b -> b < base) : RdK A s w v rs := ⟨Row.of_own h.1 hA, h.2⟩
theorem ye.keep {e base s : Nat} {w w' : World} {v : Value} {rs : List (List Value)} {S : List Nat} (h : ye e base s w v rs) (hf : Fr S w w') (hS : ∀ g, v.ownBlock = some g -> g ∉ S) : ye e base s w' v rs := ⟨vZ h.1 hf hS, h.2⟩
theorem ye.keep0 {e base s : Nat} {w w' : World} {v : Value} {rs : List (List Value)} (h : ye e base s w v rs) (hf : Fr [] w w') : ye e base s w' v rs := h.keep hf Y85
theorem ye.shape {e base s : Nat} {w : World} {v : Value} {rs : List (List Value)} (h : ye e base s w v rs) : ∃ a cap, v = .slice a rs.length cap := by
 rcases h.1.2 with ⟨rfl, h0⟩ | ⟨g, cap, cur, rfl, -⟩
 ·exact ⟨none, 0, by rw [h0]⟩
 ·exact ⟨_, cap, rfl⟩
theorem ye.fr {S : List Nat} {w0 w w' : World} {e base s : Nat} {v : Value} {rs : List (List Value)} (h : Fr S w0 w) (hown : ye e base s w v rs) (hg : w.grownBy w' v.ownBlock) (hb : w0.heap.size <= base) : Fr S w0 w' :=
 Fr.own h hg hown.1 hb
theorem ye.base {e base base' s : Nat} {w : World} {v : Value} {rs : List (List Value)} (h : ye e base s w v rs) (hb : base' <= base) : ye e base' s w v rs := ⟨Vw h.1 hb, h.2⟩
theorem jX {P : Program} {w : World} {ops : Array Oper} {rest : List Oper} {o : Oper} {a : Act} {Q : Exit -> Act -> World -> Prop} {ty : TypeId} {d : TypeDesc} (x : Operand) (ho : o.op = .load ty x) (hgd : o.guard = none)
  (b off : Nat) (c : List Value) (hx : a.eval x = .pointer (some ⟨b, off, none⟩)) (hc : w.rangeAt b off c) (hu : P.underlying ty = some d) (hd : d.isRow = true) (hi : (P.info? ty).map (·.size) = some c.length)
  (h : wpList P ops Q rest (a.put o.dst (.agg c.toArray)) w) : wpList P ops Q (o :: rest) a w := by
 refine jf _ ho hgd (.agg c.toArray) ?_ h
 exact Y20
theorem jQ {w : World} {b : Nat} {c : List Value} {e : TypeId} {fz : Nat × Nat} (h : At w b (.cells c.toArray e fz)) : w.rangeAt b 0 c := fun j v hv => by
 rw [Nat.zero_add, h.cell j, List.getElem?_toArray, hv]
theorem uY {P : Program} {fn : Func} {t : Tmp} {ty : TypeId} {d : TypeDesc} (h : fn.results = #[.cell t ty]) (tmps : Array Value) (w : World) (b : Nat) (cs : List Value) (hp : tmps.getD t undef = .pointer (some ⟨b, 0, none⟩)) (hc : w.rangeAt b 0 cs)
  (hu : P.underlying ty = some d) (hd : d.isRow = true) (hi : (P.info? ty).map (·.size) = some cs.length) : (results fn tmps).run P w = .ok (.agg cs.toArray) w := by
 have h1 := run_loadVar_mid (P := P) w b 0 ty cs d hc hu hd hi
 have hp2 : tmps[t]?.getD undef = .pointer (some ⟨b, 0, none⟩) := by rw [<- hp, Array.getD_eq_getD_getElem?]
 simp [results, h, hp2, asAddr, h1]
end Go.Bl
namespace Go.Bl
open Go.RowKit
abbrev cellsL (vs : List Value) : List Value := vs.flatMap fun v => v.cells.toList
theorem qcH {w : World} {b o : Nat} {A B C : List Value} (h : w.rangeAt b o (A ++ (B ++ C))) {n : Nat} (hn : A.length = n) : w.rangeAt b (o + n) B := fun j v hv => by
 have hj := (List.getElem?_eq_some_iff.1 hv).1
 rw [Nat.add_assoc, <- hn]
 exact h (A.length + j) v (by rw [List.getElem?_append_right Y54, Nat.add_sub_cancel_left, List.getElem?_append_left hj, hv])
end Go.Bl
namespace Go.Proofs.YtdloaifdpajcjaaGreatDoor
open Go.RowKit Go.Bl
theorem qfV {P : Program} {ρ : Operand -> Value} {o : Oper} {w : World} {ty : TypeId} {d : TypeDesc} {x : Operand} {b off : Nat} {c : List Value} (ho : o.op = .load ty x) (hx : ρ x = .pointer (some ⟨b, off, none⟩)) (hc : w.rangeAt b off c) (hu : P.underlying ty = some d) (hd : d.isRow = true) (hi : (P.info? ty).map (·.size) = some c.length) :
  (execOp ρ o).run P w = .ok (.value (.agg c.toArray)) w := by
 exact Y20
end Go.Proofs.YtdloaifdpajcjaaGreatDoor
namespace Go.Bl
open Go.RowKit
theorem fstep_end {ops : Array Oper} {i : Nat} {S : List Nat} {w : World} {F G : Nat -> Act -> World -> Prop} {cons : List (Nat × Nat)} {dn : Nat -> Bool} {b b' : Act} {p : World} (hf : Fr S w p) (hF : F i b' p) (hd : b'.defers = b.defers := by rfl) :
  Exit.normal = Exit.normal /\ b'.defers = b.defers /\ (Fr S w p /\ (∀ k, k ≠ i -> yy ops 12 k i = false -> (k, i) ∉ cons -> (∀ c, (k, c) ∈ cons -> dn c = false) -> F k b p -> F k b p) /\ F i b' p /\
   (∀ e, e < ([] : List (List Nat)).length -> i ∉ ([] : List (List Nat)).getD e [] -> G e b p -> G e b p) /\ ∀ e, e < ([] : List (List Nat)).length -> i ∈ ([] : List (List Nat)).getD e [] -> (∀ x, x ∈ ([] : List (List Nat)).getD e [] -> x ≠ i -> dn x = true) -> G e b' p) :=
 ⟨rfl, hd, hf, fun _ _ _ _ _ h => h, hF, fun _ h _ _ => absurd h (Nat.not_lt_zero _), fun _ h _ _ => absurd h (Nat.not_lt_zero _)⟩
end Go.Bl
namespace Go.Bl
open Go.RowKit
end Go.Bl
