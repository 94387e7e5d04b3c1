import Derived.Deep.MidRow
import Derived.Great.BuildSlice
import Derived.Test.YtnafknkchbfpaaaGreatDoorGD
import Derived.OrdersIn
import Derived.RangeFuncCalls
set_option linter.unusedVariables false
set_option linter.unusedSimpArgs false
namespace Go.Bl
open Go.RowKit
theorem Yp (s : Nat) : ∀ (rs : List (List Value)), (∀ r ∈ rs, r.length = s) -> rs.flatten.length = rs.length * s
 | [], _ => by simp
 | r :: rs, h => by
  rw [List.flatten_cons, List.length_append, h r Y77, Yp s rs (fun x hx => h x (by simp [hx])), List.length_cons, Nat.succ_mul]
  omega
theorem YS (s : Nat) : ∀ (rs : List (List Value)) (j f : Nat) (r : List Value), (∀ r ∈ rs, r.length = s) -> rs[j]? = some r -> f < s -> rs.flatten[j * s + f]? = r[f]?
 | [], j, f, r, _, h, _ => by simp at h
 | x :: rs, 0, f, r, h, hj, hf => by
  simp at hj; subst hj
  rw [List.flatten_cons, List.getElem?_append_left (by rw [h x Y77]; omega)]
  simp
 | x :: rs, j + 1, f, r, h, hj, hf => by
  have hx := h x Y77
  rw [List.flatten_cons, List.getElem?_append_right (by rw [hx, Nat.succ_mul]; omega), hx, show (j + 1) * s + f - s = j * s + f by rw [Nat.succ_mul]; omega]
  exact YS s rs j f r (fun x hx => h x (by simp [hx])) Y68 hf
def RdK (A : Nat -> Prop) (s : Nat) (w : World) (v : Value) (rs : List (List Value)) : Prop :=
 (∃ a cap, v = .slice a rs.length cap /\ rs.length <= cap /\ cap <= maxLen /\ Row A w a rs.flatten) /\ ∀ r ∈ rs, r.length = s
theorem RdK.keep {A : Nat -> Prop} {s : Nat} {w w' : World} {S : List Nat} {v : Value} {rs : List (List Value)} (h : RdK A s w v rs) (hf : Fr S w w') (hS : ∀ b ∈ S, A b) : RdK A s w' v rs := by
 obtain ⟨⟨a, cap, h1, h2, h3, h4⟩, h5⟩ := h
 exact ⟨⟨a, cap, h1, h2, h3, h4.keep hf hS⟩, h5⟩
theorem RdK.keep0 {A : Nat -> Prop} {s : Nat} {w w' : World} {v : Value} {rs : List (List Value)} (h : RdK A s w v rs) (hf : Fr [] w w') : RdK A s w' v rs := h.keep hf Y77
theorem RdK.shape {A : Nat -> Prop} {s : Nat} {w : World} {v : Value} {rs : List (List Value)} (h : RdK A s w v rs) : ∃ a cap, v = .slice a rs.length cap /\ rs.length <= cap /\ cap <= maxLen := by
 obtain ⟨⟨a, cap, h1, h2, h3, -⟩, -⟩ := h
 exact ⟨a, cap, h1, h2, h3⟩
theorem RdK.range {A : Nat -> Prop} {s : Nat} {w : World} {a : Option Addr} {n cap : Nat} {rs : List (List Value)} (h : RdK A s w (.slice a n cap) rs) (hs : 0 < s) (j : Nat) (r : List Value) (hr : rs[j]? = some r) :
  ∃ b off, a = some ⟨b, off, none⟩ /\ ¬ A b /\ w.rangeAt b (off + j * s) r := by
 obtain ⟨⟨a', cap', e, h2, h3, h4⟩, h5⟩ := h
 cases e
 have hj := (List.getElem?_eq_some_iff.1 hr).1
 have hl := Yp s rs h5
 have hm : j * s + s <= rs.length * s := by
  rw [<- Nat.succ_mul]
  exact Nat.mul_le_mul_right s hj
 obtain ⟨b, off, rfl, hA, hc⟩ := h4.some_of Y44
 refine ⟨b, off, rfl, hA, fun f v hv => ?_⟩
 have hf := (List.getElem?_eq_some_iff.1 hv).1
 rw [h5 r (List.mem_of_getElem? hr)] at hf
 rw [Nat.add_assoc, hc (j * s + f) Y44, YS s rs j f r h5 hr hf, hv]
def ya (e base s : Nat) (w : World) (v : Value) (rs : List (List Value)) : Prop := w.ownsRow base e s v rs.length rs.flatten /\ ∀ r ∈ rs, r.length = s
theorem ya.nil (e base s : Nat) (w : World) : ya e base s w (.slice none 0 0) [] := ⟨World.ownsRow_nil _ _ _ _, by simp⟩
theorem ya.rd {A : Nat -> Prop} {e base s : Nat} {w : World} {v : Value} {rs : List (List Value)} (h : ya e base s w v rs) (hA : ∀ b, A b -> b < base) : RdK A s w v rs := ⟨Row.of_own h.1 hA, h.2⟩
theorem ya.keep {e base s : Nat} {w w' : World} {v : Value} {rs : List (List Value)} {S : List Nat} (h : ya e base s w v rs) (hf : Fr S w w') (hS : ∀ g, v.ownBlock = some g -> g ∉ S) : ya e base s w' v rs := ⟨uR h.1 hf hS, h.2⟩
theorem ya.keep0 {e base s : Nat} {w w' : World} {v : Value} {rs : List (List Value)} (h : ya e base s w v rs) (hf : Fr [] w w') : ya e base s w' v rs := h.keep hf Y77
theorem ya.shape {e base s : Nat} {w : World} {v : Value} {rs : List (List Value)} (h : ya e base s w v rs) : ∃ a cap, v = .slice a rs.length cap := by
 rcases h.1.2 with ⟨rfl, h0⟩ | ⟨g, cap, cur, rfl, -⟩
 ·exact ⟨none, 0, by rw [h0]⟩
 ·exact ⟨_, cap, rfl⟩
theorem ya.fr {S : List Nat} {w0 w w' : World} {e base s : Nat} {v : Value} {rs : List (List Value)} (h : Fr S w0 w) (hown : ya e base s w v rs) (hg : w.grownBy w' v.ownBlock) (hb : w0.heap.size <= base) : Fr S w0 w' :=
 Fr.own h hg hown.1 hb
theorem ya.base {e base base' s : Nat} {w : World} {v : Value} {rs : List (List Value)} (h : ya e base s w v rs) (hb : base' <= base) : ya e base' s w v rs := ⟨Zs h.1 hb, h.2⟩
theorem jC {P : Program} {w : World} {ops : Array Oper} {rest : List Oper} {o : Oper} {a : Act} {Q : Exit -> Act -> World -> Prop} {ty : TypeId} {d : TypeDesc} (x : Operand) (ho : o.op = .load ty x) (hgd : o.guard = none)
  (b off : Nat) (c : List Value) (hx : a.eval x = .pointer (some ⟨b, off, none⟩)) (hc : w.rangeAt b off c) (hu : P.underlying ty = some d) (hd : d.isRow = true) (hi : (P.info? ty).map (·.size) = some c.length)
  (h : wpList P ops Q rest (a.put o.dst (.agg c.toArray)) w) : wpList P ops Q (o :: rest) a w := by
 refine zD _ ho hgd (.agg c.toArray) ?_ h
 exact Y17
theorem jb {w : World} {b : Nat} {c : List Value} {e : TypeId} {fz : Nat × Nat} (h : At w b (.cells c.toArray e fz)) : w.rangeAt b 0 c := fun j v hv => by
 rw [Nat.zero_add, h.cell j, List.getElem?_toArray, hv]
theorem zf {P : Program} {fn : Func} {t : Tmp} {ty : TypeId} {d : TypeDesc} (h : fn.results = #[.cell t ty]) (tmps : Array Value) (w : World) (b : Nat) (cs : List Value) (hp : tmps.getD t undef = .pointer (some ⟨b, 0, none⟩)) (hc : w.rangeAt b 0 cs)
  (hu : P.underlying ty = some d) (hd : d.isRow = true) (hi : (P.info? ty).map (·.size) = some cs.length) : (results fn tmps).run P w = .ok (.agg cs.toArray) w := by
 have h1 := run_loadVar_mid (P := P) w b 0 ty cs d hc hu hd hi
 have hp2 : tmps[t]?.getD undef = .pointer (some ⟨b, 0, none⟩) := by rw [<- hp, Array.getD_eq_getD_getElem?]
 simp [results, h, hp2, asAddr, h1]
end Go.Bl
namespace Go.Bl
open Go.RowKit
abbrev cellsL (vs : List Value) : List Value := vs.flatMap fun v => v.cells.toList
theorem qbf {w : World} {b o : Nat} {A B C : List Value} (h : w.rangeAt b o (A ++ (B ++ C))) {n : Nat} (hn : A.length = n) : w.rangeAt b (o + n) B := fun j v hv => by
 have hj := (List.getElem?_eq_some_iff.1 hv).1
 rw [Nat.add_assoc, <- hn]
 exact h (A.length + j) v (by rw [List.getElem?_append_right Y44, Nat.add_sub_cancel_left, List.getElem?_append_left hj, hv])
end Go.Bl
namespace Go.Proofs.YtnafknkchbfpaaaGreatDoor
open Go.RowKit Go.Bl
theorem qdF {P : Program} {ρ : Operand -> Value} {o : Oper} {w : World} {ty : TypeId} {d : TypeDesc} {x : Operand} {b off : Nat} {c : List Value} (ho : o.op = .load ty x) (hx : ρ x = .pointer (some ⟨b, off, none⟩)) (hc : w.rangeAt b off c) (hu : P.underlying ty = some d) (hd : d.isRow = true) (hi : (P.info? ty).map (·.size) = some c.length) :
  (execOp ρ o).run P w = .ok (.value (.agg c.toArray)) w := by
 exact Y17
end Go.Proofs.YtnafknkchbfpaaaGreatDoor
namespace Go.Bl
open Go.RowKit
def qeG (ops : Array Oper) (D : List (Option Nat)) (use : List (List Nat)) : Bool :=
 (List.range use.length).all fun k => (use.getD k []).all fun s => (List.range ops.size).all fun i => !(D.getD i none == some s) || i == k || jy ops 12 k i
theorem qdn {ops : Array Oper} {D : List (Option Nat)} {use : List (List Nat)} (h : qeG ops D use = true) {k i s : Nat} (hk : k < use.length) (hi : i < ops.size) (hs : s ∈ use.getD k []) (hd : D[i]? = some (some s)) : i = k ∨ jy ops 12 k i = true := by
 have h1 := List.all_eq_true.1 (List.all_eq_true.1 (List.all_eq_true.1 h k (List.mem_range.2 hk)) s hs) i (List.mem_range.2 hi)
 rw [List.getD_eq_getElem?_getD, hd] at h1
 simpa using h1
def qcE (ops : Array Oper) (D : List (Option Nat)) (ex use : List (List Nat)) : Bool :=
 (List.range ex.length).all fun e => (use.getD e []).all fun s => (List.range ops.size).all fun i => !(D.getD i none == some s) || (ex.getD e []).any fun x => i == x || jy ops 12 x i
theorem qbh {ops : Array Oper} {D : List (Option Nat)} {ex use : List (List Nat)} (h : qcE ops D ex use = true) {e i s : Nat} (he : e < ex.length) (hi : i < ops.size) (hs : s ∈ use.getD e []) (hd : D[i]? = some (some s)) : ∃ x, x ∈ ex.getD e [] /\ (i = x ∨ jy ops 12 x i = true) := by
 have h1 := List.all_eq_true.1 (List.all_eq_true.1 (List.all_eq_true.1 h e (List.mem_range.2 he)) s hs) i (List.mem_range.2 hi)
 rw [List.getD_eq_getElem?_getD, hd] at h1
 have h2 : ((ex.getD e []).any fun x => i == x || jy ops 12 x i) = true := by simpa using h1
 obtain ⟨x, hx, h3⟩ := List.any_eq_true.1 h2
 exact ⟨x, hx, by simpa using h3⟩
theorem uH {P : Program} {ops : List Oper} {Q : Exit -> Act -> World -> Prop} {id : Nat} {a : Act} {w : World} (S : List Nat) (F : Nat -> Act -> World -> Prop) (G : Nat -> Act -> World -> Prop) (D : List (Option Nat)) (use : List (List Nat)) (ex useG : List (List Nat)) (cons : List (Nat × Nat)) (hm : P.follows .mixedOrders = true)
  (hlt : ((List.range ops.toArray.size).all fun i => (qF ops.toArray i).all fun k => decide (k < i)) = true)
  (hD : (List.range ops.toArray.size).map (qL ops.toArray) = D)
  (hcl : qeG ops.toArray D use = true) (hclG : qcE ops.toArray D ex useG = true)
  (hex : (ex.all fun l => !l.isEmpty) = true)
  (h0 : ∀ w1, Fr [] w w1 -> ∀ k, ops.toArray.size <= k -> k < use.length -> F k a w1)
  (huse : ∀ k b b' p, (∀ s, s ∈ use.getD k [] -> slot b s = slot b' s) -> F k b p -> F k b' p)
  (huseG : ∀ e b b' p, (∀ s, s ∈ useG.getD e [] -> slot b s = slot b' s) -> G e b p -> G e b' p)
  (step : ∀ i, i < ops.toArray.size -> ∀ (dn : Nat -> Bool) (b : Act) (p : World), b.tmps.size = a.tmps.size -> (∀ s, some s ∉ D -> slot b s = slot a s) -> Fr S w p -> (∀ k, k < use.length -> (k < ops.toArray.size -> dn k = true) -> (∀ c, (k, c) ∈ cons -> dn c = false) -> F k b p) -> (∀ e, e < ex.length -> (∀ x, x ∈ ex.getD e [] -> dn x = true) -> G e b p) -> dn i = false -> (∀ x k, dn x = true -> jy ops.toArray 12 x k = true -> dn k = true) -> (∀ k, jy ops.toArray 12 i k = true -> k < ops.toArray.size /\ dn k = true) ->
   opV P ops.toArray i b p fun v p' => Fr S w p' /\ (∀ k, k ≠ i -> jy ops.toArray 12 k i = false -> (k, i) ∉ cons -> (∀ c, (k, c) ∈ cons -> dn c = false) -> F k b p -> F k b p') /\ F i (b.put (qL ops.toArray i) v) p' /\
    (∀ e, e < ex.length -> i ∉ ex.getD e [] -> G e b p -> G e b p') /\ ∀ e, e < ex.length -> i ∈ ex.getD e [] -> (∀ x, x ∈ ex.getD e [] -> x ≠ i -> dn x = true) -> G e (b.put (qL ops.toArray i) v) p')
  (hQ : ∀ (b : Act) (p : World), b.defers = a.defers -> b.tmps.size = a.tmps.size -> (∀ s, some s ∉ D -> slot b s = slot a s) -> Fr S w p -> (∀ k, k < use.length -> (∀ c, (k, c) ∉ cons) -> F k b p) -> (∀ e, e < ex.length -> (∀ x, x ∈ ex.getD e [] -> x < ops.toArray.size) -> G e b p) -> Q .normal b p) :
  (Code.region id ops.toArray true).wp P Q a w := by
 have hdst : ∀ i, i < ops.toArray.size -> D[i]? = some (qL ops.toArray i) := by
  exact Y31
 have hoth : ∀ (i : Nat) (b : Act) v s, some s ≠ qL ops.toArray i -> slot (b.put (qL ops.toArray i) v) s = slot b s := fun i b v s hs => by
  cases hd : qL ops.toArray i with
  | none => rfl
  | some d => exact Zf (fun e => hs (by rw [hd, e]))
 refine z8 (fun dn b p => b.defers = a.defers /\ b.tmps.size = a.tmps.size /\ (∀ s, some s ∉ D -> slot b s = slot a s) /\ Fr S w p /\
  (∀ x k, dn x = true -> (qF ops.toArray x).contains k = true -> dn k = true) /\ (∀ k, k < use.length -> (k < ops.toArray.size -> dn k = true) -> (∀ c, (k, c) ∈ cons -> dn c = false) -> F k b p) /\ ∀ e, e < ex.length -> (∀ x, x ∈ ex.getD e [] -> dn x = true) -> G e b p) hm hlt ?_ ?_ ?_
 ·intro w1 hw1
  refine ⟨rfl, rfl, fun _ _ => rfl, hw1.weak, (fun _ _ h => by cases h), (fun k hk h _ => h0 w1 hw1 k (by rcases Nat.lt_or_ge k ops.toArray.size with h2 | h2; (exact absurd (h h2) Y77); exact h2) hk), fun e he h => ?_⟩
  have h1 := List.all_eq_true.1 hex (ex.getD e []) (by rw [List.getD_eq_getElem?_getD, List.getElem?_eq_getElem he]; exact List.getElem_mem he)
  cases hl : ex.getD e [] with
  | nil => rw [hl] at h1; simp at h1
  | cons x l => exact absurd (h x (by rw [hl]; exact List.mem_cons_self)) Y77
 ·intro i hi dn b p hdn haft ⟨h1, h2, h3, h4, h5, h6, h7⟩
  have hDi := hdst i hi
  have hrl : ∀ (n i k : Nat), i < ops.toArray.size -> jy ops.toArray n i k = true -> k < ops.toArray.size := by
   intro n
   induction n with
   | zero => intro i k _ h; simp [jy] at h
   | succ n ih =>
    intro i k hi hr
    obtain ⟨m, hm, h3⟩ := List.any_eq_true.1 hr
    have hmi : m < i := of_decide_eq_true (List.all_eq_true.1 (List.all_eq_true.1 hlt i (List.mem_range.2 hi)) m hm)
    have h3' : (m == k) = true ∨ jy ops.toArray n m k = true := by simpa using h3
    rcases h3' with h3 | h3
    ·have : m = k := by simpa using h3
     omega
    ·exact ih m k Y44 h3
  refine xc (fun v p' hv => ?_) (step i hi dn b p h2 h3 h4 h6 h7 hdn (fun x k hx hk => jP h5 12 x k (fun m hm => h5 x m hx hm) hk) (fun k hk => ⟨hrl 12 i k hi hk, jP h5 12 i k haft hk⟩))
  obtain ⟨v1, v2, v3, v4, v5⟩ := hv
  refine ⟨?_, ?_, ?_, v1, ?_, ?_, ?_⟩
  ·cases qL ops.toArray i <;> exact h1
  ·cases qL ops.toArray i <;> simp [Act.put, h2]
  ·intro s hs
   rw [hoth i b v s (fun e => hs (by rw [e]; exact List.mem_of_getElem? hDi))]
   exact h3 s hs
  ·intro x k hx hk
   by_cases hki : k = i
   ·subst hki; exact jH dn k
   ·rw [also_ne dn hki]
    by_cases hxi : x = i
    ·subst hxi; exact haft k hk
    ·rw [also_ne dn hxi] at hx; exact h5 x k hx hk
  ·intro k hk hdk hco
   by_cases hki : k = i
   ·subst hki; exact v3
   ·rw [also_ne dn hki] at hdk
    have hrn : ∀ (n : Nat), ¬ k < ops.toArray.size -> jy ops.toArray n k i = false := by
     intro n hn
     cases n with
     | zero => rfl
     | succ n =>
      have : qF ops.toArray k = [] := by
       unfold qF
       rw [show ops.toArray[k]? = none from Array.getElem?_eq_none Y44]
      rw [jy, this]
      rfl
    have hnr : jy ops.toArray 12 k i = false := by
     cases hr : jy ops.toArray 12 k i with
     | false => rfl
     | true =>
      rcases Nat.lt_or_ge k ops.toArray.size with hk2 | hk2
      ·have := jP h5 12 k i (fun m hm => h5 k m (hdk hk2) hm) hr
       rw [hdn] at this; cases this
      ·rw [hrn 12 Y44] at hr; cases hr
    have hco' : ∀ c, (k, c) ∈ cons -> dn c = false := fun c hc => by
     have := hco c hc
     rwa [also_ne dn (fun e => by rw [e, jH] at this; cases this)] at this
    refine huse k b _ p' (fun s hs => ?_) (v2 k hki hnr (fun hc => by have := hco i hc; rw [jH] at this; cases this) hco' (h6 k hk hdk hco'))
    refine (hoth i b v s (fun e => ?_)).symm
    rcases qdn hcl hk hi hs (by rw [hDi, e]) with h | h
    ·exact hki h.symm
    ·rw [hnr] at h; cases h
  ·intro e he hde
   by_cases hie : i ∈ ex.getD e []
   ·exact v5 e he hie fun x hx hxi => by have := hde x hx; rwa [also_ne dn hxi] at this
   ·have hd2 : ∀ x, x ∈ ex.getD e [] -> dn x = true := fun x hx => by
     have := hde x hx
     rwa [also_ne dn (fun h => hie (by rw [<- h]; exact hx))] at this
    refine huseG e b _ p' (fun s hs => ?_) (v4 e he hie (h7 e he hd2))
    refine (hoth i b v s (fun h => ?_)).symm
    obtain ⟨x, hx, hxi⟩ := qbh hclG he hi hs (by rw [hDi, h])
    rcases hxi with rfl | hxi
    ·exact hie hx
    ·have := jP h5 12 x i (fun m hm => h5 x m (hd2 x hx) hm) hxi
     rw [hdn] at this; cases this
 ·intro dn b p hall ⟨h1, h2, h3, h4, h5, h6, h7⟩
  exact hQ b p h1 h2 h3 h4 (fun k hk hc => h6 k hk (fun h => hall k h) (fun c hcc => absurd hcc (hc c))) fun e he hx => h7 e he fun x hxe => hall x (hx x hxe)
theorem opV_step {P : Program} {ops : Array Oper} {i : Nat} {S : List Nat} {w : World} {F G : Nat -> Act -> World -> Prop} {cons : List (Nat × Nat)} {ex : List (List Nat)} {dn : Nat -> Bool} {b : Act} {p : World} (o : Oper) (ho : ops[i]? = some o)
  (h : wpList P ops (fun e b' p' => e = .normal /\ b'.defers = b.defers /\ (Fr S w p' /\ (∀ k, k ≠ i -> jy ops 12 k i = false -> (k, i) ∉ cons -> (∀ c, (k, c) ∈ cons -> dn c = false) -> F k b p -> F k b p') /\ F i b' p' /\
   (∀ e, e < ex.length -> i ∉ ex.getD e [] -> G e b p -> G e b p') /\ ∀ e, e < ex.length -> i ∈ ex.getD e [] -> (∀ x, x ∈ ex.getD e [] -> x ≠ i -> dn x = true) -> G e b' p')) [o] b p) :
  opV P ops i b p fun v p' => Fr S w p' /\ (∀ k, k ≠ i -> jy ops 12 k i = false -> (k, i) ∉ cons -> (∀ c, (k, c) ∈ cons -> dn c = false) -> F k b p -> F k b p') /\ F i (b.put (qL ops i) v) p' /\
   (∀ e, e < ex.length -> i ∉ ex.getD e [] -> G e b p -> G e b p') /\ ∀ e, e < ex.length -> i ∈ ex.getD e [] -> (∀ x, x ∈ ex.getD e [] -> x ≠ i -> dn x = true) -> G e (b.put (qL ops i) v) p' := jN (K := fun b' p' => Fr S w p' /\ (∀ k, k ≠ i -> jy ops 12 k i = false -> (k, i) ∉ cons -> (∀ c, (k, c) ∈ cons -> dn c = false) -> F k b p -> F k b p') /\ F i b' p' /\
   (∀ e, e < ex.length -> i ∉ ex.getD e [] -> G e b p -> G e b p') /\ ∀ e, e < ex.length -> i ∈ ex.getD e [] -> (∀ x, x ∈ ex.getD e [] -> x ≠ i -> dn x = true) -> G e b' p') o ho h
theorem fstep_end {ops : Array Oper} {i : Nat} {S : List Nat} {w : World} {F G : Nat -> Act -> World -> Prop} {cons : List (Nat × Nat)} {dn : Nat -> Bool} {b b' : Act} {p : World} (hf : Fr S w p) (hF : F i b' p) (hd : b'.defers = b.defers := by rfl) :
  Exit.normal = Exit.normal /\ b'.defers = b.defers /\ (Fr S w p /\ (∀ k, k ≠ i -> jy ops 12 k i = false -> (k, i) ∉ cons -> (∀ c, (k, c) ∈ cons -> dn c = false) -> F k b p -> F k b p) /\ F i b' p /\
   (∀ e, e < ([] : List (List Nat)).length -> i ∉ ([] : List (List Nat)).getD e [] -> G e b p -> G e b p) /\ ∀ e, e < ([] : List (List Nat)).length -> i ∈ ([] : List (List Nat)).getD e [] -> (∀ x, x ∈ ([] : List (List Nat)).getD e [] -> x ≠ i -> dn x = true) -> G e b' p) :=
 ⟨rfl, hd, hf, fun _ _ _ _ _ h => h, hF, fun _ h _ _ => absurd h (Nat.not_lt_zero _), fun _ h _ _ => absurd h (Nat.not_lt_zero _)⟩
theorem KK {P : Program} {w : World} {ops : Array Oper} {rest : List Oper} {o : Oper} {a : Act} {Q : Exit -> Act -> World -> Prop} {t e : TypeId} {z : Value} {bytes : Nat}
  (ht : P.underlying t = some (.slice e)) (hinfo : (P.info? e).map (fun i => (i.zero, i.size, i.bytes)) = some (some z, 1, bytes)) (hgd : o.guard = none) (x : Operand)
  (ho : o.op = .buildSlice t 1 #[(0, x)]) (V : Value) (hx : a.eval x = V) (hV : V.cells = #[V])
  (h : wpList P ops Q rest (a.put o.dst (.slice (some ⟨w.heap.size, 0, none⟩) 1 1)) (w.alloc (.cells #[V] e))) : wpList P ops Q (o :: rest) a w := by
 obtain ⟨i, hi, hz, hsz, hby⟩ := zt hinfo
 refine wpList_buildSlice hgd t e 1 #[(0, x)] ho #[V] i z ht hi hz Y62 Y62 ?_ h
 have := Great.fill_whole (s := 1) Y76 [V] ((Array.range (1 * 1)).map (z.cells[· % z.cells.size]!)) (fun v hv => by simp at hv; subst hv; rw [hV]; rfl) Y77
 rw [hsz]
 obtain ⟨ZC, hZC⟩ := exq ((Array.range (1 * 1)).map (z.cells[· % z.cells.size]!))
 rw [hZC] at this ⊢
 simp only [List.flatMap_cons, List.flatMap_nil, List.append_nil, hV] at this
 simpa [hx] using this
theorem KV {P : Program} {w : World} {ops : Array Oper} {rest : List Oper} {o : Oper} {a : Act} {Q : Exit -> Act -> World -> Prop} {t e : TypeId} {z : Value} {bytes : Nat}
  (ht : P.underlying t = some (.slice e)) (hinfo : (P.info? e).map (fun i => (i.zero, i.size, i.bytes)) = some (some z, 1, bytes)) (hgd : o.guard = none) (x y : Operand)
  (ho : o.op = .buildSlice t 2 #[(0, x), (1, y)]) (V U : Value) (hx : a.eval x = V) (hy : a.eval y = U) (hV : V.cells = #[V]) (hU : U.cells = #[U])
  (h : wpList P ops Q rest (a.put o.dst (.slice (some ⟨w.heap.size, 0, none⟩) 2 2)) (w.alloc (.cells #[V, U] e))) : wpList P ops Q (o :: rest) a w := by
 obtain ⟨i, hi, hz, hsz, hby⟩ := zt hinfo
 refine wpList_buildSlice hgd t e 2 #[(0, x), (1, y)] ho #[V, U] i z ht hi hz Y62 Y62 ?_ h
 have := Great.fill_whole (s := 1) Y76 [V, U] ((Array.range (2 * 1)).map (z.cells[· % z.cells.size]!)) (fun v hv => by simp at hv; rcases hv with rfl | rfl; (rw [hV]; rfl); (rw [hU]; rfl)) Y77
 rw [hsz]
 obtain ⟨ZC, hZC⟩ := exq ((Array.range (2 * 1)).map (z.cells[· % z.cells.size]!))
 rw [hZC] at this ⊢
 simp only [List.flatMap_cons, List.flatMap_nil, List.append_nil, hV, hU] at this
 simpa [hx, hy] using this
theorem VK {P : Program} {w : World} {ops : Array Oper} {rest : List Oper} {o : Oper} {a : Act} {Q : Exit -> Act -> World -> Prop} (hgd : o.guard = none) (v : Value) (w' : World)
  (hr : (execOp a.eval o).run P w = .ok (.value v) w') (h : wpList P ops Q rest (a.put o.dst v) w') : wpList P ops Q (o :: rest) a w := by
 refine wpList_plain hgd fun K hK => ?_
 unfold Oper.wp
 rw [hr]
 exact hK _ _ h
theorem uL (b : Act) (d : Nat) (v : Value) (h : d < b.tmps.size) (X : Act -> Prop) (H : ∀ b', slot b' d = v -> (∀ s, s ≠ d -> slot b' s = slot b s) -> X b') : X (b.put (some d) v) :=
 H _ (uT h) fun s hs => Zf hs
end Go.Bl
namespace Go.Bl
open Go.RowKit
end Go.Bl
