import Derived.Test.YtnafknkchbfpaaaGreatDoorPC
namespace Go.Bl
open Go.RowKit
set_option linter.unusedVariables false
section
variable {α : Type} {P : Program} {X : Cx} {L : Pl} {F : Nat -> Prop} {β : Nat -> Option Bk} {σ : St} {a : Act} {w : World} {C : FuncId -> List RA -> RA -> List RA -> Prop} {b : α} {l : List Lc} {A : Nat -> Prop}
theorem Sim.newVar (S : Sim L F β σ a w) {F' : Nat -> Prop} {d : Nat} {t : TypeId} {cs : List Value} (hd : d < L.N) (hF : F d) (hF' : ∀ n, F' n -> F n /\ n ≠ d) {o : Ob} (hsh : o.sh = false)
  (hob : ∀ β' A' w', β' d = some ⟨.pointer (some ⟨w.heap.size, 0, none⟩), 1, cs.length⟩ -> zn β β' -> j8 (Mut L.A0 β σ) A' w w' -> w'.heap[w.heap.size]? = some (.cells cs.toArray t (0, 0)) -> xJ β' A' w' d o) :
  ∃ β', Sim L F' β' (σ.put (some d) ⟨some (.ref d 0 0), [(d, some o)]⟩) (a.put (some d) (.pointer (some ⟨w.heap.size, 0, none⟩))) (w.alloc (.cells cs.toArray t)) := by
 have hn := S.news (F' := F') (w' := w.alloc (.cells cs.toArray t)) (N := [⟨d, ⟨.pointer (some ⟨w.heap.size, 0, none⟩), 1, cs.length⟩, o⟩]) (gone := []) (S0 := []) (d := some d) (y := some (.ref d 0 0)) (v := .pointer (some ⟨w.heap.size, 0, none⟩))
  (fun s hs => by cases hs; exact hd) (Fr.alloc _ _) qf qf (by simpa using hF) (fun n hn => ⟨(hF' n hn).1, by simpa using (hF' n hn).2⟩) (by simpa using hsh) (by simp; rfl)
  (by intro x hx b hb; simp at hx; subst hx; simp [Bk.blk] at hb; omega) (by intro x hx z hz b h1 h2; simp at hx hz; subst hx; subst hz; rfl) qf
  (fun A' _ hs hg x hx => by
   simp at hx; subst hx
   exact hob _ _ _ (by simp [ui]) hg hs (heap_alloc_new w _))
  (fun A' _ hs hg z hz => by
   cases hz
   have := qD.ref (β := ui β [⟨d, ⟨.pointer (some ⟨w.heap.size, 0, none⟩), 1, cs.length⟩, o⟩]) (A := A') (w := w.alloc (.cells cs.toArray t)) (n := d) (i := 0) (j := 0) (k := ⟨.pointer (some ⟨w.heap.size, 0, none⟩), 1, cs.length⟩) (by simp [ui]) rfl
   simpa using this)
 exact ⟨_, hn⟩
theorem Sim.newRow (S : Sim L F β σ a w) {F' : Nat -> Prop} {d e s : Nat} {xs : List PV} {us : List Value} {v : Value} {w' : World} {gone : List Nat} {S0 : List Nat} (hd : d < L.N) (hF : F d) (hF' : ∀ n, F' n -> F n /\ n ≠ d) (hfr : Fr S0 w w')
  (hS0 : ∀ b ∈ S0, ∃ n o k, n ∈ gone /\ σ.obj n = some o /\ o.sh = false /\ β n = some k /\ k.blk = some b) (hgone : ∀ g ∈ gone, g ≠ d)
  (hs : 0 < s) (hr : qj (Mut L.A0 β σ) w (xs.flatMap PV.cells) us) (hw : ∀ x ∈ xs, x.cells.length = s) (ho : ∀ x ∈ xs, ∀ c ∈ x.cells, c.one = true) (hown : w'.ownsRow 0 e s v xs.length us) (hblk : ∀ b, v.ownBlock = some b -> w.heap.size <= b ∨ b ∈ S0) :
  ∃ β', Sim L F' β' (σ.put (some d) ⟨some (.own d), (d, some (.row e s xs false)) :: gone.map fun g => (g, none)⟩) (a.put (some d) v) w' := by
 obtain ⟨cap, hv⟩ : ∃ cap, v.oneCell' = true /\ ∀ b, (Bk.blk ⟨v, s, cap⟩) = some b -> v.ownBlock = some b /\ v = .slice (some ⟨b, 0, none⟩) xs.length cap /\ cap <= maxLen := by
  rcases hown.2 with ⟨h, -⟩ | ⟨g, cap, cur, hv, hg, hh, hn, hm, hz, ht⟩
  ·exact ⟨0, by rw [h]; rfl, fun b hb => by simp [Bk.blk, h] at hb⟩
  ·exact ⟨cap, by rw [hv]; rfl, fun b hb => by simp [Bk.blk, hv] at hb; subst hb; exact ⟨by rw [hv]; rfl, hv, hm⟩⟩
 have hn := S.news (F' := F') (w' := w') (N := [⟨d, ⟨v, s, cap⟩, .row e s xs false⟩]) (gone := gone) (S0 := S0) (d := some d) (y := some (.own d)) (v := v)
  (fun s hs => by cases hs; exact hd) hfr hS0 qf (by simpa using hF) (fun n hn => ⟨(hF' n hn).1, by simpa using (hF' n hn).2⟩) (by simp [Ob.sh]) (by simpa using hv.1)
  (by intro x hx b hb; simp at hx; subst hx; exact hblk b (hv.2 b hb).1) (by intro x hx z hz b h1 h2; simp at hx hz; subst hx; subst hz; rfl) (by simpa using hgone)
  (fun A' _ hst hg x hx => by
   simp at hx; subst hx
   exact ⟨⟨v, s, cap⟩, us, by simp [ui], rfl, hs, hr.stay hst, hw, ho, hown, fun b hb => (hv.2 b hb).2⟩)
  (fun A' _ hst hg z hz => by
   cases hz
   exact .own (k := ⟨v, s, cap⟩) (by simp [ui]))
 exact ⟨_, hn⟩
theorem YA {xs : List PV} (h : ∀ x ∈ xs, x.one = true) : ∀ c ∈ xs.map AV.pv, c.one = true := by
 intro c hc
 obtain ⟨x, hx, rfl⟩ := List.mem_map.1 hc
 exact h x hx
theorem uW {v : Value} (h : okV v = true) : ∀ u ∈ v.cells.toList, u.oneCell' = true := by
 cases v with
 | agg cs => exact xA h
 | _ => intro u hu; simp [Value.cells] at hu; subst hu; exact Vx h (fun cs e => (by cases e))
theorem Uu (t : TypeId) (v : Value) : (Go.newVar t v).run P w = .ok ⟨w.heap.size, 0, none⟩ (w.alloc (.cells v.cells t)) := by
 simp [Go.newVar, Go.newRow]
section
variable {F' : Nat -> Prop} {d : Nat}
theorem YN (hX : Cok P X L) (S : Sim L F β σ a w) (hd : d < L.N) (hF : F d) (hF' : ∀ n, F' n -> F n /\ n ≠ d) {t : TypeId} {ti : TI} {z : Unit -> Value} (ht : X.T t = some ti) (hz : ti.zero = some z) {out : Out} (h : (WY X d t ti z).runs C σ out l) :
  ∃ β', Sim L F' β' (σ.put (some d) out) (a.put (some d) (.pointer (some ⟨w.heap.size, 0, none⟩))) (w.alloc (.cells (z ()).cells t)) := by
 obtain ⟨h1, h2, h3⟩ := QL (P := P) (w := w) hX ht hz
 have hl : (z ()).cells = (z ()).cells.toList.toArray := by simp
 unfold WY at h
 split at h
 ·obtain ⟨rfl, -⟩ := h
  rw [hl]
  refine S.newVar hd hF hF' rfl fun β' A' w' hb hg hs hh => ?_
  obtain ⟨h4, h5⟩ := ur (β := β') (A := A') (w := w') (uW h2)
  exact ⟨_, _, _, hb, rfl, h4, h5, rfl, by simpa using hh, by simp⟩
 ·obtain ⟨rfl, -⟩ := h
  rw [hl]
  refine S.newVar hd hF hF' rfl fun β' A' w' hb hg hs hh => ?_
  rw [hX.h]
  obtain ⟨h4, h5⟩ := jW (A := A') (w := w') (uW h2)
  exact ⟨_, _, _, hb, rfl, h4, h5, rfl, by simpa using hh, by simp⟩
theorem qba (hX : Cok P X L) (S : Sim L F β σ a w) (hd : d < L.N) (hF : F d) (hF' : ∀ n, F' n -> F n /\ n ≠ d) {t : TypeId} {ti : TI} {x : AV} {u : Value} (hx : qD β (Mut L.A0 β σ) w x u) {out : Out} (h : (qeP X d t ti x).runs C σ out l) :
  ∃ β', Sim L F' β' (σ.put (some d) out) (a.put (some d) (.pointer (some ⟨w.heap.size, 0, none⟩))) (w.alloc (.cells u.cells t)) := by
 have one : x.one = true -> out = ⟨some (.ref d 0 0), [(d, some (.box t [x] false))]⟩ -> ∃ β', Sim L F' β' (σ.put (some d) out) (a.put (some d) (.pointer (some ⟨w.heap.size, 0, none⟩))) (w.alloc (.cells u.cells t)) := by
  rintro ho rfl
  have hu : u.cells = [u].toArray := by rw [Q2 (hx.one ho S.one)]
  rw [hu]
  exact S.newVar hd hF hF' rfl fun β' A' w' hb hg hs hh => ⟨_, _, _, hb, rfl, .cons (hx.mono hg hs) .nil, by simpa using ho, rfl, by simpa using hh, by simp⟩
 unfold qeP at h
 split at h
 ·obtain ⟨us, rfl, g1, g2⟩ := UT hx
  split at h
  ·obtain ⟨rfl, -⟩ := h
   have := S.newVar (t := t) (cs := us) hd hF hF' (o := .box t (List.map AV.pv _) false) rfl fun β' A' w' hb hg hs hh => ⟨_, _, _, hb, rfl, qm.pvs (g1.stay hs), YA g2, rfl, hh, by simp [g1.length]⟩
   simpa [Value.cells] using this
  ·obtain ⟨rfl, -⟩ := h
   have := S.newVar (t := t) (cs := us) hd hF hF' (o := .var t _ false) rfl fun β' A' w' hb hg hs hh => ⟨_, _, _, hb, rfl, g1.stay hs, g2, rfl, hh, by simp [g1.length]⟩
   simpa [Value.cells] using this
 ·exact Y23
 ·exact Y23
 ·obtain ⟨us, rfl, g1, g2⟩ := KU hx
  obtain ⟨rfl, -⟩ := h
  have := S.newVar (t := t) (cs := us) hd hF hF' (o := .box t _ false) rfl fun β' A' w' hb hg hs hh => ⟨_, _, _, hb, rfl, g1.mono hg hs, g2, rfl, hh, by simp [g1.length]⟩
  simpa [Value.cells] using this
 ·rename_i h1 h2 h3 h4
  obtain ⟨rfl, -⟩ := h
  refine one ?_ rfl
  cases x with
  | pv x =>
   cases x with
   | a xs => exact absurd rfl (h1 xs)
   | t xs => exact absurd rfl (h3 xs)
   | _ => rfl
  | tup xs => exact absurd rfl (h2 xs)
  | ag xs => exact absurd rfl (h4 xs)
  | _ => rfl
end
theorem qm.splice {A : Nat -> Prop} {cs bs : List AV} {us vs : List Value} {off : Nat} (h : qm β A w cs us) (k : qm β A w bs vs) : qm β A w (splice off cs bs) (splice off us vs) := by
 unfold Bl.splice
 rw [h.length]
 exact ((k.take off).app h).app (k.drop _)
theorem qj.splice {A : Nat -> Prop} {cs bs : List PV} {us vs : List Value} {off : Nat} (h : qj A w cs us) (k : qj A w bs vs) : qj A w (splice off cs bs) (splice off us vs) := by
 unfold Bl.splice
 rw [h.length]
 exact ((k.take off).app h).app (k.drop _)
theorem uR {γ : Type} {off : Nat} {cs bs : List γ} {x : γ} (h : x ∈ splice off cs bs) : x ∈ cs ∨ x ∈ bs := by
 unfold splice at h
 rcases List.mem_append.1 h with h | h
 ·rcases List.mem_append.1 h with h | h
  ·exact .inr (List.mem_of_mem_take h)
  ·exact .inl h
 ·exact .inr (List.mem_of_mem_drop h)
theorem jl {γ : Type} {off : Nat} {cs bs : List γ} (h : off + cs.length <= bs.length) : (splice off cs bs).length = bs.length := by
 unfold splice
 rw [List.length_append, List.length_append, List.length_take, List.length_drop]
 omega
theorem zJ {γ : Type} {off : Nat} {cs bs : List γ} (h : off + cs.length <= bs.length) (i : Nat) : (splice off cs bs)[i]? = if off <= i /\ i < off + cs.length then cs[i - off]? else bs[i]? := by
 unfold splice
 rw [List.append_assoc, List.getElem?_append, List.length_take, Nat.min_eq_left Y62]
 by_cases h1 : i < off
 ·rw [if_pos h1, List.getElem?_take, if_pos h1, if_neg Y62]
 ·rw [if_neg h1, List.getElem?_append]
  by_cases h2 : i - off < cs.length
  ·rw [if_pos h2, if_pos Y62]
  ·rw [if_neg h2, List.getElem?_drop, if_neg Y62]
   congr 1
   omega
theorem yX : ∀ (vs : List Value) (k off : Nat) (c : Array Value), off + k + vs.length <= c.size -> ∀ i : Nat, ((vs.zipIdx k).foldl (fun cs (x : Value × Nat) => cs.setIfInBounds (off + x.2) x.1) c)[i]? = if off + k <= i /\ i < off + k + vs.length then vs[i - (off + k)]? else c[i]?
 | [], k, off, c, _, i => by simp; intro h; omega
 | v :: vs, k, off, c, h, i => by
  rw [List.zipIdx_cons, List.foldl_cons, yX vs (k + 1) off _ (by simp at h ⊢; omega)]
  simp only [List.length_cons] at h ⊢
  by_cases h1 : i = off + k
  ·subst h1
   rw [if_neg Y62, if_pos Y62]
   simp [Array.getElem?_setIfInBounds, show off + k < c.size by omega]
  ·by_cases h2 : off + (k + 1) <= i /\ i < off + (k + 1) + vs.length
   ·rw [if_pos h2, if_pos Y62, show i - (off + k) = (i - (off + (k + 1))) + 1 by omega, List.getElem?_cons_succ]
   ·rw [if_neg h2, if_neg Y62, Array.getElem?_setIfInBounds, if_neg Y62]
theorem VX (off : Nat) (u : Value) (c : Array Value) (h : off + u.cells.size <= c.size) : (u.cells.zipIdx.foldl (fun cs (c, j) => cs.setIfInBounds (off + j) c) c) = (splice off u.cells.toList c.toList).toArray := by
 apply Array.ext_getElem?
 intro i
 rw [<- Array.foldl_toList, Array.toList_zipIdx]
 have g1 := yX u.cells.toList 0 off c Y85 i
 have g2 := zJ (off := off) (cs := u.cells.toList) (bs := c.toList) Y85 i
 have g3 : (splice off u.cells.toList c.toList).toArray[i]? = (splice off u.cells.toList c.toList)[i]? := by simp
 rw [g3, g2]
 refine g1.trans ?_
 simp
inductive QM (β : Nat -> Option Bk) (A : Nat -> Prop) (w : World) (ev : Operand -> Value) : List (Nat × Operand) -> List (Nat × AV) -> Prop
 | nil : QM β A w ev [] []
 | cons {i : Nat} {x : Operand} {y : AV} {r : List (Nat × Operand)} {q : List (Nat × AV)} : qD β A w y (ev x) -> QM β A w ev r q -> QM β A w ev ((i, x) :: r) ((i, y) :: q)
theorem xU (hX : Cok P X L) (S : Sim L F β σ a w) : ∀ {ps : List (Nat × Operand)} {k : List (Nat × AV) -> RM α} {l : List Lc}, (V9 X ps k).runs C σ b l -> ∃ ys l', (k ys).runs C σ b l' /\ QM β (Mut L.A0 β σ) w a.eval ps ys
 | [], k, l, h => ⟨[], l, h, .nil⟩
 | (i, x) :: r, k, l, h => by
  obtain ⟨y, l1, hy, h⟩ := qE hX S h
  obtain ⟨ys, l2, h, h2⟩ := xU hX S h
  exact ⟨_, l2, h, .cons hy h2⟩
theorem U5 {A : Nat -> Prop} {x : AV} {u : Value} {cs : List AV} (h : qD β A w x u) (hk : ∀ n k, β n = some k -> k.v.oneCell' = true) (hc : x.cells = some cs) : qm β A w cs u.cells.toList /\ ∀ c ∈ cs, c.one = true := by
 have one : x.one = true -> cs = [x] -> qm β A w cs u.cells.toList /\ ∀ c ∈ cs, c.one = true := by
  rintro ho rfl
  rw [Q2 (h.one ho hk)]
  exact ⟨.cons h .nil, by simpa using ho⟩
 unfold AV.cells at hc
 split at hc
 ·cases hc
  obtain ⟨us, rfl, g1, g2⟩ := UT h
  exact ⟨by simpa [Value.cells] using qm.pvs g1, YA g2⟩
 ·cases hc
 ·cases hc
  obtain ⟨us, rfl, g1, g2⟩ := KU h
  exact ⟨by simpa [Value.cells] using g1, g2⟩
 ·cases hc
 ·rename_i h1 h2 h3 h4
  cases hc
  refine one ?_ rfl
  cases x with
  | pv x =>
   cases x with
   | a xs => exact absurd rfl (h1 xs)
   | t xs => exact absurd rfl (h2 xs)
   | _ => rfl
  | ag xs => exact absurd rfl (h3 xs)
  | tup xs => exact absurd rfl (h4 xs)
  | _ => rfl
theorem JW {A : Nat -> Prop} (hk : ∀ n k, β n = some k -> k.v.oneCell' = true) {place : Nat -> Option (Nat × Nat)} {ev : Operand -> Value} : ∀ {ps : List (Nat × Operand)} {ys : List (Nat × AV)} {base : List AV} {vs : List Value} {k : List AV -> RM α} {l : List Lc}, QM β A w ev ps ys -> qm β A w base vs -> (∀ c ∈ base, c.one = true) ->
  (K8 place base ys k).runs C σ b l -> ∃ cs us l', (k cs).runs C σ b l' /\ qm β A w cs us /\ (∀ c ∈ cs, c.one = true) /\ Instr.fill place vs.toArray (ps.map fun (i, x) => (i, ev x)) = some us.toArray
 | _, _, base, vs, k, l, .nil, hb, ho, h => ⟨base, vs, l, h, hb, ho, rfl⟩
 | _, _, base, vs, k, l, .cons (i := i) (x := x) (y := y) hy hp, hb, ho, h => by
  simp only [K8] at h
  split at h
  ·rename_i off size cs h1 h2
   obtain ⟨h3, h⟩ := h
   obtain ⟨h3, h4⟩ := h3 ()
   obtain ⟨g1, g2⟩ := U5 hy hk h2
   have hl := g1.length
   have hlb := hb.length
   obtain ⟨cs', us', l', q1, q2, q3, q4⟩ := JW hk hp (g1.splice hb (off := off)) (fun c hc => by rcases uR hc with h | h; exact g2 c h; exact ho c h) h
   refine ⟨cs', us', l', q1, q2, q3, ?_⟩
   have hsz : (ev x).cells.size = size := by rw [<- h3, hl]; simp
   simp only [List.map_cons, Instr.fill, h1]
   rw [if_neg (by simp [hsz]; omega), VX off _ _ (by simp [hsz]; omega)]
   exact q4
  ·exact Y23
end
end Go.Bl
namespace Go.Bl
open Go.RowKit
section
variable {α : Type} {P : Program} {X : Cx} {L : Pl} {F : Nat -> Prop} {β : Nat -> Option Bk} {σ : St} {a : Act} {w : World} {C : FuncId -> List RA -> RA -> List RA -> Prop} {b : α} {l : List Lc} {A : Nat -> Prop}
theorem jG.nil : jG σ [] [] := ⟨by simp, fun _ _ => rfl⟩
theorem jG.app {ns ms : List Nat} {sh sk : List (Nat × Option Ob)} (h : jG σ ns sh) (k : jG σ ms sk) : jG σ (ns ++ ms) (sh ++ sk) := by
 constructor
 ·intro n hn
  by_cases h1 : n ∈ ns
  ·obtain ⟨o, h2, h3⟩ := h.1 n h1
   exact ⟨o, h2, by rw [vL, h3]⟩
  ·obtain ⟨o, h2, h3⟩ := k.1 n (by rcases List.mem_append.1 hn with h | h; exact absurd h h1; exact h)
   exact ⟨o, h2, by rw [vL, h.2 n h1]; exact h3⟩
 ·intro n hn
  rw [vL, h.2 n fun h => hn (List.mem_append.2 (.inl h))]
  exact k.2 n fun h => hn (List.mem_append.2 (.inr h))
theorem yp (hX : ∀ α f, X.h α f = f ()) (S : Sim L F β σ a w) {x : AV} {u : Value} {k : PV -> List (Nat × Option Ob) -> RM α} (hx : qD β (Mut L.A0 β σ) w x u) (h : (Jt X x k).runs C σ b l) :
  ∃ y ns sh l', (k y sh).runs C σ b l' /\ jG σ ns sh /\ WB β (Mut L.A0 β σ) w y u ns := by
 obtain ⟨y, ns, l1, h1, h2⟩ := uP hX S ZZ hx h
 obtain ⟨sh, l2, h3, h4⟩ := uS h1
 exact ⟨y, ns, sh, l2, h3, h4, h2⟩
theorem yr {x : PV} {u : Value} {s : Nat} (h : je A w x u) (hl : x.cells.length = s) (hok : ∀ xs, x ≠ .t xs) : qj A w x.cells u.cells.toList /\ (∀ c ∈ x.cells, c.one = true) /\ u.cells.size = s := by
 obtain ⟨h1, h2⟩ := h.cs hok
 exact ⟨h1, h2, by rw [<- hl, h1.length]; simp⟩
theorem Jv (l : List Value) : ∀ (n i : Nat), i < n * l.length -> (List.replicate n l).flatten[i]? = l[i % l.length]?
 | 0, i, h => by omega
 | n + 1, i, h => by
  rw [List.replicate_succ, List.flatten_cons, List.getElem?_append]
  by_cases h1 : i < l.length
  ·rw [if_pos h1, Nat.mod_eq_of_lt h1]
  ·rw [if_neg h1, Jv l n _ (by rw [Nat.add_mul] at h; omega), Nat.mod_eq_sub_mod (Nat.le_of_not_lt h1)]
theorem LS (z : Array Value) (n : Nat) : (madeCells z (n * z.size)).toList = (List.replicate n z.toList).flatten := by
 apply List.ext_getElem?
 intro i
 have hsz : (List.replicate n z.toList).flatten.length = n * z.size := by simp
 by_cases h : i < n * z.size
 ·rw [Jv _ _ _ Y85]
  have hz : 0 < z.size := by rcases Nat.eq_zero_or_pos z.size with h0 | h0; (rw [h0] at h; omega); exact h0
  have hm := Nat.mod_lt i hz
  simp [madeCells, h, hm, getElem!_pos]
 ·rw [List.getElem?_eq_none (l := (madeCells z (n * z.size)).toList) (by simp [madeCells]; omega), List.getElem?_eq_none Y76]
theorem Jk {x : PV} {u : Value} (h : qj A w x.cells u.cells.toList) : ∀ n, qj A w ((List.replicate n x).flatMap PV.cells) (List.replicate n u.cells.toList).flatten
 | 0 => .nil
 | n + 1 => by
  rw [List.replicate_succ, List.flatMap_cons, List.replicate_succ, List.flatten_cons]
  exact h.app (Jk h n)
theorem yv {s : Nat} : ∀ {xs : List PV} {i : Nat} {y : PV}, (∀ x ∈ xs, x.cells.length = s) -> y.cells.length = s -> i < xs.length -> (xs.set i y).flatMap PV.cells = splice (i * s) y.cells (xs.flatMap PV.cells)
 | x :: xs, 0, y, h, hy, hi => by
  rw [List.set_cons_zero, List.flatMap_cons, List.flatMap_cons]
  unfold splice
  rw [Nat.zero_mul, List.take_zero, List.nil_append, Nat.zero_add, List.drop_append, hy, h x List.mem_cons_self, Nat.sub_self, List.drop_zero, List.drop_of_length_le (by rw [h x List.mem_cons_self]; exact Nat.le_refl _), List.nil_append]
 | x :: xs, i + 1, y, h, hy, hi => by
  rw [List.set_cons_succ, List.flatMap_cons, List.flatMap_cons, yv (fun z hz => h z (List.mem_cons_of_mem _ hz)) hy (by simpa using hi)]
  have hx := h x List.mem_cons_self
  have e : (i + 1) * s = s + i * s := by rw [Nat.add_mul]; omega
  unfold splice
  rw [e, List.take_append, hx, List.take_of_length_le (l := x.cells) (by rw [hx]; omega), show s + i * s - s = i * s by omega, List.drop_append, hx, List.drop_of_length_le (l := x.cells) (by rw [hx]; omega), List.nil_append, show s + i * s + y.cells.length - s = i * s + y.cells.length by omega, List.append_assoc, List.append_assoc, List.append_assoc]
theorem yE {xs : List PV} {i : Nat} {y : PV} {p : PV -> Prop} (h : ∀ x ∈ xs, p x) (hy : p y) : ∀ x ∈ xs.set i y, p x := by
 intro x hx
 rcases List.mem_or_eq_of_mem_set hx with h1 | rfl
 ·exact h x h1
 ·exact hy
theorem qaR {x : PV} {s : Nat} (h : (∃ xs, x = .t xs) -> False) : ∀ xs, x ≠ .t xs := fun xs e => h ⟨xs, e⟩
theorem xY (hX : ∀ α f, X.h α f = f ()) (S : Sim L F β σ a w) {place : Nat -> Option (Nat × Nat)} {ev : Operand -> Value} : ∀ {ps : List (Nat × Operand)} {ys : List (Nat × AV)} {base : List PV} {vs : List Value} {ns : List Nat} {k : List PV -> List (Nat × Option Ob) -> RM α} {l : List Lc},
  QM β (Mut L.A0 β σ) w ev ps ys -> XK β (Mut L.A0 β σ) w base vs ns -> (∀ c ∈ base, c.one = true) -> base.length = vs.length -> (XM X place base ys k).runs C σ b l ->
  ∃ cs us ms sh l', (k cs sh).runs C σ b l' /\ jG σ ms sh /\ XK β (Mut L.A0 β σ) w cs us (ns ++ ms) /\ (∀ c ∈ cs, c.one = true) /\ Instr.fill place vs.toArray (ps.map fun (i, x) => (i, ev x)) = some us.toArray
 | _, _, base, vs, ns, k, l, .nil, hb, ho, hl, h => ⟨base, vs, [], [], l, h, jG.nil, by simpa using hb, ho, rfl⟩
 | _, _, base, vs, ns, k, l, .cons (i := i) (x := x) (y := y) hy hp, hb, ho, hl, h => by
  simp only [XM] at h
  split at h
  ·rename_i off size h1
   obtain ⟨z, ms, sh, l1, h, h2, h3⟩ := yp hX S hy h
   obtain ⟨h4, h⟩ := h
   obtain ⟨h4, h5, h6⟩ := h4 ()
   rw [hX] at h
   have hz := h3 (fun _ => False) ⟨fun _ h => h.elim, fun _ _ _ _ _ _ h => h⟩
   obtain ⟨g1, g2, g3⟩ := yr hz h4 (qaR (s := 0) h6)
   have hvl : (ev x).cells.toList.length = z.cells.length := by rw [g1.length]
   obtain ⟨cs', us', ms', sh', l', q1, q2, q3, q4, q5⟩ := xY hX S (ns := ns ++ ms) hp (base := splice off z.cells base) (vs := splice off (ev x).cells.toList vs)
    (fun A' hA => ((h3 A' hA.app.2).cs (qaR (s := 0) h6)).1.splice (hb A' hA.app.1)) (fun c hc => by rcases uR hc with h | h; exact g2 c h; exact ho c h)
    (by rw [jl Y62, jl (by rw [hvl]; omega)]; exact hl) h
   refine ⟨cs', us', ms ++ ms', sh ++ sh', l', q1, h2.app q2, by rw [<- List.append_assoc]; exact q3, q4, ?_⟩
   simp only [List.map_cons, Instr.fill, h1]
   rw [if_neg (by simp [g3]; omega), VX off _ _ (by simp [g3]; omega)]
   exact q5
  ·exact Y23
theorem JR (hX : ∀ α f, X.h α f = f ()) (S : Sim L F β σ a w) {s : Nat} {ev : Operand -> Value} : ∀ {ps : List (Nat × Operand)} {ys : List (Nat × AV)} {base : List PV} {vs : List Value} {ns : List Nat} {k : List PV -> List (Nat × Option Ob) -> RM α} {l : List Lc},
  QM β (Mut L.A0 β σ) w ev ps ys -> XK β (Mut L.A0 β σ) w (base.flatMap PV.cells) vs ns -> (∀ x ∈ base, x.cells.length = s) -> (∀ x ∈ base, ∀ c ∈ x.cells, c.one = true) -> vs.length = base.length * s -> (Yx X s base ys k).runs C σ b l ->
  ∃ cs us ms sh l', (k cs sh).runs C σ b l' /\ jG σ ms sh /\ XK β (Mut L.A0 β σ) w (cs.flatMap PV.cells) us (ns ++ ms) /\ (∀ x ∈ cs, x.cells.length = s) /\ (∀ x ∈ cs, ∀ c ∈ x.cells, c.one = true) /\ cs.length = base.length /\
   Instr.fill (fun i => some (i * s, s)) vs.toArray (ps.map fun (i, x) => (i, ev x)) = some us.toArray
 | _, _, base, vs, ns, k, l, .nil, hb, hw, ho, hl, h => ⟨base, vs, [], [], l, h, jG.nil, by simpa using hb, hw, ho, rfl, rfl⟩
 | _, _, base, vs, ns, k, l, .cons (i := i) (x := x) (y := y) hy hp, hb, hw, ho, hl, h => by
  simp only [Yx] at h
  obtain ⟨z, ms, sh, l1, h, h2, h3⟩ := yp hX S hy h
  obtain ⟨h4, h⟩ := h
  obtain ⟨h4, h5, h6⟩ := h4 ()
  have hz := h3 (fun _ => False) ⟨fun _ h => h.elim, fun _ _ _ _ _ _ h => h⟩
  obtain ⟨g1, g2, g3⟩ := yr hz h5 (qaR (s := 0) h6)
  have hvl : (ev x).cells.toList.length = s := by rw [<- g1.length, h5]
  have hmul : i * s + s <= base.length * s := by
   have := Nat.mul_le_mul_right s (show i + 1 <= base.length by omega)
   rw [Nat.add_mul] at this
   omega
  have hcl := jC hw
  obtain ⟨cs', us', ms', sh', l', q1, q2, q3, q4, q5, q6, q7⟩ := JR hX S (ns := ns ++ ms) hp (base := base.set i z) (vs := splice (i * s) (ev x).cells.toList vs)
   (fun A' hA => by rw [yv hw h5 h4]; exact ((h3 A' hA.app.2).cs (qaR (s := 0) h6)).1.splice (hb A' hA.app.1)) (yE hw h5) (yE ho g2)
   (by rw [jl (by rw [hvl]; omega), hl]; simp) h
  refine ⟨cs', us', ms ++ ms', sh ++ sh', l', q1, h2.app q2, by rw [<- List.append_assoc]; exact q3, q4, q5, by rw [q6]; simp, ?_⟩
  simp only [List.map_cons, Instr.fill]
  rw [if_neg (by simp [g3]; omega), VX (i * s) _ _ (by simp [g3]; omega)]
  exact q7
end
end Go.Bl
namespace Go.Bl
open Go.RowKit
section
variable {α : Type} {P : Program} {X : Cx} {L : Pl} {F : Nat -> Prop} {β : Nat -> Option Bk} {σ : St} {a : Act} {w : World} {C : FuncId -> List RA -> RA -> List RA -> Prop} {b : α} {l : List Lc} {A : Nat -> Prop}
theorem Zq (hX : Cok P X L) : ∀ (fs : List Field), (∀ f ∈ fs, (X.T f.type).isSome = true) -> ∃ ps : List (Nat × Nat), (List.mapM (fun f : Field => Prod.mk f.offset <$> sizeOf f.type) fs : Sem (List (Nat × Nat))).run P w = .ok ps w /\ ∀ i, ps[i]? = zZ X fs.toArray i
 | [], _ => ⟨[], by simp, fun i => by simp [zZ]⟩
 | f :: fs, h => by
  obtain ⟨ps, h1, h2⟩ := Zq hX fs fun g hg => h g (List.mem_cons_of_mem _ hg)
  have hf := h f List.mem_cons_self
  cases ht : X.T f.type with
  | none => rw [ht] at hf; cases hf
  | some ti =>
   refine ⟨(f.offset, ti.size) :: ps, by simp [run_sizeOf hX ht, h1], fun i => ?_⟩
   cases i with
   | zero => simp [zZ, ht]
   | succ i =>
    have := h2 i
    simp only [zZ] at this ⊢
    simpa using this
theorem Ki {p q : Nat -> Option (Nat × Nat)} (h : ∀ i, p i = q i) (cs : Array Value) (ps : List (Nat × Value)) : Instr.fill p cs ps = Instr.fill q cs ps := by
 rw [show p = q from funext h]
theorem LD : ∀ {fs : List Field}, okF X fs = true -> ∀ f ∈ fs, (X.T f.type).isSome = true
 | g :: fs, h, f, hf => by
  simp only [okF, Bool.and_eq_true] at h
  rcases List.mem_cons.1 hf with rfl | hf
  ·exact h.1
  ·exact LD h.2 f hf
theorem YP : ∀ {fs : List Field}, X.flatF fs = true -> okF X fs = true
 | [], _ => rfl
 | f :: fs, h => by
  simp only [Cx.flatF] at h
  split at h
  ·rename_i ti ht
   simp only [Bool.and_eq_true] at h
   simp [okF, ht, YP h.2]
  ·cases h
theorem yC (ev : Operand -> Value) (parts : Array (Nat × Operand)) : (parts.map fun (i, x) => (i, ev x)).toList = parts.toList.map fun (i, x) => (i, ev x) := by simp
theorem XW (hX : Cok P X L) (S : Sim L F β σ a w) {t : TypeId} {ti : TI} {z : Unit -> Value} {parts : Array (Nat × Operand)} {ys : List (Nat × AV)} (ht : X.T t = some ti) (hz : ti.zero = some z) (hp : QM β (Mut L.A0 β σ) w a.eval parts.toList ys) {out : Out} (h : (Kw X ti (z) ys).runs C σ out l) :
  ∃ y ns sh v, out = ⟨some y, sh⟩ /\ jG σ ns sh /\ (∀ A', z8 β (Mut L.A0 β σ) A' ns -> qD β A' w y v) /\ (Instr.build t (parts.map fun (i, x) => (i, a.eval x))).run P w = .ok v w := by
 obtain ⟨h1, h2, h3⟩ := QL (P := P) (w := w) hX ht hz
 have hu := jV (P := P) (w := w) hX ht
 have hz0 : (z ()).cells.toList.toArray = (z ()).cells := by simp
 unfold Kw at h
 split at h
 ·rename_i fs hd
  rw [hd] at hu
  have hok : okF X fs.toList = true := by
   split at h
   ·rename_i hf; exact YP hf
   ·obtain ⟨h4, -⟩ := h; exact h4 ()
  obtain ⟨ps, g1, g2⟩ := Zq (P := P) (w := w) hX fs.toList (LD hok)
  have g3 : (fs.mapM fun f => do pure (f.offset, <- sizeOf f.type) : Sem (Array (Nat × Nat))).run P w = .ok ps.toArray w := by
   rw [Array.mapM_eq_mapM_toList]
   simp [g1]
  have go : ∀ {us : List Value}, Instr.fill (zZ X fs) (z ()).cells (parts.toList.map fun (i, x) => (i, a.eval x)) = some us.toArray -> (Instr.build t (parts.map fun (i, x) => (i, a.eval x))).run P w = .ok (.agg us.toArray) w := by
   intro us hf
   have e : ∀ i, ps.toArray[i]? = zZ X fs i := fun i => by simpa using g2 i
   rw [<- Ki e] at hf
   simp only [Instr.build, Sem.run_bind, h1, Result.andThen_ok, hu, g3, yC, hf]
   rfl
  split at h
  ·rename_i hf
   obtain ⟨g4, g5⟩ := ur (β := β) (A := Mut L.A0 β σ) (w := w) (uW h2)
   obtain ⟨cs, us, l', q1, q2, q3, q4⟩ := JW S.one hp g4 g5 h
   obtain ⟨rfl, -⟩ := q1
   rw [hz0] at q4
   exact ⟨_, [], [], _, rfl, jG.nil, fun A' hA => (yF q2 q3).mono (zn.refl _) (hA.stays w), go q4⟩
  ·obtain ⟨-, h⟩ := h
   rw [hX.h] at h
   obtain ⟨g4, g5⟩ := jW (A := fun _ => False) (w := w) (uW h2)
   obtain ⟨cs, us, ms, sh, l', q1, q2, q3, q4, q5⟩ := xY hX.h S (ns := []) hp (fun A' hA => (jW (A := A') (w := w) (uW h2)).1) g5 g4.length h
   obtain ⟨rfl, -⟩ := q1
   rw [hz0] at q5
   exact ⟨_, ms, sh, _, rfl, q2, fun A' hA => .pv (.a (q3 A' (by simpa using hA)) q4), go q5⟩
 ·rename_i n e hd
  rw [hd] at hu
  obtain ⟨te, he, h⟩ := qr h
  rw [hX.h] at h
  obtain ⟨g4, g5⟩ := jW (A := fun _ => False) (w := w) (uW h2)
  obtain ⟨cs, us, ms, sh, l', q1, q2, q3, q4, q5⟩ := xY hX.h S (ns := []) hp (fun A' hA => (jW (A := A') (w := w) (uW h2)).1) g5 g4.length h
  obtain ⟨rfl, -⟩ := q1
  rw [hz0] at q5
  refine ⟨_, ms, sh, _, rfl, q2, fun A' hA => .pv (.a (q3 A' (by simpa using hA)) q4), ?_⟩
  simp only [Instr.build, Sem.run_bind, h1, Result.andThen_ok, hu, run_sizeOf hX he, yC, q5]
  rfl
 ·exact Y23
theorem Ja (hX : Cok P X L) (S : Sim L F β σ a w) {F' : Nat -> Prop} {d : Nat} (hd : d < L.N) (hF : F d) (hF' : ∀ n, F' n -> F n /\ n ≠ d) {t e : TypeId} {ti te : TI} {z : Unit -> Value} {len : Nat} {parts : Array (Nat × Operand)} {ys : List (Nat × AV)}
  (ht : X.T t = some ti) (hdt : ti.desc = .slice e) (he : X.T e = some te) (hz : te.zero = some z) (hp : QM β (Mut L.A0 β σ) w a.eval parts.toList ys) {out : Out}
  (h : (Yx X te.size (List.replicate len (vr (z ()))) ys fun xs sh => .chk (fun _ => 0 < te.size /\ len * te.size <= 16777216) (.ret ⟨some (.own d), (d, some (.row e te.size xs false)) :: sh⟩)).runs C σ out l) :
  ∃ v w' β', (Instr.buildSlice t len (parts.map fun (i, x) => (i, a.eval x))).run P w = .ok v w' /\ Sim L F' β' (σ.put (some d) out) (a.put (some d) v) w' := by
 obtain ⟨h1, h2, h3⟩ := QL (P := P) (w := w) hX he hz
 have hu := jV (P := P) (w := w) hX ht
 rw [hdt] at hu
 obtain ⟨g1, g2, g3⟩ := Jh (A := fun _ => False) (w := w) h2
 have hnt : ∀ xs, vr (z ()) ≠ .t xs := fun xs e => by
  unfold vr at e
  split at e
  ·cases e
  ·unfold jI at e
   split at e <;> cases e
 have hrw : ∀ x ∈ List.replicate len (vr (z ())), x.cells.length = te.size := fun x hx => by rw [List.eq_of_mem_replicate hx, g2, h3]
 obtain ⟨cs, us, ms, sh, l', q1, q2, q3, q4, q5, q6, q7⟩ := JR hX.h S (s := te.size) (ns := []) (vs := (List.replicate len (z ()).cells.toList).flatten) hp
  (fun A' hA => Jk ((Jh (A := A') (w := w) h2).1.cs hnt).1 len) hrw (fun x hx => by rw [List.eq_of_mem_replicate hx]; exact g3) (by simp [h3]) h
 obtain ⟨h4, q1⟩ := q1
 obtain ⟨h4, h5⟩ := h4 ()
 obtain ⟨rfl, -⟩ := q1
 obtain ⟨S', hA⟩ := S.share q2
 have q3' := q3 _ (by simpa using hA)
 have hl := q3'.length
 rw [jC q4, q6, List.length_replicate] at hl
 have hlt : len <= len * te.size := Nat.le_mul_of_pos_right _ h4
 have hown : (w.alloc (.cells us.toArray e)).ownsRow 0 e te.size (.slice (some ⟨w.heap.size, 0, none⟩) len len) cs.length us := by
  rw [q6, List.length_replicate]
  refine ⟨hl.symm, .inr ⟨w.heap.size, len, us.toArray, rfl, Nat.zero_le _, heap_alloc_new w _, Nat.le_refl _, by simp [maxLen]; omega, by simp [hl], ?_⟩⟩
  simp [List.take_of_length_le, hl]
 obtain ⟨β', hn⟩ := S'.newRow (F' := F') (S0 := []) (gone := []) hd hF hF' (Fr.alloc w _) qf qf h4 q3' q4 q5 hown (fun b hb => by simp [Value.ownBlock] at hb; omega)
 refine ⟨_, _, β', ?_, hn⟩
 have hgt : ¬ len * te.size > 2 ^ 24 := by omega
 simp only [Instr.buildSlice, Sem.run_bind, hu, Result.andThen_ok, run_sizeOf hX he, hgt, if_false, Sem.run_pure]
 by_cases h0 : len * te.size = 0
 ·have hl0 : len = 0 := by
   rcases Nat.eq_zero_or_pos len with h | h
   ·exact h
   ·have := Nat.mul_pos h h4; omega
  subst hl0
  rw [if_pos h0]
  have hmade : ((Array.range (0 * te.size)).map ((#[] : Array Value)[· % (#[] : Array Value).size]!)) = (List.replicate 0 (z ()).cells.toList).flatten.toArray := by simp
  simp only [Sem.run_bind, Sem.run_pure, Result.andThen_ok]
  rw [hmade, yC, q7]
  simp [Go.newRow]
 ·rw [if_neg h0]
  have hmade : ((Array.range (len * te.size)).map ((z ()).cells[· % (z ()).cells.size]!)) = (List.replicate len (z ()).cells.toList).flatten.toArray := by
   have := LS (z ()).cells len
   rw [h3] at this
   apply Array.ext'
   simpa [madeCells, h3] using this
  simp only [Sem.run_bind, Sem.run_pure, h1, Result.andThen_ok]
  rw [hmade, yC, q7]
  simp [Go.newRow]
theorem WA (hX : Cok P X L) (S : Sim L F β σ a w) {F' : Nat -> Prop} {d : Nat} (hd : d < L.N) (hF : F d) (hF' : ∀ n, F' n -> F n /\ n ≠ d) {t e : TypeId} {ti te : TI} {z : Unit -> Value} {kn km : IntKind} {n m : Int}
  (ht : X.T t = some ti) (hdt : ti.desc = .slice e) (he : X.T e = some te) (hz : te.zero = some z) (h4 : 0 < te.size) (h5 : 0 <= n) (h6 : n <= m) (h7 : m <= maxLen) (h8 : m * te.bytes <= 140737488355328) :
  ∃ v w' β', (Instr.makeSlice t (.int kn n) (.int km m)).run P w = .ok v w' /\ Sim L F' β' (σ.put (some d) ⟨some (.own d), [(d, some (.row e te.size (List.replicate n.toNat (vr (z ()))) false))]⟩) (a.put (some d) v) w' := by
 obtain ⟨hu, -⟩ := hX.T t ti ht
 rw [hdt] at hu
 obtain ⟨-, i, hi, hi1, hi2, hi3⟩ := hX.T e te he
 obtain ⟨hi4, h2, h3⟩ := hi3 z hz
 have hr := run_make (P := P) w t e i (z ()) hu hi hi4 kn km n m h5 h6 (by rw [hi2, Int.mul_comm]; omega) (by simp [maxLen] at h7; omega)
 obtain ⟨g1, g2, g3⟩ := Jh (A := Mut L.A0 β σ) (w := w) h2
 have hnt : ∀ xs, vr (z ()) ≠ .t xs := fun xs e => by
  unfold vr at e
  split at e
  ·cases e
  ·unfold jI at e
   split at e <;> cases e
 have hm := LS (z ()).cells m.toNat
 rw [h3] at hm
 have hown : (w.alloc (.cells (madeCells (z ()).cells (m.toNat * i.size)) e)).ownsRow 0 e te.size (.slice (some ⟨w.heap.size, 0, none⟩) n.toNat m.toNat) (List.replicate n.toNat (vr (z ()))).length (List.replicate n.toNat (z ()).cells.toList).flatten := by
  rw [List.length_replicate, hi1]
  have hle : n.toNat <= m.toNat := by omega
  refine ⟨by simp [h3], .inr ⟨w.heap.size, m.toNat, _, rfl, Nat.zero_le _, heap_alloc_new w _, hle, by simp [maxLen] at h7 ⊢; omega, size_madeCells _ _, ?_⟩⟩
  rw [hm]
  obtain ⟨r, hr⟩ : ∃ r, m.toNat = n.toNat + r := ⟨m.toNat - n.toNat, by omega⟩
  rw [hr, <- List.replicate_append_replicate, List.flatten_append, List.take_append_of_le_length (by simp [h3]), List.take_of_length_le (by simp [h3])]
 obtain ⟨β', hn⟩ := S.newRow (F' := F') (S0 := []) (gone := []) hd hF hF' (Fr.alloc w _) qf qf h4 (Jk (g1.cs hnt).1 n.toNat) (fun x hx => by rw [List.eq_of_mem_replicate hx, g2, h3]) (fun x hx => by rw [List.eq_of_mem_replicate hx]; exact g3) hown (fun b hb => by simp [Value.ownBlock] at hb; omega)
 exact ⟨_, _, β', hr, hn⟩
theorem uf {t : TypeId} {ti : TI} (hX : Cok P X L) (ht : X.T t = some ti) {bk off : Nat} {c : Array Value} {e : TypeId} {u : Value} (hb : w.heap[bk]? = some (.cells c e (0, 0))) (hs : u.cells.size = ti.size) (hoff : off + u.cells.size <= c.size) (h1 : ∀ v ∈ u.cells.toList, v.oneCell' = true) :
  ∃ w', (Instr.storeAt t (.pointer (some ⟨bk, off, none⟩)) u).run P w = .ok () w' /\ Fr [bk] w w' /\ w'.heap[bk]? = some (.cells (splice off u.cells.toList c.toList).toArray e (0, 0)) := by
 have hst := run_storeCells_at P bk off e u.cells.toList 0 c w hb (by simpa using hoff) h1
 simp only [Nat.add_zero] at hst
 refine ⟨_, ?_, ?_, setRow_heap w bk c _ e _ hb⟩
 ·simp only [Instr.storeAt, Instr.sureAddr, storeVar, Sem.run_bind, Sem.run_pure, Result.andThen_ok, run_sizeOf hX ht]
  rw [if_neg (by simp [hs])]
  rw [hst]
  rfl
 ·exact ⟨rfl, rfl, rfl, by simp [World.setRow], fun k hk hn => setRow_other w bk k _ (fun e => hn (by simp [e]))⟩
theorem qer {ns : List Nat} {sh : List (Nat × Option Ob)} (h : jG σ ns sh) {n : Nat} (hl : ja sh n = none) : (σ.more sh).obj n = σ.obj n := by rw [St.more_obj, hl]
theorem XS (hX : Cok P X L) (S : Sim L F β σ a w) {t : TypeId} {p x : AV} {u v : Value} {d : Option Nat} (hd : ∀ s, d = some s -> s < L.N) (hp : qD β (Mut L.A0 β σ) w p u) (hx : qD β (Mut L.A0 β σ) w x v) {k : List (Nat × Option Ob) -> RM α} (h : (qcU X t p x k).runs C σ b l) :
  ∃ os w' l', (k os).runs C σ b l' /\ (Instr.storeAt t u v).run P w = .ok () w' /\ ∀ q, Sim L F β (σ.put d ⟨none, os⟩) (a.put d q) w' := by
 obtain ⟨ti, ht, h⟩ := qr h
 cases p with
 | ref n i j =>
  obtain ⟨kk, bk, hk, hb, rfl⟩ := vm hp
  obtain ⟨o, l2, ho, -, h⟩ := h
  have more : ∀ {sh : List (Nat × Option Ob)} {o' : Ob}, (σ.put d ⟨none, (n, some o') :: sh⟩) = ((σ.more sh).put d ⟨none, [(n, some o')]⟩) := by intro sh o'; cases d <;> rfl
  rcases o with ⟨e, s, xs, _ | _⟩ | ⟨e, xs, _ | _⟩ | ⟨e, bs, _ | _⟩
  ·obtain ⟨y, ns, sh, l3, h, h2, h3⟩ := yp hX.h S hx h
   split at h
   ·exact Y23
   ·rename_i hlk
    obtain ⟨h4, h⟩ := h
    obtain ⟨h4, h5, h6, h7⟩ := h4 ()
    obtain ⟨S', hA⟩ := S.share h2
    have ho' : (σ.more sh).obj n = some (.row e s xs false) := by rw [qer h2 hlk]; exact ho
    have hy := h3 _ hA
    obtain ⟨g1, g2, g3⟩ := yr hy h5 (qaR (s := 0) h7)
    obtain ⟨k', us, q1, q2, q3, q4, q5, q6, q7, q8, q9⟩ := (S'.objs n _ ho').row_mem
    rw [hk] at q1; cases q1
    obtain ⟨hv, hn, hcm, cur, hh, hs, hcur⟩ := q9 bk hb
    have hmul : i * s + s <= xs.length * s := by
     have := Nat.mul_le_mul_right s (show i + 1 <= xs.length by omega)
     rw [Nat.add_mul] at this; omega
    have hmul2 : xs.length * s <= kk.cap * s := Nat.mul_le_mul_right _ hn
    obtain ⟨w', r1, r2, r3⟩ := uf (P := P) (off := i * kk.s + j) (u := v) hX ht hh g3 (by rw [hs, g3, q2]; omega) (g1.ones g2)
    have own : ∀ {zs : List PV}, zs.length = xs.length -> zs.flatMap PV.cells = splice (i * s + j) y.cells (xs.flatMap PV.cells) -> (∀ z ∈ zs, z.cells.length = s) -> (∀ z ∈ zs, ∀ c ∈ z.cells, c.one = true) ->
      ∀ q, Sim L F β ((σ.more sh).put d ⟨none, [(n, some (.row e s zs false))]⟩) (a.put d q) w' := by
     intro zs z1 z2 z3 z4 q
     refine S'.upd hd ho' rfl rfl hk hb r2 fun A' hst => ?_
     refine ⟨kk, splice (i * s + j) v.cells.toList us, hk, q2, q3, by rw [z2]; exact (g1.splice q4).stay hst, z3, z4, ?_, fun b' hb' => ?_⟩
     ·have hvl : v.cells.toList.length = ti.size := by rw [<- g3]; simp
      refine ⟨by rw [jl (by rw [hvl, q7]; omega), q7, z1], .inr ⟨bk, kk.cap, _, by rw [z1]; exact hv, Nat.zero_le _, r3, by rw [z1]; exact hn, hcm, ?_, ?_⟩⟩
      ·simp only [List.size_toArray]
       rw [jl (by simp [hs, g3, q2]; omega)]
       simpa using hs
      ·apply List.ext_getElem?
       intro m
       rw [z1, List.getElem?_take, q2]
       have hcl : ∀ m, m < xs.length * s -> cur.toList[m]? = us[m]? := fun m hm => by simpa using hcur m Y62
       by_cases hm : m < xs.length * s
       ·rw [if_pos hm, zJ (by simp [hs, g3]; omega), zJ (by rw [hvl, q7]; omega), hcl m hm]
       ·rw [if_neg hm, List.getElem?_eq_none (by rw [jl (by rw [hvl, q7]; omega), q7]; omega)]
     ·rw [hb] at hb'; cases hb'
      exact ⟨by rw [z1]; exact hv, hcm⟩
    split at h
    ·rename_i hj
     simp only [Bool.and_eq_true, beq_iff_eq] at hj
     obtain ⟨hj0, hsz⟩ := hj
     rw [hX.h] at h
     refine ⟨_, w', _, h, r1, fun q => ?_⟩
     rw [more]
     exact own qf (by rw [hj0, Nat.add_zero]; exact yv q5 (by rw [h5, hsz]) h4) (yE q5 (by rw [h5, hsz])) (yE q6 g2) q
    ·rw [hX.h] at h
     refine ⟨_, w', _, h, r1, fun q => ?_⟩
     rw [more]
     have hel := q5 _ (vG h4)
     have hsl : (PV.a (splice j y.cells (xs.getD i noP).cells)).cells.length = s := by
      show (splice j y.cells (xs.getD i noP).cells).length = s
      rw [jl (by rw [h5, hel]; omega), hel]
     refine own qf ?_ (yE q5 hsl) (yE q6 fun c hc => by rcases uR hc with h | h; exact g2 c h; exact q6 _ (vG h4) c h) q
     rw [yv q5 hsl h4]
     have hcat := QN h4 q5
     show splice (i * s) (splice j y.cells (xs.getD i noP).cells) (xs.flatMap PV.cells) = _
     have hfl := jC q5
     apply List.ext_getElem?
     intro m
     have hsl2 : (splice j y.cells (xs.getD i noP).cells).length = s := hsl
     have e1 := zJ (off := i * s) (cs := splice j y.cells (xs.getD i noP).cells) (bs := xs.flatMap PV.cells) (by rw [hsl2, hfl]; omega) m
     have e2 := zJ (off := i * s + j) (cs := y.cells) (bs := xs.flatMap PV.cells) (by rw [h5, hfl]; omega) m
     have e3 := zJ (off := j) (cs := y.cells) (bs := (xs.getD i noP).cells) (by rw [h5, hel]; omega) (m - i * s)
     rw [e1, e2, hsl2]
     by_cases hm : i * s <= m /\ m < i * s + s
     ·rw [if_pos hm, e3]
      by_cases hm2 : j <= m - i * s /\ m - i * s < j + y.cells.length
      ·rw [if_pos hm2, if_pos Y62]
       congr 1; omega
      ·rw [if_neg hm2, if_neg Y62, hcat, List.getElem?_take, if_pos Y62, List.getElem?_drop]
       congr 1; omega
     ·rw [if_neg hm, if_neg Y62]
  ·exact Y23
  ·obtain ⟨y, ns, sh, l3, h, h2, h3⟩ := yp hX.h S hx h
   split at h
   ·exact Y23
   ·rename_i hlk
    obtain ⟨h4, h⟩ := h
    obtain ⟨h4, h5, h7⟩ := h4 ()
    obtain ⟨S', hA⟩ := S.share h2
    have ho' : (σ.more sh).obj n = some (.var e xs false) := by rw [qer h2 hlk]; exact ho
    have hy := h3 _ hA
    obtain ⟨g1, g2, g3⟩ := yr hy h4 (qaR (s := 0) h7)
    obtain ⟨us, q2, q3, q4, q7, hh⟩ := QH (S'.objs n _ ho') hk hb
    have hl := q3.length
    obtain ⟨w', r1, r2, r3⟩ := uf (P := P) (off := i * kk.s + j) (u := v) hX ht hh g3 (by rw [g3, q2]; simp; omega) (g1.ones g2)
    rw [hX.h] at h
    refine ⟨_, w', _, h, r1, fun q => ?_⟩
    rw [more]
    obtain ⟨k', us', b', p1, p2, p3, p4, p5, p6, p7⟩ := S'.objs n _ ho'
    rw [hk] at p1; cases p1
    have : b' = bk := by simp [Bk.blk, p5] at hb; exact hb
    subst this
    refine S'.upd hd ho' rfl rfl hk hb r2 fun A' hst => ⟨kk, splice (i + j) v.cells.toList us, b', hk, q2, (g1.splice q3).stay hst, fun c hc => by rcases uR hc with h | h; exact g2 c h; exact q4 c h, p5, ?_, ?_⟩
    ·rw [r3, q2, Nat.mul_one]
    ·rw [q7, jl Y62]
  ·exact Y23
  ·simp only at h
   split at h
   ·rename_i cs hc
    obtain ⟨h4, h⟩ := h
    obtain ⟨h4, h5⟩ := h4 ()
    obtain ⟨g1, g2⟩ := U5 hx S.one hc
    have hgl := g1.length
    have g3 : v.cells.size = ti.size := by rw [<- h4, hgl]; simp
    obtain ⟨us, q2, q3, q4, q7, hh⟩ := VP (S.objs n _ ho) hk hb
    have hl := q3.length
    obtain ⟨w', r1, r2, r3⟩ := uf (P := P) (off := i * kk.s + j) (u := v) hX ht hh g3 (by rw [g3, q2]; simp; omega) (qm.ones S.one g1 g2)
    refine ⟨_, w', _, h, r1, fun q => ?_⟩
    obtain ⟨k', us', b', p1, p2, p3, p4, p5, p6, p7⟩ := S.objs n _ ho
    rw [hk] at p1; cases p1
    have : b' = bk := by simp [Bk.blk, p5] at hb; exact hb
    subst this
    refine S.upd hd ho rfl rfl hk hb r2 fun A' hst => ⟨kk, splice (i + j) v.cells.toList us, b', hk, q2, (g1.splice q3).mono (zn.refl _) hst, fun c hc => by rcases uR hc with h | h; exact g2 c h; exact q4 c h, p5, ?_, ?_⟩
    ·rw [r3, q2, Nat.mul_one]
    ·rw [q7, jl (by rw [h4]; omega)]
   ·exact Y23
  ·exact Y23
 | _ => exact h.elim
end
end Go.Bl
