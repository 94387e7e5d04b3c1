/-
  A law on the model: append of bytes to a row of one's own: where the row lies behind it, and pieces that lie elsewhere stand.
-/
import Derived.Test.YtenjpnhccnmnpaaDoorInv
namespace Go.Bl
open Go.RowKit
set_option linter.unusedVariables false

/-- the row stays or is a new one -/
def Moved (w : World) (v v' : Value) : Prop := v'.ownBlock = v.ownBlock ∨ ∀ g, v'.ownBlock = some g → w.heap.size ≤ g
theorem run_append_moved {P : Program} {w : World} {A : Nat → Prop} (base : Nat) (t ty e : TypeId) (i : TypeInfo) (z : Value) (size bytes : Nat) (ht : P.underlying t = some (.slice e)) (hi : P.info? e = some i) (hz : i.zero = some z)
    (hsize : i.size = size) (hby : i.bytes = bytes) (hzs : z.cells.size = size) (hsz : 0 < size)
    (v : Value) (n : Nat) (xs : List Value) (hown : w.ownsRow base e size v n xs)
    (a : Option Addr) (m c : Nat) (news : List Value) (hl : news.length = m * size) (hnews : Row A w a news) (h1 : ∀ u ∈ news, u.oneCell' = true)
    (h63 : n + m ≤ maxLen) (hbytes : (n + m) * bytes ≤ 140737488355328) (hbase : base ≤ w.heap.size) {v' : Value} {w' : World}
    (hr : (Builtin.append_ #[t, t] ty #[v, .slice a m c]).run P w = .ok v' w') : Moved w v v' := by
  have same : ∀ {x : Value} {y : World}, (Builtin.append_ #[t, t] ty #[v, .slice a m c]).run P w = .ok x y → v' = x := fun h => by rw [hr] at h; cases h; rfl
  rcases hown.2 with ⟨rfl, rfl⟩ | ⟨g, cap, cur, rfl, hbg, hg, hnc, hcm, hcs, htake⟩
  · obtain ⟨x, y, h, ho, -⟩ := run_append_row (P := P) (w := w) (A := A) w.heap.size t ty e i z size bytes ht hi hz hsize hby hzs hsz (.slice none 0 0) 0 xs ⟨hown.1, .inl ⟨rfl, rfl⟩⟩ a m c news hl hnews h1 h63 hbytes (Nat.le_refl _)
    rw [same h]
    exact .inr fun g hg => (ho.lt g hg).1
  · cases a with
    | none =>
      obtain ⟨x, y, h, -, -⟩ := run_append_row (P := P) (w := w) (A := A) base t ty e i z size bytes ht hi hz hsize hby hzs hsz _ n xs hown none m c news hl hnews h1 h63 hbytes hbase
      have hn : news = [] := by
        rcases hnews with h | ⟨b, off, c, e, fz, h, _⟩
        · exact h
        · cases h
      subst hn
      have hm : m = 0 := by
        simp only [List.length_nil] at hl
        rcases Nat.eq_zero_or_pos m with h | h
        · exact h
        · have := Nat.mul_pos h hsz; omega
      subst hm
      have h0 : (Builtin.append_ #[t, t] ty #[.slice (some ⟨g, 0, none⟩) n cap, .slice none 0 c]).run P w = .ok (.slice (some ⟨g, 0, none⟩) n cap) w := by
        simp [Builtin.append_, run_underlying ht, sizeOf, typeInfo, hi, Builtin.lenOf, Builtin.firstCells, hnc, storeCells]
      rw [same h0]
      exact .inl rfl
    | some ad =>
      have hcells : ∀ j u, news[j]? = some u → w.cell? (ad.add j) = some u := fun j u hj => by
        have hlt : j < news.length := by
          rcases Nat.lt_or_ge j news.length with h | h
          · exact h
          · rw [List.getElem?_eq_none h] at hj; cases hj
        rw [hnews.cell j hlt, hj]
      subst hsize
      subst hby
      by_cases hroom : n + m ≤ cap
      · have hfit : n * i.size + news.length ≤ cur.size := by rw [hl, hcs, ← Nat.add_mul]; exact Nat.mul_le_mul_right _ hroom
        rw [same (run_append_room (P := P) w t ty e i ht hi g n cap cur hg ad m c news hl hcells h1 hroom hfit)]
        exact .inl rfl
      · have holds : ∀ j u, xs[j]? = some u → w.cell? ((⟨g, 0, none⟩ : Addr).add j) = some u := hown.cells (g := g) rfl
        rw [same (run_append_grow (P := P) w t ty e i z ht hi hz ⟨g, 0, none⟩ n cap xs hown.1 holds ad m c news hl hcells (by omega) (by simp only [maxLen] at h63; omega) (growslice_fits (by omega) hbytes))]
        exact .inr fun k hk => by simp [Value.ownBlock] at hk; omega
/-- an append in its place: a row of one's own grows by a piece that lies elsewhere -/
theorem opV_append_bs {P : Program} {ops : Array Oper} {k : Nat} {w : World} {o : Oper} {a : Act} {K : Value → World → Prop} {A : Nat → Prop} {t e : TypeId} (hk : ops[k]? = some o) (hgd : o.guard = none)
    (ht : P.underlying t = some (.slice e)) (hinfo : (P.info? e).map (fun i => (i.zero, i.size, i.bytes)) = some (some (.int .u8 0), 1, 1)) (s x : Operand)
    (ho : o.op = .call { callee := .builtin .append, args := #[s, x], argTypes := #[t, t] })
    {base : Nat} {v u : Value} {xs ys : List UInt8} (hs : a.eval s = v) (hx : a.eval x = u) (hown : OwnB e base w v xs) (hb : Bs A w u ys)
    (hlen : xs.length + ys.length ≤ 140737488355328) (hbase : base ≤ w.heap.size)
    (h : ∀ v' w', OwnB e base w' v' (xs ++ ys) → w.grownBy w' v.ownBlock → Moved w v v' → K v' w') : opV P ops k a w K := by
  obtain ⟨i, hi, hz, hsz, hby⟩ := info_bytes hinfo
  obtain ⟨ad, cap, rfl, h2, h3, h4⟩ := hb
  obtain ⟨v', w', hr, h5, h6⟩ := run_append_row (P := P) (w := w) base t o.type e i (.int .u8 0) 1 1 ht hi hz hsz hby rfl (by decide) v xs.length _ hown ad ys.length cap (ys.map u8v) (by simp) h4 (u8v_one _) (by simp only [maxLen]; omega) (by omega) hbase
  have hmv := run_append_moved (P := P) (w := w) base t o.type e i (.int .u8 0) 1 1 ht hi hz hsz hby rfl (by decide) v xs.length _ hown ad ys.length cap (ys.map u8v) (by simp) h4 (u8v_one _) (by simp only [maxLen]; omega) (by omega) hbase hr
  refine opV_run (v := v') (p := w') o hk hgd ?_ (h v' w' ?_ h6 hmv)
  · unfold execOp
    simp only [ho, resolve, invoke, builtin, Sem.run_bind, Sem.run_pure, Result.andThen_ok, List.map_toArray, List.map_cons, List.map_nil, hs, hx, hr]
  · unfold OwnB
    rw [List.length_append, List.map_append]
    exact h5
/-- bytes that lie apart from the row v -/
def Pc (v : Value) (w : World) (u : Value) (ys : List UInt8) : Prop := Bs (fun b => v.ownBlock = some b) w u ys
theorem Pc.keep {v u : Value} {w w' : World} {ys : List UInt8} (h : Pc v w u ys) (hf : Fr [] w w') : Pc v w' u ys := Bs.keep h hf (by simp)
theorem Pc.moved {v v' u : Value} {w w' : World} {ys : List UInt8} (h : Pc v w u ys) (hg : w.grownBy w' v.ownBlock) (hm : Moved w v v') : Pc v' w' u ys :=
  Bs.mono h (Fr.grown (S := v.ownBlock.toList) hg fun k hk => by simp [hk]) (by simp) fun b hb => by
    rcases hm with e | h
    · exact .inl (e ▸ hb)
    · exact .inr (h b hb)
theorem Pc.new {e : TypeId} {base : Nat} {v u : Value} {w p : World} {xs ys : List UInt8} (hown : OwnB e base w v xs) (h : OwnB e w.heap.size p u ys) : Pc v p u ys :=
  h.bs fun b hb => (hown.lt b hb).2
theorem OwnB.grown {e : TypeId} {base : Nat} {w0 w w' : World} {v : Value} {xs : List UInt8} (hown : OwnB e base w v xs) (h : Fr [] w0 w) (hg : w.grownBy w' v.ownBlock) (hb : w0.heap.size ≤ base) : Fr [] w0 w' := OwnB.fr hown h hg hb
/-! a region that appends pieces, one after another, to a row of one's own: 'x = append(append(x, ..), ..)' -/
inductive PK where
  | mv
  | rd (v : Value)
  | pc (ys : List UInt8)
  | ap (j q : Nat) (ys : List UInt8)
  | fin
def PK.isAp : Option PK → Bool
  | some (.ap _ _ _) => true
  | _ => false
def allAt (f : Nat → PK → Prop) : Nat → List PK → Prop
  | _, [] => True
  | i, k :: l => f i k ∧ allAt f (i + 1) l
theorem allAt_get {f : Nat → PK → Prop} : ∀ (l : List PK) (i0 j : Nat) (k : PK), allAt f i0 l → l[j]? = some k → f (i0 + j) k
  | [], _, _, _, _, h => by simp at h
  | x :: l, i0, 0, k, h, hk => by simp at hk; subst hk; exact h.1
  | x :: l, i0, j + 1, k, h, hk => by
    have := allAt_get l (i0 + 1) j k h.2 (by simpa using hk)
    rwa [show i0 + 1 + j = i0 + (j + 1) by omega] at this
def dS (L : List Nat) (i : Nat) : Nat := L.getD i 0
def outS (L ch : List Nat) : Nat → Nat
  | 0 => dS L 0
  | s + 1 => dS L (ch.getD s 0)
theorem slotp_self {a : Act} {d : Nat} {v : Value} (h : d < a.tmps.size) : slot (a.put (some d) v) d = v := by simp [slot, Act.put, h]
theorem slotp_ne {a : Act} {d k : Nat} {v : Value} (h : k ≠ d) : slot (a.put (some d) v) k = slot a k := by
  simp only [slot, Act.put, Array.getD_eq_getD_getElem?]
  rw [Array.getElem?_setIfInBounds_ne (Ne.symm h)]
/-- what an operation may lean on -/
structure Sees (ops : Array Oper) (L : List Nat) (kl : List PK) (S : List Nat) (a : Act) (w : World) (i : Nat) (b : Act) (p : World) : Prop where
  fr : Fr S w p
  old : ∀ s, s ∉ L → slot b s = slot a s
  rd : ∀ k v, (afters ops i).contains k = true → kl[k]? = some (.rd v) → slot b (dS L k) = v
def kindOk (P : Program) (ops : Array Oper) (t : TypeId) (L ch : List Nat) (pcs : List (List UInt8)) (kl : List PK) (fi : Nat) (S : List Nat) (a : Act) (w : World) (i : Nat) : PK → Prop
  | .mv => i = 0 ∧ ∃ o, ops[i]? = some o ∧ o.guard = none ∧ o.op = .move (.tmp (dS L fi))
  | .fin => i = fi ∧ ∃ o, ops[i]? = some o ∧ o.guard = none ∧ o.op = .assign (.tmp (outS L ch ch.length)) ∧ ∃ i', ch[ch.length - 1]? = some i' ∧ (afters ops i).contains i' = true
  | .rd v => i ≠ 0 ∧ i ≠ fi ∧ ∀ b p, Sees ops L kl S a w i b p → ∃ o, ops[i]? = some o ∧ o.guard = none ∧ (execOp b.eval o).run P p = .ok (.value v) p
  | .pc ys => i ≠ 0 ∧ i ≠ fi ∧ ∀ b p, Sees ops L kl S a w i b p → opV P ops i b p fun u p' => Fr [] p p' ∧ Bs (fun g => g < p.heap.size) p' u ys
  | .ap j q ys => i ≠ 0 ∧ i ≠ fi ∧ ch[j]? = some i ∧ pcs[j]? = some ys ∧ (afters ops i).contains q = true ∧ kl[q]? = some (.pc ys) ∧ (j = 0 ∧ (afters ops i).contains 0 = true ∨ ∃ i', ch[j - 1]? = some i' ∧ (afters ops i).contains i' = true) ∧
      ∃ o, ops[i]? = some o ∧ o.guard = none ∧ o.op = .call { callee := .builtin .append, args := #[.tmp (outS L ch j), .tmp (dS L q)], argTypes := #[t, t] }
structure AOut (e : TypeId) (base : Nat) (L ch : List Nat) (pcs : List (List UInt8)) (kl : List PK) (fi : Nat) (v0 : Value) (xs : List UInt8) (w : World) (dn : Nat → Bool) (b : Act) (p : World) (s : Nat) (vc : Value) : Prop where
  le : s ≤ ch.length
  iff : ∀ (j i : Nat), ch[j]? = some i → (dn i = true ↔ j < s)
  own : OwnB e base p vc (xs ++ (pcs.take s).flatten)
  mv : Moved w v0 vc
  z : s = 0 → vc = v0
  sl : 0 < s → slot b (outS L ch s) = vc
  d0 : 0 < s → dn 0 = true
  f0 : dn 0 = true → slot b (dS L 0) = v0
  fd : dn fi = true → s = ch.length ∧ slot b (dS L fi) = vc
  fn : dn fi = false → slot b (dS L fi) = v0
  pc : ∀ (i : Nat) ys, kl[i]? = some (PK.pc ys) → dn i = true → Pc vc p (slot b (dS L i)) ys
structure AInv (e : TypeId) (base : Nat) (L ch : List Nat) (pcs : List (List UInt8)) (kl : List PK) (fi : Nat) (v0 : Value) (xs : List UInt8) (a : Act) (w : World) (dn : Nat → Bool) (b : Act) (p : World) : Prop where
  defers : b.defers = a.defers
  size : b.tmps.size = a.tmps.size
  old : ∀ s, s ∉ L → slot b s = slot a s
  fr : Fr v0.ownBlock.toList w p
  rd : ∀ (i : Nat) v, kl[i]? = some (PK.rd v) → dn i = true → slot b (dS L i) = v
  out : ∃ s vc, AOut e base L ch pcs kl fi v0 xs w dn b p s vc
theorem dS_inj {L : List Nat} (hn : L.Nodup) {i j : Nat} (hi : i < L.length) (hj : j < L.length) (h : dS L i = dS L j) : i = j := by
  simp only [dS, List.getD_eq_getElem?_getD, List.getElem?_eq_getElem hi, List.getElem?_eq_getElem hj, Option.getD_some] at h
  exact (List.getElem?_inj hi hn).1 (by rw [List.getElem?_eq_getElem hi, List.getElem?_eq_getElem hj, h])
theorem dS_mem {L : List Nat} {i : Nat} (hi : i < L.length) : dS L i ∈ L := by
  simp only [dS, List.getD_eq_getElem?_getD, List.getElem?_eq_getElem hi, Option.getD_some]
  exact List.getElem_mem hi
theorem lt_of_get {α : Type} {l : List α} {i : Nat} {x : α} (h : l[i]? = some x) : i < l.length := (List.getElem?_eq_some_iff.1 h).1
theorem flat_le (l : List (List UInt8)) : ∀ s, (l.take s).flatten.length ≤ l.flatten.length := by
  intro s
  conv => rhs; rw [← List.take_append_drop s l, List.flatten_append, List.length_append]
  omega
theorem outS_succ {L ch : List Nat} {s i : Nat} (h : ch[s]? = some i) : outS L ch (s + 1) = dS L i := by
  show dS L (ch.getD s 0) = _
  rw [List.getD_eq_getElem?_getD, h, Option.getD_some]
/-- what is appended so far stands over an operation that is no append -/
theorem AOut.step {e : TypeId} {base : Nat} {L ch : List Nat} {pcs : List (List UInt8)} {kl : List PK} {fi : Nat} {v0 : Value} {xs : List UInt8} {w : World} {dn : Nat → Bool} {b : Act} {p : World} {s : Nat} {vc : Value}
    (h : AOut e base L ch pcs kl fi v0 xs w dn b p s vc) {i : Nat} {v : Value} {p' : World} (hne : ∀ k, k < L.length → k ≠ i → dS L k ≠ dS L i) (hsz : dS L i < b.tmps.size) (hf : Fr [] p p') (hl : kl.length = L.length) (hfi : fi < L.length)
    (hcl : ∀ (j k : Nat), ch[j]? = some k → k < L.length ∧ k ≠ i) (h0 : i ≠ 0) (hi : i ≠ fi) (hpc : ∀ ys, kl[i]? = some (PK.pc ys) → Pc vc p' v ys) : AOut e base L ch pcs kl fi v0 xs w (also dn i) (b.put (some (dS L i)) v) p' s vc := by
  have h0l : 0 < L.length := by omega
  refine ⟨h.le, fun j k hj => ?_, h.own.keep hf (by simp), h.mv, h.z, fun hs => ?_, fun hs => ?_, fun hd => ?_, fun hd => ?_, fun hd => ?_, fun k ys hk hd => ?_⟩
  · rw [also_ne dn (hcl j k hj).2]; exact h.iff j k hj
  · rw [slotp_ne ?_]
    · exact h.sl hs
    · obtain ⟨s', rfl⟩ : ∃ s', s = s' + 1 := ⟨s - 1, by omega⟩
      have hs' := List.getElem?_eq_getElem (show s' < ch.length by have := h.le; omega)
      rw [outS_succ hs']
      exact hne _ (hcl _ _ hs').1 (hcl _ _ hs').2
  · rw [also_ne dn (Ne.symm h0)]; exact h.d0 hs
  · rw [also_ne dn (Ne.symm h0)] at hd
    rw [slotp_ne (hne 0 h0l (Ne.symm h0))]; exact h.f0 hd
  · rw [also_ne dn (Ne.symm hi)] at hd
    rw [slotp_ne (hne fi hfi (Ne.symm hi))]; exact h.fd hd
  · rw [also_ne dn (Ne.symm hi)] at hd
    rw [slotp_ne (hne fi hfi (Ne.symm hi))]; exact h.fn hd
  · by_cases hki : k = i
    · subst hki
      rw [slotp_self hsz]; exact hpc ys hk
    · rw [also_ne dn hki] at hd
      rw [slotp_ne (hne k (by have := lt_of_get hk; omega) hki)]
      exact (h.pc k ys hk hd).keep hf

theorem wp_region_app {P : Program} {ops : List Oper} {Q : Exit → Act → World → Prop} {id : Nat} {a : Act} {w : World} {t e : TypeId} (hm : P.follows .mixedOrders = true)
    (hlt : ((List.range ops.toArray.size).all fun i => (afters ops.toArray i).all fun k => decide (k < i)) = true)
    (ht : P.underlying t = some (.slice e)) (hinfo : (P.info? e).map (fun i => (i.zero, i.size, i.bytes)) = some (some (.int .u8 0), 1, 1))
    (L ch : List Nat) (pcs : List (List UInt8)) (kl : List PK) (fi : Nat) (base : Nat) (v0 : Value) (xs : List UInt8)
    (hL : (List.range ops.toArray.size).map (dstOf ops.toArray) = L.map some) (hnd : L.Nodup) (hLs : L.all (fun d => decide (d < a.tmps.size)) = true)
    (hkl : kl.length = ops.toArray.size) (hch : ch.all (fun i => PK.isAp kl[i]?) = true) (hcn : ch.Nodup) (hcp : 0 < ch.length) (hfi : fi < ops.toArray.size) (hfz : fi ≠ 0)
    (hv0 : slot a (dS L fi) = v0) (hown : OwnB e base w v0 xs) (hbase : base ≤ w.heap.size) (hlen : xs.length + pcs.flatten.length ≤ 140737488355328) (hpl : pcs.length = ch.length)
    (hk : allAt (kindOk P ops.toArray t L ch pcs kl fi v0.ownBlock.toList a w) 0 kl)
    (hQ : ∀ (b : Act) (p : World), b.defers = a.defers → b.tmps.size = a.tmps.size → (∀ s, s ∉ L → slot b s = slot a s) → OwnB e base p (slot b (dS L fi)) (xs ++ pcs.flatten) → Fr v0.ownBlock.toList w p → Moved w v0 (slot b (dS L fi)) →
      (∀ (i : Nat) v, kl[i]? = some (PK.rd v) → slot b (dS L i) = v) → Q .normal b p) : (Code.region id ops.toArray true).wp P Q a w := by
  have hLl : L.length = ops.toArray.size := by have := congrArg List.length hL; simpa using this.symm
  have hdst : ∀ i, i < ops.toArray.size → dstOf ops.toArray i = some (dS L i) := by
    intro i hi
    have h := congrArg (fun l : List (Option Tmp) => l[i]?) hL
    simp only [List.getElem?_map, List.getElem?_range hi, Option.map_some] at h
    have hi' : i < L.length := by omega
    rw [List.getElem?_eq_getElem hi'] at h
    simp only [Option.map_some, Option.some.injEq] at h
    rw [h, dS, List.getD_eq_getElem?_getD, List.getElem?_eq_getElem hi', Option.getD_some]
  have hlts : ∀ i, i < ops.toArray.size → dS L i < a.tmps.size := fun i hi => of_decide_eq_true (List.all_eq_true.1 hLs _ (dS_mem (by omega)))
  have hap : ∀ (j i : Nat), ch[j]? = some i → ∃ j' q ys, kl[i]? = some (PK.ap j' q ys) := by
    intro j i hj
    have h := List.all_eq_true.1 hch i (List.mem_of_getElem? hj)
    cases hx : kl[i]? with
    | none => simp [hx, PK.isAp] at h
    | some k =>
      cases k with
      | ap j' q ys => exact ⟨_, _, _, rfl⟩
      | _ => simp [hx, PK.isAp] at h
  have hkind : ∀ (i : Nat) k, kl[i]? = some k → kindOk P ops.toArray t L ch pcs kl fi v0.ownBlock.toList a w i k := fun i k hi => by
    have := allAt_get kl 0 i k hk hi
    rwa [Nat.zero_add] at this
  refine wp_region_inv (AInv e base L ch pcs kl fi v0 xs a w) hm hlt ?_ ?_ ?_
  · intro w1 hw1
    refine ⟨rfl, rfl, fun _ _ => rfl, hw1.weak, (fun _ _ _ h => by cases h), 0, v0, Nat.zero_le _, fun j i _ => ⟨fun h => by (cases h), fun h => by omega⟩, by simpa using hown.keep hw1 (by simp), .inl rfl, fun _ => rfl, fun h => by omega, fun h => by omega, (fun h => by cases h), (fun h => by cases h), fun _ => hv0, (fun _ _ _ h => by cases h)⟩
  · intro i hi dn b p hdn haft ⟨h1, h2, h3, h4, h5, s, vc, O⟩
    obtain ⟨k, hki⟩ : ∃ k, kl[i]? = some k := ⟨_, List.getElem?_eq_getElem (by omega)⟩
    have hok := hkind i k hki
    have hsee : Sees ops.toArray L kl v0.ownBlock.toList a w i b p := ⟨h4, h3, fun k v hc hv => h5 k v hv (haft k hc)⟩
    have hsz : dS L i < b.tmps.size := by rw [h2]; exact hlts i hi
    have hold : ∀ v, ∀ s, s ∉ L → slot (b.put (some (dS L i)) v) s = slot a s := fun v s hs => by
      have hne : s ≠ dS L i := by rintro rfl; exact hs (dS_mem (by omega))
      rw [slotp_ne hne]; exact h3 s hs
    have hsz2 : ∀ v, (b.put (some (dS L i)) v).tmps.size = a.tmps.size := fun v => by simp [Act.put, h2]
    have hne : ∀ k, k < L.length → k ≠ i → dS L k ≠ dS L i := fun k hk hne h => hne (dS_inj hnd (by omega) (by omega) h)
    have hnap : PK.isAp (some k) = false → ∀ (j k' : Nat), ch[j]? = some k' → k' < L.length ∧ k' ≠ i := fun hk j k' hj => by
      obtain ⟨_, _, _, hq⟩ := hap j _ hj
      refine ⟨by have := lt_of_get hq; omega, ?_⟩
      rintro rfl
      rw [hki] at hq; cases hq; cases hk
    have hrd : ∀ v, (∀ v', k = PK.rd v' → v = v') → ∀ (k' : Nat) v', kl[k']? = some (PK.rd v') → also dn i k' = true → slot (b.put (some (dS L i)) v) (dS L k') = v' := by
      intro v hv k' v' hk' hd
      by_cases hki' : k' = i
      · subst hki'
        rw [hki] at hk'; cases hk'
        rw [slotp_self hsz]; exact hv v' rfl
      · rw [slotp_ne (hne k' (by have := lt_of_get hk'; omega) hki')]
        exact h5 k' v' hk' (by rwa [also_ne dn hki'] at hd)
    rw [hdst i hi]
    cases k with
    | rd v =>
      obtain ⟨n0, nf, hok⟩ := hok
      obtain ⟨o, ho1, ho2, ho3⟩ := hok b p hsee
      exact opV_run (v := v) (p := p) o ho1 ho2 ho3 ⟨h1, hsz2 v, hold v, h4, hrd v (fun v' h => by cases h; rfl), s, vc, O.step hne hsz (Fr.refl _ _) (by omega) (by omega) (hnap rfl) n0 nf fun ys h => by rw [hki] at h; cases h⟩
    | pc ys =>
      obtain ⟨n0, nf, hok⟩ := hok
      refine opV_mono (fun v p' hv => ?_) (hok b p hsee)
      obtain ⟨hf, hb⟩ := hv
      exact ⟨h1, hsz2 v, hold v, h4.trans hf.weak, hrd v (fun v' h => by cases h), s, vc, O.step hne hsz hf (by omega) (by omega) (hnap rfl) n0 nf fun ys' h => by
        rw [hki] at h; cases h
        exact hb.mono (Fr.refl [] p') (by simp) fun g hg => .inl (O.own.lt g hg).2⟩
    | mv =>
      obtain ⟨rfl, o, o1, o2, o3⟩ := hok
      have hs : s = 0 := by
        rcases Nat.eq_zero_or_pos s with h | h
        · exact h
        · have := O.d0 h; rw [hdn] at this; cases this
      subst hs
      have hfn : dn fi = false := by
        cases h : dn fi with
        | false => rfl
        | true => have := (O.fd h).1; omega
      have hv := O.fn hfn
      refine opV_run (v := v0) (p := p) o o1 o2 ?_ ⟨h1, hsz2 v0, hold v0, h4, hrd v0 (fun v' h => by cases h), 0, vc, Nat.zero_le _, ?_, O.own, O.mv, O.z, fun h => by omega, fun h => by omega, fun _ => slotp_self hsz, ?_, ?_, ?_⟩
      · unfold execOp
        simp only [o3, Sem.run_bind, Sem.run_pure, Result.andThen_ok]
        exact congrArg (fun v => Result.ok (Next.value v) p) hv
      · intro j k hj
        rw [also_ne dn (hnap rfl j k hj).2]; exact O.iff j k hj
      · intro hd
        rw [also_ne dn hfz, hfn] at hd; cases hd
      · intro _
        rw [slotp_ne (hne fi (by omega) hfz)]; exact hv
      · intro k ys hk' hd
        have hk0 : k ≠ 0 := by rintro rfl; rw [hki] at hk'; cases hk'
        rw [also_ne dn hk0] at hd
        rw [slotp_ne (hne k (by have := lt_of_get hk'; omega) hk0)]
        exact O.pc k ys hk' hd
    | fin =>
      obtain ⟨rfl, o, o1, o2, o3, i', c1, c2⟩ := hok
      have hs : s = ch.length := by
        have := (O.iff _ i' c1).1 (haft i' c2)
        have := O.le
        omega
      have hsl := O.sl (by omega)
      have hi0 : i ≠ 0 := by
        rintro rfl
        have := O.d0 (by omega)
        rw [hdn] at this; cases this
      subst hs
      refine opV_run (v := vc) (p := p) o o1 o2 ?_ ⟨h1, hsz2 vc, hold vc, h4, hrd vc (fun v' h => by cases h), ch.length, vc, Nat.le_refl _, ?_, O.own, O.mv, O.z, fun h => ?_, fun h => ?_, fun hd => ?_, fun _ => ⟨rfl, slotp_self hsz⟩, fun hd => ?_, ?_⟩
      · unfold execOp
        simp only [o3, Sem.run_bind, Sem.run_pure, Result.andThen_ok]
        exact congrArg (fun v => Result.ok (Next.value v) p) hsl
      · intro j k hj
        rw [also_ne dn (hnap rfl j k hj).2]; exact O.iff j k hj
      · obtain ⟨s', hs'⟩ : ∃ s', ch.length = s' + 1 := ⟨ch.length - 1, by omega⟩
        have hg := List.getElem?_eq_getElem (show s' < ch.length by omega)
        rw [hs'] at hsl ⊢
        rw [outS_succ hg] at hsl ⊢
        rw [slotp_ne (hne _ (hnap rfl _ _ hg).1 (hnap rfl _ _ hg).2)]; exact hsl
      · rw [also_ne dn (Ne.symm hi0)]; exact O.d0 h
      · rw [also_ne dn (Ne.symm hi0)] at hd
        rw [slotp_ne (hne 0 (by omega) (Ne.symm hi0))]; exact O.f0 hd
      · rw [also_self] at hd; cases hd
      · intro k ys hk' hd
        have hk0 : k ≠ i := by rintro rfl; rw [hki] at hk'; cases hk'
        rw [also_ne dn hk0] at hd
        rw [slotp_ne (hne k (by have := lt_of_get hk'; omega) hk0)]
        exact O.pc k ys hk' hd
    | ap j q ys =>
      obtain ⟨n0, nf, c1, c2, c3, c4, c5, o, o1, o2, o3⟩ := hok
      have hsj : s = j := by
        have h0 : ¬ j < s := fun h => by
          have := (O.iff j i c1).2 h
          rw [hdn] at this; cases this
        rcases c5 with ⟨rfl, -⟩ | ⟨i', hi', hc'⟩
        · omega
        · have := (O.iff _ i' hi').1 (haft i' hc')
          omega
      subst hsj
      have hjl := lt_of_get c1
      have hsl : slot b (outS L ch s) = vc := by
        rcases Nat.eq_zero_or_pos s with h | h
        · subst h
          rw [O.z rfl]
          rcases c5 with ⟨-, h⟩ | ⟨i', hi', hc'⟩
          · exact O.f0 (haft 0 h)
          · have := (O.iff _ i' hi').1 (haft i' hc')
            omega
        · exact O.sl h
      have hd0 : dn 0 = true := by
        rcases c5 with ⟨-, h⟩ | ⟨i', hi', hc'⟩
        · exact haft 0 h
        · exact O.d0 (by have := (O.iff _ i' hi').1 (haft i' hc'); omega)
      have hfn : dn fi = false := by
        cases h : dn fi with
        | false => rfl
        | true => have := (O.fd h).1; omega
      have hpc := O.pc q ys c4 (haft q c3)
      refine opV_append_bs o1 o2 ht hinfo (.tmp (outS L ch s)) (.tmp (dS L q)) o3 (A := fun b => vc.ownBlock = some b) (base := base) (v := vc) (u := slot b (dS L q)) hsl rfl O.own hpc ?_ (by have := h4.size; omega) ?_
      · have hf := flat_le pcs (s + 1)
        rw [List.take_add_one, c2] at hf
        simp only [Option.toList_some, List.flatten_append, List.flatten_cons, List.flatten_nil, List.append_nil, List.length_append] at hf ⊢
        omega
      · intro v' p' ho' hg hmv'
        have hfr : Fr v0.ownBlock.toList w p' := h4.then (Fr.grown (S := vc.ownBlock.toList) hg fun k hk => by simp [hk]) fun x hx => by
          have hx' : vc.ownBlock = some x := by simpa using hx
          rcases O.mv with e | h
          · exact .inl (by simpa using e ▸ hx')
          · exact .inr (h x hx')
        have hmv2 : Moved w v0 v' := by
          rcases hmv' with e | h
          · rcases O.mv with e' | h'
            · exact .inl (e.trans e')
            · exact .inr fun g hg => h' g (e ▸ hg)
          · exact .inr fun g hg => by have := h g hg; have := h4.size; omega
        refine ⟨h1, hsz2 v', hold v', hfr, hrd v' (fun v2 h => by cases h), s + 1, v', hjl, ?_, ?_, hmv2, fun h => by omega, fun _ => ?_, fun _ => ?_, fun _ => ?_, fun hd => ?_, fun _ => ?_, ?_⟩
        · intro j2 k hj
          by_cases hki' : k = i
          · subst hki'
            have : j2 = s := (List.getElem?_inj (lt_of_get hj) hcn).1 (hj.trans c1.symm)
            subst this
            simp [also_self]
          · rw [also_ne dn hki', O.iff j2 k hj]
            have : j2 ≠ s := by rintro rfl; rw [c1] at hj; cases hj; exact hki' rfl
            omega
        · rw [List.take_add_one, c2]
          simp only [Option.toList_some, List.flatten_append, List.flatten_cons, List.flatten_nil, List.append_nil]
          rw [← List.append_assoc]
          exact ho'
        · rw [outS_succ c1]
          exact slotp_self hsz
        · rw [also_ne dn (Ne.symm n0)]; exact hd0
        · rw [slotp_ne (hne 0 (by omega) (Ne.symm n0))]; exact O.f0 hd0
        · rw [also_ne dn (Ne.symm nf), hfn] at hd; cases hd
        · rw [slotp_ne (hne fi (by omega) (Ne.symm nf))]; exact O.fn hfn
        · intro k zs hk' hd
          have hne' : k ≠ i := by rintro rfl; rw [hki] at hk'; cases hk'
          rw [slotp_ne (hne k (by have := lt_of_get hk'; omega) hne')]
          exact (O.pc k zs hk' (by rwa [also_ne dn hne'] at hd)).moved hg hmv'
  · intro dn b p hall ⟨h1, h2, h3, h4, h5, s, vc, O⟩
    obtain ⟨hs, hsl⟩ := O.fd (hall fi hfi)
    subst hs
    have ho := O.own
    rw [List.take_of_length_le (by omega)] at ho
    exact hQ b p h1 h2 h3 (by rw [hsl]; exact ho) h4 (by rw [hsl]; exact O.mv) fun i v hi => h5 i v hi (hall i (by have := lt_of_get hi; omega))
/-- an activation that differs in some slots -/
theorem foldl_put (b : Act) : ∀ (L : List Nat) (a : Act), b.tmps.size = a.tmps.size → (L.foldl (fun x d => x.put (some d) (slot b d)) a).defers = a.defers ∧ (L.foldl (fun x d => x.put (some d) (slot b d)) a).tmps.size = a.tmps.size ∧
    ∀ s, slot (L.foldl (fun x d => x.put (some d) (slot b d)) a) s = if s ∈ L then slot b s else slot a s
  | [], a, _ => ⟨rfl, rfl, fun s => by simp⟩
  | d :: L, a, hs => by
    have hs' : (a.put (some d) (slot b d)).tmps.size = a.tmps.size := by simp [Act.put]
    obtain ⟨h1, h2, h3⟩ := foldl_put b L (a.put (some d) (slot b d)) (by rw [hs']; exact hs)
    refine ⟨h1, h2.trans hs', fun s => ?_⟩
    simp only [List.foldl_cons]
    rw [h3 s]
    by_cases hL : s ∈ L
    · simp [hL]
    · rw [if_neg hL]
      by_cases hd : s = d
      · subst hd
        rw [if_pos (by simp)]
        by_cases hlt : s < a.tmps.size
        · exact slotp_self hlt
        · have e1 : slot b s = undef := by simp only [slot, Array.getD_eq_getD_getElem?]; rw [Array.getElem?_eq_none (by omega)]; rfl
          have e2 : slot (a.put (some s) (slot b s)) s = undef := by simp only [slot, Array.getD_eq_getD_getElem?]; rw [Array.getElem?_eq_none (by simp [Act.put]; omega)]; rfl
          rw [e2, e1]
      · rw [slotp_ne hd, if_neg (by simp [hd, hL])]
theorem old_puts (b a : Act) (L : List Nat) (hd : b.defers = a.defers) (hs : b.tmps.size = a.tmps.size) (h : ∀ s, s ∉ L → slot b s = slot a s) : b = L.foldl (fun x d => x.put (some d) (slot b d)) a := by
  obtain ⟨h1, h2, h3⟩ := foldl_put b L a hs
  generalize hc : L.foldl (fun x d => x.put (some d) (slot b d)) a = c at h1 h2 h3 ⊢
  have hts : b.tmps = c.tmps := by
    refine Array.ext (hs.trans h2.symm) fun i h4 h5 => ?_
    have hi : slot b i = slot c i := by
      rw [h3 i]
      by_cases hL : i ∈ L
      · rw [if_pos hL]
      · rw [if_neg hL]; exact h i hL
    simpa [slot, h4, h5] using hi
  cases b
  cases c
  simp only [Act.mk.injEq]
  exact ⟨hts, hd.trans h1.symm⟩
end Go.Bl
