import Derived.Test.YtdloaifdpajcjaaGreatDoorPF
set_option linter.unusedVariables false
set_option linter.unusedSimpArgs false
set_option maxRecDepth 1000000
set_option maxHeartbeats 8000000
namespace Go.Bl
open Go.RowKit
def qeS (X : Cx) {α : Type} (v : ResultVar) (k : AV -> RM α) : RM α := match v with
 | .tmp t => .slot t k
 | .cell p t => .slot p fun a => qd3 X t a k
def qcV (X : Cx) {α : Type} (x : AV) (r : RA) (k : List Nat -> List Nat -> RM α) : RM α := match r with
 | .pv y => ZC X x4 x fun z ns => .chk (fun _ => z = y) (k [] ns)
 | .nil => match x with
  | .nil => k [] []
  | _ => .fail
 | .own e s xs => match x with
  | .own n => .obj n fun o => match o with
   | .row e' s' ys false => .chk (fun _ => e' = e /\ s' = s /\ ys = xs) (k [n] [])
   | _ => .fail
  | .nil => .chk (fun _ => 0 < s /\ xs = []) (k [] [])
  | _ => .fail
 | _ => .fail
def qfD (ns : List Nat) : List Nat -> Bool
 | [] => false
 | x :: r => vd ns x || qfD ns r
def qcp (os ns : List Nat) : RM Unit := match jH os && !qfD ns os with
 | true => yA ns fun _ => .ret ()
 | false => .fail
def qfX (X : Cx) {α : Type} : List ResultVar -> List RA -> (List Nat -> List Nat -> RM α) -> RM α
 | [], [], k => k [] []
 | v :: vs, r :: rs, k => qeS X v fun x => qcV X x r fun os ns => qfX X vs rs fun os' ns' => k (os ++ os') (ns ++ ns')
 | _, _, _ => .fail
def qbZ (X : Cx) (vs : List ResultVar) (r : RA) : RM Unit := match vs, r with
 | [v], r => qeS X v fun x => qcV X x r qcp
 | vs, .tup rs => qfX X vs rs qcp
 | _, _ => .fail
def yu : Nat -> List RA -> List (Nat × Option AV)
 | _, [] => []
 | i, .pv x :: r => (i, some (.pv x)) :: yu (i + 1) r
 | i, _ :: r => yu (i + 1) r
def V0 : List RA -> Bool
 | [] => true
 | .pv _ :: r => V0 r
 | _ :: _ => false
section
variable {α : Type} {P : Program} {X : Cx} {L : Pl} {F : Nat -> Prop} {β : Nat -> Option Bk} {σ : St} {a : Act} {w : World} {C : FuncId -> List RA -> RA -> List RA -> Prop} {b : α} {l : List Lc}
def rv (tmps : Array Value) : ResultVar -> Sem Value
 | .tmp t => pure (tmps.getD t undef)
 | .cell p t => do loadVar t (<- asAddr (tmps.getD p undef))
theorem QO (hX : Cok P X L) (S : Sim L F β σ a w) {v : ResultVar} {k : AV -> RM α} (h : (qeS X v k).runs C σ b l) : ∃ x u l', (k x).runs C σ b l' /\ qq β (Mut L.A0 β σ) w x u /\ (rv a.tmps v).run P w = .ok u w := by
 cases v with
 | tmp t =>
  obtain ⟨x, l', h1, rfl, h2⟩ := h
  exact ⟨x, _, l', h2, S.slots t x h1, rfl⟩
 | cell p t =>
  obtain ⟨x, l', h1, rfl, h2⟩ := h
  obtain ⟨y, u, l2, h3, h4, h5⟩ := VH hX S (S.slots p x h1) h2
  refine ⟨y, u, l2, h3, h4, ?_⟩
  have hp := S.slots p x h1
  have e : ∃ ad, slot a p = .pointer (some ad) := by
   obtain ⟨ti, ht, h6⟩ := qm h2
   cases x with
   | pv x =>
    cases x with
    | p xs => obtain ⟨ad, us, e, -⟩ := UX hp; exact ⟨ad, e⟩
    | _ => exact h6.elim
   | ref n i j => obtain ⟨kk, bk, -, -, e⟩ := vF hp; exact ⟨_, e⟩
   | _ => exact h6.elim
  obtain ⟨ad, e⟩ := e
  rw [e] at h5
  have e' : a.tmps.getD p undef = .pointer (some ad) := e
  simp only [rv, e', asAddr, Sem.run_bind, Sem.run_pure, Result.andThen_ok]
  simpa [Instr.loadAt, Instr.sureAddr] using h5
def bl (β : Nat -> Option Bk) (n : Nat) : List Nat := match β n with | some k => k.blk.toList | none => []
theorem Uo (hX : ∀ α f, X.h α f = f ()) (S : Sim L F β σ a w) {x : AV} {u : Value} {r : RA} {k : List Nat -> List Nat -> RM α} (hx : qq β (Mut L.A0 β σ) w x u) (h : (qcV X x r k).runs C σ b l) :
  ∃ os ns l', (k os ns).runs C σ b l' /\ (∀ n ∈ os, ∃ o, σ.obj n = some o /\ o.sh = false) /\ ∀ A', zF β (Mut L.A0 β σ) A' ns -> uN A' w r u (os.flatMap (bl β)) := by
 unfold qcV at h
 split at h
 ·obtain ⟨z, ns, l', h', hz⟩ := zN hX S x4 hx h
  obtain ⟨h1, h2⟩ := h'
  have h1 := h1 ()
  subst h1
  exact ⟨[], ns, l', h2, by simp, fun A' hA => .pv (hz A' hA)⟩
 ·split at h
  ·have := uc hx
   subst this
   exact ⟨[], [], _, h, by simp, fun A' hA => .nil⟩
  ·exact Y8
 ·split at h
  ·rename_i n
   obtain ⟨o, l2, ho, -, h⟩ := h
   rcases o with ⟨e', s', ys, _ | _⟩ | ⟨e', ys, _ | _⟩ | ⟨e', bs, _ | _⟩ | ⟨_, _, _⟩ | ⟨_, _, _⟩
   ·obtain ⟨h1, h⟩ := h
    obtain ⟨rfl, rfl, rfl⟩ := h1 ()
    obtain ⟨kk, hk, rfl⟩ := za hx
    obtain ⟨k', us, q1, q2, q3, q4, q5, q6, q7, q8, q9⟩ := (S.objs n _ ho).row_mem
    rw [hk] at q1; cases q1
    refine ⟨[n], [], l2, h, by simpa using ⟨_, ho, rfl⟩, fun A' hA => ?_⟩
    have hb : bl β n = kk.v.ownBlock.toList := by
     simp only [bl, hk]
     cases hbk : kk.blk with
     | none =>
      obtain ⟨-, hv⟩ := (S.objs n _ ho).nil_row hk hbk
      rw [hv]; rfl
     | some bk =>
      obtain ⟨hv, -⟩ := q9 bk hbk
      rw [hv]; rfl
    simp only [List.flatMap_cons, List.flatMap_nil, List.append_nil, hb]
    exact .own q3 (q4.stay (hA.stays w)) q5 q6 q8
   all_goals exact h.elim
  ·obtain ⟨h1, h2⟩ := h
   obtain ⟨h3, h4⟩ := h1 ()
   have h5 := uc hx
   subst h5
   subst h4
   exact ⟨[], [], _, h2, by simp, fun A' hA => .own (us := []) h3 .nil Y85 Y85 (World.ownsRow_nil _ _ _ _)⟩
  ·exact Y8
 ·exact Y8
theorem qam (hX : Cok P X L) (S : Sim L F β σ a w) : ∀ {vs : List ResultVar} {rs : List RA} {k : List Nat -> List Nat -> RM α} {l : List Lc}, (qfX X vs rs k).runs C σ b l ->
  ∃ us os ns l', (k os ns).runs C σ b l' /\ (vs.mapM (rv a.tmps)).run P w = .ok us w /\ us.length = vs.length /\ (∀ n ∈ os, ∃ o, σ.obj n = some o /\ o.sh = false) /\ ∀ A', zF β (Mut L.A0 β σ) A' ns -> jz A' w rs us (os.flatMap (bl β)) := by
 intro vs
 induction vs with
 | nil =>
  intro rs k l h
  cases rs with
  | nil => exact ⟨[], [], [], l, h, by simp, rfl, by simp, fun A' _ => .nil⟩
  | cons _ _ => exact h.elim
 | cons v vs ih =>
  intro rs k l h
  cases rs with
  | nil => exact h.elim
  | cons r rs =>
   obtain ⟨x, u, l1, h, hx, hr⟩ := QO hX S h
   obtain ⟨os, ns, l2, h, h1, h2⟩ := Uo hX.h S hx h
   obtain ⟨us, os', ns', l3, h, h3, h4, h5, h6⟩ := ih h
   refine ⟨u :: us, os ++ os', ns ++ ns', l3, h, by simp [hr, h3], by simp [h4], fun n hn => (List.mem_append.1 hn).elim (h1 n) (h5 n), fun A' hA => ?_⟩
   rw [List.flatMap_append]
   exact .cons (h2 A' hA.app.1) (h6 A' hA.app.2)
theorem W5 : ∀ {ns os : List Nat}, qfD ns os = false -> ∀ n ∈ os, n ∉ ns
 | ns, x :: os, h, n, hn => by
  simp only [qfD, Bool.or_eq_false_iff] at h
  rcases List.mem_cons.1 hn with rfl | hn
  ·intro hm; rw [Ju.2 hm] at h; cases h.1
  ·exact W5 h.2 n hn
theorem WN (S : Sim L F β σ a w) : ∀ {os : List Nat}, os.Nodup -> (∀ n ∈ os, ∃ o, σ.obj n = some o /\ o.sh = false) -> (os.flatMap (bl β)).Nodup
 | [], _, _ => List.nodup_nil
 | n :: os, h, ho => by
  rw [List.nodup_cons] at h
  rw [List.flatMap_cons, List.nodup_append]
  refine ⟨?_, WN S h.2 fun m hm => ho m (List.mem_cons_of_mem _ hm), ?_⟩
  ·unfold bl
   split
   ·rename_i k _
    cases k.blk <;> simp
   ·simp
  ·intro x hx y hy e
   subst e
   obtain ⟨m, hm, hy⟩ := List.mem_flatMap.1 hy
   obtain ⟨o, q1, -⟩ := ho n List.mem_cons_self
   obtain ⟨o', q2, -⟩ := ho m (List.mem_cons_of_mem _ hm)
   unfold bl at hx hy
   split at hx
   ·rename_i k hk
    split at hy
    ·rename_i k' hk'
     have := S.inj n m o o' k k' x q1 q2 hk hk' (by simpa using hx) (by simpa using hy)
     subst this
     exact h.1 hm
    ·cases hy
   ·cases hx
theorem UA (S : Sim L F β σ a w) (hbs : L.bs = []) {os ns : List Nat} {q : Unit} (h : (qcp os ns).runs C σ q l) (ho : ∀ n ∈ os, ∃ o, σ.obj n = some o /\ o.sh = false) :
  (os.flatMap (bl β)).Nodup /\ (∀ b ∈ os.flatMap (bl β), L.w0.heap.size <= b /\ b < w.heap.size) /\ zF β (Mut L.A0 β σ) (fun b => (L.A0 b /\ b ∉ ([] : List Nat)) ∨ b ∈ os.flatMap (bl β) ++ []) ns := by
 unfold qcp at h
 split at h
 ·rename_i hc
  simp only [Bool.and_eq_true, Bool.not_eq_true'] at hc
  obtain ⟨sh, l2, h, hs, -⟩ := zn h
  have key : ∀ b ∈ os.flatMap (bl β), ∃ n o k, n ∈ os /\ σ.obj n = some o /\ o.sh = false /\ β n = some k /\ k.blk = some b := by
   intro b hb
   obtain ⟨n, hn, hb⟩ := List.mem_flatMap.1 hb
   obtain ⟨o, q1, q2⟩ := ho n hn
   unfold bl at hb
   split at hb
   ·rename_i k hk
    exact ⟨n, o, k, hn, q1, q2, hk, by simpa using hb⟩
   ·cases hb
  refine ⟨WN S (zP hc.1) ho, fun b hb => ?_, ⟨?_, ?_⟩⟩
  ·obtain ⟨n, o, k, -, q1, -, q3, q4⟩ := key b hb
   obtain ⟨k', h5, h6⟩ := (S.objs n o q1).bound
   rw [q3] at h5; cases h5
   refine ⟨?_, h6 b q4⟩
   rcases S.low n o k b q1 q3 q4 with h | h
   ·rw [hbs] at h; cases h
   ·exact h
  ·rintro b (⟨h, -⟩ | hb)
   ·exact .inl h
   ·obtain ⟨n, o, k, -, q1, q2, q3, q4⟩ := key b Y80
    exact .inr ⟨n, o, k, q1, q2, q3, q4⟩
  ·rintro n hn k b hk hb (⟨h0, -⟩ | hb2)
   ·obtain ⟨o, q1, -⟩ := hs n hn
    have := S.a0 b h0
    rcases S.low n o k b q1 hk hb with h | h
    ·exact this.2 h
    ·omega
   ·obtain ⟨m, o, k', hm, q1, -, q3, q4⟩ := key b (by simpa using hb2)
    obtain ⟨o', q5, -⟩ := hs n hn
    have := S.inj n m o' o k k' b q5 q1 hk q3 hb q4
    subst this
    exact W5 hc.2 n hm hn
 ·exact Y8
theorem QV {fn : Func} {tmps : Array Value} {us : List Value} (h : (fn.results.toList.mapM (rv tmps)).run P w = .ok us w) (hl : us.length = fn.results.toList.length) : (results fn tmps).run P w = .ok (VK us) w := by
 have e : (fn.results.mapM (rv tmps)).run P w = .ok us.toArray w := by
  rw [Array.mapM_eq_mapM_toList]
  simp [h]
 have e0 : results fn tmps = ((fn.results.mapM (rv tmps)) >>= fun vs => (pure (if h : vs.size = 1 then vs[0] else .tuple vs) : Sem Value)) := by
  unfold results
  congr 1
 rw [e0, Sem.run_bind, e]
 simp only [Result.andThen_ok, Sem.run_pure]
 congr 1
 cases us with
 | nil => simp [VK]
 | cons u us =>
  cases us with
  | nil => simp [VK]
  | cons u' us => simp [VK]
theorem qb6 (hX : Cok P X L) (S : Sim L F β σ a w) (hbs : L.bs = []) {fn : Func} {r : RA} {q : Unit} (h : (qbZ X fn.results.toList r).runs C σ q l) :
  ∃ v b1, (results fn a.tmps).run P w = .ok v w /\ uN (fun b => (L.A0 b /\ b ∉ ([] : List Nat)) ∨ b ∈ b1 ++ []) w r v b1 /\ b1.Nodup /\ ∀ b ∈ b1, L.w0.heap.size <= b /\ b < w.heap.size := by
 generalize hvs : fn.results.toList = vs at h
 have one : ∀ {v : ResultVar}, vs = [v] -> (qeS X v fun x => qcV X x r qcp).runs C σ q l -> ∃ v b1, (results fn a.tmps).run P w = .ok v w /\ uN (fun b => (L.A0 b /\ b ∉ ([] : List Nat)) ∨ b ∈ b1 ++ []) w r v b1 /\ b1.Nodup /\ ∀ b ∈ b1, L.w0.heap.size <= b /\ b < w.heap.size := by
  rintro v rfl h
  obtain ⟨x, u, l1, h, hx, hr⟩ := QO hX S h
  obtain ⟨os, ns, l2, h, h1, h2⟩ := Uo hX.h S hx h
  obtain ⟨g1, g2, g3⟩ := UA S hbs h h1
  exact ⟨u, _, QV (us := [u]) (by rw [hvs]; simp [hr]) (by rw [hvs]; rfl), h2 _ g3, g1, g2⟩
 have many : ∀ {rs : List RA}, r = .tup rs -> vs.length ≠ 1 -> (qfX X vs rs qcp).runs C σ q l -> ∃ v b1, (results fn a.tmps).run P w = .ok v w /\ uN (fun b => (L.A0 b /\ b ∉ ([] : List Nat)) ∨ b ∈ b1 ++ []) w r v b1 /\ b1.Nodup /\ ∀ b ∈ b1, L.w0.heap.size <= b /\ b < w.heap.size := by
  rintro rs rfl hne h
  obtain ⟨us, os, ns, l2, h, h1, h2, h3, h4⟩ := qam hX S h
  obtain ⟨g1, g2, g3⟩ := UA S hbs h h3
  have hr := QV (us := us) (by rw [hvs]; exact h1) (by rw [hvs]; exact h2)
  have e : VK us = Value.tuple us.toArray := by
   rcases us with _ | ⟨u, _ | ⟨u', us⟩⟩
   ·rfl
   ·rw [<- h2] at hne; exact absurd rfl hne
   ·rfl
  rw [e] at hr
  exact ⟨_, _, hr, .tup (h4 _ g3), g1, g2⟩
 unfold qbZ at h
 split at h
 ·exact one rfl h
 ·rename_i hne
  exact many rfl (fun e => by
   obtain ⟨v, hv⟩ := List.length_eq_one_iff.1 e
   exact hne v hv) h
 ·exact Y8
theorem Wq : ∀ {as : List RA} {i s : Nat} {x : AV}, qp (yu i as) s = some (some x) -> i <= s /\ ∃ y, as[s - i]? = some (.pv y) /\ x = .pv y
 | r :: as, i, s, x, h => by
  have go : qp (yu (i + 1) as) s = some (some x) -> i <= s /\ ∃ y, (r :: as)[s - i]? = some (.pv y) /\ x = .pv y := fun h => by
   obtain ⟨h1, y, h2, h3⟩ := Wq h
   exact ⟨by omega, y, by rw [show s - i = (s - (i + 1)) + 1 by omega]; simpa using h2, h3⟩
  cases r with
  | pv y =>
   simp only [yu, qp] at h
   split at h
   ·rename_i e
    subst e
    cases h
    exact ⟨Nat.le_refl _, y, by simp, rfl⟩
   ·exact go h
  | _ => exact go h
theorem Kw {A : Nat -> Prop} : ∀ {as : List RA} {us : List Value} {bs : List Nat}, V0 as = true -> jz A w as us bs -> bs = [] /\ ∀ (i : Nat) (y : PV), as[i]? = some (RA.pv y) -> ∃ u, us[i]? = some u /\ qN A w y u
 | [], _, _, _, .nil => ⟨rfl, by simp⟩
 | .pv x :: as, _, _, h, .cons (.pv h1) h2 => by
  obtain ⟨h3, h4⟩ := Kw (as := as) h h2
  refine ⟨by rw [h3]; rfl, fun i y hi => ?_⟩
  cases i with
  | zero => simp at hi; subst hi; exact ⟨_, rfl, h1⟩
  | succ i => simp at hi; obtain ⟨u, g1, g2⟩ := h4 i y hi; exact ⟨u, by simpa using g1, g2⟩
 | .nil :: _, _, _, h, _ => by cases h
 | .own _ _ _ :: _, _, _, h, _ => by cases h
 | .hp _ _ _ :: _, _, _, h, _ => by cases h
 | .tup _ :: _, _, _, h, _ => by cases h
 | .any :: _, _, _, h, _ => by cases h
theorem qhI {A : Nat -> Prop} : ∀ {us : List Value} {as : List RA}, as.length = us.length -> jz A w (as.map fun _ => RA.any) us []
 | [], [], _ => .nil
 | u :: us, _ :: as, h => .cons (b := []) (bs := []) .any (qhI Y62)
theorem qap {as : List RA} (h : V0 as = true) : qhq as = true := by
 unfold qhq
 split
 ·cases h
 ·cases h
 ·rfl
def YR (P : Program) (T : TypeId -> Option TI) : Prop := ∀ t ti, T t = some ti -> P.underlying t = some ti.desc /\ ∃ i, P.info? t = some i /\ i.size = ti.size /\ i.bytes = ti.bytes /\ ∀ z, ti.zero = some z -> i.zero = some (z ()) /\ okV (z ()) = true /\ (z ()).cells.size = ti.size
theorem enters_of {f : FuncId} {fn : Func} (hf : P.funcs[f]? = some fn) (hb : fn.body.isNone = false) (hn : (fn.name == "runtime.NumGoroutine") = false) : JW P f := by
 intro args w
 simp only [callFunc, Sem.run_bind, run_program, Result.andThen_ok, hf, hn, hb]
 rfl
theorem qcu {T : TypeId -> Option TI} {G : Gv} {f : FuncId} {fn : Func} {code : Code} {as : List RA} {res : RA} (h : (α : Type) -> (Unit -> α) -> α) (hh : ∀ α g, h α g = g ()) (hm : P.follows .mixedOrders = true) (hT : YR P T)
  (hf : P.funcs[f]? = some fn) (hb : fn.body = some code) (hn : (fn.name == "runtime.NumGoroutine") = false) (N : Nat) (hN : fn.ntmps = N) (hN1 : N <= 1000) (has : V0 as = true) (hlen : as.length <= N) (J : List Nat)
  (vc : ∀ C, (∀ f as r ys, Con P G f as r ys -> C f as r ys) -> ju ⟨h, T, G.val, N, J⟩ C code (fun e σ => (e = .n ∨ e = .r) /\ (qbZ ⟨h, T, G.val, N, J⟩ fn.results.toList res).vc C σ fun _ _ => True) ⟨yu 0 as, []⟩) : Con P G f as res (as.map fun _ => .any) := by
 refine .mk' (qap has) ⟨enters_of hf (by rw [hb]; rfl) hn, fun w vals bs A hA hbs hnd henv hreps => ?_⟩
 obtain ⟨rfl, hargs⟩ := Kw has hreps
 have hlen' := hreps.length
 refine ZF hf hb ?_
 let L : Pl := ⟨G, N, w, [], A, fun _ => none, false⟩
 have hX : Cok P ⟨h, T, G.val, N, J⟩ L := ⟨hh, hT, rfl, rfl, hN1⟩
 have hM : Mut A (fun _ => none) ⟨yu 0 as, []⟩ = A := by
  funext b
  apply propext
  constructor
  ·rintro (h | ⟨n, o, k, h1, -⟩)
   ·exact h
   ·cases h1
  ·exact .inl
 have S : Sim L (fun _ => False) (fun _ => none) ⟨yu 0 as, []⟩ { tmps := vals.toArray ++ Array.replicate (fn.ntmps - vals.toArray.size) undef, defers := [] } w := by
  refine ⟨?_, Mk.nil _ _, ?_, fun n o h => (by cases h), fun n k h => (by cases h), fun n h => h.elim, fun n m o o' k k' b h => (by cases h), fun n o k b h => (by cases h), Fr.refl _ _, ?_, fun b hb => ⟨hA b hb, List.not_mem_nil⟩, fun n k h => (by cases h)⟩
  ·simp [L, hN]; omega
  ·intro s x hx
   obtain ⟨-, y, h1, rfl⟩ := Wq (jC hx)
   obtain ⟨u, h2, h3⟩ := hargs s y Y69
   have hs : s < vals.length := by
    rcases Nat.lt_or_ge s vals.length with h | h
    ·exact h
    ·rw [List.getElem?_eq_none h] at h2; cases h2
   have e : slot { tmps := vals.toArray ++ Array.replicate (fn.ntmps - vals.toArray.size) undef, defers := [] } s = u := by
    simp only [slot, Array.getD_eq_getD_getElem?]
    rw [Array.getElem?_append_left (by simpa using hs)]
    simp [h2]
   rw [e]
   show qq _ (Mut A _ _) w _ _
   rw [hM]
   exact .pv h3
  ·show Env _ (Mut A _ _) w
   rw [hM]
   exact henv
 have hcode := Ze (r := none) (nn := 1) hm code hX (C := Con P G) (fun _ _ _ _ h => h) (.inl ⟨rfl, rfl, fun n k h => by cases h⟩) S (vc _ fun _ _ _ _ h => h)
 refine wpIn_mono hcode ?_
 rintro e a' w' ⟨x, β', σ', he, S', hxt, hv⟩
 obtain ⟨q, l, hr, -⟩ := RM.runs_of_vc hv
 have post : ∀ w', Sim L (fun _ => False) β' σ' { tmps := a'.tmps, defers := [] } w' -> ∃ v, (results fn a'.tmps).run P w' = .ok v w' /\ ∃ v' b1 b2, Ending.returned v = .returned v' /\ uN (fun b => (A b /\ b ∉ ([] : List Nat)) ∨ b ∈ b1 ++ b2) w' res v' b1 /\ jz (fun b => (A b /\ b ∉ ([] : List Nat)) ∨ b ∈ b1 ++ b2) w' (as.map fun _ => RA.any) vals b2 /\
   (b1 ++ b2).Nodup /\ (∀ b ∈ b1 ++ b2, (b ∈ ([] : List Nat) ∨ w.heap.size <= b) /\ b < w'.heap.size) /\ Fr [] w w' := by
  intro w' S'
  obtain ⟨v, b1, h1, h2, h3, h4⟩ := qb6 hX S' rfl hr
  exact ⟨v, h1, v, b1, [], rfl, h2, qhI hlen', by simpa using h3, fun b hb => by have := h4 b Y80; exact ⟨.inr this.1, this.2⟩, S'.fr⟩
 rcases hxt with rfl | rfl
 ·exact Y49
 ·exact Y49
end
end Go.Bl
namespace Go.Bl
open Go.RowKit
def JS : Nat -> List AV -> List (Nat × Option AV)
 | _, [] => []
 | i, x :: r => (i, some x) :: JS (i + 1) r
def qeD (X : Cx) {α : Type} : List ResultVar -> (List AV -> RM α) -> RM α
 | [], k => k []
 | v :: vs, k => qeS X v fun x => qeD X vs fun xs => k (x :: xs)
def qgy (X : Cx) (vs : List ResultVar) (ρ : List (Nat × Nat)) (post : List (Nat × Ob)) (rs : List AV) : RM Unit :=
 qeD X vs fun ys => V7 X ρ ys rs fun ns => qaI ρ post (yA ns fun l => match post.all fun x => (qp l (rnm ρ x.1)).isNone with
  | true => .ret ()
  | false => .fail)
def okB (ρ : List (Nat × Nat)) (post : List (Nat × Ob)) : Bool := jH (post.map fun x => rnm ρ x.1) && (jH (post.map (·.1)) && qaV ρ)
def qgE (X : Cx) (C : FuncId -> List RA -> RA -> List RA -> Prop) (vs : List ResultVar) (post : List (Nat × Ob)) (rs : List AV) (σ : St) : Prop := ∃ ρ, okB ρ post = true /\ (qgy X vs ρ post rs).vc C σ fun _ _ => True
def okP (pre : List (Nat × Ob)) : Bool := jH (pre.map (·.1)) && pre.all fun x => !x.2.sh && x.1 % 1000 == 999
section
variable {α : Type} {P : Program} {X : Cx} {L : Pl} {F : Nat -> Prop} {β : Nat -> Option Bk} {σ : St} {a : Act} {w : World} {C : FuncId -> List RA -> RA -> List RA -> Prop} {b : α} {l : List Lc}
theorem Zf (hX : Cok P X L) (S : Sim L F β σ a w) : ∀ {vs : List ResultVar} {k : List AV -> RM α} {l : List Lc}, (qeD X vs k).runs C σ b l -> ∃ xs us l', (k xs).runs C σ b l' /\ qh β (Mut L.A0 β σ) w xs us /\ (vs.mapM (rv a.tmps)).run P w = .ok us w /\ us.length = vs.length
 | [], k, l, h => ⟨[], [], l, h, .nil, by simp, rfl⟩
 | v :: vs, k, l, h => by
  obtain ⟨x, u, l1, h, hx, hr⟩ := QO hX S h
  obtain ⟨xs, us, l2, h, h1, h2, h3⟩ := Zf hX S h
  exact ⟨x :: xs, u :: us, l2, h, .cons hx h1, by simp [hr, h2], by simp [h3]⟩
theorem Xo : ∀ {xs : List AV} {i s : Nat} {x : AV}, qp (JS i xs) s = some (some x) -> i <= s /\ xs[s - i]? = some x
 | y :: xs, i, s, x, h => by
  simp only [JS, qp] at h
  split at h
  ·rename_i e; subst e; cases h; exact ⟨Nat.le_refl _, by simp⟩
  ·obtain ⟨h1, h2⟩ := Xo h
   exact ⟨by omega, by rw [show s - i = (s - (i + 1)) + 1 by omega]; simpa using h2⟩
theorem XL {γ : Type} : ∀ {l : List (Nat × γ)} {n : Nat} {x : γ}, qp (l.map fun x => (x.1, some x.2)) n = some (some x) -> qp l n = some x
 | (k, y) :: l, n, x, h => by
  simp only [List.map_cons, qp] at h ⊢
  split at h
  ·rename_i e; cases h; rw [if_pos e]
  ·rename_i e; rw [if_neg e]; exact XL h
theorem Vi {γ : Type} : ∀ {l : List (Nat × γ)} {n : Nat} {x : γ}, qp l n = some x -> qp (l.map fun x => (x.1, some x.2)) n = some (some x)
 | (k, y) :: l, n, x, h => by
  simp only [List.map_cons, qp] at h ⊢
  split at h
  ·rename_i e; cases h; rw [if_pos e]
  ·rename_i e; rw [if_neg e]; exact Vi h
theorem Vd {γ : Type} (g : γ -> Nat) : ∀ {l : List γ}, (l.map g).Nodup -> ∀ x ∈ l, ∀ y ∈ l, g x = g y -> x = y
 | z :: l, h, x, hx, y, hy, e => by
  rw [List.map_cons, List.nodup_cons] at h
  rcases List.mem_cons.1 hx with ex | hx <;> rcases List.mem_cons.1 hy with ey | hy
  ·rw [ex, ey]
  ·exact absurd (List.mem_map.2 ⟨y, hy, by rw [<- e, ex]⟩) h.1
  ·exact absurd (List.mem_map.2 ⟨x, hx, by rw [e, ey]⟩) h.1
  ·exact Vd g h.2 x hx y hy e
theorem LP {T : TypeId -> Option TI} {G : Gv} {f : FuncId} {fn : Func} {code : Code} {pre post : List (Nat × Ob)} {xs rs : List AV} (h : (α : Type) -> (Unit -> α) -> α) (hh : ∀ α g, h α g = g ()) (hm : P.follows .mixedOrders = true) (hT : YR P T)
  (hf : P.funcs[f]? = some fn) (hb' : fn.body = some code) (hn : (fn.name == "runtime.NumGoroutine") = false) (N : Nat) (hN : fn.ntmps = N) (hN1 : N <= 1000) (hlen : xs.length <= N) (hok : okP pre = true) (ρ0 ρ1 : List (Nat × Nat)) (outs : List RA) (J : List Nat)
  (vc : ∀ C, (∀ f as r ys, Con P G f as r ys -> C f as r ys) -> ju ⟨h, T, G.val, N, J⟩ C code (fun e σ => (e = .n ∨ e = .r) /\ qgE ⟨h, T, G.val, N, J⟩ C fn.results.toList post rs σ) ⟨JS 0 xs, pre.map fun x => (x.1, some x.2)⟩) : Con P G f [.hp ρ0 pre xs] (.hp ρ1 post rs) outs := by
 refine ⟨enters_of hf (by rw [hb']; rfl) hn, fun w vals bs A _ _ _ _ hr => (by cases hr with | cons h _ => cases h), ?_, fun lb rows e => (by cases e)⟩
 intro ρ pre' xs' ρ' post' rs' e1 e2
 cases e1
 cases e2
 intro w vals β A hA hbA hin hone hreps henv
 simp only [okP, Bool.and_eq_true] at hok
 obtain ⟨hnd, hall⟩ := hok
 have hnd := zh hnd
 have hall : ∀ n o, qp pre n = some o -> o.sh = false /\ n % 1000 = 999 := fun n o hl => by
  have := List.all_eq_true.1 hall _ (qY hl)
  simpa using this
 have hlen' := hreps.length
 refine ZF hf hb' ?_
 let L : Pl := ⟨G, N, w, hb β pre, fun b => A b /\ b ∉ hb β pre, fun n => match qp pre n with | some _ => β n | none => none, false⟩
 let σ0 : St := ⟨JS 0 xs, pre.map fun x => (x.1, some x.2)⟩
 have hX : Cok P ⟨h, T, G.val, N, J⟩ L := ⟨hh, hT, rfl, rfl, hN1⟩
 have hob : ∀ n o, σ0.obj n = some o -> qp pre n = some o := fun n o h => XL (jC h)
 have hob' : ∀ n o, qp pre n = some o -> σ0.obj n = some o := fun n o h => by
  show (qp (pre.map fun x => (x.1, some x.2)) n).join = _
  rw [Vi h]; rfl
 have hM : Mut L.A0 β σ0 = A := by
  funext b
  apply propext
  constructor
  ·rintro (h | ⟨n, o, k, h1, h2, h3, h4⟩)
   ·exact h.1
   ·exact hbA b (QW.2 ⟨n, o, k, qY (hob n o h1), h2, h3, h4⟩)
  ·intro h
   by_cases hm : b ∈ hb β pre
   ·obtain ⟨n, o, k, h1, h2, h3, h4⟩ := QW.1 hm
    exact .inr ⟨n, o, k, hob' n o (vL hnd h1), h2, h3, h4⟩
   ·exact .inl ⟨h, hm⟩
 have S : Sim L (fun _ => False) β σ0 { tmps := vals.toArray ++ Array.replicate (fn.ntmps - vals.toArray.size) undef, defers := [] } w := by
  refine ⟨?_, Mk.nil _ _, ?_, fun n o hn => by rw [hM]; exact hin.rep n o (hob n o hn), hone, fun n hn => hn.elim, fun n m o o' k k' b h1 h2 => hin.inj n m o o' k k' b (hob n o h1) (hob m o' h2), ?_, Fr.refl _ _, by rw [hM]; exact henv, fun b hb' => ⟨hA b hb'.1, hb'.2⟩, ?_⟩
  ·simp [L, hN]; omega
  ·intro s x hx
   obtain ⟨-, h1⟩ := Xo (jC hx)
   obtain ⟨u, h2, h3⟩ := hreps.get (i := s) Y69
   have hs : s < vals.length := by
    rcases Nat.lt_or_ge s vals.length with h | h
    ·exact h
    ·rw [List.getElem?_eq_none h] at h2; cases h2
   have e : slot { tmps := vals.toArray ++ Array.replicate (fn.ntmps - vals.toArray.size) undef, defers := [] } s = u := by
    simp only [slot, Array.getD_eq_getD_getElem?]
    rw [Array.getElem?_append_left (by simpa using hs)]
    simp [h2]
   rw [e, hM]
   exact h3
  ·intro n o k b h1 h2 h3
   exact .inl (QW.2 ⟨n, o, k, qY (hob n o h1), (hall n o (hob n o h1)).1, h2, h3⟩)
  ·intro n k hp
   have hp : (match qp pre n with | some _ => β n | none => none) = some k := hp
   cases hl : qp pre n with
   | none => rw [hl] at hp; cases hp
   | some o => rw [hl] at hp; exact ⟨hp, .inl (hall n o hl).2⟩
 have hpin : ∀ n k, L.pin n = some k -> n % 1000 = 999 := fun n k hp => by
  have hp : (match qp pre n with | some _ => β n | none => none) = some k := hp
  cases hl : qp pre n with
  | none => rw [hl] at hp; cases hp
  | some o => exact (hall n o hl).2
 have hcode := Ze (r := none) (nn := 1) hm code hX (C := Con P G) (fun _ _ _ _ h => h) (.inl ⟨rfl, rfl, hpin⟩) S (vc _ fun _ _ _ _ h => h)
 refine wpIn_mono hcode ?_
 rintro e a' w' ⟨x, β', σ', he, S', hxt, ρ, hokb, hv⟩
 have post' : ∀ w', Sim L (fun _ => False) β' σ' { tmps := a'.tmps, defers := [] } w' -> ∃ v, (results fn a'.tmps).run P w' = .ok v w' /\ ∃ us β', Ending.returned v = .returned (VK us) /\ (∀ n o, qp pre n = some o -> β' n = β n) /\ (∀ n k, β' n = some k -> k.v.oneCell' = true) /\
   qff β' (fun b => (A b /\ b ∉ hb β pre) ∨ b ∈ hb β' post) w' post /\ qh β' (fun b => (A b /\ b ∉ hb β pre) ∨ b ∈ hb β' post) w' rs us /\
   (∀ n o k b, qp post n = some o -> β' n = some k -> k.blk = some b -> b ∈ hb β pre ∨ w.heap.size <= b) /\ Fr (hb β pre) w w' := by
  intro w' S'
  obtain ⟨q, l, hr, -⟩ := RM.runs_of_vc hv
  simp only [okB, Bool.and_eq_true] at hokb
  obtain ⟨k1, k2, k3⟩ := hokb
  have k1 := zh k1
  have k2 := zh k2
  unfold qgy at hr
  obtain ⟨ys, us, l1, hr, hys, hres, hlu⟩ := Zf hX S' hr
  obtain ⟨ns, l2, hr, hrs⟩ := vM hh S' hys hr
  obtain ⟨l3, hr, hobjs⟩ := yG hr
  obtain ⟨sh, l4, hr, hsh⟩ := zn hr
  have hgone : ∀ n o, (n, o) ∈ post -> qp sh (rnm ρ n) = none := by
   split at hr
   ·rename_i hg
    intro n o hm
    have := List.all_eq_true.1 hg (n, o) hm
    simpa using this
   ·exact hr.elim
  obtain ⟨S2, hAp⟩ := S'.share hsh
  have hobj2 : ∀ n o, (n, o) ∈ post -> (σ'.more sh).obj (rnm ρ n) = some (o.ren ρ) := fun n o hm => by
   rw [Xh hsh (hgone n o hm)]; exact hobjs n o hm
  let βf : Nat -> Option Bk := fun n => β' (rnm ρ n)
  have hA2 : ∀ b, (A b /\ b ∉ hb β pre) ∨ b ∈ hb βf post -> Mut L.A0 β' (σ'.more sh) b := by
   rintro b (h | h)
   ·exact .inl h
   ·obtain ⟨n, o, k, h1, h2, h3, h4⟩ := QW.1 h
    exact .inr ⟨_, _, k, hobj2 n o h1, by rw [Ob.ren_sh]; exact h2, h3, h4⟩
  have hA3 : zF β' (Mut L.A0 β' σ') (fun b => (A b /\ b ∉ hb β pre) ∨ b ∈ hb βf post) ns := ⟨fun b h => hAp.sub b (hA2 b h), fun n hn k b h1 h2 h3 => hAp.out n hn k b h1 h2 (hA2 b h3)⟩
  have hst : qQ (Mut L.A0 β' (σ'.more sh)) (fun b => (A b /\ b ∉ hb β pre) ∨ b ∈ hb βf post) w' w' := ⟨fun _ _ _ => rfl, fun b _ h => hA2 b h⟩
  refine ⟨VK us, QV hres hlu, us, βf, rfl, ?_, fun n k hk => S'.one _ k hk, ⟨?_, ?_⟩, hrs _ hA3, ?_, S'.fr⟩
  ·intro n o hl
   obtain ⟨k, hk, -⟩ := (hin.rep n o hl).bound
   have := S'.pin n k (by show (match qp pre n with | some _ => β n | none => none) = some k; rw [hl]; exact hk)
   show β' (rnm ρ n) = _
   rw [Vn k3 this.2, this.1, hk]
  ·intro n o hl
   exact ((S2.objs _ _ (hobj2 n o (qY hl))).unren).mono (jp.refl _) hst fun _ _ _ _ => rfl
  ·intro n m o o' k k' b h1 h2 h3 h4 h5 h6
   have e := S2.inj _ _ _ _ k k' b (hobj2 n o (qY h1)) (hobj2 m o' (qY h2)) h3 h4 h5 h6
   have := Vd (fun x : Nat × Ob => rnm ρ x.1) k1 _ (qY h1) _ (qY h2) e
   exact congrArg Prod.fst this
  ·intro n o k b h1 h2 h3
   exact S2.low _ _ k b (hobj2 n o (qY h1)) h2 h3
 rcases hxt with rfl | rfl
 ·exact Y48
 ·exact Y48
end
end Go.Bl
namespace Go.Bl
open Go.RowKit
def zz (d : TypeDesc) (z : Option Value) : Option (Unit -> Value) := match d with
 | .tuple _ => none
 | _ => match z with
  | some z => some fun _ => z
  | none => none
def tyL (ts : List TypeInfo) (t : TypeId) : Option TI := match ts[t]? with
 | none => none
 | some i => match i.desc with
  | .named _ u => match ts[u]? with
   | none => none
   | some j => some ⟨i.size, i.bytes, zz j.desc i.zero, j.desc⟩
  | d => some ⟨i.size, i.bytes, zz d i.zero, d⟩
def zzB (ti : TI) : Bool := match ti.zero with
 | none => true
 | some z => okV (z ()) && (z ()).cells.size == ti.size
theorem qhw {P : Program} {ts : List TypeInfo} (h : P.types.toList = ts) (hz : (List.range ts.length).all (fun k => (tyL ts k).all zzB) = true) : YR P (tyL ts) := by
 intro t ti ht
 have hi : ∀ t i, ts[t]? = some i -> P.info? t = some i := fun t i e => by
  have hs : t < P.types.size := by
   rw [<- h] at e
   rcases Nat.lt_or_ge t P.types.size with h' | h'
   ·exact h'
   ·rw [List.getElem?_eq_none (by simpa using h')] at e; cases e
  unfold Tables.info?
  rw [if_pos hs, <- e, <- h, Array.getElem?_toList]
 have hlt : t < ts.length := by
  rcases Nat.lt_or_ge t ts.length with h | h
  ·exact h
  ·simp only [tyL, List.getElem?_eq_none h] at ht; cases ht
 have h2 : zzB ti = true := by
  have := List.all_eq_true.1 hz t (List.mem_range.2 hlt)
  rw [ht] at this
  simpa using this
 have hz2 : ∀ z, ti.zero = some z -> okV (z ()) = true /\ (z ()).cells.size = ti.size := fun z e => by
  simp only [zzB, e, Bool.and_eq_true, beq_iff_eq] at h2
  exact h2
 have hzz : ∀ (d : TypeDesc) (z : Option Value) (f : Unit -> Value), zz d z = some f -> z = some (f ()) := by
  intro d z f e
  cases d <;> cases z <;> simp only [zz, Option.some.injEq, reduceCtorEq] at e <;> subst e <;> rfl
 unfold tyL at ht
 split at ht
 ·cases ht
 ·rename_i i e1
  split at ht
  ·rename_i nm u e2
   split at ht
   ·cases ht
   ·rename_i j e3
    cases ht
    refine ⟨?_, i, hi _ _ e1, rfl, rfl, fun z e => ⟨hzz _ _ _ e, hz2 z e⟩⟩
    unfold Program.underlying
    rw [hi _ _ e1]
    cases i
    cases e2
    simp [hi _ _ e3]
  ·rename_i e2
   cases ht
   refine ⟨?_, i, hi _ _ e1, rfl, rfl, fun z e => ⟨hzz _ _ _ e, hz2 z e⟩⟩
   unfold Program.underlying
   rw [hi _ _ e1]
   cases i with
   | mk desc => cases desc <;> first | rfl | exact absurd rfl (e2 _ _)
def tyT (Q : Tables) (t : TypeId) : Option TI := tyL Q.types.toList t
theorem qhC {P : Program} {Q : Tables} (h : P.toTables = Q) (hz : (List.range Q.types.toList.length).all (fun k => (tyL Q.types.toList k).all zzB) = true) : YR P (tyT Q) := qhw (by rw [<- h]) hz
end Go.Bl
namespace Go.Bl
open Go.RowKit
abbrev Hh := (α : Type) -> (Unit -> α) -> α
abbrev iH (h : Hh) (n : Int) : PV := .v (.int .i64 (h _ fun _ => n))
abbrev kH (h : Hh) (k : IntKind) (n : Int) : PV := .v (.int k (h _ fun _ => n))
@[simp] def nI (n : Nat) : Int := n
abbrev nH (h : Hh) (n : Nat) : PV := .v (.int .i64 (h _ fun _ => nI n))
abbrev tH (h : Hh) (b : Bool) : PV := .v (.bool (h _ fun _ => b))
abbrev lH (h : Hh) {α : Type} (f : α -> PV) (xs : List α) : PV := .l (h _ fun _ => xs.map f)
abbrev aH (h : Hh) {α : Type} (f : α -> PV) (xs : List α) : PV := .a (h _ fun _ => xs.map f)
abbrev bH (h : Hh) (xs : List UInt8) : PV := lH h u8P xs
def bP (xs : List UInt8) : PV := .l (xs.map u8P)
def iP (n : Int) : PV := .v (.int .i64 n)
theorem qcW {s : Nat} {α : Type} (f : α -> PV) (xs : List α) (hf : ∀ x, (f x).cells.length = s) : xc s (xs.map f) := by
 intro x hx; obtain ⟨y, -, rfl⟩ := List.mem_map.1 hx; exact hf y
@[simp] theorem allW_u8 (xs : List UInt8) : xc 1 (xs.map u8P) := qcW _ _ fun _ => rfl
@[simp] theorem allW_nil (s : Nat) : xc s [] := by intro x hx; cases hx
@[simp] theorem allW_cons (s : Nat) (x : PV) (xs : List PV) : xc s (x :: xs) ↔ x.cells.length = s /\ xc s xs := List.forall_mem_cons
@[simp] theorem allW_take {s n : Nat} {xs : List PV} (h : xc s xs) : xc s (xs.take n) := fun x hx => h x (List.mem_of_mem_take hx)
@[simp] theorem allW_drop {s n : Nat} {xs : List PV} (h : xc s xs) : xc s (xs.drop n) := fun x hx => h x (List.mem_of_mem_drop hx)
@[simp] theorem allW_append (s : Nat) (xs ys : List PV) : xc s (xs ++ ys) ↔ xc s xs /\ xc s ys := List.forall_mem_append
@[simp] theorem cells_v (x : Value) : (PV.v x).cells = [.v x] := by cases x <;> rfl
@[simp] theorem cells_l (x : List PV) : (PV.l x).cells = [.l x] := rfl
@[simp] theorem cells_a (x : List PV) : (PV.a x).cells = x := rfl
@[simp] theorem maxLen_is : maxLen = 9223372036854775807 := rfl
@[simp] theorem allW_f {s : Nat} {α : Type} (f : α -> PV) (xs : List α) : xc s (xs.map f) ↔ ∀ x ∈ xs, (f x).cells.length = s := by simp [xc]
theorem wrap_i64 {x : Int} (h1 : -9223372036854775808 <= x) (h2 : x <= 9223372036854775807) : IntKind.i64.wrap x = x := by
 exact Y23
theorem xa {x : Int} (h1 : 0 <= x) (h2 : x <= 18446744073709551615) : IntKind.u64.wrap x = x := by
 exact Y23
theorem wrap_u32 {x : Int} (h1 : 0 <= x) (h2 : x <= 4294967295) : IntKind.u32.wrap x = x := by
 exact Y23
theorem qfS {x : Int} (h1 : 0 <= x) (h2 : x <= 255) : IntKind.u8.wrap x = x := by
 exact Y23
@[simp] theorem v_eq_u8P {n : Int} {b : UInt8} : PV.v (.int .u8 n) = u8P b ↔ n = b.toNat := by
 constructor
 ·intro h; simpa [u8P, u8v] using h
 ·rintro rfl; rfl
@[simp] theorem ex_u8P (c : UInt8) : ∃ b, u8P c = u8P b := ⟨c, rfl⟩
@[simp] theorem ex_toNat {n : Int} : (∃ b : UInt8, n = (b.toNat : Int)) ↔ 0 <= n /\ n < 256 :=
 ⟨fun ⟨b, e⟩ => by have := b.toNat_lt; omega, fun h => ⟨UInt8.ofNat n.toNat, by rw [UInt8.toNat_ofNat']; omega⟩⟩
@[simp] theorem splice_all {α : Type} {xs ys : List α} (h : xs.length = ys.length) : splice 0 xs ys = xs := by simp [splice, h]
attribute [simp] List.take_of_length_le Cx.exA Cx.exS Cx.ex1 PV.int PV.els PV.bool PV.str PV.val Value.cells bP iP
@[simp] theorem u8P_w (b : UInt8) : (u8P b).cells.length = 1 := rfl
@[simp] theorem bP_w (xs : List UInt8) : (bP xs).cells.length = 1 := rfl
theorem jI {a b : Nat} (h : (a : Int) < (b : Int)) : a < b := Int.ofNat_lt.1 h
theorem jN {a b : Nat} (h : ¬ (a : Int) < (b : Int)) : b <= a := Nat.le_of_not_lt fun q => h (Int.ofNat_lt.2 q)
@[simp] theorem byteP_u8 (b : UInt8) : uV (u8P b) = b := by simp [uV, u8P, u8v]
@[simp] theorem byteP_comp : uV ∘ u8P = id := by funext b; simp
@[simp] theorem twoB_u8 {n : Nat} {te : TI} {xs ys : List UInt8} : qeu n te (xs.map u8P) (ys.map u8P) ↔ te.size = 1 /\ xs.length = n /\ ys.length = n := by
 simp only [qeu, List.length_map]
 constructor
 ·rintro ⟨h1, h2, h3, -⟩; exact ⟨h1, h2, h3⟩
 ·rintro ⟨h1, h2, h3⟩
  exact ⟨h1, h2, h3, fun x hx => by obtain ⟨b, -, rfl⟩ := List.mem_map.1 hx; exact ⟨b, rfl⟩, fun x hx => by obtain ⟨b, -, rfl⟩ := List.mem_map.1 hx; exact ⟨b, rfl⟩⟩
theorem qD (n : Nat) : (NatCast.natCast n : Int) = (n : Int) := rfl
theorem sg {p : Prop} (q : p := by first | rfl | (simp [hh, *] <;> (try and_intros) <;> first | rfl | omega | (norm_cast; omega) | (simp only [qD] at *; omega) | exact fun a _ => ⟨a, rfl⟩)) : p := q
theorem s0 {p : Prop} (q : p := by first | exact .inr trivial | exact .inr rfl) : p := q
theorem sq {p : Prop} (q : p := by first | assumption | exact ⟨rfl⟩ | exact sg) : PUnit -> p := fun _ => q
theorem sx {a b : Bool} {p : Prop} (q : ¬ a = b := by intro e; simp [hh] at e <;> (try simp only [qD] at *) <;> omega) : a = b -> p := fun e => absurd e q
theorem sy {a b : Bool} {p : Prop} (q : Ev a b -> p) : a = b -> p := fun e => q ⟨e⟩
theorem sz {a b : Bool} {p : Prop} (q : a = b -> False) : a = b -> p := fun e => (q e).elim
theorem sp {p : Prop} (q : p := by first | rfl | (cbv; done) | (cbv; simp only [hh]; rfl) | (cbv; simp [hh, *]; done) | (cbv; simp [hh, *]; rw [wrap_i64 Y54 Y54]; done) | (cbv; simp [hh, *]; rw [wrap_i64 Y54 Y54]; omega) | (cbv; simp [hh, *] <;> (try simp only [qD] at *) <;> (try rw [wrap_i64 Y54 Y54]) <;> omega)) : p := q
end Go.Bl
