import Derived.Test.YtnafknkchbfpaaaGreatDoorPF
set_option linter.unusedVariables false
set_option linter.unusedSimpArgs false
set_option maxRecDepth 1000000
set_option maxHeartbeats 8000000
namespace Go.Bl
open Go.RowKit
def qex (X : Cx) {α : Type} (v : ResultVar) (k : AV -> RM α) : RM α := match v with
 | .tmp t => .slot t k
 | .cell p t => .slot p fun a => qdq X t a k
def qce (X : Cx) {α : Type} (x : AV) (r : RA) (k : List Nat -> List Nat -> RM α) : RM α := match r with
 | .pv y => JI X xC x fun z ns => .chk (fun _ => z = y) (k [] ns)
 | .nil => match x with
  | .nil => k [] []
  | _ => .fail
 | .own e s xs => match x with
  | .own n => .obj n fun o => match o with
   | .row e' s' ys false => .chk (fun _ => e' = e /\ s' = s /\ ys = xs) (k [n] [])
   | _ => .fail
  | .nil => .chk (fun _ => 0 < s /\ xs = []) (k [] [])
  | _ => .fail
 | _ => .fail
def qdw (ns : List Nat) : List Nat -> Bool
 | [] => false
 | x :: r => vv ns x || qdw ns r
def qam (os ns : List Nat) : RM Unit := match zI os && !qdw ns os with
 | true => Qq ns fun _ => .ret ()
 | false => .fail
def qek (X : Cx) {α : Type} : List ResultVar -> List RA -> (List Nat -> List Nat -> RM α) -> RM α
 | [], [], k => k [] []
 | v :: vs, r :: rs, k => qex X v fun x => qce X x r fun os ns => qek X vs rs fun os' ns' => k (os ++ os') (ns ++ ns')
 | _, _, _ => .fail
def qaG (X : Cx) (vs : List ResultVar) (r : RA) : RM Unit := match vs, r with
 | [v], r => qex X v fun x => qce X x r qam
 | vs, .tup rs => qek X vs rs qam
 | _, _ => .fail
def x6 : Nat -> List RA -> List (Nat × Option AV)
 | _, [] => []
 | i, .pv x :: r => (i, some (.pv x)) :: x6 (i + 1) r
 | i, _ :: r => x6 (i + 1) r
def Vv : List RA -> Bool
 | [] => true
 | .pv _ :: r => Vv r
 | _ :: _ => false
section
variable {α : Type} {P : Program} {X : Cx} {L : Pl} {F : Nat -> Prop} {β : Nat -> Option Bk} {σ : St} {a : Act} {w : World} {C : FuncId -> List RA -> RA -> List RA -> Prop} {b : α} {l : List Lc}
def rv (tmps : Array Value) : ResultVar -> Sem Value
 | .tmp t => pure (tmps.getD t undef)
 | .cell p t => do loadVar t (<- asAddr (tmps.getD p undef))
theorem ZS (hX : Cok P X L) (S : Sim L F β σ a w) {v : ResultVar} {k : AV -> RM α} (h : (qex X v k).runs C σ b l) : ∃ x u l', (k x).runs C σ b l' /\ qq β (Mut L.A0 β σ) w x u /\ (rv a.tmps v).run P w = .ok u w := by
 cases v with
 | tmp t =>
  obtain ⟨x, l', h1, rfl, h2⟩ := h
  exact ⟨x, _, l', h2, S.slots t x h1, rfl⟩
 | cell p t =>
  obtain ⟨x, l', h1, rfl, h2⟩ := h
  obtain ⟨y, u, l2, h3, h4, h5⟩ := Un hX S (S.slots p x h1) h2
  refine ⟨y, u, l2, h3, h4, ?_⟩
  have hp := S.slots p x h1
  have e : ∃ ad, slot a p = .pointer (some ad) := by
   obtain ⟨ti, ht, h6⟩ := ql h2
   cases x with
   | pv x =>
    cases x with
    | p xs => obtain ⟨ad, us, e, -⟩ := ZJ hp; exact ⟨ad, e⟩
    | _ => exact h6.elim
   | ref n i j => obtain ⟨kk, bk, -, -, e⟩ := vH hp; exact ⟨_, e⟩
   | _ => exact h6.elim
  obtain ⟨ad, e⟩ := e
  rw [e] at h5
  have e' : a.tmps.getD p undef = .pointer (some ad) := e
  simp only [rv, e', asAddr, Sem.run_bind, Sem.run_pure, Result.andThen_ok]
  simpa [Instr.loadAt, Instr.sureAddr] using h5
def bl (β : Nat -> Option Bk) (n : Nat) : List Nat := match β n with | some k => k.blk.toList | none => []
theorem Zi (hX : ∀ α f, X.h α f = f ()) (S : Sim L F β σ a w) {x : AV} {u : Value} {r : RA} {k : List Nat -> List Nat -> RM α} (hx : qq β (Mut L.A0 β σ) w x u) (h : (qce X x r k).runs C σ b l) :
  ∃ os ns l', (k os ns).runs C σ b l' /\ (∀ n ∈ os, ∃ o, σ.obj n = some o /\ o.sh = false) /\ ∀ A', zn β (Mut L.A0 β σ) A' ns -> uG A' w r u (os.flatMap (bl β)) := by
 unfold qce at h
 split at h
 ·obtain ⟨z, ns, l', h', hz⟩ := zr hX S xC hx h
  obtain ⟨h1, h2⟩ := h'
  have h1 := h1 ()
  subst h1
  exact ⟨[], ns, l', h2, by simp, fun A' hA => .pv (hz A' hA)⟩
 ·split at h
  ·have := vF hx
   subst this
   exact ⟨[], [], _, h, by simp, fun A' hA => .nil⟩
  ·exact Y5
 ·split at h
  ·rename_i n
   obtain ⟨o, l2, ho, -, h⟩ := h
   rcases o with ⟨e', s', ys, _ | _⟩ | ⟨e', ys, _ | _⟩ | ⟨e', bs, _ | _⟩ | ⟨_, _, _⟩ | ⟨_, _, _⟩
   ·obtain ⟨h1, h⟩ := h
    obtain ⟨rfl, rfl, rfl⟩ := h1 ()
    obtain ⟨kk, hk, rfl⟩ := jW hx
    obtain ⟨k', us, q1, q2, q3, q4, q5, q6, q7, q8, q9⟩ := (S.objs n _ ho).row_mem
    rw [hk] at q1; cases q1
    refine ⟨[n], [], l2, h, by simpa using ⟨_, ho, rfl⟩, fun A' hA => ?_⟩
    have hb : bl β n = kk.v.ownBlock.toList := by
     simp only [bl, hk]
     cases hbk : kk.blk with
     | none =>
      obtain ⟨-, hv⟩ := (S.objs n _ ho).nil_row hk hbk
      rw [hv]; rfl
     | some bk =>
      obtain ⟨hv, -⟩ := q9 bk hbk
      rw [hv]; rfl
    simp only [List.flatMap_cons, List.flatMap_nil, List.append_nil, hb]
    exact .own q3 (q4.stay (hA.stays w)) q5 q6 q8
   all_goals exact h.elim
  ·obtain ⟨h1, h2⟩ := h
   obtain ⟨h3, h4⟩ := h1 ()
   have h5 := vF hx
   subst h5
   subst h4
   exact ⟨[], [], _, h2, by simp, fun A' hA => .own (us := []) h3 .nil Y77 Y77 (World.ownsRow_nil _ _ _ _)⟩
  ·exact Y5
 ·exact Y5
theorem WG (hX : Cok P X L) (S : Sim L F β σ a w) : ∀ {vs : List ResultVar} {rs : List RA} {k : List Nat -> List Nat -> RM α} {l : List Lc}, (qek X vs rs k).runs C σ b l ->
  ∃ us os ns l', (k os ns).runs C σ b l' /\ (vs.mapM (rv a.tmps)).run P w = .ok us w /\ us.length = vs.length /\ (∀ n ∈ os, ∃ o, σ.obj n = some o /\ o.sh = false) /\ ∀ A', zn β (Mut L.A0 β σ) A' ns -> jz A' w rs us (os.flatMap (bl β)) := by
 intro vs
 induction vs with
 | nil =>
  intro rs k l h
  cases rs with
  | nil => exact ⟨[], [], [], l, h, by simp, rfl, by simp, fun A' _ => .nil⟩
  | cons _ _ => exact h.elim
 | cons v vs ih =>
  intro rs k l h
  cases rs with
  | nil => exact h.elim
  | cons r rs =>
   obtain ⟨x, u, l1, h, hx, hr⟩ := ZS hX S h
   obtain ⟨os, ns, l2, h, h1, h2⟩ := Zi hX.h S hx h
   obtain ⟨us, os', ns', l3, h, h3, h4, h5, h6⟩ := ih h
   refine ⟨u :: us, os ++ os', ns ++ ns', l3, h, by simp [hr, h3], by simp [h4], fun n hn => (List.mem_append.1 hn).elim (h1 n) (h5 n), fun A' hA => ?_⟩
   rw [List.flatMap_append]
   exact .cons (h2 A' hA.app.1) (h6 A' hA.app.2)
theorem YJ : ∀ {ns os : List Nat}, qdw ns os = false -> ∀ n ∈ os, n ∉ ns
 | ns, x :: os, h, n, hn => by
  simp only [qdw, Bool.or_eq_false_iff] at h
  rcases List.mem_cons.1 hn with rfl | hn
  ·intro hm; rw [Q8.2 hm] at h; cases h.1
  ·exact YJ h.2 n hn
theorem XJ (S : Sim L F β σ a w) : ∀ {os : List Nat}, os.Nodup -> (∀ n ∈ os, ∃ o, σ.obj n = some o /\ o.sh = false) -> (os.flatMap (bl β)).Nodup
 | [], _, _ => List.nodup_nil
 | n :: os, h, ho => by
  rw [List.nodup_cons] at h
  rw [List.flatMap_cons, List.nodup_append]
  refine ⟨?_, XJ S h.2 fun m hm => ho m (List.mem_cons_of_mem _ hm), ?_⟩
  ·unfold bl
   split
   ·rename_i k _
    cases k.blk <;> simp
   ·simp
  ·intro x hx y hy e
   subst e
   obtain ⟨m, hm, hy⟩ := List.mem_flatMap.1 hy
   obtain ⟨o, q1, -⟩ := ho n List.mem_cons_self
   obtain ⟨o', q2, -⟩ := ho m (List.mem_cons_of_mem _ hm)
   unfold bl at hx hy
   split at hx
   ·rename_i k hk
    split at hy
    ·rename_i k' hk'
     have := S.inj n m o o' k k' x q1 q2 hk hk' (by simpa using hx) (by simpa using hy)
     subst this
     exact h.1 hm
    ·cases hy
   ·cases hx
theorem ZP (S : Sim L F β σ a w) (hbs : L.bs = []) {os ns : List Nat} {q : Unit} (h : (qam os ns).runs C σ q l) (ho : ∀ n ∈ os, ∃ o, σ.obj n = some o /\ o.sh = false) :
  (os.flatMap (bl β)).Nodup /\ (∀ b ∈ os.flatMap (bl β), L.w0.heap.size <= b /\ b < w.heap.size) /\ zn β (Mut L.A0 β σ) (fun b => (L.A0 b /\ b ∉ ([] : List Nat)) ∨ b ∈ os.flatMap (bl β) ++ []) ns := by
 unfold qam at h
 split at h
 ·rename_i hc
  simp only [Bool.and_eq_true, Bool.not_eq_true'] at hc
  obtain ⟨sh, l2, h, hs, -⟩ := zq h
  have key : ∀ b ∈ os.flatMap (bl β), ∃ n o k, n ∈ os /\ σ.obj n = some o /\ o.sh = false /\ β n = some k /\ k.blk = some b := by
   intro b hb
   obtain ⟨n, hn, hb⟩ := List.mem_flatMap.1 hb
   obtain ⟨o, q1, q2⟩ := ho n hn
   unfold bl at hb
   split at hb
   ·rename_i k hk
    exact ⟨n, o, k, hn, q1, q2, hk, by simpa using hb⟩
   ·cases hb
  refine ⟨XJ S (vj hc.1) ho, fun b hb => ?_, ⟨?_, ?_⟩⟩
  ·obtain ⟨n, o, k, -, q1, -, q3, q4⟩ := key b hb
   obtain ⟨k', h5, h6⟩ := (S.objs n o q1).bound
   rw [q3] at h5; cases h5
   refine ⟨?_, h6 b q4⟩
   rcases S.low n o k b q1 q3 q4 with h | h
   ·rw [hbs] at h; cases h
   ·exact h
  ·rintro b (⟨h, -⟩ | hb)
   ·exact .inl h
   ·obtain ⟨n, o, k, -, q1, q2, q3, q4⟩ := key b Y72
    exact .inr ⟨n, o, k, q1, q2, q3, q4⟩
  ·rintro n hn k b hk hb (⟨h0, -⟩ | hb2)
   ·obtain ⟨o, q1, -⟩ := hs n hn
    have := S.a0 b h0
    rcases S.low n o k b q1 hk hb with h | h
    ·exact this.2 h
    ·omega
   ·obtain ⟨m, o, k', hm, q1, -, q3, q4⟩ := key b (by simpa using hb2)
    obtain ⟨o', q5, -⟩ := hs n hn
    have := S.inj n m o' o k k' b q5 q1 hk q3 hb q4
    subst this
    exact YJ hc.2 n hm hn
 ·exact Y5
theorem Zy {fn : Func} {tmps : Array Value} {us : List Value} (h : (fn.results.toList.mapM (rv tmps)).run P w = .ok us w) (hl : us.length = fn.results.toList.length) : (results fn tmps).run P w = .ok (Yj us) w := by
 have e : (fn.results.mapM (rv tmps)).run P w = .ok us.toArray w := by
  rw [Array.mapM_eq_mapM_toList]
  simp [h]
 have e0 : results fn tmps = ((fn.results.mapM (rv tmps)) >>= fun vs => (pure (if h : vs.size = 1 then vs[0] else .tuple vs) : Sem Value)) := by
  unfold results
  congr 1
 rw [e0, Sem.run_bind, e]
 simp only [Result.andThen_ok, Sem.run_pure]
 congr 1
 cases us with
 | nil => simp [Yj]
 | cons u us =>
  cases us with
  | nil => simp [Yj]
  | cons u' us => simp [Yj]
theorem qaw (hX : Cok P X L) (S : Sim L F β σ a w) (hbs : L.bs = []) {fn : Func} {r : RA} {q : Unit} (h : (qaG X fn.results.toList r).runs C σ q l) :
  ∃ v b1, (results fn a.tmps).run P w = .ok v w /\ uG (fun b => (L.A0 b /\ b ∉ ([] : List Nat)) ∨ b ∈ b1 ++ []) w r v b1 /\ b1.Nodup /\ ∀ b ∈ b1, L.w0.heap.size <= b /\ b < w.heap.size := by
 generalize hvs : fn.results.toList = vs at h
 have one : ∀ {v : ResultVar}, vs = [v] -> (qex X v fun x => qce X x r qam).runs C σ q l -> ∃ v b1, (results fn a.tmps).run P w = .ok v w /\ uG (fun b => (L.A0 b /\ b ∉ ([] : List Nat)) ∨ b ∈ b1 ++ []) w r v b1 /\ b1.Nodup /\ ∀ b ∈ b1, L.w0.heap.size <= b /\ b < w.heap.size := by
  rintro v rfl h
  obtain ⟨x, u, l1, h, hx, hr⟩ := ZS hX S h
  obtain ⟨os, ns, l2, h, h1, h2⟩ := Zi hX.h S hx h
  obtain ⟨g1, g2, g3⟩ := ZP S hbs h h1
  exact ⟨u, _, Zy (us := [u]) (by rw [hvs]; simp [hr]) (by rw [hvs]; rfl), h2 _ g3, g1, g2⟩
 have many : ∀ {rs : List RA}, r = .tup rs -> vs.length ≠ 1 -> (qek X vs rs qam).runs C σ q l -> ∃ v b1, (results fn a.tmps).run P w = .ok v w /\ uG (fun b => (L.A0 b /\ b ∉ ([] : List Nat)) ∨ b ∈ b1 ++ []) w r v b1 /\ b1.Nodup /\ ∀ b ∈ b1, L.w0.heap.size <= b /\ b < w.heap.size := by
  rintro rs rfl hne h
  obtain ⟨us, os, ns, l2, h, h1, h2, h3, h4⟩ := WG hX S h
  obtain ⟨g1, g2, g3⟩ := ZP S hbs h h3
  have hr := Zy (us := us) (by rw [hvs]; exact h1) (by rw [hvs]; exact h2)
  have e : Yj us = Value.tuple us.toArray := by
   rcases us with _ | ⟨u, _ | ⟨u', us⟩⟩
   ·rfl
   ·rw [<- h2] at hne; exact absurd rfl hne
   ·rfl
  rw [e] at hr
  exact ⟨_, _, hr, .tup (h4 _ g3), g1, g2⟩
 unfold qaG at h
 split at h
 ·exact one rfl h
 ·rename_i hne
  exact many rfl (fun e => by
   obtain ⟨v, hv⟩ := List.length_eq_one_iff.1 e
   exact hne v hv) h
 ·exact Y5
theorem XR : ∀ {as : List RA} {i s : Nat} {x : AV}, qy (x6 i as) s = some (some x) -> i <= s /\ ∃ y, as[s - i]? = some (.pv y) /\ x = .pv y
 | r :: as, i, s, x, h => by
  have go : qy (x6 (i + 1) as) s = some (some x) -> i <= s /\ ∃ y, (r :: as)[s - i]? = some (.pv y) /\ x = .pv y := fun h => by
   obtain ⟨h1, y, h2, h3⟩ := XR h
   exact ⟨by omega, y, by rw [show s - i = (s - (i + 1)) + 1 by omega]; simpa using h2, h3⟩
  cases r with
  | pv y =>
   simp only [x6, qy] at h
   split at h
   ·rename_i e
    subst e
    cases h
    exact ⟨Nat.le_refl _, y, by simp, rfl⟩
   ·exact go h
  | _ => exact go h
theorem Wg {A : Nat -> Prop} : ∀ {as : List RA} {us : List Value} {bs : List Nat}, Vv as = true -> jz A w as us bs -> bs = [] /\ ∀ (i : Nat) (y : PV), as[i]? = some (RA.pv y) -> ∃ u, us[i]? = some u /\ qR A w y u
 | [], _, _, _, .nil => ⟨rfl, by simp⟩
 | .pv x :: as, _, _, h, .cons (.pv h1) h2 => by
  obtain ⟨h3, h4⟩ := Wg (as := as) h h2
  refine ⟨by rw [h3]; rfl, fun i y hi => ?_⟩
  cases i with
  | zero => simp at hi; subst hi; exact ⟨_, rfl, h1⟩
  | succ i => simp at hi; obtain ⟨u, g1, g2⟩ := h4 i y hi; exact ⟨u, by simpa using g1, g2⟩
 | .nil :: _, _, _, h, _ => by cases h
 | .own _ _ _ :: _, _, _, h, _ => by cases h
 | .hp _ _ _ :: _, _, _, h, _ => by cases h
 | .tup _ :: _, _, _, h, _ => by cases h
 | .any :: _, _, _, h, _ => by cases h
theorem qfP {A : Nat -> Prop} : ∀ {us : List Value} {as : List RA}, as.length = us.length -> jz A w (as.map fun _ => RA.any) us []
 | [], [], _ => .nil
 | u :: us, _ :: as, h => .cons (b := []) (bs := []) .any (qfP Y60)
theorem Wy {as : List RA} (h : Vv as = true) : qeT as = true := by
 unfold qeT
 split
 ·cases h
 ·rfl
def Lq (P : Program) (T : TypeId -> Option TI) : Prop := ∀ t ti, T t = some ti -> P.underlying t = some ti.desc /\ ∃ i, P.info? t = some i /\ i.size = ti.size /\ i.bytes = ti.bytes /\ ∀ z, ti.zero = some z -> i.zero = some (z ()) /\ okV (z ()) = true /\ (z ()).cells.size = ti.size
theorem enters_of {f : FuncId} {fn : Func} (hf : P.funcs[f]? = some fn) (hb : fn.body.isNone = false) (hn : (fn.name == "runtime.NumGoroutine") = false) : Jy P f := by
 intro args w
 simp only [callFunc, Sem.run_bind, run_program, Result.andThen_ok, hf, hn, hb]
 rfl
theorem qaU {T : TypeId -> Option TI} {G : Gv} {f : FuncId} {fn : Func} {code : Code} {as : List RA} {res : RA} (h : (α : Type) -> (Unit -> α) -> α) (hh : ∀ α g, h α g = g ()) (hm : P.follows .mixedOrders = true) (hT : Lq P T)
  (hf : P.funcs[f]? = some fn) (hb : fn.body = some code) (hn : (fn.name == "runtime.NumGoroutine") = false) (N : Nat) (hN : fn.ntmps = N) (hN1 : N <= 1000) (has : Vv as = true) (hlen : as.length <= N) (J : List Nat)
  (vc : ∀ C, (∀ f as r ys, Con P G f as r ys -> C f as r ys) -> za ⟨h, T, G.val, N, J⟩ C code (fun e σ => (e = .n ∨ e = .r) /\ (qaG ⟨h, T, G.val, N, J⟩ fn.results.toList res).vc C σ fun _ _ => True) ⟨x6 0 as, []⟩) : Con P G f as res (as.map fun _ => .any) := by
 refine .mk' (Wy has) ⟨enters_of hf (by rw [hb]; rfl) hn, fun w vals bs A hA hbs hnd henv hreps => ?_⟩
 obtain ⟨rfl, hargs⟩ := Wg has hreps
 have hlen' := hreps.length
 refine calls_of_wp hf hb ?_
 let L : Pl := ⟨G, N, w, [], A, fun _ => none⟩
 have hX : Cok P ⟨h, T, G.val, N, J⟩ L := ⟨hh, hT, rfl, rfl, hN1⟩
 have hM : Mut A (fun _ => none) ⟨x6 0 as, []⟩ = A := by
  funext b
  apply propext
  constructor
  ·rintro (h | ⟨n, o, k, h1, -⟩)
   ·exact h
   ·cases h1
  ·exact .inl
 have S : Sim L (fun _ => False) (fun _ => none) ⟨x6 0 as, []⟩ { tmps := vals.toArray ++ Array.replicate (fn.ntmps - vals.toArray.size) undef, defers := [] } w := by
  refine ⟨?_, rfl, ?_, fun n o h => (by cases h), fun n k h => (by cases h), fun n h => h.elim, fun n m o o' k k' b h => (by cases h), fun n o k b h => (by cases h), Fr.refl _ _, ?_, fun b hb => ⟨hA b hb, List.not_mem_nil⟩, fun n k h => (by cases h)⟩
  ·simp [L, hN]; omega
  ·intro s x hx
   obtain ⟨-, y, h1, rfl⟩ := XR (zV hx)
   obtain ⟨u, h2, h3⟩ := hargs s y Y74
   have hs : s < vals.length := by
    rcases Nat.lt_or_ge s vals.length with h | h
    ·exact h
    ·rw [List.getElem?_eq_none h] at h2; cases h2
   have e : slot { tmps := vals.toArray ++ Array.replicate (fn.ntmps - vals.toArray.size) undef, defers := [] } s = u := by
    simp only [slot, Array.getD_eq_getD_getElem?]
    rw [Array.getElem?_append_left (by simpa using hs)]
    simp [h2]
   rw [e]
   show qq _ (Mut A _ _) w _ _
   rw [hM]
   exact .pv h3
  ·show Env _ (Mut A _ _) w
   rw [hM]
   exact henv
 have hcode := W5 hX (C := Con P G) (fun _ _ _ _ h => h) hm code S (vc _ fun _ _ _ _ h => h)
 refine wp_mono hcode ?_
 rintro e a' w' ⟨x, β', σ', he, S', hxt, hv⟩
 obtain ⟨q, l, hr, -⟩ := RM.runs_of_vc hv
 obtain ⟨v, b1, h1, h2, h3, h4⟩ := qaw hX S' rfl hr
 have post : ∃ v, (results fn a'.tmps).run P w' = .ok v w' /\ ∃ v' b1 b2, Ending.returned v = .returned v' /\ uG (fun b => (A b /\ b ∉ ([] : List Nat)) ∨ b ∈ b1 ++ b2) w' res v' b1 /\ jz (fun b => (A b /\ b ∉ ([] : List Nat)) ∨ b ∈ b1 ++ b2) w' (as.map fun _ => RA.any) vals b2 /\
   (b1 ++ b2).Nodup /\ (∀ b ∈ b1 ++ b2, (b ∈ ([] : List Nat) ∨ w.heap.size <= b) /\ b < w'.heap.size) /\ Fr [] w w' :=
  ⟨v, h1, v, b1, [], rfl, h2, qfP hlen', by simpa using h3, fun b hb => by have := h4 b Y72; exact ⟨.inr this.1, this.2⟩, S'.fr⟩
 rcases hxt with rfl | rfl
 ·cases e <;> simp only [Exit.xt, Option.some.injEq, reduceCtorEq] at he
  exact ⟨S'.defs, post⟩
 ·cases e <;> simp only [Exit.xt, Option.some.injEq, reduceCtorEq] at he
  exact ⟨S'.defs, post⟩
end
end Go.Bl
namespace Go.Bl
open Go.RowKit
section
variable {α : Type} {P : Program} {X : Cx} {L : Pl} {F : Nat -> Prop} {β : Nat -> Option Bk} {σ : St} {a : Act} {w : World} {C : FuncId -> List RA -> RA -> List RA -> Prop} {b : α} {l : List Lc}
end
end Go.Bl
namespace Go.Bl
open Go.RowKit
def zz (d : TypeDesc) (z : Option Value) : Option (Unit -> Value) := match d with
 | .tuple _ => none
 | _ => match z with
  | some z => some fun _ => z
  | none => none
def tyL (ts : List TypeInfo) (t : TypeId) : Option TI := match ts[t]? with
 | none => none
 | some i => match i.desc with
  | .named _ u => match ts[u]? with
   | none => none
   | some j => some ⟨i.size, i.bytes, zz j.desc i.zero, j.desc⟩
  | d => some ⟨i.size, i.bytes, zz d i.zero, d⟩
def zzB (ti : TI) : Bool := match ti.zero with
 | none => true
 | some z => okV (z ()) && (z ()).cells.size == ti.size
theorem qeY {P : Program} {ts : List TypeInfo} (h : P.types.toList = ts) (hz : (List.range ts.length).all (fun k => (tyL ts k).all zzB) = true) : Lq P (tyL ts) := by
 intro t ti ht
 have hi : ∀ t i, ts[t]? = some i -> P.info? t = some i := fun t i e => by
  have hs : t < P.types.size := by
   rw [<- h] at e
   rcases Nat.lt_or_ge t P.types.size with h' | h'
   ·exact h'
   ·rw [List.getElem?_eq_none (by simpa using h')] at e; cases e
  unfold Tables.info?
  rw [if_pos hs, <- e, <- h, Array.getElem?_toList]
 have hlt : t < ts.length := by
  rcases Nat.lt_or_ge t ts.length with h | h
  ·exact h
  ·simp only [tyL, List.getElem?_eq_none h] at ht; cases ht
 have h2 : zzB ti = true := by
  have := List.all_eq_true.1 hz t (List.mem_range.2 hlt)
  rw [ht] at this
  simpa using this
 have hz2 : ∀ z, ti.zero = some z -> okV (z ()) = true /\ (z ()).cells.size = ti.size := fun z e => by
  simp only [zzB, e, Bool.and_eq_true, beq_iff_eq] at h2
  exact h2
 have hzz : ∀ (d : TypeDesc) (z : Option Value) (f : Unit -> Value), zz d z = some f -> z = some (f ()) := by
  intro d z f e
  cases d <;> cases z <;> simp only [zz, Option.some.injEq, reduceCtorEq] at e <;> subst e <;> rfl
 unfold tyL at ht
 split at ht
 ·cases ht
 ·rename_i i e1
  split at ht
  ·rename_i nm u e2
   split at ht
   ·cases ht
   ·rename_i j e3
    cases ht
    refine ⟨?_, i, hi _ _ e1, rfl, rfl, fun z e => ⟨hzz _ _ _ e, hz2 z e⟩⟩
    unfold Program.underlying
    rw [hi _ _ e1]
    cases i
    cases e2
    simp [hi _ _ e3]
  ·rename_i e2
   cases ht
   refine ⟨?_, i, hi _ _ e1, rfl, rfl, fun z e => ⟨hzz _ _ _ e, hz2 z e⟩⟩
   unfold Program.underlying
   rw [hi _ _ e1]
   cases i with
   | mk desc => cases desc <;> first | rfl | exact absurd rfl (e2 _ _)
def tyT (Q : Tables) (t : TypeId) : Option TI := tyL Q.types.toList t
theorem qeN {P : Program} {Q : Tables} (h : P.toTables = Q) (hz : (List.range Q.types.toList.length).all (fun k => (tyL Q.types.toList k).all zzB) = true) : Lq P (tyT Q) := qeY (by rw [<- h]) hz
end Go.Bl
namespace Go.Bl
open Go.RowKit
abbrev Hh := (α : Type) -> (Unit -> α) -> α
abbrev iH (h : Hh) (n : Int) : PV := .v (.int .i64 (h _ fun _ => n))
abbrev kH (h : Hh) (k : IntKind) (n : Int) : PV := .v (.int k (h _ fun _ => n))
@[simp] def nI (n : Nat) : Int := n
abbrev nH (h : Hh) (n : Nat) : PV := .v (.int .i64 (h _ fun _ => nI n))
abbrev tH (h : Hh) (b : Bool) : PV := .v (.bool (h _ fun _ => b))
abbrev lH (h : Hh) {α : Type} (f : α -> PV) (xs : List α) : PV := .l (h _ fun _ => xs.map f)
abbrev aH (h : Hh) {α : Type} (f : α -> PV) (xs : List α) : PV := .a (h _ fun _ => xs.map f)
abbrev bH (h : Hh) (xs : List UInt8) : PV := lH h u8P xs
def bP (xs : List UInt8) : PV := .l (xs.map u8P)
def iP (n : Int) : PV := .v (.int .i64 n)
theorem qdj {s : Nat} {α : Type} (f : α -> PV) (xs : List α) (hf : ∀ x, (f x).cells.length = s) : xD s (xs.map f) := by
 intro x hx; obtain ⟨y, -, rfl⟩ := List.mem_map.1 hx; exact hf y
@[simp] theorem allW_u8 (xs : List UInt8) : xD 1 (xs.map u8P) := qdj _ _ fun _ => rfl
@[simp] theorem allW_nil (s : Nat) : xD s [] := by intro x hx; cases hx
@[simp] theorem allW_cons (s : Nat) (x : PV) (xs : List PV) : xD s (x :: xs) ↔ x.cells.length = s /\ xD s xs := List.forall_mem_cons
@[simp] theorem allW_take {s n : Nat} {xs : List PV} (h : xD s xs) : xD s (xs.take n) := fun x hx => h x (List.mem_of_mem_take hx)
@[simp] theorem allW_drop {s n : Nat} {xs : List PV} (h : xD s xs) : xD s (xs.drop n) := fun x hx => h x (List.mem_of_mem_drop hx)
@[simp] theorem allW_append (s : Nat) (xs ys : List PV) : xD s (xs ++ ys) ↔ xD s xs /\ xD s ys := List.forall_mem_append
@[simp] theorem cells_v (x : Value) : (PV.v x).cells = [.v x] := by cases x <;> rfl
@[simp] theorem cells_l (x : List PV) : (PV.l x).cells = [.l x] := rfl
@[simp] theorem cells_a (x : List PV) : (PV.a x).cells = x := rfl
@[simp] theorem maxLen_is : maxLen = 9223372036854775807 := rfl
@[simp] theorem allW_f {s : Nat} {α : Type} (f : α -> PV) (xs : List α) : xD s (xs.map f) ↔ ∀ x ∈ xs, (f x).cells.length = s := by simp [xD]
theorem wrap_i64 {x : Int} (h1 : -9223372036854775808 <= x) (h2 : x <= 9223372036854775807) : IntKind.i64.wrap x = x := by
 exact Y20
theorem qS {x : Int} (h1 : 0 <= x) (h2 : x <= 18446744073709551615) : IntKind.u64.wrap x = x := by
 exact Y20
theorem qbD {x : Int} (h1 : 0 <= x) (h2 : x <= 4294967295) : IntKind.u32.wrap x = x := by
 exact Y20
theorem LG {x : Int} (h1 : 0 <= x) (h2 : x <= 255) : IntKind.u8.wrap x = x := by
 exact Y20
@[simp] theorem v_eq_u8P {n : Int} {b : UInt8} : PV.v (.int .u8 n) = u8P b ↔ n = b.toNat := by
 constructor
 ·intro h; simpa [u8P, u8v] using h
 ·rintro rfl; rfl
@[simp] theorem ex_u8P (c : UInt8) : ∃ b, u8P c = u8P b := ⟨c, rfl⟩
@[simp] theorem ex_toNat {n : Int} : (∃ b : UInt8, n = (b.toNat : Int)) ↔ 0 <= n /\ n < 256 :=
 ⟨fun ⟨b, e⟩ => by have := b.toNat_lt; omega, fun h => ⟨UInt8.ofNat n.toNat, by rw [UInt8.toNat_ofNat']; omega⟩⟩
@[simp] theorem splice_all {α : Type} {xs ys : List α} (h : xs.length = ys.length) : splice 0 xs ys = xs := by simp [splice, h]
attribute [simp] List.take_of_length_le Cx.exA Cx.exS Cx.ex1 PV.int PV.els PV.bool PV.str PV.val Value.cells bP iP
@[simp] theorem u8P_w (b : UInt8) : (u8P b).cells.length = 1 := rfl
@[simp] theorem bP_w (xs : List UInt8) : (bP xs).cells.length = 1 := rfl
theorem qK {a b : Nat} (h : (a : Int) < (b : Int)) : a < b := Int.ofNat_lt.1 h
theorem ge_nat {a b : Nat} (h : ¬ (a : Int) < (b : Int)) : b <= a := Nat.le_of_not_lt fun q => h (Int.ofNat_lt.2 q)
@[simp] theorem byteP_u8 (b : UInt8) : uJ (u8P b) = b := by simp [uJ, u8P, u8v]
@[simp] theorem byteP_comp : uJ ∘ u8P = id := by funext b; simp
@[simp] theorem twoB_u8 {n : Nat} {te : TI} {xs ys : List UInt8} : qbs n te (xs.map u8P) (ys.map u8P) ↔ te.size = 1 /\ xs.length = n /\ ys.length = n := by
 simp only [qbs, List.length_map]
 constructor
 ·rintro ⟨h1, h2, h3, -⟩; exact ⟨h1, h2, h3⟩
 ·rintro ⟨h1, h2, h3⟩
  exact ⟨h1, h2, h3, fun x hx => by obtain ⟨b, -, rfl⟩ := List.mem_map.1 hx; exact ⟨b, rfl⟩, fun x hx => by obtain ⟨b, -, rfl⟩ := List.mem_map.1 hx; exact ⟨b, rfl⟩⟩
theorem natc (n : Nat) : (NatCast.natCast n : Int) = (n : Int) := rfl
theorem sg {p : Prop} (q : p := by first | rfl | (simp [hh, *] <;> (try and_intros) <;> first | rfl | omega | (norm_cast; omega) | (simp only [natc] at *; omega) | exact fun a _ => ⟨a, rfl⟩)) : p := q
theorem s0 {p : Prop} (q : p := by first | exact .inr trivial | exact .inr rfl) : p := q
theorem sq {p : Prop} (q : p := by first | assumption | exact ⟨rfl⟩ | exact sg) : PUnit -> p := fun _ => q
theorem sx {a b : Bool} {p : Prop} (q : ¬ a = b := by intro e; simp [hh] at e <;> (try simp only [natc] at *) <;> omega) : a = b -> p := fun e => absurd e q
theorem sy {a b : Bool} {p : Prop} (q : Ev a b -> p) : a = b -> p := fun e => q ⟨e⟩
theorem sz {a b : Bool} {p : Prop} (q : a = b -> False) : a = b -> p := fun e => (q e).elim
theorem sp {p : Prop} (q : p := by first | rfl | (cbv; done) | (cbv; simp only [hh]; rfl) | (cbv; simp [hh, *]; done) | (cbv; simp [hh, *]; rw [wrap_i64 Y44 Y44]; done) | (cbv; simp [hh, *]; rw [wrap_i64 Y44 Y44]; omega) | (cbv; simp [hh, *] <;> (try simp only [natc] at *) <;> (try rw [wrap_i64 Y44 Y44]) <;> omega)) : p := q
end Go.Bl
