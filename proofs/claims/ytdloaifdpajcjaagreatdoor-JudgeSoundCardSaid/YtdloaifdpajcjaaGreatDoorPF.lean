import Derived.Test.YtdloaifdpajcjaaGreatDoorPE
import Derived.OrdersIn
import Derived.Sort.LoopGhostIn
set_option linter.unusedVariables false
set_option linter.unusedSimpArgs false
namespace Go.Bl
open Go.RowKit
section
variable {α : Type} {P : Program} {X : Cx} {L : Pl} {F : Nat -> Prop} {β : Nat -> Option Bk} {σ : St} {a : Act} {w : World} {C : FuncId -> List RA -> RA -> List RA -> Prop} {b : α} {l : List Lc} {A : Nat -> Prop}
def qgF (P : Program) (L : Pl) (F : Nat -> Prop) (σ' : St) (a : Act) (ops : Array Oper) (o : Oper) (w : World) : Prop :=
 (Region.wanted o (yielded ops a.tmps) = true /\ Qm P L F σ' a o w) ∨ (Region.wanted o (yielded ops a.tmps) = false /\ ∃ β', Sim L F β' σ' (a.put o.dst undef) w)
theorem qb0 {a : Act} {s : Nat} {x : Bool} (h : slot a s = .bool x) : a.tmps[s]? = some (.bool x) := by
 unfold slot at h
 by_cases hs : s < a.tmps.size
 ·simp [Array.getD_eq_getD_getElem?, hs] at h
  simp [hs, h]
 ·simp [Array.getD_eq_getD_getElem?, hs, undef] at h
theorem Vq (hX : Cok P X L) (S : Sim L F β σ a w) {ops : Array Oper} {o : Oper} {out : Out} (h : (XM X ops o).runs C σ out l) (hd : ∀ d, o.dst = some d -> d < L.N /\ d < 1000) (hF : ∀ d, o.dst = some d -> ∀ n, n % 1000 = d -> F n)
  (hC : ∀ f as r ys, C f as r ys -> Con P L.G f as r ys) : qgF P L (fun n => F n /\ ∀ d, o.dst = some d -> n % 1000 ≠ d) (σ.put o.dst out) a ops o w := by
 unfold XM at h
 cases hg : o.guard with
 | none =>
  rw [hg] at h
  exact .inl ⟨by simp [Region.wanted, hg], Vp hX S h hd hF hC⟩
 | some jt =>
  obtain ⟨j, want⟩ := jt
  rw [hg] at h
  simp only at h
  split at h
  ·rename_i s hs
   obtain ⟨x, l1, hx, -, h⟩ := h
   unfold K5 at h
   split at h
   ·rename_i q
    obtain ⟨e, -⟩ := qW (S.slots s _ hx)
    have hy : yielded ops a.tmps j = some q := by simp [yielded, hs, qb0 e]
    cases q <;> cases want
    ·exact .inl ⟨by simp [Region.wanted, hg, hy], Vp hX S h hd hF hC⟩
    ·obtain ⟨rfl, -⟩ := h
     exact Y19
    ·obtain ⟨rfl, -⟩ := h
     exact Y19
    ·exact .inl ⟨by simp [Region.wanted, hg, hy], Vp hX S h hd hF hC⟩
   ·obtain ⟨rfl, -⟩ := h
    have hy : yielded ops a.tmps j = none := by
     have e : slot a s = .tuple #[] := by
      obtain ⟨us, e1, e2⟩ := qgz (S.slots s _ hx)
      cases e2
      exact e1
     unfold yielded
     rw [hs]
     simp only [Option.bind_some]
     by_cases hs' : s < a.tmps.size
     ·have : a.tmps[s]? = some (.tuple #[]) := by
       unfold slot at e
       simp [Array.getD_eq_getD_getElem?, hs'] at e
       simp [hs', e]
      rw [this]
     ·rw [Array.getElem?_eq_none (Nat.not_lt.1 hs')]
    exact Y19
   ·exact Y8
  ·exact Y8
theorem XK {γ : Type} {m : RM γ} {K : uj} {out : γ} {K' : uj} (h : (m.bind fun out => (.ret (out, K) : RM (γ × uj))).runs C σ (out, K') l) : m.runs C σ out l := by
 obtain ⟨a, l1, l2, h1, h2, rfl⟩ := RM.runs_bind h
 obtain ⟨e, rfl⟩ := h2
 cases e
 simpa using h1
theorem qbh {x : Operand} {K : uj} {out : Out} {K' : uj} (h : (evK X x fun y => (.ret (⟨some y, []⟩, K) : RM (Out × uj))).runs C σ (out, K') l) : (evK X x val).runs C σ out l := by
 cases x with
 | tmp s =>
  obtain ⟨y, l', h1, h2, e, e2⟩ := h
  cases e
  exact ⟨y, l', h1, h2, rfl, e2⟩
 | const v =>
  simp only [evK] at h ⊢
  split at h
  ·obtain ⟨e, e2⟩ := h
   cases e
   exact ⟨rfl, e2⟩
  ·exact Y8
 | global g =>
  simp only [evK] at h ⊢
  split at h
  ·obtain ⟨e, e2⟩ := h
   cases e
   exact ⟨rfl, e2⟩
  ·exact Y8
 | func f =>
  obtain ⟨e, e2⟩ := h
  cases e
  exact ⟨rfl, e2⟩
theorem yi {K : uj} {o : Oper} {out : Out} {K' : uj} (h : (opK X K o).runs C σ (out, K') l) : (opM X o).runs C σ out l := by
 unfold opK at h
 split at h
 ·rename_i s x y hop
  split at h
  ·rename_i c hc
   obtain ⟨u, l', hs, hl, h⟩ := h
   unfold opM
   rw [hop]
   refine ⟨_, l', hs, hl, ?_⟩
   dsimp only at h ⊢
   split at h
   ·rename_i q
    obtain ⟨h1, h⟩ := h
    have h1 : q = c := (h1 ()).out
    subst h1
    cases q
    ·exact qbh h
    ·exact qbh h
   ·exact Y8
  ·exact XK h
 ·exact XK h
theorem UP {ops : Array Oper} {K : uj} {o : Oper} {out : Out} {K' : uj} (h : (qa3 X ops K o).runs C σ (out, K') l) : (XM X ops o).runs C σ out l := by
 unfold qa3 at h
 unfold XM
 split at h
 ·rename_i hg
  exact yi h
 ·rename_i j want hg
  split at h
  ·rename_i s hs
   obtain ⟨a, l', h1, h2, h⟩ := h
   refine ⟨a, l', h1, h2, ?_⟩
   dsimp only at h
   split at h
   ·rename_i b
    unfold K5
    split at h
    ·rename_i c hc
     obtain ⟨h3, h⟩ := h
     have h3 : b = c := (h3 ()).out
     subst h3
     show RM.runs C σ _ out l'
     cases b <;> cases want
     ·exact yi h
     ·exact Y32
     ·exact Y32
     ·exact yi h
    ·cases b <;> cases want
     ·exact yi h
     ·exact Y32
     ·exact Y32
     ·exact yi h
   ·exact Y32
   ·exact Y8
  ·exact Y8
abbrev uS (r : Option Nat) : Fence := { Fence.wide with round := r }
theorem qhe {r : Option Nat} {n : Nat} {f : FuncId} {args : Array Value} {w : World} {R : Ending -> World -> Prop} (h : Calls P f args w R) : CallsIn (uS r) n P f args w R := by
 have := (callsIn_wide (n := n)).2 h
 exact this
theorem ZD {r : Option Nat} {n : Nat} {o : Oper} {K : Act -> World -> Prop} {Q : Exit -> Act -> World -> Prop} {Kv : Value -> World -> Prop} (h : qah P Kv ((execOp a.eval o).run P w)) (hK : ∀ v w', Kv v w' -> K (a.put o.dst v) w') : o.wpIn (uS r) n P a w K Q := by
 have hsem : o.semAt (uS r).round a.eval = execOp a.eval o := by
  by_cases hd : ∃ c, o.op = .defer c
  ·exfalso
   obtain ⟨c, hd⟩ := hd
   unfold execOp at h
   rw [hd] at h
   simp only [Sem.run_bind, Sem.run_pure] at h
   generalize (resolve a.eval c o.type).run P w = x at h
   cases x <;> exact h
  ·exact Oper.semAt_eq _ _ _ fun c e => hd ⟨c, e⟩
 unfold Oper.wpIn
 refine ⟨fun f _ => trivial, ?_⟩
 rw [hsem]
 generalize (execOp a.eval o).run P w = x at *
 cases x with
 | ok y w' =>
  cases y <;> simp only [Oper.uponIn_value, Oper.uponIn_skip, Oper.uponIn_enter, Oper.uponIn_row, qah] at h ⊢
  case value v => exact hK _ _ h
  case skip => exact hK _ _ h
  case enter f args =>
   refine ⟨fun h => by simp [uS, Fence.wide] at h, ?_⟩
   exact qhe (Calls.mono h fun e w he => by cases e <;> first | exact hK _ _ he | exact he.elim)
  case row row args =>
   refine ⟨fun h => by simp [uS, Fence.wide] at h, fun c cs _ => ?_⟩
   obtain ⟨v, w2, r, s⟩ := h c cs
   exact ⟨v, w2, hK _ _ r, stepsIn_wide.2 s⟩
 | halt x w' => exact h.elim
theorem Lu {r : Option Nat} {n : Nat} {ops : Array Oper} {o : Oper} {rest : List Oper} {F' : Nat -> Prop} {σ' : St} {Q : Exit -> Act -> World -> Prop} (h : qgF P L F' σ' a ops o w) (hk : ∀ β' a' w', Sim L F' β' σ' a' w' -> wpListIn (uS r) n P ops Q rest a' w') : wpListIn (uS r) n P ops Q (o :: rest) a w := by
 refine wpListIn_step fun K hK => ?_
 rcases h with ⟨hw, h⟩ | ⟨hw, β', h⟩
 ·rw [if_pos hw]
  exact ZD h fun v w' hv => by obtain ⟨β', hv⟩ := hv; exact hK _ _ (hk _ _ _ hv)
 ·rw [if_neg (by rw [hw]; simp)]
  exact ⟨fun f _ => trivial, hK _ _ (hk _ _ _ h)⟩
theorem zr {o : Oper} {ops : List Oper} {d : Nat} (h : o.dst = some d) : uy (o :: ops) = d :: uy ops := by simp [uy, h]
theorem xw {o : Oper} {ops : List Oper} (h : o.dst = none) : uy (o :: ops) = uy ops := by simp [uy, h]
theorem Q3 {o : Oper} {d : Nat} (hd : o.dst = some d) : ∀ {ops : List Oper}, o ∈ ops -> d ∈ uy ops := by
 intro ops
 induction ops with
 | nil => intro h; cases h
 | cons p ops ih =>
  intro h
  rcases List.mem_cons.1 h with rfl | h
  ·rw [zr hd]; exact List.mem_cons_self
  ·cases e : p.dst with
   | none => rw [xw e]; exact ih h
   | some d' => rw [zr e]; exact List.mem_cons_of_mem _ (ih h)
theorem qcl (hX : Cok P X L) (hC : ∀ f as r ys, C f as r ys -> Con P L.G f as r ys) {r : Option Nat} {nn : Nat} {ops : Array Oper} {Q : St -> Prop} {Q' : Exit -> Act -> World -> Prop} (hQ : ∀ β σ a w, Q σ -> Sim L (fun _ => False) β σ a w -> Q' .normal a w) :
  ∀ (rest : List Oper) {K : uj} {F : Nat -> Prop} {β : Nat -> Option Bk} {σ : St} {a : Act} {w : World}, Sim L F β σ a w -> (uy rest).Nodup -> (∀ d ∈ uy rest, d < L.N /\ d < 1000) -> (∀ d ∈ uy rest, ∀ n, n % 1000 = d -> F n) -> qaY X C ops rest K σ Q -> wpListIn (uS r) nn P ops Q' rest a w := by
 intro rest
 induction rest with
 | nil =>
  intro K F β σ a w S _ _ _ h
  exact wpListIn_nil (hQ β σ a w h (S.fewer fun _ h => h.elim))
 | cons o rest ih =>
  intro K F β σ a w S hn hd hF h
  unfold qaY at h
  obtain ⟨⟨out, K'⟩, l, h1, h2⟩ := RM.runs_of_vc h
  have h1 := UP h1
  have hdo : ∀ d, o.dst = some d -> d ∈ uy (o :: rest) := fun d e => by rw [zr e]; exact List.mem_cons_self
  have hok := Vq hX S h1 (fun d e => hd d (hdo d e)) (fun d e => hF d (hdo d e)) hC
  refine Lu hok fun β' a' w' S' => ?_
  refine ih S' ?_ ?_ ?_ h2
  ·cases e : o.dst with
   | none => rw [xw e] at hn; exact hn
   | some d => rw [zr e] at hn; exact (List.nodup_cons.1 hn).2
  ·intro d hm
   cases e : o.dst with
   | none => rw [xw e] at hd; exact hd d hm
   | some d' => rw [zr e] at hd; exact hd d (List.mem_cons_of_mem _ hm)
  ·intro d hm n hnd
   cases e : o.dst with
   | none =>
    rw [xw e] at hF
    exact ⟨hF d hm n hnd, fun d' e' => by cases e'⟩
   | some d' =>
    rw [zr e] at hF hn
    refine ⟨hF d (List.mem_cons_of_mem _ hm) n hnd, fun d'' e'' he => ?_⟩
    cases e''
    exact (List.nodup_cons.1 hn).1 (by rw [<- he, hnd]; exact hm)
mutual
theorem qq.less {β β' : Nat -> Option Bk} {p : Nat -> Bool} (hb : ∀ n k, β n = some k -> p n = false -> β' n = some k) : ∀ {x : AV} {u : Value}, x.has p = false -> qq β A w x u -> qq β' A w x u
 | _, _, _, .pv h => .pv h
 | _, _, _, .nil => .nil
 | _, _, hp, .ref h h1 => .ref (hb _ _ h Y64) h1
 | _, _, hp, .own h => .own (hb _ _ h Y64)
 | _, _, hp, .sl h h1 h2 h3 h5 => .sl (hb _ _ h Y64) h1 h2 h3 h5
 | _, _, _, .sl0 => .sl0
 | _, _, hp, .ag h h1 => .ag (qh.less hb Y64 h) h1
 | _, _, hp, .tup h => .tup (qh.less hb Y64 h)
 | _, _, hp, .fn h h1 => .fn (qh.less hb (by simp [AV.has] at hp; exact hp.1) h) (qh.less hb (by simp [AV.has] at hp; exact hp.2) h1)
theorem qh.less {β β' : Nat -> Option Bk} {p : Nat -> Bool} (hb : ∀ n k, β n = some k -> p n = false -> β' n = some k) : ∀ {xs : List AV} {us : List Value}, AV.hasL p xs = false -> qh β A w xs us -> qh β' A w xs us
 | _, _, _, .nil => .nil
 | _, _, hp, .cons h h1 => .cons (qq.less hb (by simp [AV.hasL] at hp; exact hp.1) h) (qh.less hb (by simp [AV.hasL] at hp; exact hp.2) h1)
end
theorem xO {p : Nat -> Bool} : ∀ {l : List (Nat × Option AV)} {s : Nat} {x : AV}, zD p l = false -> qp l s = some (some x) -> x.has p = false
 | (k, some y) :: l, s, x, h, hl => by
  simp only [zD, Bool.or_eq_false_iff] at h
  simp only [qp] at hl
  split at hl
  ·cases hl; exact h.1
  ·exact xO h.2 hl
 | (k, none) :: l, s, x, h, hl => by
  simp only [zD] at h
  simp only [qp] at hl
  split at hl
  ·cases hl
  ·exact xO h hl
theorem J9 {p : Nat -> Bool} : ∀ {l : List (Nat × Option Ob)} {n : Nat} {o : Ob}, vt p l = false -> qp l n = some (some o) -> p n = false /\ o.has p = false
 | (k, some y) :: l, n, o, h, hl => by
  simp only [vt, Bool.or_eq_false_iff] at h
  simp only [qp] at hl
  split at hl
  ·rename_i e; subst e; cases hl; exact ⟨h.1, h.2.1⟩
  ·exact J9 h.2.2 hl
 | (k, none) :: l, n, o, h, hl => by
  simp only [vt] at h
  simp only [qp] at hl
  split at hl
  ·cases hl
  ·exact J9 h hl
theorem jC {α : Type} {l : List (Nat × Option α)} {n : Nat} {x : α} (h : (qp l n).join = some x) : qp l n = some (some x) := by
 cases hl : qp l n with
 | none => rw [hl] at h; cases h
 | some y => rw [hl] at h; cases y with | none => cases h | some z => cases h; rfl
theorem Sim.free (S : Sim L F β σ a w) {ds : List Nat} (h : σ.fresh ds = true) : ∃ β', Sim L (fun n => n % 1000 ∈ ds) β' σ a w := by
 have hf : (zD (fun n => vd ds (n % 1000)) σ.slots = false /\ vt (fun n => vd ds (n % 1000)) σ.objs = false) /\ vd ds 999 = false /\ vd ds 998 = false := by
  unfold St.fresh at h
  simpa using h
 obtain ⟨⟨hs, ho⟩, h9, h8⟩ := hf
 let p : Nat -> Bool := fun n => vd ds (n % 1000)
 let β' : Nat -> Option Bk := fun n => if p n then none else β n
 have hb : ∀ n k, β n = some k -> p n = false -> β' n = some k := fun n k h1 h2 => by simp only [β', h2]; exact h1
 have hbk : ∀ n k, β' n = some k -> β n = some k := fun n k h => by
  simp only [β'] at h
  split at h
  ·cases h
  ·exact h
 have hob : ∀ n o, σ.obj n = some o -> p n = false /\ o.has p = false := fun n o h => J9 ho (jC h)
 have hM : Mut L.A0 β' σ = Mut L.A0 β σ := by
  funext c
  apply propext
  constructor
  ·rintro (h | ⟨n, o, k, h1, h2, h3, h4⟩)
   ·exact .inl h
   ·exact .inr ⟨n, o, k, h1, h2, hbk _ _ h3, h4⟩
  ·rintro (h | ⟨n, o, k, h1, h2, h3, h4⟩)
   ·exact .inl h
   ·exact .inr ⟨n, o, k, h1, h2, hb _ _ h3 (hob n o h1).1, h4⟩
 refine ⟨β', S.size, S.defs, ?_, ?_, fun n k h => S.one n k (hbk _ _ h), ?_, fun n m o o' k k' c h1 h2 h3 h4 => S.inj n m o o' k k' c h1 h2 (hbk _ _ h3) (hbk _ _ h4), fun n o k c h1 h2 => S.low n o k c h1 (hbk _ _ h2), S.fr, by rw [hM]; exact S.env, S.a0, fun n k hp => ⟨hb n k (S.pin n k hp).1 (by show vd ds (n % 1000) = false; rcases (S.pin n k hp).2 with e | e <;> rw [e] <;> assumption), (S.pin n k hp).2⟩⟩
 ·intro s x hx
  rw [hM]
  exact (S.slots s x hx).less hb (xO hs (jC hx))
 ·intro n o hn
  rw [hM]
  obtain ⟨h1, h2⟩ := hob n o hn
  have := S.objs n o hn
  cases o with
  | row e s xs sh => obtain ⟨k, us, q1, r⟩ := this; exact ⟨k, us, hb _ _ q1 h1, r⟩
  | var t xs sh => obtain ⟨k, us, c, q1, r⟩ := this; exact ⟨k, us, c, hb _ _ q1 h1, r⟩
  | box t cs sh => obtain ⟨k, us, c, q1, q2, q3, r⟩ := this; exact ⟨k, us, c, hb _ _ q1 h1, q2, q3.less hb h2, r⟩
  | mrow e xs sh => obtain ⟨k, bs, g, cur, fz, q1, r⟩ := this; exact ⟨k, bs, g, cur, fz, hb _ _ q1 h1, r⟩
  | map ks vs sh => obtain ⟨k, es, ck, c, us, q1, r⟩ := this; exact ⟨k, es, ck, c, us, hb _ _ q1 h1, r⟩
 ·intro n hn
  have : p n = true := Ju.2 hn
  simp only [β', this, if_true]
end
end Go.Bl
namespace Go.Bl
open Go.RowKit
section
variable {P : Program} {X : Cx} {L : Pl} {F : Nat -> Prop} {β : Nat -> Option Bk} {σ : St} {a : Act} {w : World} {C : FuncId -> List RA -> RA -> List RA -> Prop}
abbrev Tr := List (Out × List Lc)
def qaA (X : Cx) (C : FuncId -> List RA -> RA -> List RA -> Prop) (ops : Array Oper) : List Oper -> Tr -> St -> Prop
 | [], [], _ => True
 | o :: os, (out, l) :: t, σ => (XM X ops o).runs C σ out l /\ qaA X C ops os t (σ.put o.dst out)
 | _, _, _ => False
def YW : List Oper -> Tr -> St -> St
 | o :: os, (out, _) :: t, σ => YW os t (σ.put o.dst out)
 | _, _, σ => σ
def lgs : List Oper -> Tr -> List Lg
 | o :: os, (out, l) :: t => ⟨l, out.wr o.dst⟩ :: lgs os t
 | _, _ => []
theorem K9 {ops : Array Oper} {Q : St -> Prop} : ∀ {os : List Oper} {K : uj} {M : List Lg} {σ : St}, Vk X C ops os K M σ Q -> ∃ t, qaA X C ops os t σ /\ UW ops (M.reverse ++ lgs os t) = true /\ Q (YW os t σ) := by
 intro os
 induction os with
 | nil => intro K M σ h; exact ⟨[], trivial, by simpa [lgs] using h.1, h.2⟩
 | cons o os ih =>
  intro K M σ h
  unfold Vk at h
  obtain ⟨⟨out, K'⟩, l, h1, h2⟩ := RM.runs_of_vc h
  have h1 := UP h1
  obtain ⟨t, h3, h4, h5⟩ := ih h2
  exact ⟨(out, l) :: t, ⟨h1, h3⟩, by simpa [lgs] using h4, h5⟩
def stF (dn : Nat -> Bool) : Nat -> List Oper -> Tr -> St -> St
 | i, o :: os, (out, _) :: t, σ => stF dn (i + 1) os t (if dn i then σ.put o.dst out else σ)
 | _, _, _, σ => σ
theorem St.put_slot (σ : St) (d : Option Nat) (o : Out) (s : Nat) : (σ.put d o).slot s = if d = some s then o.val else σ.slot s := by
 by_cases h : d = some s
 ·subst h; rw [if_pos rfl]; exact St.slot_put_self
 ·rw [if_neg h]; exact St.slot_put_ne h
theorem St.put_obj (σ : St) (d : Option Nat) (o : Out) (n : Nat) : (σ.put d o).obj n = match qp o.objs n with | some x => x | none => σ.obj n := by
 have e : (σ.put d o).obj n = (σ.more o.objs).obj n := by cases d <;> rfl
 rw [e, St.more_obj]
 cases qp o.objs n <;> rfl
theorem qeR {σ τ : St} {c : Lc} (h : c.same σ τ) (d : Option Nat) (o : Out) : c.same (σ.put d o) (τ.put d o) := by
 cases c with
 | s n => simp only [Lc.same, St.put_slot] at h ⊢; rw [h]
 | o n => simp only [Lc.same, St.put_obj] at h ⊢; rw [h]
theorem UM {α : Type} : ∀ {l : List (Nat × α)} {n : Nat}, (∃ x, qp l n = some x) ↔ ∃ x ∈ l, x.1 = n
 | [], n => by simp [qp]
 | (k, x) :: l, n => by
  simp only [qp]
  by_cases h : n = k
  ·subst h
   exact ⟨fun _ => ⟨_, List.mem_cons_self, rfl⟩, fun _ => ⟨x, by simp⟩⟩
  ·rw [if_neg h, UM]
   constructor
   ·rintro ⟨y, h1, h2⟩; exact ⟨y, List.mem_cons_of_mem _ h1, h2⟩
   ·rintro ⟨y, h1, h2⟩
    rcases List.mem_cons.1 h1 with rfl | h1
    ·exact absurd h2.symm h
    ·exact ⟨y, h1, h2⟩
theorem JX {σ : St} {c : Lc} {d : Option Nat} {o : Out} (h : c ∉ o.wr d) : c.same (σ.put d o) σ := by
 cases c with
 | s n =>
  simp only [Lc.same, St.put_slot]
  rw [if_neg]
  rintro rfl
  exact h (by simp [Out.wr])
 | o n =>
  simp only [Lc.same, St.put_obj]
  cases hl : qp o.objs n with
  | none => rfl
  | some x =>
   obtain ⟨y, h1, h2⟩ := UM.1 ⟨x, hl⟩
   exact absurd (List.mem_append.2 (.inr (List.mem_map.2 ⟨y, h1, by rw [h2]⟩))) h
theorem qg2 {σ τ : St} {c : Lc} {d : Option Nat} {o : Out} (h : c ∈ o.wr d) : c.same (σ.put d o) (τ.put d o) := by
 cases c with
 | s n =>
  simp only [Lc.same, St.put_slot]
  have : d = some n := by
   unfold Out.wr at h
   rcases List.mem_append.1 h with h | h
   ·cases d with
    | none => simp at h
    | some d => simp at h; rw [h]
   ·obtain ⟨y, -, h2⟩ := List.mem_map.1 h; cases h2
  rw [if_pos this, if_pos this]
 | o n =>
  simp only [Lc.same, St.put_obj]
  have : ∃ y ∈ o.objs, y.1 = n := by
   unfold Out.wr at h
   rcases List.mem_append.1 h with h | h
   ·cases d with
    | none => simp at h
    | some d => simp at h
   ·obtain ⟨y, h1, h2⟩ := List.mem_map.1 h; cases h2; exact ⟨y, h1, rfl⟩
  obtain ⟨x, hx⟩ := UM.2 this
  rw [hx]
theorem Lc.same.symm {σ τ : St} {c : Lc} (h : c.same σ τ) : c.same τ σ := by cases c <;> exact Eq.symm h
theorem Lc.same.trans {σ τ υ : St} {c : Lc} (h : c.same σ τ) (k : c.same τ υ) : c.same σ υ := by cases c <;> exact Eq.trans h k
theorem Lc.same.rfl' {σ : St} {c : Lc} : c.same σ σ := by cases c <;> rfl
theorem Q7 {c : Lc} {dn dm : Nat -> Bool} : ∀ {os : List Oper} {t : Tr} {i : Nat} {σ τ : St}, c.same σ τ -> (∀ k o out l, os[k]? = some o -> t[k]? = some (out, l) -> dn (i + k) ≠ dm (i + k) -> c ∉ out.wr o.dst) -> c.same (stF dn i os t σ) (stF dm i os t τ) := by
 intro os
 induction os with
 | nil => intro t i σ τ h _; exact h
 | cons o os ih =>
  intro t i σ τ h hk
  cases t with
  | nil => exact h
  | cons ol t =>
   obtain ⟨out, l⟩ := ol
   simp only [stF]
   refine ih ?_ fun k o' out' l' h1 h2 h3 => hk (k + 1) o' out' l' Y69 Y77 (by rwa [show i + (k + 1) = i + 1 + k by omega])
   have h0 := hk 0 o out l rfl rfl
   simp only [Nat.add_zero] at h0
   by_cases hd : dn i = dm i
   ·rw [hd]
    split
    ·exact qeR h _ _
    ·exact h
   ·have hw := h0 hd
    cases hx : dn i <;> cases hy : dm i
    ·rw [hx, hy] at hd; exact absurd rfl hd
    ·simp only [if_true, Bool.false_eq_true, if_false]; exact h.trans (JX hw).symm
    ·simp only [if_true, Bool.false_eq_true, if_false]; exact (JX hw).trans h
    ·rw [hx, hy] at hd; exact absurd rfl hd
theorem qee {c : Lc} {dn : Nat -> Bool} : ∀ {os : List Oper} {t : Tr} {i k : Nat} {σ υ : St} {o : Oper} {out : Out} {l : List Lc}, os[k]? = some o -> t[k]? = some (out, l) -> dn (i + k) = true -> c ∈ out.wr o.dst ->
  (∀ m o' out' l', k < m -> os[m]? = some o' -> t[m]? = some (out', l') -> dn (i + m) = true -> c ∉ out'.wr o'.dst) -> c.same (stF dn i os t σ) (υ.put o.dst out) := by
 intro os
 induction os with
 | nil => intro t i k σ υ o out l h; simp at h
 | cons p os ih =>
  intro t i k σ υ o out l h1 h2 h3 h4 h5
  cases t with
  | nil => simp at h2
  | cons ol t =>
   obtain ⟨out1, l1⟩ := ol
   simp only [stF]
   cases k with
   | zero =>
    simp at h1 h2
    obtain ⟨rfl, rfl⟩ := h2
    subst h1
    simp only [Nat.add_zero] at h3
    rw [h3, if_pos rfl]
    have := Q7 (c := c) (dn := dn) (dm := fun _ => false) (os := os) (t := t) (i := i + 1) (σ := σ.put p.dst out1) (τ := υ.put p.dst out1) (qg2 h4) (fun m o' out' l' g1 g2 g3 => h5 (m + 1) o' out' l' Y54 (by simpa using g1) (by simpa using g2) (by
     rw [show i + (m + 1) = i + 1 + m by omega]
     cases hd : dn (i + 1 + m) with
     | true => rfl
     | false => rw [hd] at g3; exact absurd rfl g3))
    refine this.trans ?_
    have e : ∀ (os : List Oper) (t : Tr) (i : Nat) (σ : St), stF (fun _ => false) i os t σ = σ := by
     intro os
     induction os with
     | nil => intro t i σ; rfl
     | cons o os ih =>
      intro t i σ
      cases t with
      | nil => rfl
      | cons ol t => simp only [stF, Bool.false_eq_true, if_false]; exact ih t (i + 1) σ
    rw [e]
    exact Lc.same.rfl'
   | succ k =>
    refine ih (k := k) Y69 Y77 (by rwa [show i + 1 + k = i + (k + 1) by omega]) h4 fun m o' out' l' g1 g2 g3 g4 => h5 (m + 1) o' out' l' Y54 (by simpa using g2) (by simpa using g3) (by rwa [show i + (m + 1) = i + 1 + m by omega])
theorem qdX {ops : Array Oper} : ∀ {os : List Oper} {t : Tr} {σ : St} {i k : Nat} {o : Oper}, qaA X C ops os t σ -> os[k]? = some o -> ∃ out l, t[k]? = some (out, l) /\ (XM X ops o).runs C (stF (fun j => decide (j < i + k)) i os t σ) out l := by
 intro os
 induction os with
 | nil => intro t σ i k o _ h; simp at h
 | cons p os ih =>
  intro t σ i k o ht h
  cases t with
  | nil => exact ht.elim
  | cons ol t =>
   obtain ⟨out, l⟩ := ol
   obtain ⟨h1, h2⟩ := ht
   cases k with
   | zero =>
    simp at h
    subst h
    refine ⟨out, l, rfl, ?_⟩
    have e : ∀ (os : List Oper) (t : Tr) (j : Nat) (σ : St), i <= j -> stF (fun j => decide (j < i + 0)) j os t σ = σ := by
     intro os
     induction os with
     | nil => intro t j σ _; rfl
     | cons o os ih =>
      intro t j σ hj
      cases t with
      | nil => rfl
      | cons ol t =>
       simp only [stF]
       rw [if_neg Y57]
       exact ih t (j + 1) σ Y54
    rw [e _ _ _ _ (Nat.le_refl _)]
    exact h1
   | succ k =>
    obtain ⟨out', l', h3, h4⟩ := ih (i := i + 1) (k := k) h2 Y62
    refine ⟨out', l', by simpa using h3, ?_⟩
    simp only [stF]
    rw [if_pos Y85]
    rwa [show i + (k + 1) = i + 1 + k by omega]
theorem qbU {ops : Array Oper} : ∀ {os : List Oper} {t : Tr} {σ : St}, qaA X C ops os t σ -> t.length = os.length := by
 intro os
 induction os with
 | nil => intro t σ h; cases t with | nil => rfl | cons _ _ => exact h.elim
 | cons o os ih => intro t σ h; cases t with | nil => exact h.elim | cons ol t => simp [ih h.2]
theorem qgH : ∀ {os : List Oper} {t : Tr} {k : Nat} {o : Oper} {out : Out} {l : List Lc}, os[k]? = some o -> t[k]? = some (out, l) -> (lgs os t)[k]? = some ⟨l, out.wr o.dst⟩ := by
 intro os
 induction os with
 | nil => intro t k o out l h; simp at h
 | cons p os ih =>
  intro t k o out l h1 h2
  cases t with
  | nil => simp at h2
  | cons ol t =>
   cases k with
   | zero => simp at h1 h2; obtain ⟨rfl, rfl⟩ := h2; subst h1; rfl
   | succ k => simp only [lgs, List.getElem?_cons_succ]; exact ih Y69 Y77
theorem qgh : ∀ {os : List Oper} {t : Tr} {i : Nat} {σ : St} {dn : Nat -> Bool}, (∀ k, k < os.length -> dn (i + k) = true) -> stF dn i os t σ = YW os t σ := by
 intro os
 induction os with
 | nil => intro t i σ dn _; cases t <;> rfl
 | cons o os ih =>
  intro t i σ dn h
  cases t with
  | nil => rfl
  | cons ol t =>
   simp only [stF, YW]
   rw [if_pos (by simpa using h 0 Y85)]
   exact ih fun k hk => by rw [show i + 1 + k = i + (k + 1) by omega]; exact h (k + 1) (by simpa using hk)
theorem WF {x y : Lg} {c : Lc} (h : (c ∈ x.wr /\ (c ∈ y.rd ∨ c ∈ y.wr)) ∨ (c ∈ y.wr /\ c ∈ x.rd)) : x.clash y = true := by
 unfold Lg.clash
 rw [Bool.or_eq_true, List.any_eq_true, List.any_eq_true]
 rcases h with ⟨h1, h2⟩ | ⟨h1, h2⟩
 ·refine .inl ⟨c, h1, ?_⟩
  rw [Bool.or_eq_true]
  rcases h2 with h2 | h2
  ·exact .inl Y77
  ·exact .inr Y77
 ·exact .inr ⟨c, h1, by simpa using h2⟩
theorem XI {ops : Array Oper} {M : List Lg} (h : UW ops M = true) {i j : Nat} (hij : i < j) (hj : j < M.length) {x y : Lg} (hx : M[i]? = some x) (hy : M[j]? = some y) (hc : x.clash y = true) : yy ops 12 j i = true := by
 unfold UW at h
 rw [Bool.and_eq_true] at h
 have h1 := List.all_eq_true.1 (List.all_eq_true.1 h.2 j (List.mem_range.2 hj)) i (List.mem_range.2 hij)
 rw [List.getD_eq_getElem?_getD, List.getD_eq_getElem?_getD, hx, hy] at h1
 simp only [Option.getD_some, hc] at h1
 unfold qan at h1
 split at h1
 ·rename_i h2
  exact List.any_eq_true.2 ⟨i, by simpa using h2, by simp⟩
 ·exact h1
theorem Sim.world (S : Sim L F β σ a w) {w' : World} (hfr : Fr [] w w') : Sim L F β σ a w' := by
 have hst : qQ (Mut L.A0 β σ) (Mut L.A0 β σ) w w' := ⟨fun b hb _ => hfr.block b hb Y85, fun _ _ h => h⟩
 refine S.turn (jp.refl _) hst rfl rfl (fun s x hx => .inl ⟨hx, rfl⟩) (fun n o hn => .inl ⟨o, hn, .inl rfl, fun k b h1 h2 => ?_⟩) S.one S.res S.inj S.low (S.fr.trans (hfr.weak))
 obtain ⟨k', h3, h4⟩ := (S.objs n o hn).bound
 rw [h1] at h3; cases h3
 exact hfr.block b (h4 b h2) Y85
theorem XO {r : Option Nat} {nn : Nat} {ops : Array Oper} {Q : Exit -> Act -> World -> Prop} {i : Nat} {a : Act} {w : World} {K : Act -> World -> Prop} {Kv : Value -> World -> Prop}
  (hh : opV P ops i a w Kv) (hK : ∀ v p, Kv v p -> K (a.put (qJ ops i) v) p) : wpOpIn (uS r) nn P ops Q i K a w := by
 unfold opV at hh
 unfold wpOpIn
 split at hh
 ·exact hh.elim
 ·rename_i o ho
  have hd : qJ ops i = o.dst := by simp [qJ, ho]
  rw [hd] at hK
  simp only [ho]
  split
  ·rename_i hw
   simp only [hw, if_true] at hh
   exact ZD hh hK
  ·rename_i hw
   simp only [hw] at hh
   exact ⟨fun f _ => trivial, hK _ _ hh⟩
theorem Vx {r : Option Nat} {nn : Nat} {ops : List Oper} {Q : Exit -> Act -> World -> Prop} {id : Nat} {a : Act} {w : World} (I : (Nat -> Bool) -> Act -> World -> Prop) (hm : P.follows .mixedOrders = true)
  (hlt : ((List.range ops.toArray.size).all fun i => (qE ops.toArray i).all fun k => decide (k < i)) = true)
  (h0 : ∀ w1 : World, Fr [] w w1 -> I (fun _ => false) a w1)
  (step : ∀ i, i < ops.toArray.size -> ∀ (dn : Nat -> Bool) (a : Act) (w : World), dn i = false -> (∀ k, (qE ops.toArray i).contains k = true -> dn k = true) -> I dn a w ->
   opV P ops.toArray i a w fun v p => I (ur dn i) (a.put (qJ ops.toArray i) v) p)
  (fin : ∀ (dn : Nat -> Bool) (a : Act) (w : World), (∀ i, i < ops.toArray.size -> dn i = true) -> I dn a w -> Q .normal a w) : (Code.region id ops.toArray true).wpIn (uS r) nn P Q a w := by
 obtain ⟨A, hA⟩ := exq (ops.toArray)
 rw [hA] at hlt step fin ⊢
 clear hA
 have lt : ∀ i, i < A.size -> ∀ k ∈ qE A i, k < i := fun i hi k hk => of_decide_eq_true (List.all_eq_true.1 (List.all_eq_true.1 hlt i (List.mem_range.2 hi)) k hk)
 have main : ∀ (fuel : Nat) (listed : Array Bool) (dn : Nat -> Bool) (a : Act) (w : World), listed.size = A.size -> (∀ i, i < A.size -> isDone listed i = dn i) ->
   (((List.range A.size).map fun i => (Kind.val, i)).filter fun s => !isDone listed s.2).length <= fuel -> I dn a w -> wpAnyIn (uS r) nn P .any A Q fuel listed a w := by
  intro fuel
  have nil : ∀ (listed : Array Bool), listed.size = A.size -> Region.ready .any A listed = [] -> ∀ i, i < A.size -> isDone listed i = true := by
   intro listed hz hr i
   induction i using Nat.strongRecOn with
   | _ i ih =>
    intro hi
    cases hd : isDone listed i with
    | true => rfl
    | false =>
     exfalso
     exact Y40
  induction fuel with
  | zero =>
   intro listed dn a w hz hd hc hI
   have hall : ∀ i, i < A.size -> isDone listed i = true := by
    intro i hi
    cases hx : isDone listed i with
    | true => rfl
    | false =>
     exfalso
     have : (Kind.val, i) ∈ ((List.range A.size).map fun i => (Kind.val, i)).filter fun s => !isDone listed s.2 := by
      rw [List.mem_filter]
      exact ⟨List.mem_map.2 ⟨i, List.mem_range.2 hi, rfl⟩, by simp [hx]⟩
     have := List.length_pos_of_mem this
     omega
   exact Y24
  | succ fuel ih =>
   intro listed dn a w hz hd hc hI
   refine ⟨fun hr => fin dn a w (fun i hi => by rw [<- hd i hi]; exact nil listed hz hr i hi) hI, fun i hi => ?_⟩
   have hl := ready_lt hi
   obtain ⟨q1, q2⟩ := (ready_iff hz hl).1 hi
   refine XO (step i hl dn a w (by rw [<- hd i hl]; exact q1) (fun k hk => ?_) hI) fun v p hp => ?_
   ·have hk' : k ∈ qE A i := by simpa using hk
    rw [<- hd k (by have := lt i hl k hk'; omega)]
    exact q2 k hk'
   ·refine ih (listed.setIfInBounds i true) (ur dn i) _ p (by simpa using hz) (fun k hk => ?_) ?_ hp
    ·by_cases hki : k = i
     ·subst hki
      rw [QN Y54, also_self]
     ·rw [vV hki, also_ne dn hki]
      exact hd k hk
    ·exact Y33
 refine wpIn_region_any hm ?_
 exact Y18
theorem LB (hX : Cok P X L) (hC : ∀ f as r ys, C f as r ys -> Con P L.G f as r ys) (hm : P.follows .mixedOrders = true) {r : Option Nat} {nn : Nat} {id : Nat} {os : List Oper} {Q : St -> Prop} {Q' : Exit -> Act -> World -> Prop} (hQ : ∀ β σ a w, Q σ -> Sim L (fun _ => False) β σ a w -> Q' .normal a w)
  (S : Sim L F β σ a w) (hn : (uy os).Nodup) (hd : ∀ d ∈ uy os, d < L.N /\ d < 1000) (hF : ∀ d ∈ uy os, ∀ n, n % 1000 = d -> F n) (h : Vk X C os.toArray os [] [] σ Q) : (Code.region id os.toArray true).wpIn (uS r) nn P Q' a w := by
 obtain ⟨t, ht, hok, hq⟩ := K9 h
 simp only [List.reverse_nil, List.nil_append] at hok
 have hlen := qbU ht
 have hedge : qbe os.toArray = true := by unfold UW at hok; rw [Bool.and_eq_true] at hok; exact hok.1
 have hlog : ∀ {k : Nat} {o : Oper} {out : Out} {l : List Lc}, os[k]? = some o -> t[k]? = some (out, l) -> (lgs os t)[k]? = some ⟨l, out.wr o.dst⟩ := fun h1 h2 => qgH h1 h2
 have hlt : ∀ {k : Nat} {x : Lg}, (lgs os t)[k]? = some x -> k < (lgs os t).length := fun h => by
  rcases Nat.lt_or_ge _ (lgs os t).length with h1 | h1
  ·exact h1
  ·rw [List.getElem?_eq_none h1] at h; cases h
 have hdst : ∀ (os : List Oper), (uy os).Nodup -> ∀ i j : Nat, ∀ o o' d, os[i]? = some o -> os[j]? = some o' -> o.dst = some d -> o'.dst = some d -> i = j := by
  intro os
  induction os with
  | nil => intro _ i j o o' d h; simp at h
  | cons p os ih =>
   intro hn i j o o' d h1 h2 h3 h4
   have hn' : (uy os).Nodup := by
    cases e : p.dst with
    | none => rw [xw e] at hn; exact hn
    | some d' => rw [zr e] at hn; exact (List.nodup_cons.1 hn).2
   cases i with
   | zero =>
    cases j with
    | zero => rfl
    | succ j =>
     simp at h1 h2
     subst h1
     rw [zr h3] at hn
     exact absurd (Q3 h4 (List.mem_of_getElem? h2)) (List.nodup_cons.1 hn).1
   | succ i =>
    cases j with
    | zero =>
     simp at h1 h2
     subst h2
     rw [zr h4] at hn
     exact absurd (Q3 h3 (List.mem_of_getElem? h1)) (List.nodup_cons.1 hn).1
    | succ j => rw [ih hn' i j o o' d Y69 Y77 h3 h4]
 let Fd : (Nat -> Bool) -> Nat -> Prop := fun dn n => ∃ j o d, os[j]? = some o /\ dn j = false /\ o.dst = some d /\ n % 1000 = d
 refine Vx (fun dn b p => (∃ β' τ, Sim L (Fd dn) β' τ b p /\ ∀ c : Lc, c.same τ (stF dn 0 os t σ)) /\ ∀ x k, dn x = true -> (qE os.toArray x).contains k = true -> dn k = true) hm hedge ?_ ?_ ?_
 ·intro w1 hw1
  refine ⟨⟨β, σ, (S.world hw1).fewer ?_, fun c => ?_⟩, fun x k h => by cases h⟩
  ·rintro n ⟨j, o, d, h1, -, h2, h3⟩
   exact hF d (Q3 h2 (List.mem_of_getElem? h1)) n h3
  ·have := Q7 (c := c) (dn := fun _ => false) (dm := fun _ => false) (os := os) (t := t) (i := 0) (σ := σ) (τ := σ) Lc.same.rfl' (fun k o out l _ _ h => absurd rfl h)
   have e : ∀ (os : List Oper) (t : Tr) (i : Nat) (σ : St), stF (fun _ => false) i os t σ = σ := by
    intro os
    induction os with
    | nil => intro t i σ; rfl
    | cons o os ih =>
     intro t i σ
     cases t with
     | nil => rfl
     | cons ol t => simp only [stF, Bool.false_eq_true, if_false]; exact ih t (i + 1) σ
   rw [e]
   exact Lc.same.rfl'
 ·intro i hi dn b p hdn haft ⟨⟨β', τ, Sτ, hs⟩, hcl⟩
  have hi' : i < os.length := by simpa using hi
  have ho' : ∃ o, os[i]? = some o := ⟨os[i]'hi', List.getElem?_eq_getElem hi'⟩
  obtain ⟨o, ho⟩ := ho'
  obtain ⟨out, l, hti, hrun⟩ := qdX (i := 0) ht ho
  simp only [Nat.zero_add] at hrun
  have hdiff : ∀ c : Lc, (c ∈ l ∨ c ∈ out.wr o.dst) -> ∀ k o' out' l', os[k]? = some o' -> t[k]? = some (out', l') -> k ≠ i -> decide (k < i) ≠ dn k -> c ∉ out'.wr o'.dst := by
   intro c hc k o' out' l' g1 g2 g3 g4 g5
   have e1 := hlog ho hti
   have e2 := hlog g1 g2
   rcases Nat.lt_or_gt_of_ne g3 with hk | hk
   ·have hr := XI hok hk (hlt e1) e2 e1 (WF (c := c) (.inl ⟨g5, hc⟩))
    have := uK hcl 12 i k haft hr
    rw [this] at g4
    simp [hk] at g4
   ·have hr := XI hok hk (hlt e2) e1 e2 (WF (c := c) (by
     rcases hc with hc | hc
     ·exact .inr ⟨g5, hc⟩
     ·exact .inl ⟨hc, .inr g5⟩))
    have hdk : dn k = true := by
     cases hd : dn k with
     | true => rfl
     | false => rw [hd] at g4; simp at g4; omega
    have := uK hcl 12 k i (fun m hm => hcl k m hdk hm) hr
    rw [hdn] at this; cases this
  have hsame : ∀ c ∈ l, c.same (stF (fun j => decide (j < i)) 0 os t σ) τ := by
   intro c hc
   refine (Q7 (c := c) Lc.same.rfl' fun k o' out' l' g1 g2 g3 => ?_).trans (hs c).symm
   simp only [Nat.zero_add] at g3
   by_cases hk : k = i
   ·subst hk
    rw [hdn] at g3
    simp at g3
   ·exact hdiff c (.inl hc) k o' out' l' g1 g2 hk g3
  have hrun' := RM.runs_local hrun hsame
  have hdo : ∀ d, o.dst = some d -> d < L.N /\ d < 1000 := fun d e => hd d (Q3 e (List.mem_of_getElem? ho))
  have hop := Vq hX Sτ hrun' hdo (fun d e n hn => show Fd dn n from ⟨i, o, d, ho, hdn, e, hn⟩) hC
  have hA : os.toArray[i]? = some o := by simpa using ho
  have hdA : qJ os.toArray i = o.dst := by simp [qJ, ho]
  rw [hdA]
  have fin : ∀ {b' : Act} {p' : World} {β'' : Nat -> Option Bk}, Sim L (fun n => Fd dn n /\ ∀ d, o.dst = some d -> n % 1000 ≠ d) β'' (τ.put o.dst out) b' p' ->
    (∃ β' τ, Sim L (Fd (ur dn i)) β' τ b' p' /\ ∀ c : Lc, c.same τ (stF (ur dn i) 0 os t σ)) /\ ∀ x k, ur dn i x = true -> (qE os.toArray x).contains k = true -> ur dn i k = true := by
   intro b' p' β'' S'
   refine ⟨⟨β'', _, S'.fewer ?_, fun c => ?_⟩, ?_⟩
   ·rintro n ⟨j, o', d', g1, g2, g3, g4⟩
    have hji : j ≠ i := fun e => by subst e; rw [also_self] at g2; cases g2
    rw [also_ne dn hji] at g2
    refine ⟨⟨j, o', d', g1, g2, g3, g4⟩, fun d e he => hji ?_⟩
    exact hdst os hn j i o' o d' g1 ho g3 (by rw [e, <- he, g4])
   ·by_cases hc : c ∈ out.wr o.dst
    ·refine Lc.same.symm (qee (i := 0) (k := i) ho hti (by simp [also_self]) hc fun m o' out' l' g1 g2 g3 g4 => ?_)
     simp only [Nat.zero_add] at g4
     rw [also_ne dn Y54] at g4
     exact hdiff c (.inr hc) m o' out' l' g2 g3 Y54 (by rw [g4]; simp; omega)
    ·refine (JX hc).trans ((hs c).trans (Q7 Lc.same.rfl' fun k o' out' l' g1 g2 g3 => ?_))
     simp only [Nat.zero_add] at g3
     by_cases hk : k = i
     ·subst hk
      rw [ho] at g1; rw [hti] at g2
      cases g1; cases g2
      exact hc
     ·rw [also_ne dn hk] at g3; exact absurd rfl g3
   ·intro x k hx hk
    by_cases hki : k = i
    ·subst hki; exact also_self dn k
    ·rw [also_ne dn hki]
     by_cases hxi : x = i
     ·subst hxi; exact haft k hk
     ·rw [also_ne dn hxi] at hx; exact hcl x k hx hk
  unfold opV
  simp only [hA]
  rcases hop with ⟨hw, hop⟩ | ⟨hw, β'', hop⟩
  ·rw [if_pos hw]
   refine V9 (fun v p' hv => ?_) hop
   obtain ⟨β'', hv⟩ := hv
   exact fin hv
  ·rw [if_neg (by rw [hw]; simp)]
   exact fin hop
 ·intro dn b p hall ⟨⟨β', τ, Sτ, hs⟩, hcl⟩
  rw [qgh (fun k hk => by rw [Nat.zero_add]; exact hall k (by simpa using hk))] at hs
  refine hQ β' (YW os t σ) b p hq ((Sτ.ext (fun s => (hs (.s s)).symm) (fun n => (hs (.o n)).symm)).fewer fun n h => h.elim)
end
end Go.Bl
namespace Go.Bl
open Go.RowKit
section
variable {P : Program} {X : Cx} {L : Pl} {F : Nat -> Prop} {β : Nat -> Option Bk} {σ : St} {a : Act} {w w' : World} {C : FuncId -> List RA -> RA -> List RA -> Prop} {A : Nat -> Prop} {l : Nat}
structure jj (l : Nat) (w w' : World) : Prop where
 os : w'.os = w.os
 tape : w'.tape = w.tape
 output : w'.output = w.output
 size : w'.heap.size = w.heap.size
 oth : ∀ b, b ≠ l -> w'.heap[b]? = w.heap[b]?
 isr : ∃ o, w.heap[l]? = some o /\ (∀ c t f, o ≠ .cells c t f) /\ ∀ es ck, o ≠ .map es ck
theorem jj.put {r : Loop} (h : w.heap[l]? = some (.loop r)) (o : Obj) : jj l w (w.putObj l o) :=
 ⟨rfl, rfl, rfl, by simp, fun b hb => World.putObj_heap_other hb, _, h, fun _ _ _ e => (by cases e), fun _ _ e => (by cases e)⟩
theorem jj.shut {ds : Option (List Deferred)} (h : w.heap[l]? = some (.deferred ds)) (o : Obj) : jj l w (w.putObj l o) :=
 ⟨rfl, rfl, rfl, by simp, fun b hb => World.putObj_heap_other hb, _, h, fun _ _ _ e => (by cases e), fun _ _ e => (by cases e)⟩
theorem jj.cells (h : jj l w w') {b : Nat} {c : Array Value} {t : TypeId} {f : Nat × Nat} (hb : w.heap[b]? = some (.cells c t f)) : w'.heap[b]? = some (.cells c t f) := by
 rw [h.oth b fun e => by
  obtain ⟨o, hr, h1, h2⟩ := h.isr
  rw [e, hr] at hb
  exact h1 _ _ _ (Option.some.inj hb)]
 exact hb
theorem jj.map (h : jj l w w') {b : Nat} {es : Array MapEntry} {ck : Nat} (hb : w.heap[b]? = some (.map es ck)) : w'.heap[b]? = some (.map es ck) := by
 rw [h.oth b fun e => by
  obtain ⟨o, hr, h1, h2⟩ := h.isr
  rw [e, hr] at hb
  exact h2 _ _ (Option.some.inj hb)]
 exact hb
theorem Row.turned (h : jj l w w') {ad : Option Addr} {cs : List Value} (k : Row A w ad cs) : Row A w' ad cs := by
 rcases k with k | ⟨b, off, c, e, fz, rfl, hn, hb, hc⟩
 ·exact .inl k
 ·exact .inr ⟨b, off, c, e, fz, rfl, hn, h.cells hb, hc⟩
theorem Qx.turned (h : jj l w w') {r : Option Nat} {ks : List Int} {us : List Value} (k : Qx A w r ks us) : Qx A w' r ks us := by
 rcases k with k | ⟨b, es, ck, h1, h2, h3, h4⟩
 ·exact .inl k
 ·exact .inr ⟨b, es, ck, h1, h2, h.map h3, h4⟩
mutual
theorem qN.turned (k : jj l w w') : ∀ {x : PV} {u : Value}, qN A w x u -> qN A w' x u
 | _, _, .v h => .v h
 | _, _, .l h h1 h2 h3 h4 h5 h6 => .l (qe.turned k h) h1 h2 h3 h4 h5 (Row.turned k h6)
 | _, _, .p h h1 h2 => .p (qe.turned k h) h1 (Row.turned k h2)
 | _, _, .a h h1 => .a (qe.turned k h) h1
 | _, _, .t h => .t (qe.turned k h)
 | _, _, .i h => .i (qN.turned k h)
 | _, _, .f h h1 => .f (qe.turned k h) (qe.turned k h1)
 | _, _, .m h h1 => .m (qe.turned k h) (Qx.turned k h1)
theorem qe.turned (k : jj l w w') : ∀ {xs : List PV} {us : List Value}, qe A w xs us -> qe A w' xs us
 | _, _, .nil => .nil
 | _, _, .cons h h1 => .cons (qN.turned k h) (qe.turned k h1)
end
mutual
theorem qq.turned (k : jj l w w') : ∀ {x : AV} {u : Value}, qq β A w x u -> qq β A w' x u
 | _, _, .pv h => .pv (qN.turned k h)
 | _, _, .nil => .nil
 | _, _, .ref h h1 => .ref h h1
 | _, _, .own h => .own h
 | _, _, .sl h h1 h2 h3 h5 => .sl h h1 h2 h3 h5
 | _, _, .sl0 => .sl0
 | _, _, .ag h h1 => .ag (qh.turned k h) h1
 | _, _, .tup h => .tup (qh.turned k h)
 | _, _, .fn h h1 => .fn (qh.turned k h) (qh.turned k h1)
theorem qh.turned (k : jj l w w') : ∀ {xs : List AV} {us : List Value}, qh β A w xs us -> qh β A w' xs us
 | _, _, .nil => .nil
 | _, _, .cons h h1 => .cons (qq.turned k h) (qh.turned k h1)
end
theorem zA.turned (q : jj l w w') {n : Nat} {o : Ob} (h : zA β A w n o) : zA β A w' n o := by
 cases o with
 | row e s xs sh =>
  obtain ⟨k, us, h1, h2, h3, h4, h5, h6, h7, h8⟩ := h
  refine ⟨k, us, h1, h2, h3, qe.turned q h4, h5, h6, ⟨h7.1, ?_⟩, h8⟩
  rcases h7.2 with h | ⟨g, cap, cur, hv, hg, hh, r⟩
  ·exact .inl h
  ·exact .inr ⟨g, cap, cur, hv, hg, q.cells hh, r⟩
 | var t xs sh =>
  obtain ⟨k, us, b, h1, h2, h3, h4, h5, h6, h7⟩ := h
  exact ⟨k, us, b, h1, h2, qe.turned q h3, h4, h5, q.cells h6, h7⟩
 | box t cs sh =>
  obtain ⟨k, us, b, h1, h2, h3, h4, h5, h6, h7⟩ := h
  exact ⟨k, us, b, h1, h2, qh.turned q h3, h4, h5, q.cells h6, h7⟩
 | mrow e xs sh =>
  obtain ⟨k, bs, g, cur, fz, h1, h2, h3, h4, h5, h6⟩ := h
  exact ⟨k, bs, g, cur, fz, h1, h2, h3, h4, q.cells h5, h6⟩
 | map ks vs sh =>
  obtain ⟨k, es, ck, b, us, h1, h2, h3, h4, h5, h6⟩ := h
  exact ⟨k, es, ck, b, us, h1, h2, q.map h3, h4, h5, qe.turned q h6⟩
theorem Env.turned (q : jj l w w') {G : Gv} (hG : ∀ b o, G.obj b = some o -> b ≠ l) (h : Env G A w) : Env G A w' :=
 ⟨fun g xs hg => qN.turned q (h.val g xs hg), fun b o hb => ⟨by rw [q.oth b (hG b o hb)]; exact (h.obj b o hb).1, (h.obj b o hb).2⟩⟩
theorem Mk.turned (q : jj l w w') (hr : ∃ r, w.heap[l]? = some (.loop r)) {ds : List Deferred} (h : Mk L ds w) : Mk L ds w' := by
 obtain ⟨Ds, h1, h2, h3, h4⟩ := h
 refine ⟨Ds, h1, h2, fun D hD => ⟨(h3 D hD).1, ?_⟩, h4⟩
 rw [q.oth D fun e => by
  obtain ⟨r, hr⟩ := hr
  have := (h3 D hD).2
  rw [e, hr] at this; cases this]
 exact (h3 D hD).2
theorem Sim.turnedD (S : Sim L F β σ a w) (q : jj l w w') (hl : L.w0.heap.size <= l) (hG : ∀ b o, L.G.obj b = some o -> b ≠ l) {a' : Act} (ha : a'.tmps = a.tmps) (hd : Mk L a'.defers w') : Sim L F β σ a' w' :=
 ⟨by rw [ha]; exact S.size, hd, fun s x hx => by rw [show slot a' s = slot a s by unfold slot; rw [ha]]; exact qq.turned q (S.slots s x hx), fun n o hn => zA.turned q (S.objs n o hn), S.one, S.res, S.inj, S.low,
  ⟨q.os.trans S.fr.os, q.tape.trans S.fr.tape, q.output.trans S.fr.output, by rw [q.size]; exact S.fr.size, fun k hk hn => by rw [q.oth k Y54]; exact S.fr.block k hk hn⟩, S.env.turned q hG, S.a0, S.pin⟩
theorem Sim.turned (S : Sim L F β σ a w) (q : jj l w w') (hr : ∃ r, w.heap[l]? = some (.loop r)) (hl : L.w0.heap.size <= l) (hG : ∀ b o, L.G.obj b = some o -> b ≠ l) : Sim L F β σ a w' :=
 S.turnedD q hl hG rfl (Mk.turned q hr S.defs)
def uW (β : Nat -> Option Bk) : List (Nat × Option Ob) -> List Nat
 | [] => []
 | (n, _) :: r => (match β n with | some k => k.blk.toList | none => []) ++ uW β r
theorem xC : ∀ {O : List (Nat × Option Ob)} {b : Nat}, b ∈ uW β O ↔ ∃ n o k, (n, o) ∈ O /\ β n = some k /\ k.blk = some b
 | [], b => by simp [uW]
 | (n, o) :: r, b => by
  simp only [uW, List.mem_append, xC (O := r)]
  constructor
  ·rintro (h | ⟨m, o', k, h1, h2⟩)
   ·split at h
    ·rename_i k hk
     exact ⟨n, o, k, List.mem_cons_self, hk, by simpa using h⟩
    ·cases h
   ·exact ⟨m, o', k, List.mem_cons_of_mem _ h1, h2⟩
  ·rintro ⟨m, o', k, h1, h2, h3⟩
   rcases List.mem_cons.1 h1 with e | h1
   ·cases e
    rw [h2]
    exact .inl (by simpa using h3)
   ·exact .inr ⟨m, o', k, h1, h2, h3⟩
theorem yQ : ∀ {O : List (Nat × Option Ob)}, uU O = true -> ∀ {n : Nat} {o : Option Ob}, (n, o) ∈ O -> ∃ o', qp O n = some (some o') /\ o'.sh = false
 | (m, some o) :: r, h, n, x, hm => by
  simp only [uU, Bool.and_eq_true, Bool.not_eq_true'] at h
  simp only [qp]
  by_cases e : n = m
  ·rw [if_pos e]; exact ⟨o, rfl, h.1⟩
  ·rw [if_neg e]
   rcases List.mem_cons.1 hm with q | q
   ·cases q; exact absurd rfl e
   ·exact yQ h.2 q
theorem Xg {α : Type} : ∀ {l : List (Nat × α)} {n : Nat} {x : α}, qp l n = some x -> (n, x) ∈ l
 | (k, y) :: l, n, x, h => by
  simp only [qp] at h
  split at h
  ·rename_i e; subst e; cases h; exact List.mem_cons_self
  ·exact List.mem_cons_of_mem _ (Xg h)
def Jh (β : Nat -> Option Bk) (p : Nat -> Option Bk) (n : Nat) : Option Bk := if n % 1000 = 998 then β n else p n
def Pl.round (L : Pl) (β : Nat -> Option Bk) (O : List (Nat × Option Ob)) (w : World) : Pl := ⟨L.G, L.N, w, uW β O, L.A0, Jh β L.pin, true⟩
theorem xq {S : List (Nat × Option AV)} {O : List (Nat × Option Ob)} (hO : uU O = true) {A0 : Nat -> Prop} {b : Nat} (h : b ∈ uW β O) : Mut A0 β ⟨S, O⟩ b := by
 obtain ⟨n, o, k, h1, h2, h3⟩ := xC.1 h
 obtain ⟨o', h4, h5⟩ := yQ hO h1
 exact .inr ⟨n, o', k, by show (qp O n).join = _; rw [h4]; rfl, h5, h2, h3⟩
theorem Kb {S : List (Nat × Option AV)} {O : List (Nat × Option Ob)} {n : Nat} {o : Ob} {k : Bk} {b : Nat} (h : (⟨S, O⟩ : St).obj n = some o) (h1 : β n = some k) (h2 : k.blk = some b) : b ∈ uW β O :=
 xC.2 ⟨n, some o, k, Xg (jC h), h1, h2⟩
theorem Sim.a0R (S : Sim L F β σ a w) (hO : uU σ.objs = true) : ∀ b, L.A0 b -> b < w.heap.size /\ b ∉ uW β σ.objs := by
 intro b hb
 obtain ⟨h1, h2⟩ := S.a0 b hb
 refine ⟨Nat.lt_of_lt_of_le h1 S.fr.size, fun hm => ?_⟩
 obtain ⟨n, o, k, h3, h4, h5⟩ := xC.1 hm
 obtain ⟨o', h6, h7⟩ := yQ hO h3
 rcases S.low n o' k b (by show (qp σ.objs n).join = _; rw [h6]; rfl) h4 h5 with g | g
 ·exact h2 g
 ·omega
theorem VW {L : Pl} (S : Sim L F β σ a w) : ∀ n k, Jh β L.pin n = some k -> β n = some k /\ (n % 1000 = 999 ∨ n % 1000 = 998) := by
 intro n k h
 unfold Jh at h
 split at h
 ·rename_i e; exact ⟨h, .inr e⟩
 ·exact S.pin n k h
theorem Sim.round (S : Sim L F β σ a w) (hO : uU σ.objs = true) {sl : List (Nat × Option AV)} {a1 : Act} (h1 : a1.tmps.size = L.N) (h2 : a1.defers = [])
  (hs : ∀ s x, (⟨sl, σ.objs⟩ : St).slot s = some x -> qq β (Mut L.A0 β σ) w x (slot a1 s)) : Sim (L.round β σ.objs w) (fun _ => False) β ⟨sl, σ.objs⟩ a1 w :=
 ⟨h1, by rw [h2]; exact Mk.nil _ _, hs, S.objs, S.one, fun n h => h.elim, S.inj, fun n o k b h1 h2 h3 => .inl (Kb (S := sl) h1 h2 h3), Fr.refl _ _, S.env, S.a0R hO, VW S⟩
theorem Sim.again (S : Sim L F β σ a w) (hrd : L.rd = true) (hO : uU σ.objs = true) (q : jj l w w') (hG : ∀ b o, L.G.obj b = some o -> b ≠ l) : Sim (L.round β σ.objs w') (fun _ => False) β σ a w' := by
 obtain ⟨Ds, e1, e2, e3, e4⟩ := S.defs
 have e5 := e4 hrd
 subst e5
 refine ⟨S.size, by rw [e1]; exact Mk.nil _ _, fun s x hx => qq.turned q (S.slots s x hx), fun n o hn => zA.turned q (S.objs n o hn), S.one, fun n h => h.elim, S.inj, fun n o k b h1 h2 h3 => .inl (Kb (S := σ.slots) h1 h2 h3), Fr.refl _ _, S.env.turned q hG, fun b hb => ?_, VW S⟩
 have := S.a0R hO b hb
 exact ⟨by rw [show (L.round β σ.objs w').w0 = w' from rfl, q.size]; exact this.1, this.2⟩
theorem Sim.left {O : List (Nat × Option Ob)} {S0 : List (Nat × Option AV)} {A0 : Nat -> Prop} {L' : Pl} {F' : Nat -> Prop} {β' : Nat -> Option Bk} {σ' : St} {a' : Act} (hO : uU O = true) (S : Sim L' F' β' σ' a' w') (h1 : L'.bs = uW β O) (h2 : L'.A0 = A0) (h3 : L'.w0 = w) : qQ (Mut A0 β ⟨S0, O⟩) (Mut A0 β' σ') w w' := by
 subst h2 h3
 refine ⟨fun b hb hn => S.fr.block b hb fun hm => hn (xq hO (by rw [<- h1]; exact hm)), fun b hb hm => ?_⟩
 rcases hm with hm | ⟨n, o, k, g1, g2, g3, g4⟩
 ·exact .inl hm
 ·rcases S.low n o k b g1 g3 g4 with g | g
  ·exact xq hO (by rw [<- h1]; exact g)
  ·omega
theorem Sim.back {S0 : List (Nat × Option AV)} {O : List (Nat × Option Ob)} {L' : Pl} {F' : Nat -> Prop} {β' : Nat -> Option Bk} {σ' : St} {a' : Act} (S : Sim L F β ⟨S0, O⟩ a w) (hO : uU O = true) (hS : zD (fun n => n % 1000 != 998) S0 = false) (S' : Sim L' F' β' σ' a' w')
  (h1 : L'.bs = uW β O) (h2 : L'.A0 = L.A0) (h3 : L'.w0 = w) (h4 : L'.G = L.G) (h5 : ∀ n k, n % 1000 = 998 -> β n = some k -> L'.pin n = some k) (h6 : ∀ n k, L.pin n = some k -> n % 1000 ≠ 998 -> L'.pin n = some k) (h7 : ∀ n k, L.pin n = some k -> n % 1000 = 999) : Sim L (fun _ => False) β' ⟨S0, σ'.objs⟩ a w' := by
 have hst := Sim.left (S0 := S0) hO S' h1 h2 h3
 have hf := S'.fr
 rw [h3] at hf
 have hbs : ∀ b ∈ L'.bs, b ∈ L.bs ∨ L.w0.heap.size <= b := fun b hb => by
  rw [h1] at hb
  obtain ⟨n, o, k, g1, g2, g3⟩ := xC.1 hb
  obtain ⟨o', g4, g5⟩ := yQ hO g1
  exact S.low n o' k b (by show (qp O n).join = _; rw [g4]; rfl) g2 g3
 have e : Mut L'.A0 β' σ' = Mut L.A0 β' ⟨S0, σ'.objs⟩ := by rw [h2]; rfl
 have he := S'.env
 rw [e, h4] at he
 refine ⟨S.size, S.marks hst, fun s x hx => ?_, fun n o hn => by rw [<- e]; exact S'.objs n o hn, S'.one, fun n h => h.elim, S'.inj, fun n o k b g1 g2 g3 => ?_, ?_, he, S.a0, fun n k hp => ?_⟩
 ·have hx' : (⟨S0, O⟩ : St).slot s = some x := hx
  have hp := xO hS (jC hx')
  exact ((S.slots s x hx').less (p := fun n => n % 1000 != 998) (β' := β') (fun n k g1 g2 => (S'.pin n k (h5 n k (by simpa using g2) g1)).1) hp).mono (jp.refl _) hst
 ·rcases S'.low n o k b g1 g2 g3 with g | g
  ·exact hbs b g
  ·right; rw [h3] at g; exact Nat.le_trans S.fr.size g
 ·refine ⟨hf.os.trans S.fr.os, hf.tape.trans S.fr.tape, hf.output.trans S.fr.output, Nat.le_trans S.fr.size hf.size, fun k hk hn => (hf.block k (Nat.lt_of_lt_of_le hk S.fr.size) fun hm => ?_).trans (S.fr.block k hk hn)⟩
  rcases hbs k hm with g | g
  ·exact hn g
  ·omega
 ·have := h7 n k hp
  exact ⟨(S'.pin n k (h6 n k hp Y54)).1, .inl this⟩
end
end Go.Bl
namespace Go.Bl
open Go.RowKit
section
variable {P : Program} {X : Cx} {L : Pl} {F : Nat -> Prop} {β : Nat -> Option Bk} {σ : St} {a : Act} {w : World} {C : FuncId -> List RA -> RA -> List RA -> Prop} {A : Nat -> Prop}
theorem qaX {ρ : List (Nat × Nat)} : ∀ {l : List (Nat × Option AV)} {s : Nat} {x : AV}, qda ρ σ l -> qp l s = some (some x) -> σ.slot s = some (x.ren ρ)
 | (k, some y) :: l, s, x, h, hl => by
  simp only [qp] at hl
  split at hl
  ·rename_i e; subst e; cases hl; exact h.1
  ·exact qaX h.2 hl
 | (k, none) :: l, s, x, h, hl => h.elim
theorem qaZ {ρ : List (Nat × Nat)} : ∀ {l : List (Nat × Option Ob)} {n : Nat} {o : Ob}, qet ρ σ l -> qp l n = some (some o) -> σ.obj (rnm ρ n) = some (o.ren ρ)
 | (k, some y) :: l, s, x, h, hl => by
  simp only [qp] at hl
  split at hl
  ·rename_i e; subst e; cases hl; exact h.1
  ·exact qaZ h.2 hl
 | (k, none) :: l, s, x, h, hl => h.elim
theorem Yx {α : Type} : ∀ {l : List (Nat × α)} {n : Nat} {x : α}, qp l n = some x -> (n, x) ∈ l
 | (k, y) :: l, n, x, h => by
  simp only [qp] at h
  split at h
  ·rename_i e; subst e; cases h; exact List.mem_cons_self
  ·exact List.mem_cons_of_mem _ (Yx h)
theorem Xc {α : Type} (f : α -> Nat) : ∀ {l : List α}, (l.map f).Nodup -> ∀ x ∈ l, ∀ y ∈ l, f x = f y -> x = y
 | z :: l, h, x, hx, y, hy, e => by
  rw [List.map_cons, List.nodup_cons] at h
  rcases List.mem_cons.1 hx with ex | hx <;> rcases List.mem_cons.1 hy with ey | hy
  ·rw [ex, ey]
  ·exact absurd (List.mem_map.2 ⟨y, hy, by rw [<- e, ex]⟩) h.1
  ·exact absurd (List.mem_map.2 ⟨x, hx, by rw [e, ey]⟩) h.1
  ·exact Xc f h.2 x hx y hy e
theorem Vn : ∀ {ρ : List (Nat × Nat)} {n : Nat}, qaV ρ = true -> (n % 1000 = 999 ∨ n % 1000 = 998) -> rnm ρ n = n
 | [], n, _, _ => rfl
 | (k, m) :: ρ, n, h, hn => by
  simp only [qaV, List.all_cons, Bool.and_eq_true, bne_iff_ne] at h
  have hk : n ≠ k := fun e => by subst e; exact hn.elim h.1.1 h.1.2
  have := Vn (ρ := ρ) h.2 hn
  unfold rnm at this ⊢
  simp only [qp]
  rw [if_neg hk]
  exact this
theorem Sim.subG {τ : St} {ρ : List (Nat × Nat)} (h1 : (τ.objs.map fun x => rnm ρ x.1).Nodup) (h2 : jH (τ.objs.map (·.1)) = true) (h3 : qet ρ σ τ.objs) (h4 : qda ρ σ τ.slots) (h9 : ∀ n k, L.pin n = some k -> rnm ρ n = n) (S : Sim L F β σ a w) : ∃ β', Sim L (fun _ => False) β' τ a w := by
 have hobj : ∀ {n o}, τ.obj n = some o -> σ.obj (rnm ρ n) = some (o.ren ρ) := fun h => qaZ h3 (jC h)
 have hM : ∀ b, Mut L.A0 (fun n => β (rnm ρ n)) τ b -> Mut L.A0 β σ b := by
  rintro b (h | ⟨n, o, k, g1, g2, g3, g4⟩)
  ·exact .inl h
  ·exact .inr ⟨_, _, k, hobj g1, by rw [Ob.ren_sh]; exact g2, g3, g4⟩
 have hst : qQ (Mut L.A0 β σ) (Mut L.A0 (fun n => β (rnm ρ n)) τ) w w := ⟨fun _ _ _ => rfl, fun b _ h => hM b h⟩
 refine ⟨fun n => β (rnm ρ n), S.size, S.defs, ?_, ?_, fun n k h => S.one _ k h, fun n h => h.elim, ?_, ?_, S.fr, S.env.stay hst, S.a0, fun n k hp => ⟨by show β (rnm ρ n) = _; rw [h9 n k hp]; exact (S.pin n k hp).1, (S.pin n k hp).2⟩⟩
 ·intro s x hx
  exact ((S.slots s _ (qaX h4 (jC hx))).unren).mono (jp.refl _) hst
 ·intro n o hn
  have := (S.objs _ _ (hobj hn)).mono (jp.refl _) hst fun _ _ _ _ => rfl
  cases o with
  | row e s xs sh => exact this
  | var t xs sh => exact this
  | mrow e xs sh => exact this
  | map ks vs sh => exact this
  | box t cs sh =>
   obtain ⟨k, us, b, q1, q2, q3, q4, q5, q6, q7⟩ := this
   exact ⟨k, us, b, q1, q2, q3.unren, Q2 q4, q5, q6, by rw [q7, vJ]⟩
 ·intro n m o o' k k' b g1 g2 g3 g4 g5 g6
  have e := S.inj _ _ _ _ k k' b (hobj g1) (hobj g2) g3 g4 g5 g6
  have m1 := Yx (jC g1)
  have m2 := Yx (jC g2)
  have := Xc (fun x : Nat × Option Ob => rnm ρ x.1) h1 _ m1 _ m2 e
  exact congrArg Prod.fst this
 ·intro n o k b g1 g2 g3
  exact S.low _ _ k b (hobj g1) g2 g3
theorem Sim.sub {τ : St} (h : Sub σ τ) (S : Sim L F β σ a w) : ∃ β', Sim L (fun _ => False) β' τ a w := by
 obtain ⟨ρ, h1, h2, h3, h4⟩ := h
 rw [Bool.and_eq_true] at h1
 exact S.subG (zP h1.1) h2 h3 h4 fun n k hp => Vn h1.2 (S.pin n k hp).2
theorem Un : ∀ {ρ : List (Nat × Nat)} {n : Nat}, LU ρ = true -> n % 1000 = 999 -> rnm ρ n = n
 | [], n, _, _ => rfl
 | (k, m) :: ρ, n, h, hn => by
  simp only [LU, List.all_cons, Bool.and_eq_true, bne_iff_ne] at h
  have hk : n ≠ k := fun e => h.1 (by rw [<- e]; exact hn)
  have := Un (ρ := ρ) h.2 hn
  unfold rnm at this ⊢
  simp only [qp]
  rw [if_neg hk]
  exact this
theorem Sim.sub8 {τ : St} (h : qhN σ τ) (hp : ∀ n k, L.pin n = some k -> n % 1000 = 999) (S : Sim L F β σ a w) : ∃ β', Sim L (fun _ => False) β' τ a w := by
 obtain ⟨ρ, h1, h2, h3, h4⟩ := h
 rw [Bool.and_eq_true] at h1
 exact S.subG (zP h1.1) h2 h3 h4 fun n k hq => Un h1.2 (hp n k hq)
def St.matS (σ : St) (s n : Nat) (e : TypeId) (z : Nat) : St := ⟨(s, some (.own n)) :: σ.slots, (n, some (.row e z [] false)) :: σ.objs⟩
def St.matB (σ : St) (m i n : Nat) (t : TypeId) (cs : List AV) (e : TypeId) (z : Nat) : St := ⟨σ.slots, (n, some (.row e z [] false)) :: (m, some (.box t (cs.set i (.own n)) false)) :: σ.objs⟩
theorem Sim.matS (S : Sim L F β σ a w) {s n : Nat} {e : TypeId} {z : Nat} (hs : σ.slot s = some .nil) (hz : 0 < z) (hf : σ.fresh [n % 1000] = true) : ∃ β', Sim L (fun _ => False) β' (σ.matS s n e z) a w := by
 obtain ⟨β1, S1⟩ := S.free hf
 have hn : β1 n = none := S1.res n Y85
 have hv := uc (S1.slots s _ hs)
 let k : Bk := ⟨.slice none 0 0, z, 0⟩
 let β' : Nat -> Option Bk := fun m => if m = n then some k else β1 m
 have h1 : β' n = some k := if_pos rfl
 have h2 : ∀ m, m ≠ n -> β' m = β1 m := fun m h => if_neg h
 have hg : jp β1 β' := fun m q hm => by
  rw [h2 m (fun e => by rw [e, hn] at hm; cases hm)]; exact hm
 have ho1 : (σ.matS s n e z).obj n = some (.row e z [] false) := by simp [St.matS, St.obj, qp]
 have ho2 : ∀ m, m ≠ n -> (σ.matS s n e z).obj m = σ.obj m := fun m h => by simp [St.matS, St.obj, qp, h]
 have hb : k.blk = none := rfl
 refine ⟨β', S1.turn (F' := fun _ => False) hg ⟨fun _ _ _ => rfl, ?_⟩ rfl rfl ?_ ?_ ?_ (fun _ h => h.elim) ?_ ?_ S1.fr⟩
 ·rintro b - (h | ⟨m, o, q, g1, g2, g3, g4⟩)
  ·exact .inl h
  ·by_cases hm : m = n
   ·subst hm; rw [h1] at g3; cases g3; rw [hb] at g4; cases g4
   ·rw [ho2 m hm] at g1; rw [h2 m hm] at g3; exact .inr ⟨m, o, q, g1, g2, g3, g4⟩
 ·intro t x hx
  by_cases ht : t = s
  ·subst ht
   have : x = .own n := by simp [St.matS, St.slot, qp] at hx; exact hx.symm
   subst this
   have h3 : qq β' (Mut L.A0 β' (σ.matS t n e z)) w (.own n) k.v := .own h1
   rw [show slot a t = k.v from hv]
   exact .inr h3
  ·refine .inl ⟨?_, rfl⟩
   simpa [St.matS, St.slot, qp, ht] using hx
 ·intro m o ho
  by_cases hm : m = n
  ·exact Y41
  ·rw [ho2 m hm] at ho
   exact .inl ⟨o, ho, .inl rfl, fun _ _ _ _ => rfl⟩
 ·intro m q hq
  by_cases hm : m = n
  ·subst hm; rw [h1] at hq; cases hq; rfl
  ·rw [h2 m hm] at hq; exact S1.one m q hq
 ·intro m m' o o' q q' b g1 g2 g3 g4 g5 g6
  by_cases hm : m = n
  ·subst hm; rw [h1] at g3; cases g3; rw [hb] at g5; cases g5
  ·by_cases hm' : m' = n
   ·subst hm'; rw [h1] at g4; cases g4; rw [hb] at g6; cases g6
   ·rw [ho2 m hm] at g1; rw [ho2 m' hm'] at g2; rw [h2 m hm] at g3; rw [h2 m' hm'] at g4
    exact S1.inj m m' o o' q q' b g1 g2 g3 g4 g5 g6
 ·intro m o q b g1 g2 g3
  by_cases hm : m = n
  ·subst hm; rw [h1] at g2; cases g2; rw [hb] at g3; cases g3
  ·rw [ho2 m hm] at g1; rw [h2 m hm] at g2
   exact S1.low m o q b g1 g2 g3
theorem qh.own {n : Nat} (h0 : qq β A w (.own n) (.slice none 0 0)) : ∀ {cs : List AV} {us : List Value} {i : Nat}, qh β A w cs us -> cs[i]? = some .nil -> qh β A w (cs.set i (.own n)) us
 | _, _, _, .nil, h => by simp at h
 | _, _, 0, .cons h h1, e => by
  simp at e; subst e
  rw [uc h]
  exact .cons h0 h1
 | _, _, i + 1, .cons h h1, e => .cons h (qh.own h0 h1 (by simpa using e))
theorem Sim.matB (S : Sim L F β σ a w) {c i n : Nat} {t : TypeId} {cs : List AV} {e : TypeId} {z : Nat} (hs : σ.obj c = some (.box t cs false)) (hi : cs[i]? = some .nil) (hz : 0 < z) (hf : σ.fresh [n % 1000] = true) : ∃ β', Sim L (fun _ => False) β' (σ.matB c i n t cs e z) a w := by
 obtain ⟨β1, S1⟩ := S.free hf
 have hn : β1 n = none := S1.res n Y85
 let k : Bk := ⟨.slice none 0 0, z, 0⟩
 let β' : Nat -> Option Bk := fun m => if m = n then some k else β1 m
 have h1 : β' n = some k := if_pos rfl
 have h2 : ∀ m, m ≠ n -> β' m = β1 m := fun m h => if_neg h
 have hg : jp β1 β' := fun m q hm => by
  rw [h2 m (fun e => by rw [e, hn] at hm; cases hm)]; exact hm
 have hO := S1.objs c _ hs
 have hcn : c ≠ n := fun e => by
  obtain ⟨k', us, b, q1, -⟩ := hO
  rw [e, hn] at q1; cases q1
 have ho1 : (σ.matB c i n t cs e z).obj n = some (.row e z [] false) := by simp [St.matB, St.obj, qp]
 have ho3 : (σ.matB c i n t cs e z).obj c = some (.box t (cs.set i (.own n)) false) := by simp [St.matB, St.obj, qp, hcn]
 have ho2 : ∀ m, m ≠ n -> m ≠ c -> (σ.matB c i n t cs e z).obj m = σ.obj m := fun m h h' => by simp [St.matB, St.obj, qp, h, h']
 have hb : k.blk = none := rfl
 have hst : qQ (Mut L.A0 β1 σ) (Mut L.A0 β' (σ.matB c i n t cs e z)) w w := by
  refine ⟨fun _ _ _ => rfl, ?_⟩
  rintro b - (h | ⟨m, o, q, g1, g2, g3, g4⟩)
  ·exact .inl h
  ·by_cases hm : m = n
   ·subst hm; rw [h1] at g3; cases g3; rw [hb] at g4; cases g4
   ·rw [h2 m hm] at g3
    by_cases hm' : m = c
    ·subst hm'; exact .inr ⟨m, _, q, hs, rfl, g3, g4⟩
    ·rw [ho2 m hm hm'] at g1; exact .inr ⟨m, o, q, g1, g2, g3, g4⟩
 have hsome : ∀ m o, m ≠ n -> (σ.matB c i n t cs e z).obj m = some o -> ∃ o', σ.obj m = some o' := fun m o hm g => by
  by_cases hm' : m = c
  ·subst hm'; exact ⟨_, hs⟩
  ·rw [ho2 m hm hm'] at g; exact ⟨_, g⟩
 refine ⟨β', S1.turn (F' := fun _ => False) hg hst rfl rfl ?_ ?_ ?_ (fun _ h => h.elim) ?_ ?_ S1.fr⟩
 ·intro s x hx
  exact .inl ⟨hx, rfl⟩
 ·intro m o ho
  by_cases hm : m = n
  ·exact Y41
  ·by_cases hm' : m = c
   ·subst hm'
    rw [ho3] at ho; cases ho
    obtain ⟨k', us, b, q1, q2, q3, q4, q5, q6, q7⟩ := hO.mono hg hst fun _ _ _ _ => rfl
    refine .inr ⟨k', us, b, q1, q2, qh.own (.own h1) q3 hi, fun y hy => ?_, q5, q6, by simpa using q7⟩
    rcases List.mem_or_eq_of_mem_set hy with hy | rfl
    ·exact q4 y hy
    ·rfl
   ·rw [ho2 m hm hm'] at ho
    exact .inl ⟨o, ho, .inl rfl, fun _ _ _ _ => rfl⟩
 ·intro m q hq
  by_cases hm : m = n
  ·subst hm; rw [h1] at hq; cases hq; rfl
  ·rw [h2 m hm] at hq; exact S1.one m q hq
 ·intro m m' o o' q q' b g1 g2 g3 g4 g5 g6
  by_cases hm : m = n
  ·subst hm; rw [h1] at g3; cases g3; rw [hb] at g5; cases g5
  ·by_cases hm' : m' = n
   ·subst hm'; rw [h1] at g4; cases g4; rw [hb] at g6; cases g6
   ·obtain ⟨_, g1⟩ := hsome m o hm g1
    obtain ⟨_, g2⟩ := hsome m' o' hm' g2
    rw [h2 m hm] at g3; rw [h2 m' hm'] at g4
    exact S1.inj m m' _ _ q q' b g1 g2 g3 g4 g5 g6
 ·intro m o q b g1 g2 g3
  by_cases hm : m = n
  ·subst hm; rw [h1] at g2; cases g2; rw [hb] at g3; cases g3
  ·obtain ⟨_, g1⟩ := hsome m o hm g1
   rw [h2 m hm] at g2
   exact S1.low m _ q b g1 g2 g3
theorem Sim.mat1 (S : Sim L F β σ a w) {s n : Nat} {e : TypeId} {z : Nat} (hs : qfa σ s = true) (hz : 0 < z) (hf : σ.fresh [n % 1000] = true) : ∃ β', Sim L (fun _ => False) β' (σ.mat1 s n e z) a w := by
 unfold qfa at hs
 unfold St.mat1
 generalize decide (s < 1000000) = d at hs ⊢
 cases d with
 | true =>
  dsimp only at hs ⊢
  split at hs
  ·rename_i h; exact S.matS h hz hf
  ·cases hs
 | false =>
  dsimp only at hs ⊢
  split at hs
  ·rename_i t cs h
   split at hs
   ·rename_i h'
    simp only [h]
    exact S.matB h h' hz hf
   ·cases hs
  ·cases hs
theorem Sim.mat : ∀ {l : List (Nat × Nat × TypeId × Nat)} {F : Nat -> Prop} {β : Nat -> Option Bk} {σ : St}, Sim L F β σ a w -> qat σ l -> ∃ F' β', Sim L F' β' (σ.mat l) a w
 | [], _, β, _, S, _ => ⟨_, β, S⟩
 | (s, n, e, z) :: r, _, _, _, S, h => by
  obtain ⟨β', S'⟩ := S.mat1 (e := e) h.1 h.2.1 h.2.2.1
  have h3 := Sim.mat S' h.2.2.2
  exact h3
def Exit.xt : Exit -> Option Xt
 | .normal => some .n
 | .exit i => some (.e i)
 | .ret => some .r
 | _ => none
def qfR (L : Pl) (Q : Xt -> St -> Prop) (e : Exit) (a : Act) (w : World) : Prop := ∃ x β σ, Exit.xt e = some x /\ Sim L (fun _ => False) β σ a w /\ Q x σ
theorem JY {n : Nat} : ∀ {l : List Nat}, KE n l = true -> ∀ x ∈ l, x < n
 | y :: l, h, x, hx => by
  simp only [KE, Bool.and_eq_true, decide_eq_true_eq] at h
  rcases List.mem_cons.1 hx with rfl | hx
  ·exact h.1
  ·exact JY h.2 x hx
theorem YV : ∀ (zs : List (Nat × Value)) (t : Array Value), (zs.foldl (fun t (x : Nat × Value) => t.setIfInBounds x.1 x.2) t).size = t.size
 | [], t => rfl
 | z :: zs, t => by rw [List.foldl_cons, YV zs]; simp
theorem J6 : ∀ (zs : List (Nat × Value)) (t : Array Value) {s : Nat}, (∀ z ∈ zs, z.1 ≠ s) -> (zs.foldl (fun t (x : Nat × Value) => t.setIfInBounds x.1 x.2) t).getD s undef = t.getD s undef
 | [], t, s, _ => rfl
 | z :: zs, t, s, h => by
  rw [List.foldl_cons, J6 zs _ fun y hy => h y (List.mem_cons_of_mem _ hy)]
  simp only [Array.getD_eq_getD_getElem?]
  rw [Array.getElem?_setIfInBounds_ne (h z List.mem_cons_self)]
theorem qcU : ∀ {ps : List Nat} {us : List Value} {t : Array Value} {i s : Nat} {u : Value}, ps.Nodup -> ps[i]? = some s -> us[i]? = some u -> s < t.size -> ((ps.zip us).foldl (fun t (x : Nat × Value) => t.setIfInBounds x.1 x.2) t).getD s undef = u
 | [], us, t, i, s, u, _, h, _, _ => by simp at h
 | p :: ps, [], t, i, s, u, _, _, h, _ => by simp at h
 | p :: ps, v :: us, t, 0, s, u, hn, h1, h2, h3 => by
  simp only [List.getElem?_cons_zero, Option.some.injEq] at h1 h2
  subst h1 h2
  rw [List.zip_cons_cons, List.foldl_cons, J6 _ _ fun z hz => fun e => (List.nodup_cons.1 hn).1 (by rw [<- e]; exact (List.of_mem_zip hz).1)]
  simp only [Array.getD_eq_getD_getElem?]
  rw [Array.getElem?_setIfInBounds_self_of_lt h3]
  rfl
 | p :: ps, v :: us, t, i + 1, s, u, hn, h1, h2, h3 => by
  rw [List.zip_cons_cons, List.foldl_cons]
  exact qcU (List.nodup_cons.1 hn).2 Y69 Y77 (by simpa using h3)
theorem XE {Mt : Nat -> Prop} {S0 : List (Nat × Option AV)} : ∀ {ps : List Nat} {xs : List PV} {us : List Value}, ps.length = xs.length -> qe Mt w xs us -> ∀ {s : Nat} {x : AV}, qp (qbp ps xs ++ S0) s = some (some x) ->
  (s ∉ ps /\ qp S0 s = some (some x)) ∨ ∃ (i : Nat) (y : PV) (u : Value), ps[i]? = some s /\ us[i]? = some u /\ x = .pv y /\ qN Mt w y u
 | [], [], _, _, .nil, s, x, h => .inl ⟨by simp, by simpa [qbp] using h⟩
 | p :: ps, y :: xs, _, hl, .cons (u := u) (us := us) hy hys, s, x, h => by
  simp only [qbp, List.cons_append, qp] at h
  by_cases e : s = p
  ·subst e
   rw [if_pos rfl] at h
   cases h
   exact .inr ⟨0, y, u, rfl, rfl, rfl, hy⟩
  ·rw [if_neg e] at h
   rcases XE (by simpa using hl) hys h with ⟨h1, h2⟩ | ⟨i, z, v, h1, h2, h3, h4⟩
   ·exact .inl ⟨by simp [e, h1], h2⟩
   ·exact .inr ⟨i + 1, z, v, by simpa using h1, by simpa using h2, h3, h4⟩
end
end Go.Bl
namespace Go.Bl
open Go.RowKit
section
variable {P : Program} {X : Cx} {C : FuncId -> List RA -> RA -> List RA -> Prop}
theorem qQ.and {A B D : Nat -> Prop} {w W W' : World} (h : qQ A B w W) (k : qQ B D W W') (hs : w.heap.size <= W.heap.size) : qQ A D w W' :=
 ⟨fun b hb hn => (k.heap b Y54 fun q => hn (h.out b hb q)).trans (h.heap b hb hn), fun b hb q => h.out b hb (k.out b Y54 q)⟩
theorem qQ.turned {A B : Nat -> Prop} {w W W' : World} {l : Nat} (h : qQ A B w W) (k : jj l W W') (hl : w.heap.size <= l) : qQ A B w W' :=
 ⟨fun b hb hn => (k.oth b Y54).trans (h.heap b hb hn), h.out⟩
theorem Sim.mark {L : Pl} {F : Nat -> Prop} {β : Nat -> Option Bk} {σ : St} {a : Act} {w : World} (S : Sim L F β σ a w) (hrd : L.rd = false) {D : Nat} (hD : L.w0.heap.size <= D) (hh : w.heap[D]? = some (.deferred (some []))) (hn : ∀ Ds : List Nat, a.defers = Ds.map (fun D => { target := .collected D, args := #[] }) -> D ∉ Ds) :
  Sim L F β σ { a with defers := { target := .collected D, args := #[] } :: a.defers } w := by
 obtain ⟨Ds, e1, e2, e3, e4⟩ := S.defs
 refine ⟨S.size, ⟨D :: Ds, by show _ :: a.defers = _; rw [e1]; rfl, List.nodup_cons.2 ⟨hn Ds e1, e2⟩, fun x hx => ?_, fun h => by rw [hrd] at h; cases h⟩, S.slots, S.objs, S.one, S.res, S.inj, S.low, S.fr, S.env, S.a0, S.pin⟩
 rcases List.mem_cons.1 hx with rfl | hx
 ·exact ⟨hD, hh⟩
 ·exact e3 x hx
theorem qbm (ps : Array Tmp) (us : List Value) (t : Array Value) : (ps.zip us.toArray).foldl (fun tmps (x : Tmp × Value) => tmps.setIfInBounds x.1 x.2) t = (ps.toList.zip us).foldl (fun t (x : Nat × Value) => t.setIfInBounds x.1 x.2) t := by
 rw [<- Array.foldl_toList]
 simp
theorem Sim.lt {L : Pl} {F : Nat -> Prop} {β : Nat -> Option Bk} {σ : St} {a : Act} {w : World} (S : Sim L F β σ a w) : ∀ b, Mut L.A0 β σ b -> b < w.heap.size := by
 rintro b (h | ⟨n, o, k, h1, h2, h3, h4⟩)
 ·exact Nat.lt_of_lt_of_le (S.a0 b h).1 S.fr.size
 ·obtain ⟨k', h5, h6⟩ := (S.objs n o h1).bound
  rw [h3] at h5; cases h5
  exact h6 b h4
theorem qeO {L : Pl} (hX : Cok P X L) (hC : ∀ f as r ys, C f as r ys -> Con P L.G f as r ys) {g : Tmp} {ps : Array Tmp} {x y : Code} {nn : Nat} {Q : Xt -> St -> Prop} {F : Nat -> Prop} {β : Nat -> Option Bk} {σ : St} {a : Act} {w : World}
  (hrd : L.rd = false) (hpin : ∀ n k, L.pin n = some k -> n % 1000 = 999) (S : Sim L F β σ a w) (h : ju X C (.rangeFunc (.tmp g) ps x y) Q σ)
  (ihx : ∀ {L : Pl}, Cok P X L -> (∀ f as r ys, C f as r ys -> Con P L.G f as r ys) -> ∀ {r : Option Nat} {Q : Xt -> St -> Prop} {F : Nat -> Prop} {β : Nat -> Option Bk} {σ : St} {a : Act} {w : World}, uq x = true -> Sim L F β σ a w -> ju X C x Q σ -> x.wpIn (uS r) 1 P (qfR L Q) a w)
  (ihy : ∀ {L : Pl}, Cok P X L -> (∀ f as r ys, C f as r ys -> Con P L.G f as r ys) -> ∀ {r : Option Nat} {Q : Xt -> St -> Prop} {F : Nat -> Prop} {β : Nat -> Option Bk} {σ : St} {a : Act} {w : World}, uq y = true -> Sim L F β σ a w -> ju X C y Q σ -> y.wpIn (uS r) 1 P (qfR L Q) a w) :
  (Code.rangeFunc (.tmp g) ps x y).wpIn Fence.wide nn P (qfR L Q) a w := by
 obtain ⟨f, lb, rows, S0, O, Iv, lm, hcf, hok, hu0, hg, hmat, hsub, hiv0, hround, hdone⟩ := h
 obtain ⟨F1, β1, S1⟩ := S.mat hmat
 obtain ⟨β0, S8⟩ := S1.sub8 hsub hpin
 simp only [qh9, Bool.and_eq_true, Bool.not_eq_true'] at hok
 obtain ⟨hS, hps1, hps2, hrx, hry⟩ := hok
 have hps1 := zP hps1
 have hps2 := JY hps2
 obtain ⟨us, zs, he, hus, hzs⟩ := qgG (S8.slots g _ hg)
 cases hus
 have hcon := hC _ _ _ _ hcf
 obtain ⟨A, hA⟩ : ∃ A, A = Mut L.A0 β0 ⟨S0, O 0⟩ := ⟨_, rfl⟩
 have henv := S8.env
 have hlt := S8.lt
 rw [<- hA] at hzs henv hlt
 obtain ⟨encs, henc, hseq⟩ := hcon.it lb rows rfl w zs A hlt henv hzs
 have hG0 : ∀ b o, L.G.obj b = some o -> b < w.heap.size := fun b o hb => qk (henv.obj b o hb).1
 have hw0 : L.w0.heap.size <= w.heap.size := S8.fr.size
 refine wpIn_rangeFunc ?_
 intro fn hfn
 obtain ⟨rec, hrec⟩ : ∃ rec : LoopState -> Option Code -> Loop, rec = fun st pe => { state := st, pending := pe, fn, tmps := a.tmps, params := ps, assign := x, body := y, defers := w.heap.size } := ⟨_, rfl⟩
 obtain ⟨W1, hW1⟩ := exq ((w.alloc (.deferred (some []))).alloc (.loop (rec .ready none)))
 have hL1 : W1.heap[w.heap.size + 1]? = some (.loop (rec .ready none)) := by
  rw [<- hW1]; have := World.alloc_heap_new (w.alloc (.deferred (some []))) (.loop (rec .ready none)); rwa [World.size_alloc] at this
 have hK1 : W1.heap[w.heap.size]? = some (.deferred (some [])) := by
  rw [<- hW1]; exact (Below.heap_alloc _ _ _ Y85).trans (World.alloc_heap_new w _)
 have hF1 : Fr [] w W1 := by
  rw [<- hW1]
  exact ⟨rfl, rfl, rfl, by simp; omega, fun k hk _ => (Below.heap_alloc _ _ _ Y57).trans (Below.heap_alloc _ _ _ hk)⟩
 have hst1 : qQ A A w W1 := ⟨fun b hb _ => hF1.block b hb Y85, fun _ _ h => h⟩
 obtain ⟨l, hl⟩ : ∃ l, l = w.heap.size + 1 := ⟨_, rfl⟩
 obtain ⟨D, hD⟩ : ∃ D, D = w.heap.size := ⟨_, rfl⟩
 have hGl : ∀ b o, L.G.obj b = some o -> b ≠ l := fun b o hb => by have := hG0 b o hb; omega
 rw [<- hl] at hL1
 rw [<- hD] at hK1
 obtain ⟨I, hI⟩ : ∃ I : List (Nat × Option Ob) -> World -> Prop, I = fun O' W => uU O' = true /\ (∃ β, Sim L (fun _ => False) β ⟨S0, O'⟩ a W /\ qQ A (Mut L.A0 β ⟨S0, O'⟩) w W) /\ w.heap.size <= W.heap.size := ⟨_, rfl⟩
 have hIfr : ∀ O' W W', I O' W -> Fr [] W W' -> I O' W' := by
  subst hI
  rintro O' W W' ⟨h0, ⟨β, h1, h2⟩, h3⟩ hf
  exact ⟨h0, ⟨β, h1.world hf, h2.and ⟨fun b hb _ => hf.block b hb Y85, fun _ _ h => h⟩ h3⟩, Nat.le_trans h3 hf.size⟩
 have hIturn : ∀ O' W W', I O' W -> (∃ r, W.heap[l]? = some (.loop r)) -> jj l W W' -> I O' W' := by
  subst hI
  rintro O' W W' ⟨h0, ⟨β, h1, h2⟩, h3⟩ hr hq
  exact ⟨h0, ⟨β, h1.turned hq hr Y54 hGl, h2.turned hq Y54⟩, by rw [hq.size]; exact h3⟩
 have heapFr : ∀ {W W' : World} {b : Nat} {o : Obj}, W.heap[b]? = some o -> Fr [] W W' -> W'.heap[b]? = some o := fun h hf => by rw [hf.block _ (qk h) Y85]; exact h
 have hend : ∀ O' W, I O' W -> ∀ (st : LoopState) (pe : Option Code), W.heap[l]? = some (.loop (rec st pe)) -> W.heap[D]? = some (.deferred (some [])) -> ∀ o, ∃ β, Sim L (fun _ => False) β ⟨S0, O'⟩ { a with defers := [{ target := .collected D, args := #[] }] ++ a.defers } (W.putObj l o) := by
  intro O' W hi st pe h1 h2 o
  have hi := hIturn O' W _ hi ⟨_, h1⟩ (jj.put h1 o)
  subst hI
  obtain ⟨-, ⟨β, h3, -⟩, -⟩ := hi
  refine ⟨β, h3.mark hrd Y54 ((World.putObj_heap_other Y54).trans h2) fun Ds e hm => ?_⟩
  obtain ⟨Ds', e1, -, e3, -⟩ := S8.defs
  rw [e] at e1
  have : ({ target := .collected D, args := #[] } : Deferred) ∈ Ds'.map fun D => ({ target := .collected D, args := #[] } : Deferred) := by
   rw [<- e1]; exact List.mem_map.2 ⟨D, hm, rfl⟩
  obtain ⟨D', q1, q2⟩ := List.mem_map.1 this
  have q3 := qk (e3 D' q1).2
  have q4 : D' = D := by simpa using q2
  omega
 refine ⟨w.heap.size + 1, [{ target := .collected w.heap.size, args := #[] }], W1, { target := .fn (.func f) zs.toArray, args := #[.func (.yield (w.heap.size + 1)) #[] #[]] }, W1, f,
  #[.func (.yield (w.heap.size + 1)) #[] #[]] ++ zs.toArray, W1, ?_, ?_, fun _ _ => trivial, ?_, fun h => by simp [Fence.wide] at h, ?_⟩
 ·rw [<- hW1, hrec]; exact run_enterLoop_outer _ _ _ _ _
 ·have he' : a.eval (.tmp g) = .func (.func f) #[] zs.toArray := he
  simp only [resolve, he']
  simp [go_sem]
 ·simp [invoke, go_sem]
  exact hcon.ent _ _
 ·rw [<- hl, <- hD]
  have hI0 : I (O 0) W1 := by
   refine hIfr _ w _ ?_ hF1
   subst hI
   exact ⟨hu0, ⟨β0, S8, by rw [<- hA]; exact qQ.refl _ _⟩, Nat.le_refl _⟩
  let J : Nat -> World -> Prop := fun k W => (Iv k /\ I (O k) W) /\ W.heap[l]? = some (.loop (rec .ready none)) /\ W.heap[D]? = some (.deferred (some []))
  let Jx : World -> Prop := fun W => ∃ c xt O', I O' W /\ ((c = Code.ret /\ xt = Xt.r) ∨ ∃ i, c = Code.exit i /\ xt = Xt.e i) /\ Q xt ⟨S0, O'⟩ /\ W.heap[l]? = some (.loop (rec .done (some c))) /\ W.heap[D]? = some (.deferred (some []))
  refine callsIn_wide.2 (callsIn_wide.1 ((hseq l J Jx W1 hF1.size (fun b hb _ => hF1.block b hb Y85) ?_ ?_ ?_ ⟨⟨hiv0, hI0⟩, hL1, hK1⟩).mono ?_))
  ·rintro k W W' ⟨⟨hv1, h1⟩, h2, h3⟩ hf
   exact ⟨⟨hv1, hIfr _ _ _ h1 hf⟩, heapFr h2 hf, heapFr h3 hf⟩
  ·rintro W W' ⟨c, xt, O', h1, h2, h3, h4, h5⟩ hf
   exact ⟨c, xt, O', hIfr _ _ _ h1 hf, h2, h3, heapFr h4 hf, heapFr h5 hf⟩
  ·-- one round
   rintro k W ⟨⟨hv1, h1⟩, h2, h3⟩ hk
   obtain ⟨xs, hxs⟩ : ∃ xs, rows[k]? = some xs := ⟨_, List.getElem?_eq_getElem hk⟩
   obtain ⟨hsz, hvc⟩ := hround k xs hxs hv1
   have hen := henc k xs hxs
   have hlen := hen.length
   have hy := run_yield (P := P) (args := (encs k).toArray) h2 (by rw [hrec]; simp; omega)
   rw [hrec] at hy
   refine ⟨fn, _, x, y, hy, roundIn_of_wpIn hfn ?_⟩
   have h1' := h1
   rw [hI] at h1'
   obtain ⟨hu, ⟨β1, SJ, hstk⟩, hsz1⟩ := h1'
   have hnl : l ∉ uW β1 (O k) := fun hm => SJ.notMut Y54 h2 (fun _ _ _ e => by cases e) (fun _ _ e => by cases e) (xq hu hm)
   have hnD : D ∉ uW β1 (O k) := fun hm => SJ.notMut Y54 h3 (fun _ _ _ e => by cases e) (fun _ _ e => by cases e) (xq hu hm)
   have S1 : Sim (L.round β1 (O k) W) (fun _ => False) β1 ⟨qbp ps.toList xs ++ S0, O k⟩ { tmps := (ps.zip (encs k).toArray).foldl (fun t (x : Tmp × Value) => t.setIfInBounds x.1 x.2) a.tmps, defers := [] } W := by
    refine Sim.round SJ hu ?_ rfl ?_
    ·show Array.size _ = _
     rw [qbm, YV]; exact SJ.size
    ·intro s z hz
     have hz' := jC hz
     show qq _ _ _ _ (Array.getD _ _ _)
     rw [qbm]
     rcases XE (by simpa using hsz) (hen.stay hstk) hz' with ⟨g1, g2⟩ | ⟨i, y', u, g1, g2, rfl, g4⟩
     ·rw [J6 _ _ fun z hz e => g1 (by rw [<- e]; exact (List.of_mem_zip hz).1)]
      exact SJ.slots s z (by show (qp S0 s).join = _; rw [g2]; rfl)
     ·rw [qcU hps1 g1 g2 (by have := hps2 s (List.mem_of_getElem? g1); rw [hX.N] at this; rw [SJ.size]; exact this)]
      exact .pv g4
   have hX1 : Cok P X (L.round β1 (O k) W) := ⟨hX.h, hX.T, hX.G, hX.N, hX.N1⟩
   refine wpIn_mono (ihx (r := some l) hX1 hC hrx S1 hvc) ?_
   rintro e a1 W1' ⟨xt, β2, σ2, he2, S1', hq⟩
   cases e <;> simp only [Exit.xt, Option.some.injEq, reduceCtorEq] at he2 <;> subst he2
   case exit i => exact hq.elim
   case ret => exact hq.elim
   obtain ⟨hu2, hvc2⟩ := hq
   have hf1 : Fr (uW β1 (O k)) W W1' := S1'.fr
   have h2' : W1'.heap[l]? = some (.loop (rec .ready none)) := by rw [hf1.block l (qk h2) hnl]; exact h2
   have h3' : W1'.heap[D]? = some (.deferred (some [])) := by rw [hf1.block D (qk h3) hnD]; exact h3
   refine ⟨_, run_beginRound h2' (by rw [hrec]), ?_⟩
   obtain ⟨ob, hob⟩ : ∃ ob, ob = Obj.loop { rec .ready none with state := .busy } := ⟨_, rfl⟩
   rw [<- hob]
   have q1 := jj.put h2' ob
   obtain ⟨W2, hW2⟩ := exq (W1'.putObj l ob)
   rw [hW2] at q1 ⊢
   have h2b : W2.heap[l]? = some ob := by rw [<- hW2]; exact World.putObj_heap_same (qk h2')
   have h3b : W2.heap[D]? = some (.deferred (some [])) := by rw [<- hW2]; exact (World.putObj_heap_other Y54).trans h3'
   have SB1 : Sim L (fun _ => False) β2 ⟨S0, σ2.objs⟩ a W1' := SJ.back hu hS S1' rfl rfl rfl rfl (fun n k e1 e2 => by show Jh β1 L.pin n = _; rw [Jh, if_pos e1]; exact e2) (fun n k e1 e2 => by show Jh β1 L.pin n = _; rw [Jh, if_neg e2]; exact e1) hpin
   have SB2 := SB1.turned q1 ⟨_, h2'⟩ Y54 hGl
   have S2 := S1'.again rfl hu2 q1 hGl
   have hst2 : qQ A (Mut L.A0 β2 ⟨S0, σ2.objs⟩) w W2 := (hstk.and (Sim.left (S0 := S0) hu S1' rfl rfl rfl) hsz1).turned q1 Y54
   have hsz2 : w.heap.size <= W2.heap.size := by rw [q1.size]; exact Nat.le_trans hsz1 hf1.size
   have hnl2 : l ∉ uW β2 σ2.objs := fun hm => SB2.notMut Y54 h2b (fun _ _ _ e => by rw [hob] at e; cases e) (fun _ _ e => by rw [hob] at e; cases e) (xq hu2 hm)
   have hnD2 : D ∉ uW β2 σ2.objs := fun hm => SB2.notMut Y54 h3b (fun _ _ _ e => by cases e) (fun _ _ e => by cases e) (xq hu2 hm)
   have hX2 : Cok P X ((L.round β1 (O k) W).round β2 σ2.objs W2) := ⟨hX.h, hX.T, hX.G, hX.N, hX.N1⟩
   refine wpIn_mono (ihy (r := some l) hX2 hC hry S2 hvc2) ?_
   have fin : ∀ (O' : List (Nat × Option Ob)) {β3 : Nat -> Option Bk} {a3 : Act} {W3 : World}, uU O' = true -> Sim ((L.round β1 (O k) W).round β2 σ2.objs W2) (fun _ => False) β3 ⟨[], O'⟩ a3 W3 -> ∀ jump : Option Code, ∃ W4, (Instr.endRound l jump).run P W3 = .ok (.bool jump.isNone) W4 /\ I O' W4 /\
     W4.heap[l]? = some (.loop (rec (if jump.isNone then .ready else .done) jump)) /\ W4.heap[D]? = some (.deferred (some [])) /\ ∀ b, b < w.heap.size -> ¬ A b -> W4.heap[b]? = W.heap[b]? := by
    intro O' β3 a3 W3 hu' S3 jump
    have hf3 : Fr (uW β2 σ2.objs) W2 W3 := S3.fr
    have h2c : W3.heap[l]? = some ob := by rw [hf3.block l (qk h2b) hnl2]; exact h2b
    have h3c : W3.heap[D]? = some (.deferred (some [])) := by rw [hf3.block D (qk h3b) hnD2]; exact h3b
    rw [hob] at h2c
    have he := run_endRound (P := P) jump h2c
    have SB3 : Sim L (fun _ => False) β3 ⟨S0, O'⟩ a W3 := SB2.back hu2 hS S3 rfl rfl rfl rfl (fun n k e1 e2 => by show Jh β2 (Jh β1 L.pin) n = _; rw [Jh, if_pos e1]; exact e2) (fun n k e1 e2 => by show Jh β2 (Jh β1 L.pin) n = _; rw [Jh, if_neg e2, Jh, if_neg e2]; exact e1) hpin
    have hlf := Sim.left (S0 := S0) (A0 := L.A0) hu2 S3 rfl rfl rfl
    have hst3 : qQ A (Mut L.A0 β3 ⟨S0, O'⟩) w W3 := hst2.and hlf hsz2
    have hi3 : I O' W3 := by rw [hI]; exact ⟨hu', ⟨β3, SB3, hst3⟩, Nat.le_trans hsz2 hf3.size⟩
    rw [hrec] at he
    refine ⟨_, he, hIturn _ _ _ hi3 ⟨_, h2c⟩ (jj.put h2c _), ?_, (World.putObj_heap_other Y54).trans h3c, fun b hb hn => ?_⟩
    ·rw [hrec]; exact World.putObj_heap_same (qk h2c)
    ·rw [World.putObj_heap_other Y54, hst3.heap b hb hn, hstk.heap b hb hn]
   rintro e a3 W3 ⟨xt, β3, σ3, he3, S2', hq⟩
   cases e <;> simp only [Exit.xt, Option.some.injEq, reduceCtorEq] at he3 <;> subst he3
   ·obtain ⟨g0, g1, g2⟩ := hq
    obtain ⟨β4, S4⟩ := S2'.sub g2
    obtain ⟨W4, r1, r2, r3, r4, r5⟩ := fin _ g1 S4 none
    exact ⟨_, _, r1, .inl ⟨rfl, ⟨⟨g0, r2⟩, r3, r4⟩, r5⟩⟩
   ·rename_i i
    obtain ⟨O', g1, g2, g3⟩ := hq
    obtain ⟨β4, S4⟩ := S2'.sub g2
    obtain ⟨W4, r1, r2, r3, r4, r5⟩ := fin _ g1 S4 (some (.exit i))
    exact ⟨_, _, r1, .inr ⟨rfl, _, _, O', r2, .inr ⟨i, rfl, rfl⟩, g3, r3, r4⟩⟩
   ·obtain ⟨O', g1, g2, g3⟩ := hq
    obtain ⟨β4, S4⟩ := S2'.sub g2
    obtain ⟨W4, r1, r2, r3, r4, r5⟩ := fin _ g1 S4 (some .ret)
    exact ⟨_, _, r1, .inr ⟨rfl, _, _, O', r2, .inl ⟨rfl, rfl⟩, g3, r3, r4⟩⟩
  ·-- qan the iterator
   rintro e W2 ⟨⟨v, rfl⟩, (⟨⟨hv1, h1⟩, h2, h3⟩ | ⟨c, xt, O', h1, h2, h3, h4, h5⟩)⟩
   ·have he := run_endLoop (P := P) h2 (by rw [hrec]; simp)
    obtain ⟨β3, S3⟩ := hend _ _ h1 _ _ h2 h3 (.loop { rec .ready none with state := .exhausted })
    refine ⟨none, _, by rw [he, hrec], ?_⟩
    rw [hrec] at S3
    exact ⟨.n, β3, _, rfl, S3, hdone hv1⟩
   ·have he := run_endLoop (P := P) h4 (by rw [hrec]; simp)
    obtain ⟨β3, S3⟩ := hend _ _ h1 _ _ h4 h5 (.loop { rec .done (some c) with state := .exhausted })
    refine ⟨some c, _, by rw [he, hrec], ?_⟩
    rw [hrec] at S3
    rcases h2 with ⟨rfl, rfl⟩ | ⟨i, rfl, rfl⟩
    ·exact wpIn_ret ⟨.r, β3, _, rfl, S3, h3⟩
    ·exact wpIn_exit ⟨.e i, β3, _, rfl, S3, h3⟩
theorem Ze (hm : P.follows .mixedOrders = true) : ∀ (c : Code) {L : Pl}, Cok P X L -> (∀ f as r ys, C f as r ys -> Con P L.G f as r ys) -> ∀ {r : Option Nat} {nn : Nat} {Q : Xt -> St -> Prop} {F : Nat -> Prop} {β : Nat -> Option Bk} {σ : St} {a : Act} {w : World}, ((r = none /\ L.rd = false /\ ∀ n k, L.pin n = some k -> n % 1000 = 999) ∨ uq c = true) -> Sim L F β σ a w -> ju X C c Q σ -> c.wpIn (uS r) nn P (qfR L Q) a w := by
 intro c
 induction c with
 | skip => intro L hX hC r nn Q F β σ a w hr S h; exact wpIn_skip ⟨.n, β, σ, rfl, S.fewer (fun _ h => h.elim), h⟩
 | exit id => intro L hX hC r nn Q F β σ a w hr S h; exact wpIn_exit ⟨.e id, β, σ, rfl, S.fewer (fun _ h => h.elim), h⟩
 | ret => intro L hX hC r nn Q F β σ a w hr S h; exact wpIn_ret ⟨.r, β, σ, rfl, S.fewer (fun _ h => h.elim), h⟩
 | seq x y ihx ihy =>
  intro L hX hC r nn Q F β σ a w hr S h
  have hra := hr.imp id fun h : (uq x && uq y) = true => by simpa using (Bool.and_eq_true _ _ ▸ h : uq x = true /\ uq y = true).1
  have hrb := hr.imp id fun h : (uq x && uq y) = true => by simpa using (Bool.and_eq_true _ _ ▸ h : uq x = true /\ uq y = true).2
  unfold ju at h
  split at h
  ·refine wpIn_seq (wpIn_mono (ihx hX hC hra S h) ?_)
   rintro e a' w' ⟨t, β', σ', he, S', hq⟩
   cases e <;> simp only [Exit.xt, Option.some.injEq, reduceCtorEq] at he <;> subst he
   ·exact ihy hX hC hrb S' hq
   ·exact Y45
   ·exact Y45
  ·obtain ⟨α, tm, I, h1, h2⟩ := h
   refine wpIn_seq (wpIn_mono (ihx hX hC hra S h1) ?_)
   rintro e a' w' ⟨t, β', σ', he, S', hq⟩
   cases e <;> simp only [Exit.xt, Option.some.injEq, reduceCtorEq] at he <;> subst he
   ·obtain ⟨x, hx, hs⟩ := hq
    obtain ⟨β2, S2⟩ := S'.sub hs
    exact ihy hX hC hrb S2 (h2 x hx)
   ·exact Y45
   ·exact Y45
 | block id c ih =>
  intro L hX hC r nn Q F β σ a w hr S h
  refine wpIn_block (wpIn_mono (ih hX hC hr S h) ?_)
  rintro e a' w' ⟨t, β', σ', he, S', hq⟩
  cases e <;> simp only [Exit.xt, Option.some.injEq, reduceCtorEq] at he <;> subst he
  ·exact Y45
  ·rename_i id'
   simp only [Exit.inBlock]
   simp only [Xt.block] at hq
   split
   ·rename_i e; rw [if_pos e] at hq; exact ⟨_, β', σ', rfl, S', hq⟩
   ·rename_i e; rw [if_neg e] at hq; exact ⟨_, β', σ', rfl, S', hq⟩
  ·exact Y45
 | cond c x y ihx ihy =>
  intro L hX hC r nn Q F β σ a w hr S h
  have hra := hr.imp id fun h : (uq x && uq y) = true => by simpa using (Bool.and_eq_true _ _ ▸ h : uq x = true /\ uq y = true).1
  have hrb := hr.imp id fun h : (uq x && uq y) = true => by simpa using (Bool.and_eq_true _ _ ▸ h : uq x = true /\ uq y = true).2
  cases c with
  | tmp c =>
   have h' : qak (σ.slot c) (ju X C x Q σ) (ju X C y Q σ) := h
   unfold qak at h'
   split at h'
   ·rename_i b hs
    obtain ⟨e, -⟩ := qW (S.slots c _ hs)
    exact wpIn_cond_split (t := b) e (fun hb => ihx hX hC hra S (h'.1 hb)) (fun hb => ihy hX hC hrb S (h'.2 hb))
   ·exact h'.elim
  | _ => exact h.elim
 | loop c ih =>
  intro L hX hC r nn Q F β σ a w hr S h
  obtain ⟨α, tm, I, μ, x0, lm, h0, hl0, hs0, hq0⟩ := h
  obtain ⟨F1, β1, S1⟩ := S.mat hl0
  obtain ⟨β0, S0⟩ := S1.sub hs0
  refine wpIn_loop_ghost (fun n a w => ∃ x β, μ x = n /\ I x /\ Sim L (fun _ => False) β (tm x) a w) (μ x0) ⟨x0, β0, rfl, h0, S0⟩ ?_
  rintro n a' w' ⟨x, β', rfl, hI, S'⟩
  refine wpIn_mono (ih hX hC hr S' (hq0 x hI)) ?_
  rintro e a2 w2 ⟨t, β2, σ2, he, S2, hq⟩
  cases e <;> simp only [Exit.xt, Option.some.injEq, reduceCtorEq] at he <;> subst he
  ·obtain ⟨y, hy1, hy2, hy3⟩ := hq
   obtain ⟨β3, S3⟩ := S2.sub hy3
   exact ⟨μ y, hy2, y, β3, rfl, hy1, S3⟩
  ·exact ⟨_, β2, σ2, rfl, S2, hq⟩
  ·exact ⟨_, β2, σ2, rfl, S2, hq⟩
 | region id ops dr =>
  intro L hX hC r nn Q F β σ a w hr S h
  have hops : ops.toList.toArray = ops := by simp
  have go : qaE X (σ.fresh (uy ops.toList)) (uy ops.toList) = true -> ∃ β', Sim L (fun n => n % 1000 ∈ uy ops.toList) β' σ a w /\ (uy ops.toList).Nodup /\ (∀ d ∈ uy ops.toList, d < L.N /\ d < 1000) := by
   intro hro
   simp only [qaE, Bool.and_eq_true] at hro
   obtain ⟨β', S'⟩ := S.free hro.1
   refine ⟨β', S', zP hro.2.1, fun d hd => ?_⟩
   have := JY hro.2.2 d hd
   rw [hX.N] at this
   exact ⟨this, Nat.lt_of_lt_of_le this hX.N1⟩
  cases dr with
  | false =>
   obtain ⟨hro, h⟩ := h
   obtain ⟨β', S', h1, h2⟩ := go hro
   refine wpIn_region_list ?_
   exact qcl hX hC (Q := Q .n) (fun β σ a w hq S => ⟨.n, β, σ, rfl, S, hq⟩) ops.toList S' h1 h2 (fun d hd n hn => by rw [hn]; exact hd) h
  | true =>
   obtain ⟨hro, h⟩ := h
   obtain ⟨β', S', h1, h2⟩ := go hro
   rw [<- hops]
   rw [<- hops] at h
   exact LB hX hC hm (Q := Q .n) (fun β σ a w hq S => ⟨.n, β, σ, rfl, S, hq⟩) S' h1 h2 (fun d hd n hn => by rw [hn]; exact hd) h
 | rangeFunc g ps x y ihx ihy =>
  intro L hX hC r nn Q F β σ a w hr S h
  rcases hr with ⟨rfl, h1, h2⟩ | hr
  ·cases g with
   | tmp g => exact qeO hX hC h1 h2 S h (fun hX hC _ _ _ _ _ _ _ hn S h => ihx hX hC (.inr hn) S h) (fun hX hC _ _ _ _ _ _ _ hn S h => ihy hX hC (.inr hn) S h)
   | _ => exact h.elim
  ·cases hr
 | _ => intros; rename_i h; exact h.elim
theorem Sim.unmark {L : Pl} {F : Nat -> Prop} {β : Nat -> Option Bk} {σ : St} {a : Act} {w : World} (S : Sim L F β σ a w) {D : Nat} {Ds : List Nat} (hD : L.w0.heap.size <= D) (hn : (D :: Ds).Nodup) (hds : ∀ E ∈ Ds, L.w0.heap.size <= E /\ w.heap[E]? = some (.deferred (some []))) (hrd : L.rd = false) (hh : w.heap[D]? = some (.deferred (some []))) (hG : ∀ b o, L.G.obj b = some o -> b ≠ D) (o : Obj) :
  Sim L F β σ { a with defers := Ds.map fun D => { target := .collected D, args := #[] } } (w.putObj D o) :=
 S.turnedD (jj.shut hh o) hD hG rfl ⟨Ds, rfl, (List.nodup_cons.1 hn).2, fun E hE => ⟨(hds E hE).1, by
  have hne : E ≠ D := fun e => (List.nodup_cons.1 hn).1 (by rw [<- e]; exact hE)
  rw [World.putObj_heap_other hne]; exact (hds E hE).2⟩, fun h => by rw [hrd] at h; cases h⟩
theorem XC {L : Pl} {F : Nat -> Prop} {β : Nat -> Option Bk} {σ : St} {fn : Func} {R : Ending -> World -> Prop} {tmps : Array Value} (hrd : L.rd = false) (hG : ∀ b o, L.G.obj b = some o -> b < L.w0.heap.size) (hp : ∀ w, Sim L F β σ { tmps := tmps, defers := [] } w -> ∃ v, (results fn tmps).run P w = .ok v w /\ R (.returned v) w) :
  ∀ (Ds : List Nat) {w : World}, Sim L F β σ { tmps := tmps, defers := Ds.map fun D => { target := .collected D, args := #[] } } w -> Ds.Nodup -> (∀ D ∈ Ds, L.w0.heap.size <= D /\ w.heap[D]? = some (.deferred (some []))) -> LeavesInM Fence.wide 1 P fn tmps R (Ds.map fun D => { target := .collected D, args := #[] }) .returning w
 | [], w, S, _, _ => by
  obtain ⟨v, h1, h2⟩ := hp w S
  exact ⟨v, h1, h2⟩
 | D :: Ds, w, S, hn, hds => by
  obtain ⟨h1, h2⟩ := hds D List.mem_cons_self
  have hds' : ∀ E ∈ Ds, L.w0.heap.size <= E /\ w.heap[E]? = some (.deferred (some [])) := fun E hE => hds E (List.mem_cons_of_mem _ hE)
  refine ⟨by simp, .inl ⟨D, _, rfl, run_takeDeferred h2, ?_⟩⟩
  refine XC hrd hG hp Ds (S.unmark h1 hn hds' hrd h2 (fun b o hb => by have := hG b o hb; omega) _) (List.nodup_cons.1 hn).2 fun E hE => ⟨(hds' E hE).1, ?_⟩
  have hne : E ≠ D := fun e => (List.nodup_cons.1 hn).1 (by rw [<- e]; exact hE)
  rw [World.putObj_heap_other hne]
  exact (hds' E hE).2
theorem Sim.leaves {L : Pl} {F : Nat -> Prop} {β : Nat -> Option Bk} {σ : St} {a : Act} {w : World} {fn : Func} {R : Ending -> World -> Prop} (S : Sim L F β σ a w) (hrd : L.rd = false) (hG : ∀ b o, L.G.obj b = some o -> b < L.w0.heap.size) (hp : ∀ w, Sim L F β σ { tmps := a.tmps, defers := [] } w -> ∃ v, (results fn a.tmps).run P w = .ok v w /\ R (.returned v) w) : LeavesInM Fence.wide 1 P fn a.tmps R a.defers .returning w := by
 obtain ⟨Ds, e1, e2, e3, -⟩ := S.defs
 rw [e1]
 refine XC hrd hG hp Ds ?_ e2 e3
 rw [<- e1]
 exact S
theorem ZF {f : FuncId} {fn : Func} {c : Code} {args : Array Value} {w : World} {R : Ending -> World -> Prop} (hf : P.funcs[f]? = some fn) (hb : fn.body = some c)
  (h : c.wpIn (uS none) 1 P (bodyPostM Fence.wide 1 P fn R) { tmps := args ++ Array.replicate (fn.ntmps - args.size) undef, defers := [] } w) : Calls P f args w R :=
 callsIn_wide.1 (callsIn_of_wp_marks (n := 1) hf hb trivial h)
end
end Go.Bl
