import Derived.Test.YtnafknkchbfpaaaGreatDoorPE
import Derived.Deep.LoopGhost
set_option linter.unusedVariables false
set_option linter.unusedSimpArgs false
namespace Go.Bl
open Go.RowKit
section
variable {α : Type} {P : Program} {X : Cx} {L : Pl} {F : Nat -> Prop} {β : Nat -> Option Bk} {σ : St} {a : Act} {w : World} {C : FuncId -> List RA -> RA -> List RA -> Prop} {b : α} {l : List Lc} {A : Nat -> Prop}
def qeC (P : Program) (L : Pl) (F : Nat -> Prop) (σ' : St) (a : Act) (ops : Array Oper) (o : Oper) (w : World) : Prop :=
 (Region.wanted o (yielded ops a.tmps) = true /\ xO P L F σ' a o w) ∨ (Region.wanted o (yielded ops a.tmps) = false /\ ∃ β', Sim L F β' σ' (a.put o.dst undef) w)
theorem qaF {a : Act} {s : Nat} {x : Bool} (h : slot a s = .bool x) : a.tmps[s]? = some (.bool x) := by
 unfold slot at h
 by_cases hs : s < a.tmps.size
 ·simp [Array.getD_eq_getD_getElem?, hs] at h
  simp [hs, h]
 ·simp [Array.getD_eq_getD_getElem?, hs, undef] at h
theorem ZU (hX : Cok P X L) (S : Sim L F β σ a w) {ops : Array Oper} {o : Oper} {out : Out} (h : (Vj X ops o).runs C σ out l) (hd : ∀ d, o.dst = some d -> d < L.N /\ d < 1000) (hF : ∀ d, o.dst = some d -> ∀ n, n % 1000 = d -> F n)
  (hC : ∀ f as r ys, C f as r ys -> Con P L.G f as r ys) : qeC P L (fun n => F n /\ ∀ d, o.dst = some d -> n % 1000 ≠ d) (σ.put o.dst out) a ops o w := by
 unfold Vj at h
 cases hg : o.guard with
 | none =>
  rw [hg] at h
  exact .inl ⟨by simp [Region.wanted, hg], Zv hX S h hd hF hC⟩
 | some jt =>
  obtain ⟨j, want⟩ := jt
  rw [hg] at h
  simp only at h
  split at h
  ·rename_i s hs
   obtain ⟨x, l1, hx, -, h⟩ := h
   unfold WI at h
   split at h
   ·rename_i q
    obtain ⟨e, -⟩ := qQ (S.slots s _ hx)
    have hy : yielded ops a.tmps j = some q := by simp [yielded, hs, qaF e]
    cases q <;> cases want
    ·exact .inl ⟨by simp [Region.wanted, hg, hy], Zv hX S h hd hF hC⟩
    ·obtain ⟨rfl, -⟩ := h
     exact Y16
    ·obtain ⟨rfl, -⟩ := h
     exact Y16
    ·exact .inl ⟨by simp [Region.wanted, hg, hy], Zv hX S h hd hF hC⟩
   ·obtain ⟨rfl, -⟩ := h
    have hy : yielded ops a.tmps j = none := by
     have e : slot a s = .tuple #[] := by
      obtain ⟨us, e1, e2⟩ := qeI (S.slots s _ hx)
      cases e2
      exact e1
     unfold yielded
     rw [hs]
     simp only [Option.bind_some]
     by_cases hs' : s < a.tmps.size
     ·have : a.tmps[s]? = some (.tuple #[]) := by
       unfold slot at e
       simp [Array.getD_eq_getD_getElem?, hs'] at e
       simp [hs', e]
      rw [this]
     ·rw [Array.getElem?_eq_none (Nat.not_lt.1 hs')]
    exact Y16
   ·exact Y5
  ·exact Y5
theorem U1 {γ : Type} {m : RM γ} {K : zM} {out : γ} {K' : zM} (h : (m.bind fun out => (.ret (out, K) : RM (γ × zM))).runs C σ (out, K') l) : m.runs C σ out l := by
 obtain ⟨a, l1, l2, h1, h2, rfl⟩ := RM.runs_bind h
 obtain ⟨e, rfl⟩ := h2
 cases e
 simpa using h1
theorem Lv {x : Operand} {K : zM} {out : Out} {K' : zM} (h : (evK X x fun y => (.ret (⟨some y, []⟩, K) : RM (Out × zM))).runs C σ (out, K') l) : (evK X x val).runs C σ out l := by
 cases x with
 | tmp s =>
  obtain ⟨y, l', h1, h2, e, e2⟩ := h
  cases e
  exact ⟨y, l', h1, h2, rfl, e2⟩
 | const v =>
  simp only [evK] at h ⊢
  split at h
  ·obtain ⟨e, e2⟩ := h
   cases e
   exact ⟨rfl, e2⟩
  ·exact Y5
 | global g =>
  simp only [evK] at h ⊢
  split at h
  ·obtain ⟨e, e2⟩ := h
   cases e
   exact ⟨rfl, e2⟩
  ·exact Y5
 | func f =>
  obtain ⟨e, e2⟩ := h
  cases e
  exact ⟨rfl, e2⟩
theorem yk {K : zM} {o : Oper} {out : Out} {K' : zM} (h : (opK X K o).runs C σ (out, K') l) : (opM X o).runs C σ out l := by
 unfold opK at h
 split at h
 ·rename_i s x y hop
  split at h
  ·rename_i c hc
   obtain ⟨u, l', hs, hl, h⟩ := h
   unfold opM
   rw [hop]
   refine ⟨_, l', hs, hl, ?_⟩
   dsimp only at h ⊢
   split at h
   ·rename_i q
    obtain ⟨h1, h⟩ := h
    have h1 : q = c := (h1 ()).out
    subst h1
    cases q
    ·exact Lv h
    ·exact Lv h
   ·exact Y5
  ·exact U1 h
 ·exact U1 h
theorem Uy {ops : Array Oper} {K : zM} {o : Oper} {out : Out} {K' : zM} (h : (Le X ops K o).runs C σ (out, K') l) : (Vj X ops o).runs C σ out l := by
 unfold Le at h
 unfold Vj
 split at h
 ·rename_i hg
  exact yk h
 ·rename_i j want hg
  split at h
  ·rename_i s hs
   obtain ⟨a, l', h1, h2, h⟩ := h
   refine ⟨a, l', h1, h2, ?_⟩
   dsimp only at h
   split at h
   ·rename_i b
    unfold WI
    split at h
    ·rename_i c hc
     obtain ⟨h3, h⟩ := h
     have h3 : b = c := (h3 ()).out
     subst h3
     show RM.runs C σ _ out l'
     cases b <;> cases want
     ·exact yk h
     ·exact Y25
     ·exact Y25
     ·exact yk h
    ·cases b <;> cases want
     ·exact yk h
     ·exact Y25
     ·exact Y25
     ·exact yk h
   ·exact Y25
   ·exact Y5
  ·exact Y5
theorem Ko {ops : Array Oper} {o : Oper} {rest : List Oper} {F' : Nat -> Prop} {σ' : St} {Q : Exit -> Act -> World -> Prop} (h : qeC P L F' σ' a ops o w) (hk : ∀ β' a' w', Sim L F' β' σ' a' w' -> wpList P ops Q rest a' w') : wpList P ops Q (o :: rest) a w := by
 refine wpList_step fun K hK => ?_
 rcases h with ⟨hw, h⟩ | ⟨hw, β', h⟩
 ·rw [if_pos hw]
  unfold Oper.wp
  unfold xO at h
  generalize (execOp a.eval o).run P w = r at *
  cases r with
  | ok n w' =>
   cases n <;> simp only [Oper.upon, qad] at h ⊢
   case value v => obtain ⟨β', h⟩ := h; exact hK _ _ (hk _ _ _ h)
   case skip => obtain ⟨β', h⟩ := h; exact hK _ _ (hk _ _ _ h)
   case enter f args => exact Calls.mono h fun e w he => by cases e <;> first | (obtain ⟨β', he⟩ := he; exact hK _ _ (hk _ _ _ he)) | exact he.elim
   case row row args => exact Rows.mono h fun v w he => by obtain ⟨β', he⟩ := he; exact hK _ _ (hk _ _ _ he)
  | halt x w' => exact h.elim
 ·rw [if_neg (by rw [hw]; simp)]
  exact hK _ _ (hk _ _ _ h)
theorem ze {o : Oper} {ops : List Oper} {d : Nat} (h : o.dst = some d) : zO (o :: ops) = d :: zO ops := by simp [zO, h]
theorem vR {o : Oper} {ops : List Oper} (h : o.dst = none) : zO (o :: ops) = zO ops := by simp [zO, h]
theorem QG {o : Oper} {d : Nat} (hd : o.dst = some d) : ∀ {ops : List Oper}, o ∈ ops -> d ∈ zO ops := by
 intro ops
 induction ops with
 | nil => intro h; cases h
 | cons p ops ih =>
  intro h
  rcases List.mem_cons.1 h with rfl | h
  ·rw [ze hd]; exact List.mem_cons_self
  ·cases e : p.dst with
   | none => rw [vR e]; exact ih h
   | some d' => rw [ze e]; exact List.mem_cons_of_mem _ (ih h)
theorem qaZ (hX : Cok P X L) (hC : ∀ f as r ys, C f as r ys -> Con P L.G f as r ys) {ops : Array Oper} {Q : St -> Prop} {Q' : Exit -> Act -> World -> Prop} (hQ : ∀ β σ a w, Q σ -> Sim L (fun _ => False) β σ a w -> Q' .normal a w) :
  ∀ (rest : List Oper) {K : zM} {F : Nat -> Prop} {β : Nat -> Option Bk} {σ : St} {a : Act} {w : World}, Sim L F β σ a w -> (zO rest).Nodup -> (∀ d ∈ zO rest, d < L.N /\ d < 1000) -> (∀ d ∈ zO rest, ∀ n, n % 1000 = d -> F n) -> LR X C ops rest K σ Q -> wpList P ops Q' rest a w := by
 intro rest
 induction rest with
 | nil =>
  intro K F β σ a w S _ _ _ h
  exact wpList_nil (hQ β σ a w h (S.fewer fun _ h => h.elim))
 | cons o rest ih =>
  intro K F β σ a w S hn hd hF h
  unfold LR at h
  obtain ⟨⟨out, K'⟩, l, h1, h2⟩ := RM.runs_of_vc h
  have h1 := Uy h1
  have hdo : ∀ d, o.dst = some d -> d ∈ zO (o :: rest) := fun d e => by rw [ze e]; exact List.mem_cons_self
  have hok := ZU hX S h1 (fun d e => hd d (hdo d e)) (fun d e => hF d (hdo d e)) hC
  refine Ko hok fun β' a' w' S' => ?_
  refine ih S' ?_ ?_ ?_ h2
  ·cases e : o.dst with
   | none => rw [vR e] at hn; exact hn
   | some d => rw [ze e] at hn; exact (List.nodup_cons.1 hn).2
  ·intro d hm
   cases e : o.dst with
   | none => rw [vR e] at hd; exact hd d hm
   | some d' => rw [ze e] at hd; exact hd d (List.mem_cons_of_mem _ hm)
  ·intro d hm n hnd
   cases e : o.dst with
   | none =>
    rw [vR e] at hF
    exact ⟨hF d hm n hnd, fun d' e' => by cases e'⟩
   | some d' =>
    rw [ze e] at hF hn
    refine ⟨hF d (List.mem_cons_of_mem _ hm) n hnd, fun d'' e'' he => ?_⟩
    cases e''
    exact (List.nodup_cons.1 hn).1 (by rw [<- he, hnd]; exact hm)
mutual
theorem qq.less {β β' : Nat -> Option Bk} {p : Nat -> Bool} (hb : ∀ n k, β n = some k -> p n = false -> β' n = some k) : ∀ {x : AV} {u : Value}, x.has p = false -> qq β A w x u -> qq β' A w x u
 | _, _, _, .pv h => .pv h
 | _, _, _, .nil => .nil
 | _, _, hp, .ref h h1 => .ref (hb _ _ h Y53) h1
 | _, _, hp, .own h => .own (hb _ _ h Y53)
 | _, _, hp, .sl h h1 h2 h3 h5 => .sl (hb _ _ h Y53) h1 h2 h3 h5
 | _, _, _, .sl0 => .sl0
 | _, _, hp, .ag h h1 => .ag (qf.less hb Y53 h) h1
 | _, _, hp, .tup h => .tup (qf.less hb Y53 h)
 | _, _, hp, .fn h h1 => .fn (qf.less hb (by simp [AV.has] at hp; exact hp.1) h) (qf.less hb (by simp [AV.has] at hp; exact hp.2) h1)
theorem qf.less {β β' : Nat -> Option Bk} {p : Nat -> Bool} (hb : ∀ n k, β n = some k -> p n = false -> β' n = some k) : ∀ {xs : List AV} {us : List Value}, AV.hasL p xs = false -> qf β A w xs us -> qf β' A w xs us
 | _, _, _, .nil => .nil
 | _, _, hp, .cons h h1 => .cons (qq.less hb (by simp [AV.hasL] at hp; exact hp.1) h) (qf.less hb (by simp [AV.hasL] at hp; exact hp.2) h1)
end
theorem Qx {p : Nat -> Bool} : ∀ {l : List (Nat × Option AV)} {s : Nat} {x : AV}, zY p l = false -> qy l s = some (some x) -> x.has p = false
 | (k, some y) :: l, s, x, h, hl => by
  simp only [zY, Bool.or_eq_false_iff] at h
  simp only [qy] at hl
  split at hl
  ·cases hl; exact h.1
  ·exact Qx h.2 hl
 | (k, none) :: l, s, x, h, hl => by
  simp only [zY] at h
  simp only [qy] at hl
  split at hl
  ·cases hl
  ·exact Qx h hl
theorem Jk {p : Nat -> Bool} : ∀ {l : List (Nat × Option Ob)} {n : Nat} {o : Ob}, uS p l = false -> qy l n = some (some o) -> p n = false /\ o.has p = false
 | (k, some y) :: l, n, o, h, hl => by
  simp only [uS, Bool.or_eq_false_iff] at h
  simp only [qy] at hl
  split at hl
  ·rename_i e; subst e; cases hl; exact ⟨h.1, h.2.1⟩
  ·exact Jk h.2.2 hl
 | (k, none) :: l, n, o, h, hl => by
  simp only [uS] at h
  simp only [qy] at hl
  split at hl
  ·cases hl
  ·exact Jk h hl
theorem zV {α : Type} {l : List (Nat × Option α)} {n : Nat} {x : α} (h : (qy l n).join = some x) : qy l n = some (some x) := by
 cases hl : qy l n with
 | none => rw [hl] at h; cases h
 | some y => rw [hl] at h; cases y with | none => cases h | some z => cases h; rfl
theorem Sim.free (S : Sim L F β σ a w) {ds : List Nat} (h : σ.fresh ds = true) : ∃ β', Sim L (fun n => n % 1000 ∈ ds) β' σ a w := by
 have hf : (zY (fun n => vv ds (n % 1000)) σ.slots = false /\ uS (fun n => vv ds (n % 1000)) σ.objs = false) /\ vv ds 999 = false := by
  unfold St.fresh at h
  simpa using h
 obtain ⟨⟨hs, ho⟩, h9⟩ := hf
 let p : Nat -> Bool := fun n => vv ds (n % 1000)
 let β' : Nat -> Option Bk := fun n => if p n then none else β n
 have hb : ∀ n k, β n = some k -> p n = false -> β' n = some k := fun n k h1 h2 => by simp only [β', h2]; exact h1
 have hbk : ∀ n k, β' n = some k -> β n = some k := fun n k h => by
  simp only [β'] at h
  split at h
  ·cases h
  ·exact h
 have hob : ∀ n o, σ.obj n = some o -> p n = false /\ o.has p = false := fun n o h => Jk ho (zV h)
 have hM : Mut L.A0 β' σ = Mut L.A0 β σ := by
  funext c
  apply propext
  constructor
  ·rintro (h | ⟨n, o, k, h1, h2, h3, h4⟩)
   ·exact .inl h
   ·exact .inr ⟨n, o, k, h1, h2, hbk _ _ h3, h4⟩
  ·rintro (h | ⟨n, o, k, h1, h2, h3, h4⟩)
   ·exact .inl h
   ·exact .inr ⟨n, o, k, h1, h2, hb _ _ h3 (hob n o h1).1, h4⟩
 refine ⟨β', S.size, S.defs, ?_, ?_, fun n k h => S.one n k (hbk _ _ h), ?_, fun n m o o' k k' c h1 h2 h3 h4 => S.inj n m o o' k k' c h1 h2 (hbk _ _ h3) (hbk _ _ h4), fun n o k c h1 h2 => S.low n o k c h1 (hbk _ _ h2), S.fr, by rw [hM]; exact S.env, S.a0, fun n k hp => ⟨hb n k (S.pin n k hp).1 (by show vv ds (n % 1000) = false; rw [(S.pin n k hp).2]; exact h9), (S.pin n k hp).2⟩⟩
 ·intro s x hx
  rw [hM]
  exact (S.slots s x hx).less hb (Qx hs (zV hx))
 ·intro n o hn
  rw [hM]
  obtain ⟨h1, h2⟩ := hob n o hn
  have := S.objs n o hn
  cases o with
  | row e s xs sh => obtain ⟨k, us, q1, r⟩ := this; exact ⟨k, us, hb _ _ q1 h1, r⟩
  | var t xs sh => obtain ⟨k, us, c, q1, r⟩ := this; exact ⟨k, us, c, hb _ _ q1 h1, r⟩
  | box t cs sh => obtain ⟨k, us, c, q1, q2, q3, r⟩ := this; exact ⟨k, us, c, hb _ _ q1 h1, q2, q3.less hb h2, r⟩
  | mrow e xs sh => obtain ⟨k, bs, g, cur, fz, q1, r⟩ := this; exact ⟨k, bs, g, cur, fz, hb _ _ q1 h1, r⟩
  | map ks vs sh => obtain ⟨k, es, ck, c, us, q1, r⟩ := this; exact ⟨k, es, ck, c, us, hb _ _ q1 h1, r⟩
 ·intro n hn
  have : p n = true := Q8.2 hn
  simp only [β', this, if_true]
end
end Go.Bl
namespace Go.Bl
open Go.RowKit
section
variable {P : Program} {X : Cx} {L : Pl} {F : Nat -> Prop} {β : Nat -> Option Bk} {σ : St} {a : Act} {w : World} {C : FuncId -> List RA -> RA -> List RA -> Prop}
abbrev Tr := List (Out × List Lc)
def LZ (X : Cx) (C : FuncId -> List RA -> RA -> List RA -> Prop) (ops : Array Oper) : List Oper -> Tr -> St -> Prop
 | [], [], _ => True
 | o :: os, (out, l) :: t, σ => (Vj X ops o).runs C σ out l /\ LZ X C ops os t (σ.put o.dst out)
 | _, _, _ => False
def Xx : List Oper -> Tr -> St -> St
 | o :: os, (out, _) :: t, σ => Xx os t (σ.put o.dst out)
 | _, _, σ => σ
def lgs : List Oper -> Tr -> List Lg
 | o :: os, (out, l) :: t => ⟨l, out.wr o.dst⟩ :: lgs os t
 | _, _ => []
theorem Wx {ops : Array Oper} {Q : St -> Prop} : ∀ {os : List Oper} {K : zM} {M : List Lg} {σ : St}, Uo X C ops os K M σ Q -> ∃ t, LZ X C ops os t σ /\ Um ops (M.reverse ++ lgs os t) = true /\ Q (Xx os t σ) := by
 intro os
 induction os with
 | nil => intro K M σ h; exact ⟨[], trivial, by simpa [lgs] using h.1, h.2⟩
 | cons o os ih =>
  intro K M σ h
  unfold Uo at h
  obtain ⟨⟨out, K'⟩, l, h1, h2⟩ := RM.runs_of_vc h
  have h1 := Uy h1
  obtain ⟨t, h3, h4, h5⟩ := ih h2
  exact ⟨(out, l) :: t, ⟨h1, h3⟩, by simpa [lgs] using h4, h5⟩
def stF (dn : Nat -> Bool) : Nat -> List Oper -> Tr -> St -> St
 | i, o :: os, (out, _) :: t, σ => stF dn (i + 1) os t (if dn i then σ.put o.dst out else σ)
 | _, _, _, σ => σ
theorem St.put_slot (σ : St) (d : Option Nat) (o : Out) (s : Nat) : (σ.put d o).slot s = if d = some s then o.val else σ.slot s := by
 by_cases h : d = some s
 ·subst h; rw [if_pos rfl]; exact St.slot_put_self
 ·rw [if_neg h]; exact St.slot_put_ne h
theorem St.put_obj (σ : St) (d : Option Nat) (o : Out) (n : Nat) : (σ.put d o).obj n = match qy o.objs n with | some x => x | none => σ.obj n := by
 have e : (σ.put d o).obj n = (σ.more o.objs).obj n := by cases d <;> rfl
 rw [e, St.more_obj]
 cases qy o.objs n <;> rfl
theorem qbT {σ τ : St} {c : Lc} (h : c.same σ τ) (d : Option Nat) (o : Out) : c.same (σ.put d o) (τ.put d o) := by
 cases c with
 | s n => simp only [Lc.same, St.put_slot] at h ⊢; rw [h]
 | o n => simp only [Lc.same, St.put_obj] at h ⊢; rw [h]
theorem ZA {α : Type} : ∀ {l : List (Nat × α)} {n : Nat}, (∃ x, qy l n = some x) ↔ ∃ x ∈ l, x.1 = n
 | [], n => by simp [qy]
 | (k, x) :: l, n => by
  simp only [qy]
  by_cases h : n = k
  ·subst h
   exact ⟨fun _ => ⟨_, List.mem_cons_self, rfl⟩, fun _ => ⟨x, by simp⟩⟩
  ·rw [if_neg h, ZA]
   constructor
   ·rintro ⟨y, h1, h2⟩; exact ⟨y, List.mem_cons_of_mem _ h1, h2⟩
   ·rintro ⟨y, h1, h2⟩
    rcases List.mem_cons.1 h1 with rfl | h1
    ·exact absurd h2.symm h
    ·exact ⟨y, h1, h2⟩
theorem Jl {σ : St} {c : Lc} {d : Option Nat} {o : Out} (h : c ∉ o.wr d) : c.same (σ.put d o) σ := by
 cases c with
 | s n =>
  simp only [Lc.same, St.put_slot]
  rw [if_neg]
  rintro rfl
  exact h (by simp [Out.wr])
 | o n =>
  simp only [Lc.same, St.put_obj]
  cases hl : qy o.objs n with
  | none => rfl
  | some x =>
   obtain ⟨y, h1, h2⟩ := ZA.1 ⟨x, hl⟩
   exact absurd (List.mem_append.2 (.inr (List.mem_map.2 ⟨y, h1, by rw [h2]⟩))) h
theorem qft {σ τ : St} {c : Lc} {d : Option Nat} {o : Out} (h : c ∈ o.wr d) : c.same (σ.put d o) (τ.put d o) := by
 cases c with
 | s n =>
  simp only [Lc.same, St.put_slot]
  have : d = some n := by
   unfold Out.wr at h
   rcases List.mem_append.1 h with h | h
   ·cases d with
    | none => simp at h
    | some d => simp at h; rw [h]
   ·obtain ⟨y, -, h2⟩ := List.mem_map.1 h; cases h2
  rw [if_pos this, if_pos this]
 | o n =>
  simp only [Lc.same, St.put_obj]
  have : ∃ y ∈ o.objs, y.1 = n := by
   unfold Out.wr at h
   rcases List.mem_append.1 h with h | h
   ·cases d with
    | none => simp at h
    | some d => simp at h
   ·obtain ⟨y, h1, h2⟩ := List.mem_map.1 h; cases h2; exact ⟨y, h1, rfl⟩
  obtain ⟨x, hx⟩ := ZA.2 this
  rw [hx]
theorem Lc.same.symm {σ τ : St} {c : Lc} (h : c.same σ τ) : c.same τ σ := by cases c <;> exact Eq.symm h
theorem Lc.same.trans {σ τ υ : St} {c : Lc} (h : c.same σ τ) (k : c.same τ υ) : c.same σ υ := by cases c <;> exact Eq.trans h k
theorem Lc.same.rfl' {σ : St} {c : Lc} : c.same σ σ := by cases c <;> rfl
theorem QS {c : Lc} {dn dm : Nat -> Bool} : ∀ {os : List Oper} {t : Tr} {i : Nat} {σ τ : St}, c.same σ τ -> (∀ k o out l, os[k]? = some o -> t[k]? = some (out, l) -> dn (i + k) ≠ dm (i + k) -> c ∉ out.wr o.dst) -> c.same (stF dn i os t σ) (stF dm i os t τ) := by
 intro os
 induction os with
 | nil => intro t i σ τ h _; exact h
 | cons o os ih =>
  intro t i σ τ h hk
  cases t with
  | nil => exact h
  | cons ol t =>
   obtain ⟨out, l⟩ := ol
   simp only [stF]
   refine ih ?_ fun k o' out' l' h1 h2 h3 => hk (k + 1) o' out' l' Y74 Y73 (by rwa [show i + (k + 1) = i + 1 + k by omega])
   have h0 := hk 0 o out l rfl rfl
   simp only [Nat.add_zero] at h0
   by_cases hd : dn i = dm i
   ·rw [hd]
    split
    ·exact qbT h _ _
    ·exact h
   ·have hw := h0 hd
    cases hx : dn i <;> cases hy : dm i
    ·rw [hx, hy] at hd; exact absurd rfl hd
    ·simp only [if_true, Bool.false_eq_true, if_false]; exact h.trans (Jl hw).symm
    ·simp only [if_true, Bool.false_eq_true, if_false]; exact (Jl hw).trans h
    ·rw [hx, hy] at hd; exact absurd rfl hd
theorem qcT {c : Lc} {dn : Nat -> Bool} : ∀ {os : List Oper} {t : Tr} {i k : Nat} {σ υ : St} {o : Oper} {out : Out} {l : List Lc}, os[k]? = some o -> t[k]? = some (out, l) -> dn (i + k) = true -> c ∈ out.wr o.dst ->
  (∀ m o' out' l', k < m -> os[m]? = some o' -> t[m]? = some (out', l') -> dn (i + m) = true -> c ∉ out'.wr o'.dst) -> c.same (stF dn i os t σ) (υ.put o.dst out) := by
 intro os
 induction os with
 | nil => intro t i k σ υ o out l h; simp at h
 | cons p os ih =>
  intro t i k σ υ o out l h1 h2 h3 h4 h5
  cases t with
  | nil => simp at h2
  | cons ol t =>
   obtain ⟨out1, l1⟩ := ol
   simp only [stF]
   cases k with
   | zero =>
    simp at h1 h2
    obtain ⟨rfl, rfl⟩ := h2
    subst h1
    simp only [Nat.add_zero] at h3
    rw [h3, if_pos rfl]
    have := QS (c := c) (dn := dn) (dm := fun _ => false) (os := os) (t := t) (i := i + 1) (σ := σ.put p.dst out1) (τ := υ.put p.dst out1) (qft h4) (fun m o' out' l' g1 g2 g3 => h5 (m + 1) o' out' l' Y44 (by simpa using g1) (by simpa using g2) (by
     rw [show i + (m + 1) = i + 1 + m by omega]
     cases hd : dn (i + 1 + m) with
     | true => rfl
     | false => rw [hd] at g3; exact absurd rfl g3))
    refine this.trans ?_
    have e : ∀ (os : List Oper) (t : Tr) (i : Nat) (σ : St), stF (fun _ => false) i os t σ = σ := by
     intro os
     induction os with
     | nil => intro t i σ; rfl
     | cons o os ih =>
      intro t i σ
      cases t with
      | nil => rfl
      | cons ol t => simp only [stF, Bool.false_eq_true, if_false]; exact ih t (i + 1) σ
    rw [e]
    exact Lc.same.rfl'
   | succ k =>
    refine ih (k := k) Y74 Y73 (by rwa [show i + 1 + k = i + (k + 1) by omega]) h4 fun m o' out' l' g1 g2 g3 g4 => h5 (m + 1) o' out' l' Y44 (by simpa using g2) (by simpa using g3) (by rwa [show i + (m + 1) = i + 1 + m by omega])
theorem qcP {ops : Array Oper} : ∀ {os : List Oper} {t : Tr} {σ : St} {i k : Nat} {o : Oper}, LZ X C ops os t σ -> os[k]? = some o -> ∃ out l, t[k]? = some (out, l) /\ (Vj X ops o).runs C (stF (fun j => decide (j < i + k)) i os t σ) out l := by
 intro os
 induction os with
 | nil => intro t σ i k o _ h; simp at h
 | cons p os ih =>
  intro t σ i k o ht h
  cases t with
  | nil => exact ht.elim
  | cons ol t =>
   obtain ⟨out, l⟩ := ol
   obtain ⟨h1, h2⟩ := ht
   cases k with
   | zero =>
    simp at h
    subst h
    refine ⟨out, l, rfl, ?_⟩
    have e : ∀ (os : List Oper) (t : Tr) (j : Nat) (σ : St), i <= j -> stF (fun j => decide (j < i + 0)) j os t σ = σ := by
     intro os
     induction os with
     | nil => intro t j σ _; rfl
     | cons o os ih =>
      intro t j σ hj
      cases t with
      | nil => rfl
      | cons ol t =>
       simp only [stF]
       rw [if_neg Y46]
       exact ih t (j + 1) σ Y44
    rw [e _ _ _ _ (Nat.le_refl _)]
    exact h1
   | succ k =>
    obtain ⟨out', l', h3, h4⟩ := ih (i := i + 1) (k := k) h2 Y60
    refine ⟨out', l', by simpa using h3, ?_⟩
    simp only [stF]
    rw [if_pos Y77]
    rwa [show i + (k + 1) = i + 1 + k by omega]
theorem qbg {ops : Array Oper} : ∀ {os : List Oper} {t : Tr} {σ : St}, LZ X C ops os t σ -> t.length = os.length := by
 intro os
 induction os with
 | nil => intro t σ h; cases t with | nil => rfl | cons _ _ => exact h.elim
 | cons o os ih => intro t σ h; cases t with | nil => exact h.elim | cons ol t => simp [ih h.2]
theorem qfd : ∀ {os : List Oper} {t : Tr} {k : Nat} {o : Oper} {out : Out} {l : List Lc}, os[k]? = some o -> t[k]? = some (out, l) -> (lgs os t)[k]? = some ⟨l, out.wr o.dst⟩ := by
 intro os
 induction os with
 | nil => intro t k o out l h; simp at h
 | cons p os ih =>
  intro t k o out l h1 h2
  cases t with
  | nil => simp at h2
  | cons ol t =>
   cases k with
   | zero => simp at h1 h2; obtain ⟨rfl, rfl⟩ := h2; subst h1; rfl
   | succ k => simp only [lgs, List.getElem?_cons_succ]; exact ih Y74 Y73
theorem qem : ∀ {os : List Oper} {t : Tr} {i : Nat} {σ : St} {dn : Nat -> Bool}, (∀ k, k < os.length -> dn (i + k) = true) -> stF dn i os t σ = Xx os t σ := by
 intro os
 induction os with
 | nil => intro t i σ dn _; cases t <;> rfl
 | cons o os ih =>
  intro t i σ dn h
  cases t with
  | nil => rfl
  | cons ol t =>
   simp only [stF, Xx]
   rw [if_pos (by simpa using h 0 Y77)]
   exact ih fun k hk => by rw [show i + 1 + k = i + (k + 1) by omega]; exact h (k + 1) (by simpa using hk)
theorem YC {x y : Lg} {c : Lc} (h : (c ∈ x.wr /\ (c ∈ y.rd ∨ c ∈ y.wr)) ∨ (c ∈ y.wr /\ c ∈ x.rd)) : x.clash y = true := by
 unfold Lg.clash
 rw [Bool.or_eq_true, List.any_eq_true, List.any_eq_true]
 rcases h with ⟨h1, h2⟩ | ⟨h1, h2⟩
 ·refine .inl ⟨c, h1, ?_⟩
  rw [Bool.or_eq_true]
  rcases h2 with h2 | h2
  ·exact .inl Y73
  ·exact .inr Y73
 ·exact .inr ⟨c, h1, by simpa using h2⟩
theorem Vr {ops : Array Oper} {M : List Lg} (h : Um ops M = true) {i j : Nat} (hij : i < j) (hj : j < M.length) {x y : Lg} (hx : M[i]? = some x) (hy : M[j]? = some y) (hc : x.clash y = true) : jy ops 12 j i = true := by
 unfold Um at h
 rw [Bool.and_eq_true] at h
 have h1 := List.all_eq_true.1 (List.all_eq_true.1 h.2 j (List.mem_range.2 hj)) i (List.mem_range.2 hij)
 rw [List.getD_eq_getElem?_getD, List.getD_eq_getElem?_getD, hx, hy] at h1
 simp only [Option.getD_some, hc] at h1
 unfold qdu at h1
 split at h1
 ·rename_i h2
  exact List.any_eq_true.2 ⟨i, by simpa using h2, by simp⟩
 ·exact h1
theorem Sim.world (S : Sim L F β σ a w) {w' : World} (hfr : Fr [] w w') : Sim L F β σ a w' := by
 have hst : js (Mut L.A0 β σ) (Mut L.A0 β σ) w w' := ⟨fun b hb _ => hfr.block b hb Y77, fun _ _ h => h⟩
 refine S.turn (jq.refl _) hst rfl rfl (fun s x hx => .inl ⟨hx, rfl⟩) (fun n o hn => .inl ⟨o, hn, .inl rfl, fun k b h1 h2 => ?_⟩) S.one S.res S.inj S.low (S.fr.trans (hfr.weak))
 obtain ⟨k', h3, h4⟩ := (S.objs n o hn).bound
 rw [h1] at h3; cases h3
 exact hfr.block b (h4 b h2) Y77
theorem KR (hX : Cok P X L) (hC : ∀ f as r ys, C f as r ys -> Con P L.G f as r ys) (hm : P.follows .mixedOrders = true) {id : Nat} {os : List Oper} {Q : St -> Prop} {Q' : Exit -> Act -> World -> Prop} (hQ : ∀ β σ a w, Q σ -> Sim L (fun _ => False) β σ a w -> Q' .normal a w)
  (S : Sim L F β σ a w) (hn : (zO os).Nodup) (hd : ∀ d ∈ zO os, d < L.N /\ d < 1000) (hF : ∀ d ∈ zO os, ∀ n, n % 1000 = d -> F n) (h : Uo X C os.toArray os [] [] σ Q) : (Code.region id os.toArray true).wp P Q' a w := by
 obtain ⟨t, ht, hok, hq⟩ := Wx h
 simp only [List.reverse_nil, List.nil_append] at hok
 have hlen := qbg ht
 have hedge : LV os.toArray = true := by unfold Um at hok; rw [Bool.and_eq_true] at hok; exact hok.1
 have hlog : ∀ {k : Nat} {o : Oper} {out : Out} {l : List Lc}, os[k]? = some o -> t[k]? = some (out, l) -> (lgs os t)[k]? = some ⟨l, out.wr o.dst⟩ := fun h1 h2 => qfd h1 h2
 have hlt : ∀ {k : Nat} {x : Lg}, (lgs os t)[k]? = some x -> k < (lgs os t).length := fun h => by
  rcases Nat.lt_or_ge _ (lgs os t).length with h1 | h1
  ·exact h1
  ·rw [List.getElem?_eq_none h1] at h; cases h
 have hdst : ∀ (os : List Oper), (zO os).Nodup -> ∀ i j : Nat, ∀ o o' d, os[i]? = some o -> os[j]? = some o' -> o.dst = some d -> o'.dst = some d -> i = j := by
  intro os
  induction os with
  | nil => intro _ i j o o' d h; simp at h
  | cons p os ih =>
   intro hn i j o o' d h1 h2 h3 h4
   have hn' : (zO os).Nodup := by
    cases e : p.dst with
    | none => rw [vR e] at hn; exact hn
    | some d' => rw [ze e] at hn; exact (List.nodup_cons.1 hn).2
   cases i with
   | zero =>
    cases j with
    | zero => rfl
    | succ j =>
     simp at h1 h2
     subst h1
     rw [ze h3] at hn
     exact absurd (QG h4 (List.mem_of_getElem? h2)) (List.nodup_cons.1 hn).1
   | succ i =>
    cases j with
    | zero =>
     simp at h1 h2
     subst h2
     rw [ze h4] at hn
     exact absurd (QG h3 (List.mem_of_getElem? h1)) (List.nodup_cons.1 hn).1
    | succ j => rw [ih hn' i j o o' d Y74 Y73 h3 h4]
 let Fd : (Nat -> Bool) -> Nat -> Prop := fun dn n => ∃ j o d, os[j]? = some o /\ dn j = false /\ o.dst = some d /\ n % 1000 = d
 refine z8 (fun dn b p => (∃ β' τ, Sim L (Fd dn) β' τ b p /\ ∀ c : Lc, c.same τ (stF dn 0 os t σ)) /\ ∀ x k, dn x = true -> (qF os.toArray x).contains k = true -> dn k = true) hm hedge ?_ ?_ ?_
 ·intro w1 hw1
  refine ⟨⟨β, σ, (S.world hw1).fewer ?_, fun c => ?_⟩, fun x k h => by cases h⟩
  ·rintro n ⟨j, o, d, h1, -, h2, h3⟩
   exact hF d (QG h2 (List.mem_of_getElem? h1)) n h3
  ·have := QS (c := c) (dn := fun _ => false) (dm := fun _ => false) (os := os) (t := t) (i := 0) (σ := σ) (τ := σ) Lc.same.rfl' (fun k o out l _ _ h => absurd rfl h)
   have e : ∀ (os : List Oper) (t : Tr) (i : Nat) (σ : St), stF (fun _ => false) i os t σ = σ := by
    intro os
    induction os with
    | nil => intro t i σ; rfl
    | cons o os ih =>
     intro t i σ
     cases t with
     | nil => rfl
     | cons ol t => simp only [stF, Bool.false_eq_true, if_false]; exact ih t (i + 1) σ
   rw [e]
   exact Lc.same.rfl'
 ·intro i hi dn b p hdn haft ⟨⟨β', τ, Sτ, hs⟩, hcl⟩
  have hi' : i < os.length := by simpa using hi
  have ho' : ∃ o, os[i]? = some o := ⟨os[i]'hi', List.getElem?_eq_getElem hi'⟩
  obtain ⟨o, ho⟩ := ho'
  obtain ⟨out, l, hti, hrun⟩ := qcP (i := 0) ht ho
  simp only [Nat.zero_add] at hrun
  have hdiff : ∀ c : Lc, (c ∈ l ∨ c ∈ out.wr o.dst) -> ∀ k o' out' l', os[k]? = some o' -> t[k]? = some (out', l') -> k ≠ i -> decide (k < i) ≠ dn k -> c ∉ out'.wr o'.dst := by
   intro c hc k o' out' l' g1 g2 g3 g4 g5
   have e1 := hlog ho hti
   have e2 := hlog g1 g2
   rcases Nat.lt_or_gt_of_ne g3 with hk | hk
   ·have hr := Vr hok hk (hlt e1) e2 e1 (YC (c := c) (.inl ⟨g5, hc⟩))
    have := jP hcl 12 i k haft hr
    rw [this] at g4
    simp [hk] at g4
   ·have hr := Vr hok hk (hlt e2) e1 e2 (YC (c := c) (by
     rcases hc with hc | hc
     ·exact .inr ⟨g5, hc⟩
     ·exact .inl ⟨hc, .inr g5⟩))
    have hdk : dn k = true := by
     cases hd : dn k with
     | true => rfl
     | false => rw [hd] at g4; simp at g4; omega
    have := jP hcl 12 k i (fun m hm => hcl k m hdk hm) hr
    rw [hdn] at this; cases this
  have hsame : ∀ c ∈ l, c.same (stF (fun j => decide (j < i)) 0 os t σ) τ := by
   intro c hc
   refine (QS (c := c) Lc.same.rfl' fun k o' out' l' g1 g2 g3 => ?_).trans (hs c).symm
   simp only [Nat.zero_add] at g3
   by_cases hk : k = i
   ·subst hk
    rw [hdn] at g3
    simp at g3
   ·exact hdiff c (.inl hc) k o' out' l' g1 g2 hk g3
  have hrun' := RM.runs_local hrun hsame
  have hdo : ∀ d, o.dst = some d -> d < L.N /\ d < 1000 := fun d e => hd d (QG e (List.mem_of_getElem? ho))
  have hop := ZU hX Sτ hrun' hdo (fun d e n hn => show Fd dn n from ⟨i, o, d, ho, hdn, e, hn⟩) hC
  have hA : os.toArray[i]? = some o := by simpa using ho
  have hdA : qL os.toArray i = o.dst := by simp [qL, ho]
  rw [hdA]
  have fin : ∀ {b' : Act} {p' : World} {β'' : Nat -> Option Bk}, Sim L (fun n => Fd dn n /\ ∀ d, o.dst = some d -> n % 1000 ≠ d) β'' (τ.put o.dst out) b' p' ->
    (∃ β' τ, Sim L (Fd (vi dn i)) β' τ b' p' /\ ∀ c : Lc, c.same τ (stF (vi dn i) 0 os t σ)) /\ ∀ x k, vi dn i x = true -> (qF os.toArray x).contains k = true -> vi dn i k = true := by
   intro b' p' β'' S'
   refine ⟨⟨β'', _, S'.fewer ?_, fun c => ?_⟩, ?_⟩
   ·rintro n ⟨j, o', d', g1, g2, g3, g4⟩
    have hji : j ≠ i := fun e => by subst e; rw [jH] at g2; cases g2
    rw [also_ne dn hji] at g2
    refine ⟨⟨j, o', d', g1, g2, g3, g4⟩, fun d e he => hji ?_⟩
    exact hdst os hn j i o' o d' g1 ho g3 (by rw [e, <- he, g4])
   ·by_cases hc : c ∈ out.wr o.dst
    ·refine Lc.same.symm (qcT (i := 0) (k := i) ho hti (by simp [jH]) hc fun m o' out' l' g1 g2 g3 g4 => ?_)
     simp only [Nat.zero_add] at g4
     rw [also_ne dn Y44] at g4
     exact hdiff c (.inr hc) m o' out' l' g2 g3 Y44 (by rw [g4]; simp; omega)
    ·refine (Jl hc).trans ((hs c).trans (QS Lc.same.rfl' fun k o' out' l' g1 g2 g3 => ?_))
     simp only [Nat.zero_add] at g3
     by_cases hk : k = i
     ·subst hk
      rw [ho] at g1; rw [hti] at g2
      cases g1; cases g2
      exact hc
     ·rw [also_ne dn hk] at g3; exact absurd rfl g3
   ·intro x k hx hk
    by_cases hki : k = i
    ·subst hki; exact jH dn k
    ·rw [also_ne dn hki]
     by_cases hxi : x = i
     ·subst hxi; exact haft k hk
     ·rw [also_ne dn hxi] at hx; exact hcl x k hx hk
  unfold opV
  simp only [hA]
  rcases hop with ⟨hw, hop⟩ | ⟨hw, β'', hop⟩
  ·rw [if_pos hw]
   refine Vt (fun v p' hv => ?_) hop
   obtain ⟨β'', hv⟩ := hv
   exact fin hv
  ·rw [if_neg (by rw [hw]; simp)]
   exact fin hop
 ·intro dn b p hall ⟨⟨β', τ, Sτ, hs⟩, hcl⟩
  rw [qem (fun k hk => by rw [Nat.zero_add]; exact hall k (by simpa using hk))] at hs
  refine hQ β' (Xx os t σ) b p hq ((Sτ.ext (fun s => (hs (.s s)).symm) (fun n => (hs (.o n)).symm)).fewer fun n h => h.elim)
end
end Go.Bl
namespace Go.Bl
open Go.RowKit
section
variable {P : Program} {X : Cx} {L : Pl} {F : Nat -> Prop} {β : Nat -> Option Bk} {σ : St} {a : Act} {w : World} {C : FuncId -> List RA -> RA -> List RA -> Prop} {A : Nat -> Prop}
theorem LP {ρ : List (Nat × Nat)} : ∀ {l : List (Nat × Option AV)} {s : Nat} {x : AV}, qeQ ρ σ l -> qy l s = some (some x) -> σ.slot s = some (x.ren ρ)
 | (k, some y) :: l, s, x, h, hl => by
  simp only [qy] at hl
  split at hl
  ·rename_i e; subst e; cases hl; exact h.1
  ·exact LP h.2 hl
 | (k, none) :: l, s, x, h, hl => h.elim
theorem Lw {ρ : List (Nat × Nat)} : ∀ {l : List (Nat × Option Ob)} {n : Nat} {o : Ob}, qe8 ρ σ l -> qy l n = some (some o) -> σ.obj (rnm ρ n) = some (o.ren ρ)
 | (k, some y) :: l, s, x, h, hl => by
  simp only [qy] at hl
  split at hl
  ·rename_i e; subst e; cases hl; exact h.1
  ·exact Lw h.2 hl
 | (k, none) :: l, s, x, h, hl => h.elim
theorem Xp {α : Type} : ∀ {l : List (Nat × α)} {n : Nat} {x : α}, qy l n = some x -> (n, x) ∈ l
 | (k, y) :: l, n, x, h => by
  simp only [qy] at h
  split at h
  ·rename_i e; subst e; cases h; exact List.mem_cons_self
  ·exact List.mem_cons_of_mem _ (Xp h)
theorem Ve {α : Type} (f : α -> Nat) : ∀ {l : List α}, (l.map f).Nodup -> ∀ x ∈ l, ∀ y ∈ l, f x = f y -> x = y
 | z :: l, h, x, hx, y, hy, e => by
  rw [List.map_cons, List.nodup_cons] at h
  rcases List.mem_cons.1 hx with ex | hx <;> rcases List.mem_cons.1 hy with ey | hy
  ·rw [ex, ey]
  ·exact absurd (List.mem_map.2 ⟨y, hy, by rw [<- e, ex]⟩) h.1
  ·exact absurd (List.mem_map.2 ⟨x, hx, by rw [e, ey]⟩) h.1
  ·exact Ve f h.2 x hx y hy e
theorem XV : ∀ {ρ : List (Nat × Nat)} {n : Nat}, qbP ρ = true -> n % 1000 = 999 -> rnm ρ n = n
 | [], n, _, _ => rfl
 | (k, m) :: ρ, n, h, hn => by
  simp only [qbP, List.all_cons, Bool.and_eq_true, bne_iff_ne] at h
  have hk : n ≠ k := fun e => h.1 (by rw [<- e]; exact hn)
  have := XV (ρ := ρ) h.2 hn
  unfold rnm at this ⊢
  simp only [qy]
  rw [if_neg hk]
  exact this
theorem Sim.sub {τ : St} (h : Sub σ τ) (S : Sim L F β σ a w) : ∃ β', Sim L (fun _ => False) β' τ a w := by
 obtain ⟨ρ, h1, h2, h3, h4⟩ := h
 rw [Bool.and_eq_true] at h1
 obtain ⟨h1, h9⟩ := h1
 have h1 := vj h1
 have hobj : ∀ {n o}, τ.obj n = some o -> σ.obj (rnm ρ n) = some (o.ren ρ) := fun h => Lw h3 (zV h)
 have hM : ∀ b, Mut L.A0 (fun n => β (rnm ρ n)) τ b -> Mut L.A0 β σ b := by
  rintro b (h | ⟨n, o, k, g1, g2, g3, g4⟩)
  ·exact .inl h
  ·exact .inr ⟨_, _, k, hobj g1, by rw [Ob.ren_sh]; exact g2, g3, g4⟩
 have hst : js (Mut L.A0 β σ) (Mut L.A0 (fun n => β (rnm ρ n)) τ) w w := ⟨fun _ _ _ => rfl, fun b _ h => hM b h⟩
 refine ⟨fun n => β (rnm ρ n), S.size, S.defs, ?_, ?_, fun n k h => S.one _ k h, fun n h => h.elim, ?_, ?_, S.fr, S.env.stay hst, S.a0, fun n k hp => ⟨by show β (rnm ρ n) = _; rw [XV h9 (S.pin n k hp).2]; exact (S.pin n k hp).1, (S.pin n k hp).2⟩⟩
 ·intro s x hx
  exact ((S.slots s _ (LP h4 (zV hx))).unren).mono (jq.refl _) hst
 ·intro n o hn
  have := (S.objs _ _ (hobj hn)).mono (jq.refl _) hst fun _ _ _ _ => rfl
  cases o with
  | row e s xs sh => exact this
  | var t xs sh => exact this
  | mrow e xs sh => exact this
  | map ks vs sh => exact this
  | box t cs sh =>
   obtain ⟨k, us, b, q1, q2, q3, q4, q5, q6, q7⟩ := this
   exact ⟨k, us, b, q1, q2, q3.unren, Q9 q4, q5, q6, by rw [q7, vJ]⟩
 ·intro n m o o' k k' b g1 g2 g3 g4 g5 g6
  have e := S.inj _ _ _ _ k k' b (hobj g1) (hobj g2) g3 g4 g5 g6
  have m1 := Xp (zV g1)
  have m2 := Xp (zV g2)
  have := Ve (fun x : Nat × Option Ob => rnm ρ x.1) h1 _ m1 _ m2 e
  exact congrArg Prod.fst this
 ·intro n o k b g1 g2 g3
  exact S.low _ _ k b (hobj g1) g2 g3
def St.matS (σ : St) (s n : Nat) (e : TypeId) (z : Nat) : St := ⟨(s, some (.own n)) :: σ.slots, (n, some (.row e z [] false)) :: σ.objs⟩
def St.matB (σ : St) (m i n : Nat) (t : TypeId) (cs : List AV) (e : TypeId) (z : Nat) : St := ⟨σ.slots, (n, some (.row e z [] false)) :: (m, some (.box t (cs.set i (.own n)) false)) :: σ.objs⟩
theorem Sim.matS (S : Sim L F β σ a w) {s n : Nat} {e : TypeId} {z : Nat} (hs : σ.slot s = some .nil) (hz : 0 < z) (hf : σ.fresh [n % 1000] = true) : ∃ β', Sim L (fun _ => False) β' (σ.matS s n e z) a w := by
 obtain ⟨β1, S1⟩ := S.free hf
 have hn : β1 n = none := S1.res n Y77
 have hv := vF (S1.slots s _ hs)
 let k : Bk := ⟨.slice none 0 0, z, 0⟩
 let β' : Nat -> Option Bk := fun m => if m = n then some k else β1 m
 have h1 : β' n = some k := if_pos rfl
 have h2 : ∀ m, m ≠ n -> β' m = β1 m := fun m h => if_neg h
 have hg : jq β1 β' := fun m q hm => by
  rw [h2 m (fun e => by rw [e, hn] at hm; cases hm)]; exact hm
 have ho1 : (σ.matS s n e z).obj n = some (.row e z [] false) := by simp [St.matS, St.obj, qy]
 have ho2 : ∀ m, m ≠ n -> (σ.matS s n e z).obj m = σ.obj m := fun m h => by simp [St.matS, St.obj, qy, h]
 have hb : k.blk = none := rfl
 refine ⟨β', S1.turn (F' := fun _ => False) hg ⟨fun _ _ _ => rfl, ?_⟩ rfl rfl ?_ ?_ ?_ (fun _ h => h.elim) ?_ ?_ S1.fr⟩
 ·rintro b - (h | ⟨m, o, q, g1, g2, g3, g4⟩)
  ·exact .inl h
  ·by_cases hm : m = n
   ·subst hm; rw [h1] at g3; cases g3; rw [hb] at g4; cases g4
   ·rw [ho2 m hm] at g1; rw [h2 m hm] at g3; exact .inr ⟨m, o, q, g1, g2, g3, g4⟩
 ·intro t x hx
  by_cases ht : t = s
  ·subst ht
   have : x = .own n := by simp [St.matS, St.slot, qy] at hx; exact hx.symm
   subst this
   have h3 : qq β' (Mut L.A0 β' (σ.matS t n e z)) w (.own n) k.v := .own h1
   rw [show slot a t = k.v from hv]
   exact .inr h3
  ·refine .inl ⟨?_, rfl⟩
   simpa [St.matS, St.slot, qy, ht] using hx
 ·intro m o ho
  by_cases hm : m = n
  ·exact Y30
  ·rw [ho2 m hm] at ho
   exact .inl ⟨o, ho, .inl rfl, fun _ _ _ _ => rfl⟩
 ·intro m q hq
  by_cases hm : m = n
  ·subst hm; rw [h1] at hq; cases hq; rfl
  ·rw [h2 m hm] at hq; exact S1.one m q hq
 ·intro m m' o o' q q' b g1 g2 g3 g4 g5 g6
  by_cases hm : m = n
  ·subst hm; rw [h1] at g3; cases g3; rw [hb] at g5; cases g5
  ·by_cases hm' : m' = n
   ·subst hm'; rw [h1] at g4; cases g4; rw [hb] at g6; cases g6
   ·rw [ho2 m hm] at g1; rw [ho2 m' hm'] at g2; rw [h2 m hm] at g3; rw [h2 m' hm'] at g4
    exact S1.inj m m' o o' q q' b g1 g2 g3 g4 g5 g6
 ·intro m o q b g1 g2 g3
  by_cases hm : m = n
  ·subst hm; rw [h1] at g2; cases g2; rw [hb] at g3; cases g3
  ·rw [ho2 m hm] at g1; rw [h2 m hm] at g2
   exact S1.low m o q b g1 g2 g3
theorem qf.own {n : Nat} (h0 : qq β A w (.own n) (.slice none 0 0)) : ∀ {cs : List AV} {us : List Value} {i : Nat}, qf β A w cs us -> cs[i]? = some .nil -> qf β A w (cs.set i (.own n)) us
 | _, _, _, .nil, h => by simp at h
 | _, _, 0, .cons h h1, e => by
  simp at e; subst e
  rw [vF h]
  exact .cons h0 h1
 | _, _, i + 1, .cons h h1, e => .cons h (qf.own h0 h1 (by simpa using e))
theorem Sim.matB (S : Sim L F β σ a w) {c i n : Nat} {t : TypeId} {cs : List AV} {e : TypeId} {z : Nat} (hs : σ.obj c = some (.box t cs false)) (hi : cs[i]? = some .nil) (hz : 0 < z) (hf : σ.fresh [n % 1000] = true) : ∃ β', Sim L (fun _ => False) β' (σ.matB c i n t cs e z) a w := by
 obtain ⟨β1, S1⟩ := S.free hf
 have hn : β1 n = none := S1.res n Y77
 let k : Bk := ⟨.slice none 0 0, z, 0⟩
 let β' : Nat -> Option Bk := fun m => if m = n then some k else β1 m
 have h1 : β' n = some k := if_pos rfl
 have h2 : ∀ m, m ≠ n -> β' m = β1 m := fun m h => if_neg h
 have hg : jq β1 β' := fun m q hm => by
  rw [h2 m (fun e => by rw [e, hn] at hm; cases hm)]; exact hm
 have hO := S1.objs c _ hs
 have hcn : c ≠ n := fun e => by
  obtain ⟨k', us, b, q1, -⟩ := hO
  rw [e, hn] at q1; cases q1
 have ho1 : (σ.matB c i n t cs e z).obj n = some (.row e z [] false) := by simp [St.matB, St.obj, qy]
 have ho3 : (σ.matB c i n t cs e z).obj c = some (.box t (cs.set i (.own n)) false) := by simp [St.matB, St.obj, qy, hcn]
 have ho2 : ∀ m, m ≠ n -> m ≠ c -> (σ.matB c i n t cs e z).obj m = σ.obj m := fun m h h' => by simp [St.matB, St.obj, qy, h, h']
 have hb : k.blk = none := rfl
 have hst : js (Mut L.A0 β1 σ) (Mut L.A0 β' (σ.matB c i n t cs e z)) w w := by
  refine ⟨fun _ _ _ => rfl, ?_⟩
  rintro b - (h | ⟨m, o, q, g1, g2, g3, g4⟩)
  ·exact .inl h
  ·by_cases hm : m = n
   ·subst hm; rw [h1] at g3; cases g3; rw [hb] at g4; cases g4
   ·rw [h2 m hm] at g3
    by_cases hm' : m = c
    ·subst hm'; exact .inr ⟨m, _, q, hs, rfl, g3, g4⟩
    ·rw [ho2 m hm hm'] at g1; exact .inr ⟨m, o, q, g1, g2, g3, g4⟩
 have hsome : ∀ m o, m ≠ n -> (σ.matB c i n t cs e z).obj m = some o -> ∃ o', σ.obj m = some o' := fun m o hm g => by
  by_cases hm' : m = c
  ·subst hm'; exact ⟨_, hs⟩
  ·rw [ho2 m hm hm'] at g; exact ⟨_, g⟩
 refine ⟨β', S1.turn (F' := fun _ => False) hg hst rfl rfl ?_ ?_ ?_ (fun _ h => h.elim) ?_ ?_ S1.fr⟩
 ·intro s x hx
  exact .inl ⟨hx, rfl⟩
 ·intro m o ho
  by_cases hm : m = n
  ·exact Y30
  ·by_cases hm' : m = c
   ·subst hm'
    rw [ho3] at ho; cases ho
    obtain ⟨k', us, b, q1, q2, q3, q4, q5, q6, q7⟩ := hO.mono hg hst fun _ _ _ _ => rfl
    refine .inr ⟨k', us, b, q1, q2, qf.own (.own h1) q3 hi, fun y hy => ?_, q5, q6, by simpa using q7⟩
    rcases List.mem_or_eq_of_mem_set hy with hy | rfl
    ·exact q4 y hy
    ·rfl
   ·rw [ho2 m hm hm'] at ho
    exact .inl ⟨o, ho, .inl rfl, fun _ _ _ _ => rfl⟩
 ·intro m q hq
  by_cases hm : m = n
  ·subst hm; rw [h1] at hq; cases hq; rfl
  ·rw [h2 m hm] at hq; exact S1.one m q hq
 ·intro m m' o o' q q' b g1 g2 g3 g4 g5 g6
  by_cases hm : m = n
  ·subst hm; rw [h1] at g3; cases g3; rw [hb] at g5; cases g5
  ·by_cases hm' : m' = n
   ·subst hm'; rw [h1] at g4; cases g4; rw [hb] at g6; cases g6
   ·obtain ⟨_, g1⟩ := hsome m o hm g1
    obtain ⟨_, g2⟩ := hsome m' o' hm' g2
    rw [h2 m hm] at g3; rw [h2 m' hm'] at g4
    exact S1.inj m m' _ _ q q' b g1 g2 g3 g4 g5 g6
 ·intro m o q b g1 g2 g3
  by_cases hm : m = n
  ·subst hm; rw [h1] at g2; cases g2; rw [hb] at g3; cases g3
  ·obtain ⟨_, g1⟩ := hsome m o hm g1
   rw [h2 m hm] at g2
   exact S1.low m _ q b g1 g2 g3
theorem Sim.mat1 (S : Sim L F β σ a w) {s n : Nat} {e : TypeId} {z : Nat} (hs : qc1 σ s = true) (hz : 0 < z) (hf : σ.fresh [n % 1000] = true) : ∃ β', Sim L (fun _ => False) β' (σ.mat1 s n e z) a w := by
 unfold qc1 at hs
 unfold St.mat1
 generalize decide (s < 1000000) = d at hs ⊢
 cases d with
 | true =>
  dsimp only at hs ⊢
  split at hs
  ·rename_i h; exact S.matS h hz hf
  ·cases hs
 | false =>
  dsimp only at hs ⊢
  split at hs
  ·rename_i t cs h
   split at hs
   ·rename_i h'
    simp only [h]
    exact S.matB h h' hz hf
   ·cases hs
  ·cases hs
theorem Sim.mat : ∀ {l : List (Nat × Nat × TypeId × Nat)} {F : Nat -> Prop} {β : Nat -> Option Bk} {σ : St}, Sim L F β σ a w -> qcD σ l -> ∃ F' β', Sim L F' β' (σ.mat l) a w
 | [], _, β, _, S, _ => ⟨_, β, S⟩
 | (s, n, e, z) :: r, _, _, _, S, h => by
  obtain ⟨β', S'⟩ := S.mat1 (e := e) h.1 h.2.1 h.2.2.1
  have h3 := Sim.mat S' h.2.2.2
  exact h3
def Exit.xt : Exit -> Option Xt
 | .normal => some .n
 | .exit i => some (.e i)
 | .ret => some .r
 | _ => none
def qfU (L : Pl) (Q : Xt -> St -> Prop) (e : Exit) (a : Act) (w : World) : Prop := ∃ x β σ, Exit.xt e = some x /\ Sim L (fun _ => False) β σ a w /\ Q x σ
theorem UW {n : Nat} : ∀ {l : List Nat}, LF n l = true -> ∀ x ∈ l, x < n
 | y :: l, h, x, hx => by
  simp only [LF, Bool.and_eq_true, decide_eq_true_eq] at h
  rcases List.mem_cons.1 hx with rfl | hx
  ·exact h.1
  ·exact UW h.2 x hx
theorem W5 (hX : Cok P X L) (hC : ∀ f as r ys, C f as r ys -> Con P L.G f as r ys) (hm : P.follows .mixedOrders = true) : ∀ (c : Code) {Q : Xt -> St -> Prop} {F : Nat -> Prop} {β : Nat -> Option Bk} {σ : St} {a : Act} {w : World}, Sim L F β σ a w -> za X C c Q σ -> c.wp P (qfU L Q) a w := by
 intro c
 induction c with
 | skip => intro Q F β σ a w S h; exact wp_skip ⟨.n, β, σ, rfl, S.fewer (fun _ h => h.elim), h⟩
 | exit id => intro Q F β σ a w S h; exact wp_exit ⟨.e id, β, σ, rfl, S.fewer (fun _ h => h.elim), h⟩
 | ret => intro Q F β σ a w S h; exact wp_ret ⟨.r, β, σ, rfl, S.fewer (fun _ h => h.elim), h⟩
 | seq x y ihx ihy =>
  intro Q F β σ a w S h
  unfold za at h
  split at h
  ·refine wp_seq (wp_mono (ihx S h) ?_)
   rintro e a' w' ⟨t, β', σ', he, S', hq⟩
   cases e <;> simp only [Exit.xt, Option.some.injEq, reduceCtorEq] at he <;> subst he
   ·exact ihy S' hq
   ·exact Y35
   ·exact Y35
  ·obtain ⟨α, tm, I, h1, h2⟩ := h
   refine wp_seq (wp_mono (ihx S h1) ?_)
   rintro e a' w' ⟨t, β', σ', he, S', hq⟩
   cases e <;> simp only [Exit.xt, Option.some.injEq, reduceCtorEq] at he <;> subst he
   ·obtain ⟨x, hx, hs⟩ := hq
    obtain ⟨β2, S2⟩ := S'.sub hs
    exact ihy S2 (h2 x hx)
   ·exact Y35
   ·exact Y35
 | block id c ih =>
  intro Q F β σ a w S h
  refine wp_block (wp_mono (ih S h) ?_)
  rintro e a' w' ⟨t, β', σ', he, S', hq⟩
  cases e <;> simp only [Exit.xt, Option.some.injEq, reduceCtorEq] at he <;> subst he
  ·exact Y35
  ·rename_i id'
   simp only [Exit.inBlock]
   simp only [Xt.block] at hq
   split
   ·rename_i e; rw [if_pos e] at hq; exact ⟨_, β', σ', rfl, S', hq⟩
   ·rename_i e; rw [if_neg e] at hq; exact ⟨_, β', σ', rfl, S', hq⟩
  ·exact Y35
 | cond c x y ihx ihy =>
  intro Q F β σ a w S h
  cases c with
  | tmp c =>
   have h' : KT (σ.slot c) (za X C x Q σ) (za X C y Q σ) := h
   unfold KT at h'
   split at h'
   ·rename_i b hs
    obtain ⟨e, -⟩ := qQ (S.slots c _ hs)
    exact wp_cond_split (t := b) e (fun hb => ihx S (h'.1 hb)) (fun hb => ihy S (h'.2 hb))
   ·exact h'.elim
  | _ => exact h.elim
 | loop c ih =>
  intro Q F β σ a w S h
  obtain ⟨α, tm, I, μ, x0, lm, h0, hl0, hs0, hr⟩ := h
  obtain ⟨F1, β1, S1⟩ := S.mat hl0
  obtain ⟨β0, S0⟩ := S1.sub hs0
  refine wp_loop_ghost (fun n a w => ∃ x β, μ x = n /\ I x /\ Sim L (fun _ => False) β (tm x) a w) (μ x0) ⟨x0, β0, rfl, h0, S0⟩ ?_
  rintro n a' w' ⟨x, β', rfl, hI, S'⟩
  refine wp_mono (ih S' (hr x hI)) ?_
  rintro e a2 w2 ⟨t, β2, σ2, he, S2, hq⟩
  cases e <;> simp only [Exit.xt, Option.some.injEq, reduceCtorEq] at he <;> subst he
  ·obtain ⟨y, hy1, hy2, hy3⟩ := hq
   obtain ⟨β3, S3⟩ := S2.sub hy3
   exact ⟨μ y, hy2, y, β3, rfl, hy1, S3⟩
  ·exact ⟨_, β2, σ2, rfl, S2, hq⟩
  ·exact ⟨_, β2, σ2, rfl, S2, hq⟩
 | region id ops dr =>
  intro Q F β σ a w S h
  have hops : ops.toList.toArray = ops := by simp
  have go : Ln X (σ.fresh (zO ops.toList)) (zO ops.toList) = true -> ∃ β', Sim L (fun n => n % 1000 ∈ zO ops.toList) β' σ a w /\ (zO ops.toList).Nodup /\ (∀ d ∈ zO ops.toList, d < L.N /\ d < 1000) := by
   intro hr
   simp only [Ln, Bool.and_eq_true] at hr
   obtain ⟨β', S'⟩ := S.free hr.1
   refine ⟨β', S', vj hr.2.1, fun d hd => ?_⟩
   have := UW hr.2.2 d hd
   rw [hX.N] at this
   exact ⟨this, Nat.lt_of_lt_of_le this hX.N1⟩
  cases dr with
  | false =>
   obtain ⟨hr, h⟩ := h
   obtain ⟨β', S', h1, h2⟩ := go hr
   refine wp_region_list ?_
   exact qaZ hX hC (Q := Q .n) (fun β σ a w hq S => ⟨.n, β, σ, rfl, S, hq⟩) ops.toList S' h1 h2 (fun d hd n hn => by rw [hn]; exact hd) h
  | true =>
   obtain ⟨hr, h⟩ := h
   obtain ⟨β', S', h1, h2⟩ := go hr
   rw [<- hops]
   rw [<- hops] at h
   exact KR hX hC hm (Q := Q .n) (fun β σ a w hq S => ⟨.n, β, σ, rfl, S, hq⟩) S' h1 h2 (fun d hd n hn => by rw [hn]; exact hd) h
 | _ => intros; rename_i h; exact h.elim
end
end Go.Bl
