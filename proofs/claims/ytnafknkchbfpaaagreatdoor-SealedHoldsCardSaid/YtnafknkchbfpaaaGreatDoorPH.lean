import Derived.Test.YtnafknkchbfpaaaGreatDoorPG
import Derived.Test.YtnafknkchbfpaaaGreatDoorHA
set_option maxRecDepth 1000000
set_option maxHeartbeats 8000000
namespace Go.Bl
open Go.RowKit Go.Proofs Go.Proofs.YtnafknkchbfpaaaGreatDoor
set_option maxRecDepth 100000
theorem qgt : Ln Tryz.prog (fun t => tyT Tryz.progTables t) := qff Y69 qe
def qfj : List PV := (xH.l.map ju).map .v
def qeT : List PV := (Qu.map ju).map .v
structure Ad where
 e : Nat -> Addr
 w : World
 ok : j7 all20 e w.heap.size w
def jO (Z : Ad) (k : Nat) : PV := .v (.iface 317 (.pointer (some (Z.e k))))
def gV (Z : Ad) (g : Nat) : Option (List PV) := if g = 22 then some qfj else if g = 23 then some qeT else if g = 0 then some [jO Z 1] else if g = 6 then some [jO Z 6] else if g = 1 then some [jO Z 8] else if g = 8 then some [jO Z 9] else if g = 14 then some [jO Z 15] else if g = 17 then some [jO Z 18] else none
def LI (Z : Ad) : List Nat := all20.map gOf ++ all20.map fun k => (Z.e k).block
def gO (Z : Ad) (b : Nat) : Option Obj := if b ∈ LI Z then Z.w.heap[b]? else none
def gZ (Z : Ad) : Gv := ⟨gV Z, gO Z⟩
theorem uV {Z : Ad} {A : Nat -> Prop} {w : World} (h : Env (gZ Z) A w) : j7 all20 Z.e w.heap.size w := by
 have key : ∀ b ∈ LI Z, ∀ o, Z.w.heap[b]? = some o -> w.heap[b]? = some o := fun b hb o ho => (h.obj b o (by show gO Z b = _; unfold gO; rw [if_pos hb]; exact ho)).1
 have m1 : ∀ k ∈ all20, gOf k ∈ LI Z := fun k hk => List.mem_append.2 (.inl (List.mem_map.2 ⟨k, hk, rfl⟩))
 have m2 : ∀ k ∈ all20, (Z.e k).block ∈ LI Z := fun k hk => List.mem_append.2 (.inr (List.mem_map.2 ⟨k, hk, rfl⟩))
 refine ⟨fun k hk => ?_, fun k hk => ?_, Z.ok.inj, fun k hk => ?_, fun k hk => ?_⟩
 ·obtain ⟨t, fz, h1⟩ := Z.ok.glob k hk
  exact ⟨t, fz, key _ (m1 k hk) _ h1⟩
 ·obtain ⟨c, t, h1⟩ := Z.ok.blk k hk
  exact ⟨c, t, key _ (m2 k hk) _ h1⟩
 ·obtain ⟨t, fz, h1⟩ := Z.ok.glob k hk
  exact ql (key _ (m1 k hk) _ h1)
 ·obtain ⟨c, t, h1⟩ := Z.ok.blk k hk
  exact ql (key _ (m2 k hk) _ h1)
theorem uu (Z : Ad) {f : FuncId} {fn : Func} {code : Code} {zs : List RA} {res : RA} (h : Hh) (hh : ∀ α g, h α g = g ()) {N : Nat} (he : Tryz.prog.funcs[f]? = some fn /\ fn.ntmps = N) (hb : fn.body = some code) (hn : (fn.name == "runtime.NumGoroutine") = false) (hN1 : N.ble 1000 = true) (has : LN zs = true) (hlen : zs.length.ble N = true)
  (vc : ∀ C, (∀ f xs r ys, Con Tryz.prog (gZ Z) f xs r ys -> C f xs r ys) -> uG ⟨h, fun t => tyT Tryz.progTables t, gV Z, N⟩ C code (fun e σ => (e = .n ∨ e = .r) /\ (qdY ⟨h, fun t => tyT Tryz.progTables t, gV Z, N⟩ fn.results.toList res).vc C σ fun _ _ => True) ⟨QV 0 zs, []⟩) : Con Tryz.prog (gZ Z) f zs res (zs.map fun _ => .any) :=
 qa4 h hh qe qgt he.1 hb hn N he.2 (Nat.le_of_ble_eq_true hN1) has (Nat.le_of_ble_eq_true hlen) vc
abbrev jw (Z : Ad) := Con Tryz.prog (gZ Z)
end Go.Bl
namespace Go.Bl
open Go.RowKit
theorem qdd {P : Program} {G : Gv} {f : FuncId} {fn : Func} {x r : Value} (hf : P.funcs[f]? = some fn) (hb : fn.body.isNone = false) (hn : (fn.name == "runtime.NumGoroutine") = false) (hr : r.oneCell' = true)
  (hc : ∀ w, Calls P f #[x] w fun e w' => e = .returned r /\ w' = w) : Con P G f [.pv (.v x)] (.pv (.v r)) [.any] := by
 refine ⟨enters_of hf hb hn, fun w vals bs A hA hbs hnd henv hr' => ?_⟩
 cases hr' with
 | cons h1 h2 =>
  cases h2
  cases h1 with
  | pv h1 =>
   cases h1
   refine Calls.mono (hc w) ?_
   rintro e w' ⟨rfl, rfl⟩
   exact ⟨r, [], [], rfl, .pv (.v hr), .cons (b := []) (bs := []) .any .nil, by simp, by simp, Fr.refl _ _⟩
end Go.Bl
namespace Go.Bl
open Go.RowKit Go.Proofs.YtnafknkchbfpaaaGreatDoor
set_option linter.unusedVariables false
variable {A : Nat -> Prop} {w : World}
theorem Row.below {a : Option Addr} {cs : List Value} (h : Row A w a cs) : Row (fun b => w.heap.size <= b) w a cs := by
 rcases h with h | ⟨b, off, c, e, fz, rfl, hn, hb, hc⟩
 ·exact .inl h
 ·exact .inr ⟨b, off, c, e, fz, rfl, by have := ql hb; omega, hb, hc⟩
theorem zP {xs : List UInt8} {v : Value} (h : je A w (bP xs) v) : Go.Bl.Bs (fun b => w.heap.size <= b) w v xs := by
 cases h with
 | l h h1 h2 h3 h4 h5 h6 =>
  rename_i ad cap s us
  rw [uC] at h
  have := Q6 h
  subst this
  rw [List.length_map] at h4
  exact ⟨ad, cap, by rw [List.length_map], h4, h5, Row.below h6⟩
theorem Ld (ls : List (List UInt8)) : (ls.map bP).flatMap PV.cells = ls.map bP := uA fun x hx => by
 obtain ⟨y, -, rfl⟩ := List.mem_map.1 hx; rfl
theorem LF : ∀ {ls : List (List UInt8)} {us : List Value}, qj A w (ls.map bP) us -> ∃ zs : List (Value × List UInt8), zs.map (·.1) = us /\ zs.map (·.2) = ls /\ ∀ x ∈ zs, Go.Bl.Bs (fun b => w.heap.size <= b) w x.1 x.2
 | [], _, .nil => ⟨[], rfl, rfl, by simp⟩
 | l :: ls, _, .cons (u := u) h h1 => by
  obtain ⟨zs, e1, e2, e3⟩ := LF (ls := ls) h1
  exact ⟨(u, l) :: zs, by simp [e1], by simp [e2], by
   intro x hx
   rcases List.mem_cons.1 hx with rfl | hx
   ·exact zP h
   ·exact e3 x hx⟩
theorem ZQ {ls : List (List UInt8)} {v : Value} (h : je A w (.l (ls.map bP)) v) : ∃ zs : List (Value × List UInt8), RdB (fun b => w.heap.size <= b) w v zs /\ zs.map (·.2) = ls := by
 cases h with
 | l h h1 h2 h3 h4 h5 h6 =>
  rename_i ad cap s us
  rw [Ld] at h
  obtain ⟨zs, e1, e2, e3⟩ := LF h
  subst e1
  have hl : (ls.map bP).length = (zs.map (·.1)).length := by rw [<- e2]; simp
  refine ⟨zs, ⟨⟨ad, cap, by rw [hl], by rw [<- hl]; exact h4, h5, Row.below h6⟩, e3⟩, e2⟩
theorem LL {P : Program} {G : Gv} {f : FuncId} {fn : Func} {x : PV} {r : PV} {v : Value} (hf : P.funcs[f]? = some fn) (hb : fn.body.isNone = false) (hn : (fn.name == "runtime.NumGoroutine") = false) (hr : ∀ A w, je A w r v)
  (hc : ∀ A w u, (∀ b, A b -> b < w.heap.size) -> Env G A w -> je A w x u -> Calls P f #[u] w fun e w' => e = .returned v /\ Fr [] w w') : Con P G f [.pv x] (.pv r) [.any] := by
 refine ⟨enters_of hf hb hn, fun w vals bs A hA hbs hnd henv hr' => ?_⟩
 cases hr' with
 | cons h1 h2 =>
  cases h2
  cases h1 with
  | pv h1 =>
   refine Calls.mono (hc A w _ hA henv h1) ?_
   rintro e w' ⟨rfl, hfr⟩
   exact ⟨v, [], [], rfl, .pv (hr _ _), .cons (b := []) (bs := []) .any .nil, by simp, by simp, hfr⟩
theorem qda (bs : List UInt8) : je A w (.a (bs.map u8P)) (.agg ((bs.map u8v).toArray)) := .a (vg bs) fun c hc => by obtain ⟨y, -, rfl⟩ := List.mem_map.1 hc; rfl
theorem Xl {G : Gv} {g : Nat} {xs : List Value} (h : Env G A w) (hg : G.val g = some (xs.map .v)) (i : Nat) (hi : i < xs.length) : w.cell? ⟨g, i, none⟩ = some (xs.getD i undef) := by
 have h1 := h.val g _ hg
 cases h1 with
 | p h1 h2 h3 =>
  rename_i us
  have e : us = xs := by
   clear h2 h3 hg hi
   induction xs generalizing us with
   | nil => cases h1; rfl
   | cons x xs ih =>
    cases h1 with
    | cons q r => cases q; rw [ih r]
  subst e
  rcases h3 with h3 | ⟨b, off, c, e, fz, q, hn, hb, hc⟩
  ·rw [h3] at hi; cases hi
  ·cases q
   have := hc i hi
   rw [Nat.zero_add] at this
   unfold World.cell?
   simp [hb, this, List.getD_eq_getElem?_getD, List.getElem?_eq_getElem hi]
end Go.Bl
namespace Go.Bl
open Go.RowKit Go.Proofs Go.Proofs.YtnafknkchbfpaaaGreatDoor
attribute [simp] jY
theorem KY {A : Nat -> Prop} {w : World} {Z : Ad} (h : Env (gZ Z) A w) : FAt 22 w := fun j v hv => by
 have hj : j < (xH.l.map ju).length := by
  rcases Nat.lt_or_ge j (xH.l.map ju).length with h9 | h9
  ·exact h9
  ·rw [List.getElem?_eq_none h9] at hv; cases hv
 rw [Nat.zero_add, Xl h (xs := xH.l.map ju) rfl j hj, List.getD_eq_getElem?_getD, hv]
 rfl
theorem V6 {A : Nat -> Prop} {w : World} {Z : Ad} (h : Env (gZ Z) A w) : KAt 23 w := fun i hi => by
 rw [Xl h (xs := Qu.map ju) rfl i (by rw [List.length_map]; exact hi), List.getD_eq_getElem?_getD, List.getElem?_map, List.getD_eq_getElem?_getD, List.getElem?_eq_getElem (show i < Qu.length from hi)]
 rfl
theorem Wi {A : Nat -> Prop} {w : World} {Z : Ad} (h : Env (gZ Z) A w) : 23 < w.heap.size := by
 have := V6 h 0 qd
 rcases Nat.lt_or_ge 23 w.heap.size with h | h
 ·exact h
 ·unfold World.cell? at this
  rw [Array.getElem?_eq_none h] at this
  cases this
theorem J8 (Z : Ad) (h : Hh) (hh : ∀ α g, h α g = g ()) (ls : List (List UInt8)) (hl : ls.flatten.length <= 100000000) : jw Z 76 [.pv (lH h bP ls)] (.pv (aH h u8P (jf ls.flatten))) [.any] := by
 simp only [lH, aH, hh]
 refine LL Tryz.func76 rfl rfl (fun A w => qda _) fun A w u hA he hr => ?_
 obtain ⟨zs, h1, h2⟩ := ZQ hr
 have e : qP zs = ls.flatten := by rw [qP, h2]
 rw [<- e] at hl ⊢
 exact Qa w u zs h1 (KY he) (V6 he) (Wi he) hl
end Go.Bl
namespace Go.Bl
open Go.RowKit Go.Proofs Go.Proofs.YtnafknkchbfpaaaGreatDoor
variable {A : Nat -> Prop} {w : World}
theorem U1 : ∀ {xs : List PV} {us : List Value} {bs : List Nat}, jP A w (xs.map .pv) us bs -> bs = [] /\ qj A w xs us
 | [], _, _, .nil => ⟨rfl, .nil⟩
 | x :: xs, _, _, .cons (.pv h) h2 => by
  obtain ⟨e, h3⟩ := U1 (xs := xs) h2
  subst e
  exact ⟨rfl, .cons h h3⟩
theorem UN : ∀ {xs : List PV} {us : List Value}, xs.length = us.length -> jP A w (xs.map fun _ => .any) us []
 | [], [], _ => .nil
 | _ :: xs, _ :: us, h => .cons (b := []) (bs := []) .any (UN (xs := xs) Y85)
theorem Jf {P : Program} {G : Gv} {f : FuncId} {fn : Func} {xs : List PV} {res : RA} (hf : P.funcs[f]? = some fn) (hb : fn.body.isNone = false) (hn : (fn.name == "runtime.NumGoroutine") = false)
  (hc : ∀ A w us, (∀ b, A b -> b < w.heap.size) -> Env G A w -> qj A w xs us -> Calls P f us.toArray w fun e w' => ∃ v b1, e = .returned v /\ uT (fun b => A b ∨ b ∈ b1) w' res v b1 /\ b1.Nodup /\ (∀ b ∈ b1, w.heap.size <= b /\ b < w'.heap.size) /\ Fr [] w w') : Con P G f (xs.map .pv) res (xs.map fun _ => .any) := by
 refine ⟨enters_of hf hb hn, fun w vals bs A hA hbs hnd henv hr' => ?_⟩
 obtain ⟨rfl, h1⟩ := U1 hr'
 refine (hc A w vals hA henv h1).mono ?_
 rintro e w' ⟨v, b1, rfl, h2, h3, h4, h5⟩
 refine ⟨v, b1, [], rfl, ?_, UN h1.length, by simpa using h3, ?_, h5⟩
 ·have e : (fun b => (A b /\ b ∉ ([] : List Nat)) ∨ b ∈ b1 ++ []) = fun b => A b ∨ b ∈ b1 := by funext b; simp
  rw [e]; exact h2
 ·intro b hb
  have := h4 b Ya
  exact ⟨.inr this.1, this.2⟩
theorem vI {P : Program} {G : Gv} {f : FuncId} {fn : Func} {xs : List PV} {res : RA} (v : Value) (hf : P.funcs[f]? = some fn) (hb : fn.body.isNone = false) (hn : (fn.name == "runtime.NumGoroutine") = false) (hr : ∀ A w, uT A w res v [])
  (hc : ∀ A w us, (∀ b, A b -> b < w.heap.size) -> Env G A w -> qj A w xs us -> Calls P f us.toArray w fun e w' => e = .returned v /\ Fr [] w w') : Con P G f (xs.map .pv) res (xs.map fun _ => .any) :=
 Jf hf hb hn fun A w us hA he hr' => (hc A w us hA he hr').mono (by
  rintro e w' ⟨rfl, h⟩
  exact ⟨v, [], rfl, hr _ _, by simp, by simp, h⟩)
mutual
theorem uT.less {A A' : Nat -> Prop} {w : World} (k : ∀ b, A' b -> A b) : ∀ {r : RA} {u : Value} {bs : List Nat}, uT A w r u bs -> uT A' w r u bs
 | _, _, _, .pv h => .pv (h.stay ⟨fun _ _ _ => rfl, fun b _ => k b⟩)
 | _, _, _, .nil => .nil
 | _, _, _, .own h1 h2 h3 h4 h5 => .own h1 (h2.stay ⟨fun _ _ _ => rfl, fun b _ => k b⟩) h3 h4 h5
 | _, _, _, .tup h => .tup (jP.less k h)
 | _, _, _, .any => .any
theorem jP.less {A A' : Nat -> Prop} {w : World} (k : ∀ b, A' b -> A b) : ∀ {r : List RA} {u : List Value} {bs : List Nat}, jP A w r u bs -> jP A' w r u bs
 | _, _, _, .nil => .nil
 | _, _, _, .cons h1 h2 => .cons (uT.less k h1) (jP.less k h2)
end
theorem Con.plain {P : Program} {G : Gv} {f : FuncId} {args outs : List RA} {e : TypeId} {s : Nat} {xs : List PV} (h : Con P G f args (.own e s xs) outs) : Con P G f args (.pv (.l xs)) outs := by
 refine ⟨h.1, fun w vals bs A hA hbs hnd henv hr => (h.2 w vals bs A hA hbs hnd henv hr).mono ?_⟩
 rintro e' w' ⟨v, b1, b2, rfl, h1, h2, h3, h4, h5⟩
 have k : ∀ b, ((A b /\ b ∉ bs) ∨ b ∈ [] ++ b2) -> ((A b /\ b ∉ bs) ∨ b ∈ b1 ++ b2) := fun b hb => hb.imp id fun q => List.mem_append.2 (.inr (by simpa using q))
 cases h1 with
 | @own _ _ _ _ us q0 q1 q2 q3 q4 =>
  refine ⟨v, [], b2, rfl, .pv ?_, h2.less k, by rw [List.nil_append]; exact (List.nodup_append.1 h3).2.1, fun b hb => h4 b (List.mem_append.2 (.inr Ya)), h5⟩
  have hap := (List.nodup_append.1 h3).2.2
  obtain ⟨ad, cap, rfl, c1, c2, c3⟩ := Row.of_own' (A := fun b => (A b /\ b ∉ bs) ∨ b ∈ [] ++ b2) q4 (fun b hb => by
   have hm : b ∈ v.ownBlock.toList := by simpa using hb
   rintro (⟨g1, g2⟩ | g1)
   ·rcases (h4 b (List.mem_append.2 (.inl hm))).1 with g | g
    ·exact g2 g
    ·have := hA b g1; omega
   ·exact hap b hm b (by simpa using g1) rfl)
  exact .l (q1.stay ⟨fun _ _ _ => rfl, fun b _ => k b⟩) q2 q3 q0 c1 c2 c3
theorem Jg {Z : Ad} (h : Env (gZ Z) A w) : SG w := ⟨KY h, V6 h, Wi h⟩
theorem Bs.any {v : Value} {xs : List UInt8} (h : Go.Bl.Bs A w v xs) : Go.Bl.Bs (fun _ => False) w v xs := h.mono (S := []) (Fr.refl _ _) qf fun b h => h.elim
theorem Jp {v : Value} {xs : List UInt8} (h : Go.Bl.Bs A w v xs) : je A w (bP xs) v := by
 obtain ⟨a, cap, rfl, h2, h3, h4⟩ := h
 rw [show xs.length = (xs.map u8P).length by simp] at h2 ⊢
 exact .l (s := 1) (us := xs.map u8v) (by rw [uC]; exact vg xs) (fun x hx => by obtain ⟨y, -, rfl⟩ := List.mem_map.1 hx; rfl) (fun x hx c hc => by obtain ⟨y, -, rfl⟩ := List.mem_map.1 hx; simp [PV.cells, u8P] at hc; subst hc; rfl) qd h2 h3 h4
theorem JM : ∀ {zs : List (Value × List UInt8)}, (∀ x ∈ zs, Go.Bl.Bs A w x.1 x.2) -> qj A w ((zs.map (·.2)).map bP) (zs.map (·.1))
 | [], _ => .nil
 | z :: zs, h => .cons (Jp (h z List.mem_cons_self)) (JM fun x hx => h x (List.mem_cons_of_mem _ hx))
theorem WE {v : Value} {zs : List (Value × List UInt8)} (h : RdB A w v zs) : je A w (.l ((zs.map (·.2)).map bP)) v := by
 obtain ⟨⟨a, cap, rfl, h2, h3, h4⟩, h5⟩ := h
 have e : (zs.map (·.1)).length = ((zs.map (·.2)).map bP).length := by simp
 rw [e] at h2 ⊢
 exact .l (s := 1) (us := zs.map (·.1)) (by rw [Ld]; exact JM h5) (fun x hx => by obtain ⟨y, -, rfl⟩ := List.mem_map.1 hx; rfl) (fun x hx c hc => by obtain ⟨y, -, rfl⟩ := List.mem_map.1 hx; simp [PV.cells, bP] at hc; subst hc; rfl) qd h2 h3 h4
theorem y6 {x u : Value} (h : je A w (.v x) u) : u = x := by cases h; rfl
theorem qcN : ∀ {xs us : List Value}, qj A w (xs.map .v) us -> us = xs
 | [], _, .nil => rfl
 | x :: xs, _, .cons h h1 => by rw [y6 h, qcN h1]
theorem qeM {xs : List Value} {u : Value} (h : je A w (.a (xs.map .v)) u) : u = .agg xs.toArray := by
 cases h with
 | a h _ => rw [qcN h]
end Go.Bl
namespace Go.Bl
open Go.RowKit Go.Proofs Go.Proofs.YtnafknkchbfpaaaGreatDoor
theorem qdo {P : Program} {G : Gv} {f : FuncId} {fn : Func} {x : PV} {e : TypeId} {ys : List UInt8} (hf : P.funcs[f]? = some fn) (hb : fn.body.isNone = false) (hn : (fn.name == "runtime.NumGoroutine") = false)
  (hc : ∀ A w u, (∀ b, A b -> b < w.heap.size) -> Env G A w -> je A w x u -> Calls P f #[u] w fun e' w' => ∃ v, e' = .returned v /\ qh e w.heap.size w' v ys /\ Fr [] w w') : Con P G f [.pv x] (.own e 1 (ys.map u8P)) [.any] := by
 refine ⟨enters_of hf hb hn, fun w vals bs A hA hbs hnd henv hr' => ?_⟩
 cases hr' with
 | cons h1 h2 =>
  cases h2
  cases h1 with
  | pv h1 =>
   refine Calls.mono (hc A w _ hA henv h1) ?_
   rintro e' w' ⟨v, rfl, ho, hfr⟩
   have hv : ∀ b ∈ v.ownBlock.toList, w.heap.size <= b /\ b < w'.heap.size := by
    intro b hb'
    rcases ho.2 with ⟨h, -⟩ | ⟨g, cap, cur, hv, hg, hh, r⟩
    ·rw [h] at hb'; cases hb'
    ·rw [hv] at hb'
     simp [Value.ownBlock] at hb'
     subst hb'
     exact ⟨hg, ql hh⟩
   refine ⟨v, v.ownBlock.toList, [], rfl, .own qd (by rw [uC]; exact vg ys) (fun x hx => by obtain ⟨y, -, rfl⟩ := List.mem_map.1 hx; rfl) (fun x hx c hc => by obtain ⟨y, -, rfl⟩ := List.mem_map.1 hx; simp [PV.cells, u8P] at hc; subst hc; rfl) (by rw [List.length_map]; exact ho.base (Nat.zero_le _)), .cons (b := []) (bs := []) .any .nil, ?_, ?_, hfr⟩
   ·rw [List.append_nil]
    cases v.ownBlock <;> simp
   ·intro b hb'
    have := hv b (by simpa using hb')
    exact ⟨.inr this.1, this.2⟩
theorem Ko (Z : Ad) (h : Hh) (hh : ∀ α g, h α g = g ()) (ls : List (List UInt8)) (h1 : ls.length <= 1000) (h2 : ls.flatten.length <= 4000000) : jw Z 55 [.pv (lH h bP ls)] (.own 5 1 (h _ fun _ => ls.flatten.map u8P)) [.any] := by
 simp only [lH, hh]
 refine qdo Tryz.func55 rfl rfl fun A w u hA he hr => ?_
 obtain ⟨zs, q1, q2⟩ := ZQ hr
 have e : cat zs = ls.flatten := by rw [<- q2, cat, List.flatMap_def]
 have e2 : zs.length = ls.length := by rw [<- q2, List.length_map]
 rw [<- e] at h2 ⊢
 exact Qw _ w u zs q1 Y62 h2
end Go.Bl
namespace Go.Bl
open Go.RowKit Go.Proofs Go.Proofs.YtnafknkchbfpaaaGreatDoor
theorem qah {w : World} {g : Nat} {us : List Value} (h : ∀ i, i < us.length -> w.cell? ⟨g, i, none⟩ = some (us.getD i undef)) : Row (fun _ => False) w (some ⟨g, 0, none⟩) us := by
 rcases Nat.eq_zero_or_pos us.length with h0 | h0
 ·exact .inl (List.eq_nil_of_length_eq_zero h0)
 ·have h1 := h 0 h0
  unfold World.cell? at h1
  simp only at h1
  split at h1
  ·rename_i c e fz hh
   refine .inr ⟨g, 0, c, e, fz, rfl, id, hh, fun i hi => ?_⟩
   have h2 := h i hi
   rw [qK hh] at h2
   rw [Nat.zero_add, h2, List.getD_eq_getElem?_getD, List.getElem?_eq_getElem hi]
   rfl
  ·cases h1
theorem LK {A : Nat -> Prop} {w : World} : ∀ {us : List Value}, (∀ u ∈ us, u.oneCell' = true) -> qj A w (us.map .v) us
 | [], _ => .nil
 | u :: us, h => .cons (.v (h u List.mem_cons_self)) (LK fun x hx => h x (List.mem_cons_of_mem _ hx))
theorem Zr {w : World} {g : Nat} {us : List Value} (h1 : ∀ u ∈ us, u.oneCell' = true) (h : ∀ i, i < us.length -> w.cell? ⟨g, i, none⟩ = some (us.getD i undef)) : je (fun _ => False) w (.p (us.map .v)) (.pointer (some ⟨g, 0, none⟩)) :=
 .p (LK h1) (fun c hc => by obtain ⟨u, hu, rfl⟩ := List.mem_map.1 hc; rfl) (qah h)
theorem Us {α : Type} {c : Prop} [Decidable c] {a b : Option α} {x : α} (h : (if c then a else b) = some x) : (c /\ a = some x) ∨ b = some x := by
 by_cases hc : c
 ·rw [if_pos hc] at h; exact .inl ⟨hc, h⟩
 ·rw [if_neg hc] at h; exact .inr h
theorem qbv (Z : Ad) (hS : SG Z.w) : Env (gZ Z) (fun _ => False) Z.w := by
 refine ⟨fun g xs hg => ?_, fun b o hb => ?_⟩
 ·have hg : gV Z g = some xs := hg
  have ke : ∀ k ∈ all20, je (fun _ => False) Z.w (.p [jO Z k]) (.pointer (some ⟨gOf k, 0, none⟩)) := fun k hk => by
   refine Zr (us := [.iface 317 (.pointer (some (Z.e k)))]) (by intro u hu; obtain rfl := List.mem_singleton.1 hu; rfl) fun i hi => ?_
   obtain rfl : i = 0 := by simp at hi; exact hi
   exact Z.ok.cell k hk
  unfold gV at hg
  rcases Us hg with ⟨e, q⟩ | hg
  ·subst e
   obtain rfl := Option.some.inj q
   refine Zr (us := xH.l.map ju) (fun u hu => by obtain ⟨x, -, rfl⟩ := List.mem_map.1 hu; rfl) fun i hi => ?_
   have h1 := hS.f i _ (List.getElem?_eq_getElem hi)
   rw [Nat.zero_add] at h1
   rw [h1, List.getD_eq_getElem?_getD, List.getElem?_eq_getElem hi]
   rfl
  rcases Us hg with ⟨e, q⟩ | hg
  ·subst e
   obtain rfl := Option.some.inj q
   refine Zr (us := Qu.map ju) (fun u hu => by obtain ⟨x, -, rfl⟩ := List.mem_map.1 hu; rfl) fun i hi => ?_
   have hk : i < Qu.length := by rw [List.length_map] at hi; exact hi
   have h1 := hS.k i hk
   have e1 : Qu.getD i 0 = Qu[i] := by rw [List.getD_eq_getElem?_getD, List.getElem?_eq_getElem hk]; rfl
   have e2 : (Qu.map ju).getD i undef = ju Qu[i] := by rw [List.getD_eq_getElem?_getD, List.getElem?_map, List.getElem?_eq_getElem hk]; rfl
   rw [h1, e1, e2]
   rfl
  iterate 6
   rcases Us hg with ⟨e, q⟩ | hg
   ·subst e
    obtain rfl := Option.some.inj q
    exact ke _ qd
  cases hg
 ·have hb : gO Z b = some o := hb
  unfold gO at hb
  split at hb
  ·exact ⟨hb, id⟩
  ·cases hb
theorem LW (Z : Ad) {f : FuncId} {x : PV} {u : Value} (h : jw Z f [.pv x] (.pv (.v (.bool true))) [.any]) (hS : SG Z.w) (hx : je (fun _ => False) Z.w x u) : Calls Tryz.prog f #[u] Z.w fun e w' => e = .returned (.bool true) /\ Fr [] Z.w w' := by
 refine (h.2 Z.w [u] ([] ++ []) (fun _ => False) (fun b hb => hb.elim) qf qf (qbv Z hS) (.cons (.pv hx) .nil)).mono ?_
 rintro e w' ⟨v, b1, b2, rfl, h1, -, -, -, hf⟩
 cases h1 with
 | pv h1 =>
  rw [y6 h1]
  exact ⟨rfl, hf⟩
end Go.Bl
