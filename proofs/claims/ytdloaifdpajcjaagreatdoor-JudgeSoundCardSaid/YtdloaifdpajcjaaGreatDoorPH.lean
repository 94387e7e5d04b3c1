import Derived.Test.YtdloaifdpajcjaaGreatDoorPG
import Derived.Test.YtdloaifdpajcjaaGreatDoorHA
set_option maxRecDepth 1000000
set_option maxHeartbeats 8000000
set_option linter.unusedVariables false
set_option linter.unusedSimpArgs false
set_option maxRecDepth 1000000
set_option maxHeartbeats 8000000
namespace Go.Bl
open Go.RowKit Go.Proofs Go.Proofs.YtdloaifdpajcjaaGreatDoor
theorem qhT : YR Tryz.prog (fun t => tyT Tryz.progTables t) := qhC Y72 Y55
def qer : List PV := (yb.l.map js).map .v
def qdb : List PV := (Qk.map js).map .v
structure Ad where
 e : Nat -> Addr
 w : World
 ok : ya all20 e w.heap.size w
def qP (Z : Ad) (k : Nat) : PV := .v (.iface 393 (.pointer (some (Z.e k))))
def gV (Z : Ad) (g : Nat) : Option (List PV) := if g = 20 then some qer else if g = 21 then some qdb else if g = 2 then some [qP Z 1] else if g = 3 then some [qP Z 4] else if g = 7 then some [qP Z 6] else if g = 1 then some [qP Z 7] else if g = 0 then some [qP Z 8] else if g = 8 then some [qP Z 9] else if g = 14 then some [qP Z 15] else if g = 17 then some [qP Z 18] else none
def qaW (Z : Ad) : List Nat := all20.map gOf ++ all20.map fun k => (Z.e k).block
def gO (Z : Ad) (b : Nat) : Option Obj := if b ∈ qaW Z then Z.w.heap[b]? else none
def gZ (Z : Ad) : Gv := ⟨gV Z, gO Z⟩
theorem Wz {Z : Ad} {A : Nat -> Prop} {w : World} (h : Env (gZ Z) A w) : ya all20 Z.e w.heap.size w := by
 have key : ∀ b ∈ qaW Z, ∀ o, Z.w.heap[b]? = some o -> w.heap[b]? = some o := fun b hb o ho => (h.obj b o (by show gO Z b = _; unfold gO; rw [if_pos hb]; exact ho)).1
 have m1 : ∀ k ∈ all20, gOf k ∈ qaW Z := fun k hk => List.mem_append.2 (.inl (List.mem_map.2 ⟨k, hk, rfl⟩))
 have m2 : ∀ k ∈ all20, (Z.e k).block ∈ qaW Z := fun k hk => List.mem_append.2 (.inr (List.mem_map.2 ⟨k, hk, rfl⟩))
 refine ⟨fun k hk => ?_, fun k hk => ?_, Z.ok.inj, fun k hk => ?_, fun k hk => ?_⟩
 ·obtain ⟨t, fz, h1⟩ := Z.ok.glob k hk
  exact ⟨t, fz, key _ (m1 k hk) _ h1⟩
 ·obtain ⟨c, t, h1⟩ := Z.ok.blk k hk
  exact ⟨c, t, key _ (m2 k hk) _ h1⟩
 ·obtain ⟨t, fz, h1⟩ := Z.ok.glob k hk
  exact qk (key _ (m1 k hk) _ h1)
 ·obtain ⟨c, t, h1⟩ := Z.ok.blk k hk
  exact qk (key _ (m2 k hk) _ h1)
theorem qih (J : List Nat) (Z : Ad) {f : FuncId} {fn : Func} {code : Code} {zs : List RA} {res : RA} (h : Hh) (hh : ∀ α g, h α g = g ()) {N : Nat} (he : Tryz.prog.funcs[f]? = some fn /\ fn.ntmps = N) (hb : fn.body = some code) (hn : (fn.name == "runtime.NumGoroutine") = false) (hN1 : N.ble 1000 = true) (has : V0 zs = true) (hlen : zs.length.ble N = true)
  (vc : ∀ C, (∀ f xs r ys, Con Tryz.prog (gZ Z) f xs r ys -> C f xs r ys) -> ju ⟨h, fun t => tyT Tryz.progTables t, gV Z, N, J⟩ C code (fun e σ => (e = .n ∨ e = .r) /\ (qbZ ⟨h, fun t => tyT Tryz.progTables t, gV Z, N, J⟩ fn.results.toList res).vc C σ fun _ _ => True) ⟨yu 0 zs, []⟩) : Con Tryz.prog (gZ Z) f zs res (zs.map fun _ => .any) :=
 qcu h hh Y55 qhT he.1 hb hn N he.2 (Nat.le_of_ble_eq_true hN1) has (Nat.le_of_ble_eq_true hlen) J vc
theorem qB (Z : Ad) {f : FuncId} {fn : Func} {code : Code} {zs : List RA} {res : RA} (h : Hh) (hh : ∀ α g, h α g = g ()) {N : Nat} (he : Tryz.prog.funcs[f]? = some fn /\ fn.ntmps = N) (hb : fn.body = some code) (hn : (fn.name == "runtime.NumGoroutine") = false) (hN1 : N.ble 1000 = true) (has : V0 zs = true) (hlen : zs.length.ble N = true)
  (vc : ∀ C, (∀ f xs r ys, Con Tryz.prog (gZ Z) f xs r ys -> C f xs r ys) -> ju ⟨h, fun t => tyT Tryz.progTables t, gV Z, N, []⟩ C code (fun e σ => (e = .n ∨ e = .r) /\ (qbZ ⟨h, fun t => tyT Tryz.progTables t, gV Z, N, []⟩ fn.results.toList res).vc C σ fun _ _ => True) ⟨yu 0 zs, []⟩) : Con Tryz.prog (gZ Z) f zs res (zs.map fun _ => .any) :=
 qih [] Z h hh he hb hn hN1 has hlen vc
theorem ZT (J : List Nat) (Z : Ad) {f : FuncId} {fn : Func} {code : Code} {pre post : List (Nat × Ob)} {xs rs : List AV} {ρ0 ρ1 : List (Nat × Nat)} {outs : List RA} (h : Hh) (hh : ∀ α g, h α g = g ()) {N : Nat} (he : Tryz.prog.funcs[f]? = some fn /\ fn.ntmps = N) (hb : fn.body = some code) (hn : (fn.name == "runtime.NumGoroutine") = false) (hN1 : N.ble 1000 = true) (hok : okP pre = true) (hlen : xs.length.ble N = true)
  (vc : ∀ C, (∀ f xs r ys, Con Tryz.prog (gZ Z) f xs r ys -> C f xs r ys) -> ju ⟨h, fun t => tyT Tryz.progTables t, gV Z, N, J⟩ C code (fun e σ => (e = .n ∨ e = .r) /\ qgE ⟨h, fun t => tyT Tryz.progTables t, gV Z, N, J⟩ C fn.results.toList post rs σ) ⟨JS 0 xs, pre.map fun x => (x.1, some x.2)⟩) : Con Tryz.prog (gZ Z) f [.hp ρ0 pre xs] (.hp ρ1 post rs) outs :=
 LP h hh Y55 qhT he.1 hb hn N he.2 (Nat.le_of_ble_eq_true hN1) (Nat.le_of_ble_eq_true hlen) hok ρ0 ρ1 outs J vc
abbrev qi (Z : Ad) := Con Tryz.prog (gZ Z)
end Go.Bl
namespace Go.Bl
open Go.RowKit
theorem qfg {P : Program} {G : Gv} {f : FuncId} {fn : Func} {x r : Value} (hf : P.funcs[f]? = some fn) (hb : fn.body.isNone = false) (hn : (fn.name == "runtime.NumGoroutine") = false) (hr : r.oneCell' = true)
  (hc : ∀ w, Calls P f #[x] w fun e w' => e = .returned r /\ w' = w) : Con P G f [.pv (.v x)] (.pv (.v r)) [.any] := by
 refine .mk' rfl ⟨enters_of hf hb hn, fun w vals bs A hA hbs hnd henv hr' => ?_⟩
 cases hr' with
 | cons h1 h2 =>
  cases h2
  cases h1 with
  | pv h1 =>
   cases h1
   refine Calls.mono (hc w) ?_
   rintro e w' ⟨rfl, rfl⟩
   exact ⟨r, [], [], rfl, .pv (.v hr), .cons (b := []) (bs := []) .any .nil, by simp, by simp, Fr.refl _ _⟩
end Go.Bl
namespace Go.Bl
open Go.RowKit Go.Proofs.YtdloaifdpajcjaaGreatDoor
variable {A : Nat -> Prop} {w : World}
theorem Row.below {a : Option Addr} {cs : List Value} (h : Row A w a cs) : Row (fun b => w.heap.size <= b) w a cs := by
 rcases h with h | ⟨b, off, c, e, fz, rfl, hn, hb, hc⟩
 ·exact .inl h
 ·exact .inr ⟨b, off, c, e, fz, rfl, by have := qk hb; omega, hb, hc⟩
theorem JZ {xs : List UInt8} {v : Value} (h : qN A w (bP xs) v) : Go.Bl.Bs (fun b => w.heap.size <= b) w v xs := by
 cases h with
 | l h h1 h2 h3 h4 h5 h6 =>
  rename_i ad cap s us
  rw [z8] at h
  have := JV h
  subst this
  rw [List.length_map] at h4
  exact ⟨ad, cap, by rw [List.length_map], h4, h5, Row.below h6⟩
theorem yX (ls : List (List UInt8)) : (ls.map bP).flatMap PV.cells = ls.map bP := vh fun x hx => by
 obtain ⟨y, -, rfl⟩ := List.mem_map.1 hx; rfl
theorem qaC : ∀ {ls : List (List UInt8)} {us : List Value}, qe A w (ls.map bP) us -> ∃ zs : List (Value × List UInt8), zs.map (·.1) = us /\ zs.map (·.2) = ls /\ ∀ x ∈ zs, Go.Bl.Bs (fun b => w.heap.size <= b) w x.1 x.2
 | [], _, .nil => ⟨[], rfl, rfl, by simp⟩
 | l :: ls, _, .cons (u := u) h h1 => by
  obtain ⟨zs, e1, e2, e3⟩ := qaC (ls := ls) h1
  exact ⟨(u, l) :: zs, by simp [e1], by simp [e2], by
   intro x hx
   rcases List.mem_cons.1 hx with rfl | hx
   ·exact JZ h
   ·exact e3 x hx⟩
theorem Z9 {ls : List (List UInt8)} {v : Value} (h : qN A w (.l (ls.map bP)) v) : ∃ zs : List (Value × List UInt8), RdB (fun b => w.heap.size <= b) w v zs /\ zs.map (·.2) = ls := by
 cases h with
 | l h h1 h2 h3 h4 h5 h6 =>
  rename_i ad cap s us
  rw [yX] at h
  obtain ⟨zs, e1, e2, e3⟩ := qaC h
  subst e1
  have hl : (ls.map bP).length = (zs.map (·.1)).length := by rw [<- e2]; simp
  refine ⟨zs, ⟨⟨ad, cap, by rw [hl], by rw [<- hl]; exact h4, h5, Row.below h6⟩, e3⟩, e2⟩
theorem qgl {P : Program} {G : Gv} {f : FuncId} {fn : Func} {x : PV} {r : PV} {v : Value} (hf : P.funcs[f]? = some fn) (hb : fn.body.isNone = false) (hn : (fn.name == "runtime.NumGoroutine") = false) (hr : ∀ A w, qN A w r v)
  (hc : ∀ A w u, (∀ b, A b -> b < w.heap.size) -> Env G A w -> qN A w x u -> Calls P f #[u] w fun e w' => e = .returned v /\ Fr [] w w') : Con P G f [.pv x] (.pv r) [.any] := by
 refine .mk' rfl ⟨enters_of hf hb hn, fun w vals bs A hA hbs hnd henv hr' => ?_⟩
 cases hr' with
 | cons h1 h2 =>
  cases h2
  cases h1 with
  | pv h1 =>
   refine Calls.mono (hc A w _ hA henv h1) ?_
   rintro e w' ⟨rfl, hfr⟩
   exact ⟨v, [], [], rfl, .pv (hr _ _), .cons (b := []) (bs := []) .any .nil, by simp, by simp, hfr⟩
theorem qg7 (bs : List UInt8) : qN A w (.a (bs.map u8P)) (.agg ((bs.map u8v).toArray)) := .a (y9 bs) fun c hc => by obtain ⟨y, -, rfl⟩ := List.mem_map.1 hc; rfl
theorem KF {G : Gv} {g : Nat} {xs : List Value} (h : Env G A w) (hg : G.val g = some (xs.map .v)) (i : Nat) (hi : i < xs.length) : w.cell? ⟨g, i, none⟩ = some (xs.getD i undef) := by
 have h1 := h.val g _ hg
 cases h1 with
 | p h1 h2 h3 =>
  rename_i us
  have e : us = xs := by
   clear h2 h3 hg hi
   induction xs generalizing us with
   | nil => cases h1; rfl
   | cons x xs ih =>
    cases h1 with
    | cons q r => cases q; rw [ih r]
  subst e
  rcases h3 with h3 | ⟨b, off, c, e, fz, q, hn, hb, hc⟩
  ·rw [h3] at hi; cases hi
  ·cases q
   have := hc i hi
   rw [Nat.zero_add] at this
   unfold World.cell?
   simp [hb, this, List.getD_eq_getElem?_getD, List.getElem?_eq_getElem hi]
end Go.Bl
namespace Go.Bl
open Go.RowKit Go.Proofs Go.Proofs.YtdloaifdpajcjaaGreatDoor
attribute [simp] jv
theorem qfq {A : Nat -> Prop} {w : World} {Z : Ad} (h : Env (gZ Z) A w) : FAt 20 w := fun j v hv => by
 have hj : j < (yb.l.map js).length := by
  rcases Nat.lt_or_ge j (yb.l.map js).length with h9 | h9
  ·exact h9
  ·rw [List.getElem?_eq_none h9] at hv; cases hv
 rw [Nat.zero_add, KF h (xs := yb.l.map js) rfl j hj, List.getD_eq_getElem?_getD, hv]
 rfl
theorem qaF {A : Nat -> Prop} {w : World} {Z : Ad} (h : Env (gZ Z) A w) : KAt 21 w := fun i hi => by
 rw [KF h (xs := Qk.map js) rfl i (by rw [List.length_map]; exact hi), List.getD_eq_getElem?_getD, List.getElem?_map, List.getD_eq_getElem?_getD, List.getElem?_eq_getElem (show i < Qk.length from hi)]
 rfl
theorem qdR {A : Nat -> Prop} {w : World} {Z : Ad} (h : Env (gZ Z) A w) : 21 < w.heap.size := by
 have := qaF h 0 Y86
 rcases Nat.lt_or_ge 21 w.heap.size with h | h
 ·exact h
 ·unfold World.cell? at this
  rw [Array.getElem?_eq_none h] at this
  cases this
theorem ue (Z : Ad) (h : Hh) (hh : ∀ α g, h α g = g ()) (ls : List (List UInt8)) (hl : ls.flatten.length <= 100000000) : qi Z 12 [.pv (lH h bP ls)] (.pv (aH h u8P (qz ls.flatten))) [.any] := by
 simp only [lH, aH, hh]
 refine qgl Tryz.func12 rfl rfl (fun A w => qg7 _) fun A w u hA he hr => ?_
 obtain ⟨zs, h1, h2⟩ := Z9 hr
 have e : vA zs = ls.flatten := by rw [vA, h2]
 rw [<- e] at hl ⊢
 exact qea w u zs h1 (qfq he) (qaF he) (qdR he) hl
end Go.Bl
namespace Go.Bl
open Go.RowKit Go.Proofs Go.Proofs.YtdloaifdpajcjaaGreatDoor
variable {A : Nat -> Prop} {w : World}
theorem V5 : ∀ {xs : List PV} {us : List Value} {bs : List Nat}, jz A w (xs.map .pv) us bs -> bs = [] /\ qe A w xs us
 | [], _, _, .nil => ⟨rfl, .nil⟩
 | x :: xs, _, _, .cons (.pv h) h2 => by
  obtain ⟨e, h3⟩ := V5 (xs := xs) h2
  subst e
  exact ⟨rfl, .cons h h3⟩
theorem JH : ∀ {xs : List PV} {us : List Value}, xs.length = us.length -> jz A w (xs.map fun _ => .any) us []
 | [], [], _ => .nil
 | _ :: xs, _ :: us, h => .cons (b := []) (bs := []) .any (JH (xs := xs) Y62)
theorem JA {P : Program} {G : Gv} {f : FuncId} {fn : Func} {xs : List PV} {res : RA} (hf : P.funcs[f]? = some fn) (hb : fn.body.isNone = false) (hn : (fn.name == "runtime.NumGoroutine") = false)
  (hc : ∀ A w us, (∀ b, A b -> b < w.heap.size) -> Env G A w -> qe A w xs us -> Calls P f us.toArray w fun e w' => ∃ v b1, e = .returned v /\ uN (fun b => A b ∨ b ∈ b1) w' res v b1 /\ b1.Nodup /\ (∀ b ∈ b1, w.heap.size <= b /\ b < w'.heap.size) /\ Fr [] w w') : Con P G f (xs.map .pv) res (xs.map fun _ => .any) := by
 refine .mk' (by rcases xs with _ | ⟨x, _ | ⟨y, xs⟩⟩ <;> rfl) ⟨enters_of hf hb hn, fun w vals bs A hA hbs hnd henv hr' => ?_⟩
 obtain ⟨rfl, h1⟩ := V5 hr'
 refine (hc A w vals hA henv h1).mono ?_
 rintro e w' ⟨v, b1, rfl, h2, h3, h4, h5⟩
 refine ⟨v, b1, [], rfl, ?_, JH h1.length, by simpa using h3, ?_, h5⟩
 ·have e : (fun b => (A b /\ b ∉ ([] : List Nat)) ∨ b ∈ b1 ++ []) = fun b => A b ∨ b ∈ b1 := by funext b; simp
  rw [e]; exact h2
 ·intro b hb
  have := h4 b Y80
  exact ⟨.inr this.1, this.2⟩
theorem Ji {P : Program} {G : Gv} {f : FuncId} {fn : Func} {xs : List PV} {res : RA} (v : Value) (hf : P.funcs[f]? = some fn) (hb : fn.body.isNone = false) (hn : (fn.name == "runtime.NumGoroutine") = false) (hr : ∀ A w, uN A w res v [])
  (hc : ∀ A w us, (∀ b, A b -> b < w.heap.size) -> Env G A w -> qe A w xs us -> Calls P f us.toArray w fun e w' => e = .returned v /\ Fr [] w w') : Con P G f (xs.map .pv) res (xs.map fun _ => .any) :=
 JA hf hb hn fun A w us hA he hr' => (hc A w us hA he hr').mono (by
  rintro e w' ⟨rfl, h⟩
  exact ⟨v, [], rfl, hr _ _, by simp, by simp, h⟩)
mutual
theorem uN.less {A A' : Nat -> Prop} {w : World} (k : ∀ b, A' b -> A b) : ∀ {r : RA} {u : Value} {bs : List Nat}, uN A w r u bs -> uN A' w r u bs
 | _, _, _, .pv h => .pv (h.stay ⟨fun _ _ _ => rfl, fun b _ => k b⟩)
 | _, _, _, .nil => .nil
 | _, _, _, .own h1 h2 h3 h4 h5 => .own h1 (h2.stay ⟨fun _ _ _ => rfl, fun b _ => k b⟩) h3 h4 h5
 | _, _, _, .tup h => .tup (jz.less k h)
 | _, _, _, .any => .any
theorem jz.less {A A' : Nat -> Prop} {w : World} (k : ∀ b, A' b -> A b) : ∀ {r : List RA} {u : List Value} {bs : List Nat}, jz A w r u bs -> jz A' w r u bs
 | _, _, _, .nil => .nil
 | _, _, _, .cons h1 h2 => .cons (uN.less k h1) (jz.less k h2)
end
theorem Con.plain {P : Program} {G : Gv} {f : FuncId} {args outs : List RA} {e : TypeId} {s : Nat} {xs : List PV} (h : Con P G f args (.own e s xs) outs) : Con P G f args (.pv (.l xs)) outs := by
 refine ⟨h.1, fun w vals bs A hA hbs hnd henv hr => (h.2 w vals bs A hA hbs hnd henv hr).mono ?_, fun ρ pre xs ρ' post rs _ e => (by cases e), h.it⟩
 rintro e' w' ⟨v, b1, b2, rfl, h1, h2, h3, h4, h5⟩
 have k : ∀ b, ((A b /\ b ∉ bs) ∨ b ∈ [] ++ b2) -> ((A b /\ b ∉ bs) ∨ b ∈ b1 ++ b2) := fun b hb => hb.imp id fun q => List.mem_append.2 (.inr (by simpa using q))
 cases h1 with
 | @own _ _ _ _ us q0 q1 q2 q3 q4 =>
  refine ⟨v, [], b2, rfl, .pv ?_, h2.less k, by rw [List.nil_append]; exact (List.nodup_append.1 h3).2.1, fun b hb => h4 b (List.mem_append.2 (.inr Y80)), h5⟩
  have hap := (List.nodup_append.1 h3).2.2
  obtain ⟨ad, cap, rfl, c1, c2, c3⟩ := Row.of_own' (A := fun b => (A b /\ b ∉ bs) ∨ b ∈ [] ++ b2) q4 (fun b hb => by
   have hm : b ∈ v.ownBlock.toList := by simpa using hb
   rintro (⟨g1, g2⟩ | g1)
   ·rcases (h4 b (List.mem_append.2 (.inl hm))).1 with g | g
    ·exact g2 g
    ·have := hA b g1; omega
   ·exact hap b hm b (by simpa using g1) rfl)
  exact .l (q1.stay ⟨fun _ _ _ => rfl, fun b _ => k b⟩) q2 q3 q0 c1 c2 c3
theorem Bs.any {v : Value} {xs : List UInt8} (h : Go.Bl.Bs A w v xs) : Go.Bl.Bs (fun _ => False) w v xs := h.mono (S := []) (Fr.refl _ _) Y85 fun b h => h.elim
theorem qbJ {v : Value} {xs : List UInt8} (h : Go.Bl.Bs A w v xs) : qN A w (bP xs) v := by
 obtain ⟨a, cap, rfl, h2, h3, h4⟩ := h
 rw [show xs.length = (xs.map u8P).length by simp] at h2 ⊢
 exact .l (s := 1) (us := xs.map u8v) (by rw [z8]; exact y9 xs) (fun x hx => by obtain ⟨y, -, rfl⟩ := List.mem_map.1 hx; rfl) (fun x hx c hc => by obtain ⟨y, -, rfl⟩ := List.mem_map.1 hx; simp [PV.cells, u8P] at hc; subst hc; rfl) Y86 h2 h3 h4
theorem Zq : ∀ {zs : List (Value × List UInt8)}, (∀ x ∈ zs, Go.Bl.Bs A w x.1 x.2) -> qe A w ((zs.map (·.2)).map bP) (zs.map (·.1))
 | [], _ => .nil
 | z :: zs, h => .cons (qbJ (h z List.mem_cons_self)) (Zq fun x hx => h x (List.mem_cons_of_mem _ hx))
theorem qac {v : Value} {zs : List (Value × List UInt8)} (h : RdB A w v zs) : qN A w (.l ((zs.map (·.2)).map bP)) v := by
 obtain ⟨⟨a, cap, rfl, h2, h3, h4⟩, h5⟩ := h
 have e : (zs.map (·.1)).length = ((zs.map (·.2)).map bP).length := by simp
 rw [e] at h2 ⊢
 exact .l (s := 1) (us := zs.map (·.1)) (by rw [yX]; exact Zq h5) (fun x hx => by obtain ⟨y, -, rfl⟩ := List.mem_map.1 hx; rfl) (fun x hx c hc => by obtain ⟨y, -, rfl⟩ := List.mem_map.1 hx; simp [PV.cells, bP] at hc; subst hc; rfl) Y86 h2 h3 h4
theorem VE {x u : Value} (h : qN A w (.v x) u) : u = x := by cases h; rfl
theorem qeX : ∀ {xs us : List Value}, qe A w (xs.map .v) us -> us = xs
 | [], _, .nil => rfl
 | x :: xs, _, .cons h h1 => by rw [VE h, qeX h1]
theorem qgJ {xs : List Value} {u : Value} (h : qN A w (.a (xs.map .v)) u) : u = .agg xs.toArray := by
 cases h with
 | a h _ => rw [qeX h]
end Go.Bl
namespace Go.Bl
open Go.RowKit Go.Proofs Go.Proofs.YtdloaifdpajcjaaGreatDoor
theorem Ym {P : Program} {G : Gv} {f : FuncId} {fn : Func} {x : PV} {e : TypeId} {ys : List UInt8} (hf : P.funcs[f]? = some fn) (hb : fn.body.isNone = false) (hn : (fn.name == "runtime.NumGoroutine") = false)
  (hc : ∀ A w u, (∀ b, A b -> b < w.heap.size) -> Env G A w -> qN A w x u -> Calls P f #[u] w fun e' w' => ∃ v, e' = .returned v /\ qt e w.heap.size w' v ys /\ Fr [] w w') : Con P G f [.pv x] (.own e 1 (ys.map u8P)) [.any] := by
 refine .mk' rfl ⟨enters_of hf hb hn, fun w vals bs A hA hbs hnd henv hr' => ?_⟩
 cases hr' with
 | cons h1 h2 =>
  cases h2
  cases h1 with
  | pv h1 =>
   refine Calls.mono (hc A w _ hA henv h1) ?_
   rintro e' w' ⟨v, rfl, ho, hfr⟩
   have hv : ∀ b ∈ v.ownBlock.toList, w.heap.size <= b /\ b < w'.heap.size := by
    intro b hb'
    rcases ho.2 with ⟨h, -⟩ | ⟨g, cap, cur, hv, hg, hh, r⟩
    ·rw [h] at hb'; cases hb'
    ·rw [hv] at hb'
     simp [Value.ownBlock] at hb'
     subst hb'
     exact ⟨hg, qk hh⟩
   refine ⟨v, v.ownBlock.toList, [], rfl, .own Y86 (by rw [z8]; exact y9 ys) (fun x hx => by obtain ⟨y, -, rfl⟩ := List.mem_map.1 hx; rfl) (fun x hx c hc => by obtain ⟨y, -, rfl⟩ := List.mem_map.1 hx; simp [PV.cells, u8P] at hc; subst hc; rfl) (by rw [List.length_map]; exact ho.base (Nat.zero_le _)), .cons (b := []) (bs := []) .any .nil, ?_, ?_, hfr⟩
   ·rw [List.append_nil]
    cases v.ownBlock <;> simp
   ·intro b hb'
    have := hv b (by simpa using hb')
    exact ⟨.inr this.1, this.2⟩
theorem Ug (Z : Ad) (h : Hh) (hh : ∀ α g, h α g = g ()) (ls : List (List UInt8)) (h1 : ls.length <= 1000) (h2 : ls.flatten.length <= 4000000) : qi Z 120 [.pv (lH h bP ls)] (.own 5 1 (h _ fun _ => ls.flatten.map u8P)) [.any] := by
 simp only [lH, hh]
 refine Ym Tryz.func120 rfl rfl fun A w u hA he hr => ?_
 obtain ⟨zs, q1, q2⟩ := Z9 hr
 have e : cat zs = ls.flatten := by rw [<- q2, cat, List.flatMap_def]
 have e2 : zs.length = ls.length := by rw [<- q2, List.length_map]
 rw [<- e] at h2 ⊢
 exact LA _ w u zs q1 Y54 h2
end Go.Bl
namespace Go.Bl
open Go.RowKit Go.Proofs
theorem ZH (Z : Ad) (h : Hh) (hh : ∀ α g, h α g = g ()) (i : Int) : qi Z 151 [.pv (iH h i)] (.pv (tH h (decide (0 <= i /\ i <= 1099511627776)))) [.any] := by
 refine qB Z h hh ⟨Tryz.func151, Tryz.ntmps151⟩ rfl rfl rfl rfl rfl fun C hC => ?_
 unfold Tryz.f151
 cbv
 repeat' first
  | apply And.intro
  | exact s0
  | (refine fun (_ : PUnit) => ?_; first | exact ⟨rfl⟩ | (simp_all [hh]; done) | (simp_all [hh]; omega))
  | trivial
  | (intro e; first | rw [e] | skip; cbv)
end Go.Bl
namespace Go.Bl
open Go.RowKit Go.Proofs Go.Proofs.YtdloaifdpajcjaaGreatDoor
def L5 : Go.Code -> List Nat -> Go.Code
 | c, [] => c
 | .seq a _, 0 :: p => L5 a p
 | .seq _ b, _ :: p => L5 b p
 | .cond _ a _, 0 :: p => L5 a p
 | .cond _ _ b, _ :: p => L5 b p
 | .block _ c, _ :: p => L5 c p
 | .loop c, _ :: p => L5 c p
 | c, _ => c
abbrev jT (Z : Ad) (h : Hh) (J : List Nat) (N : Nat) (fn : Func) (res : RA) (C : FuncId -> List RA -> RA -> List RA -> Prop) (p : List Nat) (σ : St) : Prop :=
 ju ⟨h, fun t => tyT Tryz.progTables t, gV Z, N, J⟩ C (L5 (fn.body.getD .skip) p) (fun e σ => (e = .n ∨ e = .r) /\ (qbZ ⟨h, fun t => tyT Tryz.progTables t, gV Z, N, J⟩ fn.results.toList res).vc C σ fun _ _ => True) σ
end Go.Bl
namespace Go.Bl
open Go.RowKit Go.Proofs Go.Proofs.YtdloaifdpajcjaaGreatDoor
theorem qbF {w : World} {g : Nat} {us : List Value} (h : ∀ i, i < us.length -> w.cell? ⟨g, i, none⟩ = some (us.getD i undef)) : Row (fun _ => False) w (some ⟨g, 0, none⟩) us := by
 rcases Nat.eq_zero_or_pos us.length with h0 | h0
 ·exact .inl (List.eq_nil_of_length_eq_zero h0)
 ·have h1 := h 0 h0
  unfold World.cell? at h1
  simp only at h1
  split at h1
  ·rename_i c e fz hh
   refine .inr ⟨g, 0, c, e, fz, rfl, id, hh, fun i hi => ?_⟩
   have h2 := h i hi
   rw [qM hh] at h2
   rw [Nat.zero_add, h2, List.getD_eq_getElem?_getD, List.getElem?_eq_getElem hi]
   rfl
  ·cases h1
theorem qau {A : Nat -> Prop} {w : World} : ∀ {us : List Value}, (∀ u ∈ us, u.oneCell' = true) -> qe A w (us.map .v) us
 | [], _ => .nil
 | u :: us, h => .cons (.v (h u List.mem_cons_self)) (qau fun x hx => h x (List.mem_cons_of_mem _ hx))
theorem Vb {w : World} {g : Nat} {us : List Value} (h1 : ∀ u ∈ us, u.oneCell' = true) (h : ∀ i, i < us.length -> w.cell? ⟨g, i, none⟩ = some (us.getD i undef)) : qN (fun _ => False) w (.p (us.map .v)) (.pointer (some ⟨g, 0, none⟩)) :=
 .p (qau h1) (fun c hc => by obtain ⟨u, hu, rfl⟩ := List.mem_map.1 hc; rfl) (qbF h)
theorem UH {α : Type} {c : Prop} [Decidable c] {a b : Option α} {x : α} (h : (if c then a else b) = some x) : (c /\ a = some x) ∨ b = some x := by
 by_cases hc : c
 ·rw [if_pos hc] at h; exact .inl ⟨hc, h⟩
 ·rw [if_neg hc] at h; exact .inr h
theorem qcZ (Z : Ad) (hS : SG Z.w) : Env (gZ Z) (fun _ => False) Z.w := by
 refine ⟨fun g xs hg => ?_, fun b o hb => ?_⟩
 ·have hg : gV Z g = some xs := hg
  have ke : ∀ k ∈ all20, qN (fun _ => False) Z.w (.p [qP Z k]) (.pointer (some ⟨gOf k, 0, none⟩)) := fun k hk => by
   refine Vb (us := [.iface 393 (.pointer (some (Z.e k)))]) (by intro u hu; obtain rfl := List.mem_singleton.1 hu; rfl) fun i hi => ?_
   obtain rfl : i = 0 := by simp at hi; exact hi
   exact Z.ok.cell k hk
  unfold gV at hg
  rcases UH hg with ⟨e, q⟩ | hg
  ·subst e
   obtain rfl := Option.some.inj q
   refine Vb (us := yb.l.map js) (fun u hu => by obtain ⟨x, -, rfl⟩ := List.mem_map.1 hu; rfl) fun i hi => ?_
   have h1 := hS.f i _ (List.getElem?_eq_getElem hi)
   rw [Nat.zero_add] at h1
   rw [h1, List.getD_eq_getElem?_getD, List.getElem?_eq_getElem hi]
   rfl
  rcases UH hg with ⟨e, q⟩ | hg
  ·subst e
   obtain rfl := Option.some.inj q
   refine Vb (us := Qk.map js) (fun u hu => by obtain ⟨x, -, rfl⟩ := List.mem_map.1 hu; rfl) fun i hi => ?_
   have hk : i < Qk.length := by rw [List.length_map] at hi; exact hi
   have h1 := hS.k i hk
   have e1 : Qk.getD i 0 = Qk[i] := by rw [List.getD_eq_getElem?_getD, List.getElem?_eq_getElem hk]; rfl
   have e2 : (Qk.map js).getD i undef = js Qk[i] := by rw [List.getD_eq_getElem?_getD, List.getElem?_map, List.getElem?_eq_getElem hk]; rfl
   rw [h1, e1, e2]
   rfl
  iterate 8
   rcases UH hg with ⟨e, q⟩ | hg
   ·subst e
    obtain rfl := Option.some.inj q
    exact ke _ Y86
  cases hg
 ·have hb : gO Z b = some o := hb
  unfold gO at hb
  split at hb
  ·exact ⟨hb, id⟩
  ·cases hb
theorem qbd {A : Nat -> Prop} {w : World} : ∀ {xs : List PV} {us : List Value}, qe A w xs us -> jz A w (xs.map .pv) us []
 | _, _, .nil => .nil
 | _, _, .cons h h1 => .cons (b := []) (bs := []) (.pv h) (qbd h1)
theorem Le (Z : Ad) {f : FuncId} {xs : List PV} {us : List Value} {outs : List RA} (h : qi Z f (xs.map .pv) (.pv (.v (.bool true))) outs) (hS : SG Z.w) (hx : qe (fun _ => False) Z.w xs us) : Calls Tryz.prog f us.toArray Z.w fun e w' => e = .returned (.bool true) /\ Fr [] Z.w w' := by
 refine (h.2 Z.w us [] (fun _ => False) (fun b hb => hb.elim) Y85 Y85 (qcZ Z hS) (qbd hx)).mono ?_
 rintro e w' ⟨v, b1, b2, rfl, h1, -, -, -, hf⟩
 cases h1 with
 | pv h1 =>
  rw [VE h1]
  exact ⟨rfl, hf⟩
end Go.Bl
