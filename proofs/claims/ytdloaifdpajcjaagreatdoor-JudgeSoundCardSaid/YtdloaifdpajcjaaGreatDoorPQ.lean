import Derived.Test.YtdloaifdpajcjaaGreatDoorPP
import Derived.OpenShut
import Derived.Deep.Slices
set_option linter.unusedVariables false
set_option linter.unusedSimpArgs false
set_option maxRecDepth 1000000
set_option maxHeartbeats 8000000
namespace Go.Bl
open Go.RowKit Go.Proofs
attribute [local irreducible] qz
open Go.Proofs.YtdloaifdpajcjaaGreatDoor (Par chk blk qU jU zK qj)
theorem KT {α : Type} {off : Nat} {cs base : List α} (h : off + cs.length <= base.length) : (splice off cs base).length = base.length := by
 simp only [splice, List.length_append, List.length_take, List.length_drop]
 omega
theorem yJ {{α : Type}} {{off : Nat}} {{cs z : List α}} (hz : z.length = 76) (h : off + cs.length <= 76) : (splice off cs z).length = 76 := by
 rw [KT Y54, hz]
theorem KU {α : Type} (pre cs rest : List α) {off : Nat} (h : pre.length = off) : splice off cs (pre ++ rest) = (pre ++ cs) ++ rest.drop cs.length := by
 subst h
 simp [splice]
end Go.Bl
namespace Go.Bl
open Go.RowKit Go.Proofs
attribute [local irreducible] qz
set_option cbv.maxSteps 2000000
open Go.Proofs.YtdloaifdpajcjaaGreatDoor (Par chk blk qU jU zK qj)
structure qfl where
 m : List UInt8
 x : jY
 e : jc
 l : zu
def qhn (e : jc) : List PV := [iP e.id, iP e.obj, iP e.way, iP e.idx, iP e.tick, iP e.verd, iP e.at']
def qaN (l : zu) : List PV := [iP l.kind, iP l.id, iP l.obj, .l (l.places.map iP), .l (l.shown.map shownP), iP l.fr, iP l.cnt, .l (l.blocks.map bP), iP l.code]
def qiu (a : qfl) : List PV := bP a.m :: (qK a.x ++ (qhn a.e ++ qaN a.l))
abbrev askH (h : Hh) (a : qfl) : PV := .a (h _ fun _ => qiu a)
structure qfl.Ok (a : qfl) : Prop where
 lr : a.x.root.length = 32
 lf : a.x.file.length = 32
 ls : ∀ s ∈ a.l.shown, ∀ p ∈ s.path, p.length = 32
end Go.Bl
namespace Go.Bl
open Go.RowKit Go.Proofs
attribute [local irreducible] qz
open Go.Proofs.YtdloaifdpajcjaaGreatDoor (Par chk blk qU jU zK qj Xs)
def Qu : jY := ⟨0, .empty, ⟨0, 0, 1, 1, 1, 0⟩, List.replicate 32 0, List.replicate 32 0, 0, false, 0, 0⟩
def JQ : jc := ⟨0, 0, 1, 0, 0, 0, 0⟩
def YD : zu := ⟨7, 0, 0, [], [], 0, 0, [], 0⟩
theorem ZK (Z : Ad) (h : Hh) (hh : ∀ α g, h α g = g ()) : qi Z 6 [] (.pv (.v (.bool true))) [] := by
 have c1 := Zp Z h hh (List.replicate 16 0) Qu JQ (by simp [Qu]) (by simp [Qu]) Xs Y86 rfl Y86
 have hl : (Qy (List.replicate 16 0) Qu JQ).length = 1 := by
  unfold Qy KW
  rw [List.length_take, Vt]
  decide
 obtain ⟨ps, hps⟩ := exq (Qy (List.replicate 16 0) Qu JQ)
 rw [hps] at c1 hl
 have c2 := YE Z h hh (List.replicate 16 0) Qu JQ YD (by simp [Qu]) (by simp [Qu]) ps Y86 c1
 clear hps
 refine qB Z h hh ⟨Tryz.func6, Tryz.ntmps6⟩ rfl rfl rfl rfl rfl fun C hC => ?_
 unfold Tryz.f6
 cbv
 repeat' first
  | exact s0
  | apply And.intro
  | exact sq
  | (refine fun (_ : PUnit) => ?_; simp [hh, *, Qu, JQ, YD, qK, jn, uh, splice, List.replicate]; done)
  | trivial
  | exact sx
  | (refine sy fun e => ?_; cbv)
  | (refine ⟨_, _, _, hC _ _ _ _ c2, ?_⟩; cbv; clear c2)
 refine ⟨_, _, _, hC _ _ _ _ c1, ?_⟩
 cbv
 clear c1
 repeat' first
  | exact s0
  | apply And.intro
  | exact sq
  | (refine fun (_ : PUnit) => ?_; simp [hh, *, Qu, JQ, YD, qK, jn, uh, splice, List.replicate]; done)
  | trivial
  | (refine sz fun e => ?_; simp [hh, hl] at e <;> (try simp only [qD] at *) <;> omega)
  | (refine sy fun e => ?_; cbv)
end Go.Bl
namespace Go.Bl
open Go.RowKit Go.ChangeShapes Go.WideShapes Go.ChangeAt
inductive Sh where
 | i (k : IntKind)
 | u
 | b
 | str
 | l (e : Sh)
 | p0
 | pc (f r : Sh)
 | ar (n : Nat) (e : Sh)
def Sh.Dat : Sh -> Type
 | .i _ => Int
 | .u => UInt8
 | .b => Bool
 | .str => ByteArray
 | .l e => List e.Dat
 | .p0 => Unit
 | .pc f r => f.Dat × r.Dat
 | .ar _ e => List e.Dat
def Sh.w : Sh -> Nat
 | .p0 => 0
 | .pc f r => f.w + r.w
 | .ar n e => n * e.w
 | _ => 1
def Sh.flat : Sh -> Bool
 | .p0 => false
 | .pc _ _ => false
 | .ar _ _ => false
 | _ => true
def Sh.wrap (s : Sh) (cs : List PV) : PV := match s.flat with
 | true => cs.headD (.v undef)
 | false => .a cs
def Sh.cs : (s : Sh) -> s.Dat -> List PV
 | .i k, n => [.v (.int k n)]
 | .u, c => [u8P c]
 | .b, q => [.v (.bool q)]
 | .str, t => [.v (.string t)]
 | .l e, xs => [.l (List.map (fun x => e.wrap (e.cs x)) xs)]
 | .p0, _ => []
 | .pc f r, x => f.cs x.1 ++ r.cs x.2
 | .ar _ e, xs => List.flatMap (fun x => e.cs x) xs
def Sh.el (s : Sh) (d : s.Dat) : PV := s.wrap (s.cs d)
def qdf {α : Type} (p : α -> Prop) (xs : List α) : Prop := ∀ x ∈ xs, p x
def Sh.ok : (s : Sh) -> s.Dat -> Prop
 | .i k, n => (Lit.int k n).wf = true
 | .str, t => ByteArray.size t <= maxLen
 | .l e, xs => List.length xs <= maxLen /\ qdf e.ok xs
 | .pc f r, x => f.ok x.1 /\ r.ok x.2
 | .ar n e, xs => List.length xs = n /\ qdf e.ok xs
 | .u, _ => True
 | .b, _ => True
 | .p0, _ => True
def ui (P : Program) : Sh -> Bool -> Nat -> List (TypeId × Nat) -> Bool
 | .i k, false, _, (t, _) :: _ => match P.underlying t with | some (.int k') => decide (k' = k) | _ => false
 | .u, false, _, (t, _) :: _ => match P.underlying t with | some (.int k') => decide (k' = .u8) | _ => false
 | .b, false, _, (t, _) :: _ => match P.underlying t with | some .bool => true | _ => false
 | .str, false, _, (t, _) :: _ => match P.underlying t with | some .string => true | _ => false
 | .l e, false, _, (t, _) :: _ => match P.underlying t with | some (.slice t') => decide (0 < e.w) && decide (P.cellsOf t' = e.w) && ui P e false 0 [(t', 0)] | _ => false
 | .ar n e, false, _, (t, _) :: _ => match P.underlying t with | some (.array n' t') => decide (n' = n) && decide (P.cellsOf t' = e.w) && decide (P.cellsOf t = n * e.w) && ui P e false 0 [(t', 0)] | _ => false
 | .p0, true, _, [] => true
 | .pc f r, true, o, (t, o') :: ts => decide (o' = o) && decide (P.cellsOf t = f.w) && ui P f false 0 [(t, 0)] && ui P r true (o + f.w) ts
 | .pc f r, false, _, (t, _) :: _ => match P.underlying t with
  | some (.struct fs) => decide (P.cellsOf t = f.w + r.w) && match fs.toList.map fun f => (f.type, f.offset) with
   | (t', o') :: ts => decide (o' = 0) && decide (P.cellsOf t' = f.w) && ui P f false 0 [(t', 0)] && ui P r true (0 + f.w) ts
   | [] => false
  | _ => false
 | _, _, _, _ => false
theorem Sh.cs_one : ∀ (s : Sh) (d : s.Dat), ∀ c ∈ s.cs d, c.one = true
 | .i k, n, c, h => by rw [List.mem_singleton.1 h]; rfl
 | .u, n, c, h => by rw [List.mem_singleton.1 h]; rfl
 | .b, n, c, h => by rw [List.mem_singleton.1 h]; rfl
 | .str, n, c, h => by rw [List.mem_singleton.1 h]; rfl
 | .l e, n, c, h => by rw [List.mem_singleton.1 h]; rfl
 | .p0, _, c, h => by cases h
 | .pc f r, x, c, h => by
  rcases List.mem_append.1 h with h | h
  ·exact Sh.cs_one f _ c h
  ·exact Sh.cs_one r _ c h
 | .ar n e, xs, c, h => by
  obtain ⟨x, -, hx⟩ := List.mem_flatMap.1 h
  exact Sh.cs_one e x c hx
theorem Sh.el_cells (s : Sh) (d : s.Dat) : (s.el d).cells = s.cs d := by cases s <;> rfl
theorem JJ {α β : Type} {f : α -> List β} {w : Nat} : ∀ {xs : List α}, (∀ x ∈ xs, (f x).length = w) -> (xs.flatMap f).length = xs.length * w
 | [], _ => by simp
 | x :: xs, h => by
  rw [List.flatMap_cons, List.length_append, h x List.mem_cons_self, JJ fun y hy => h y (List.mem_cons_of_mem _ hy), List.length_cons, Nat.succ_mul]
  omega
theorem WQ {α β : Type} {f : α -> List β} {w : Nat} : ∀ {xs : List α}, (∀ x ∈ xs, (f x).length = w) -> ∀ {k j : Nat} {x : α}, j < w -> xs[k]? = some x -> (xs.flatMap f)[k * w + j]? = (f x)[j]?
 | [], _, k, j, x, _, h => by simp at h
 | y :: xs, h, 0, j, x, hj, hx => by
  simp at hx
  subst hx
  rw [List.flatMap_cons, Nat.zero_mul, Nat.zero_add, List.getElem?_append_left (by rw [h y List.mem_cons_self]; exact hj)]
 | y :: xs, h, k + 1, j, x, hj, hx => by
  have hl := h y List.mem_cons_self
  rw [List.flatMap_cons, List.getElem?_append_right (by rw [hl, Nat.succ_mul]; omega), hl, show (k + 1) * w + j - w = k * w + j by rw [Nat.succ_mul]; omega]
  exact WQ (fun z hz => h z (List.mem_cons_of_mem _ hz)) hj (by simpa using hx)
theorem Sh.len : ∀ (s : Sh) (d : s.Dat), s.ok d -> (s.cs d).length = s.w
 | .i _, _, _ => rfl
 | .u, _, _ => rfl
 | .b, _, _ => rfl
 | .str, _, _ => rfl
 | .l _, _, _ => rfl
 | .p0, _, _ => rfl
 | .pc f r, x, h => by
  show (f.cs x.1 ++ r.cs x.2).length = f.w + r.w
  rw [List.length_append, Sh.len f _ h.1, Sh.len r _ h.2]
 | .ar n e, xs, h => by
  show (List.flatMap (fun x => e.cs x) xs).length = n * e.w
  have h' : List.length xs = n /\ qdf e.ok xs := h
  rw [JJ fun x hx => Sh.len e x (h'.2 x hx), h'.1]
theorem qcf {W : World} {a : Addr} {cs : List Value} (h : ∀ i, i < cs.length -> W.cell? (a.add i) = cs[i]?) : Row (fun _ => False) W (some a) cs := by
 rcases Nat.eq_zero_or_pos cs.length with h0 | h0
 ·exact .inl (List.length_eq_zero_iff.1 h0)
 ·have hc := h 0 h0
  obtain ⟨b, off, sp⟩ := a
  have hb : ∃ c e fz, W.heap[b]? = some (.cells c e fz) /\ sp = none := by
   have hne : (W.cell? ((⟨b, off, sp⟩ : Addr).add 0)) ≠ none := by rw [hc]; simp [h0]
   have hbl : ((⟨b, off, sp⟩ : Addr).add 0).block = b := by unfold Addr.add; split <;> rfl
   unfold World.cell? at hne
   rw [hbl] at hne
   cases hh : W.heap[b]? with
   | none => rw [hh] at hne; exact absurd rfl hne
   | some o =>
    rw [hh] at hne
    cases o with
    | cells c e fz =>
     refine ⟨c, e, fz, rfl, ?_⟩
     cases sp with
     | none => rfl
     | some s => exact absurd (by simp [Addr.add]) hne
    | _ => exact absurd rfl hne
  obtain ⟨c, e, fz, hh, rfl⟩ := hb
  refine .inr ⟨b, off, c, e, fz, rfl, fun h => h, hh, fun i hi => ?_⟩
  have := h i hi
  have he : (⟨b, off, none⟩ : Addr).add i = ⟨b, off + i, none⟩ := by unfold Addr.add; split <;> simp_all
  rw [he, qM hh] at this
  exact this
theorem qaL {α : Type} {P : Nat -> α -> Prop} : ∀ (n : Nat), (∀ i, i < n -> ∃ x, P i x) -> ∃ l : List α, l.length = n /\ ∀ i x, l[i]? = some x -> P i x
 | 0, _ => ⟨[], rfl, fun i x h => by simp at h⟩
 | n + 1, h => by
  obtain ⟨l, hl, hp⟩ := qaL n (fun i hi => h i Y54)
  obtain ⟨x, hx⟩ := h n Y54
  refine ⟨l ++ [x], by simp [hl], fun i y hy => ?_⟩
  rcases Nat.lt_or_ge i n with hi | hi
  ·rw [List.getElem?_append_left Y54] at hy
   exact hp i y hy
  ·rw [List.getElem?_append_right Y54] at hy
   have : i = n := by
    rcases Nat.lt_or_ge i (n + 1) with h1 | h1
    ·omega
    ·rw [List.getElem?_eq_none Y57] at hy; cases hy
   subst this
   rw [hl] at hy
   simp at hy
   subst hy
   exact hx
theorem VB {A : Nat -> Prop} {w : World} {e : Sh} : ∀ {l : List (e.Dat × List Value)}, (∀ x ∈ l, qe A w (e.cs x.1) x.2) -> qe A w ((l.map (·.1)).flatMap e.cs) (l.flatMap (·.2))
 | [], _ => .nil
 | x :: l, h => (h x List.mem_cons_self).app (VB fun y hy => h y (List.mem_cons_of_mem _ hy))
theorem qa7 (e : Sh) : ∀ (xs : List e.Dat), (xs.map e.el).flatMap PV.cells = xs.flatMap e.cs
 | [] => rfl
 | x :: xs => by rw [List.map_cons, List.flatMap_cons, List.flatMap_cons, Sh.el_cells, qa7 e xs]
variable {H : Type} {enc : TypeId × Value -> H} {P : Program} {W : World}
theorem qd7 {e : Sh} {a : Addr} {len : Nat} (hw : 0 < e.w) (hel : ∀ i, i < len -> ∃ (d : e.Dat) (cs' : List Value), W.cells? 0 (a.add (i * e.w)) e.w = some cs' /\ e.ok d /\ qe (fun _ => False) W (e.cs d) cs') :
  ∃ (xs : List e.Dat) (us : List Value), xs.length = len /\ (∀ x ∈ xs, e.ok x) /\ qe (fun _ => False) W (xs.flatMap e.cs) us /\ Row (fun _ => False) W (some a) us := by
 obtain ⟨l, hl, hp⟩ := qaL (α := e.Dat × List Value) (P := fun i x => W.cells? 0 (a.add (i * e.w)) e.w = some x.2 /\ e.ok x.1 /\ qe (fun _ => False) W (e.cs x.1) x.2) len fun i hi => by
  obtain ⟨d, cs', h⟩ := hel i hi
  exact ⟨(d, cs'), h⟩
 have hall : ∀ x ∈ l, x.2.length = e.w /\ e.ok x.1 /\ qe (fun _ => False) W (e.cs x.1) x.2 := fun x hx => by
  obtain ⟨i, hi⟩ := List.mem_iff_getElem?.1 hx
  obtain ⟨h1, h2, h3⟩ := hp i x hi
  exact ⟨(World.cells?_some h1).2.1, h2, h3⟩
 refine ⟨l.map (·.1), l.flatMap (·.2), by rw [List.length_map, hl], fun x hx => ?_, VB fun x hx => (hall x hx).2.2, qcf fun i hi => ?_⟩
 ·obtain ⟨y, hy, rfl⟩ := List.mem_map.1 hx
  exact (hall y hy).2.1
 ·rw [JJ (w := e.w) fun x hx => (hall x hx).1] at hi
  have hq : i / e.w < l.length := Nat.div_lt_of_lt_mul (by rw [Nat.mul_comm]; exact hi)
  have hx : l[i / e.w]? = some l[i / e.w] := List.getElem?_eq_getElem hq
  have h1 := (World.cells?_some (hp _ _ hx).1).2.2 (i % e.w) (Nat.mod_lt _ hw)
  have he : i / e.w * e.w + i % e.w = i := by rw [Nat.mul_comm]; exact Nat.div_add_mod i e.w
  have h2 := WQ (f := fun (x : e.Dat × List Value) => x.2) (fun x hx => (hall x hx).1) (Nat.mod_lt i hw) hx
  rw [he] at h2
  rw [Addr.add_add, he] at h1
  rw [h1]
  exact h2.symm
theorem y4 : ∀ (s : Sh),
  (∀ (t : TypeId) (o o' : Nat) (ts : List (TypeId × Nat)) (fuel : Nat) (cs : List Value) (x : DataW H × List MemPlace), ui P s false o ((t, o') :: ts) = true -> DataW.trod enc P W 0 (fun _ => true) true fuel t cs = some x -> ∃ d : s.Dat, s.ok d /\ qe (fun _ => False) W (s.cs d) cs) /\
  (∀ (ts : List (TypeId × Nat)) (n o : Nat) (cs : List Value), ui P s true o ts = true -> cs.length = o + s.w -> (∀ (i : Nat) (q : TypeId × Nat), ts[i]? = some q -> ∃ y, DataW.trod enc P W 0 (fun _ => true) true n q.1 ((cs.drop q.2).take (P.cellsOf q.1)) = some y) -> ∃ d : s.Dat, s.ok d /\ qe (fun _ => False) W (s.cs d) (cs.drop o))
 | .i k => by
  refine ⟨fun t o o' ts fuel cs x h hf => ?_, fun ts n o cs h => by simp [ui] at h⟩
  simp only [ui] at h
  split at h
  ·rename_i k' hu
   have := of_decide_eq_true h
   subst this
   obtain ⟨n, rfl, -, hw⟩ := DataW.trod_int hu hf
   exact ⟨n, hw, .cons (.v rfl) .nil⟩
  ·cases h
 | .u => by
  refine ⟨fun t o o' ts fuel cs x h hf => ?_, fun ts n o cs h => by simp [ui] at h⟩
  simp only [ui] at h
  split at h
  ·rename_i k' hu
   have := of_decide_eq_true h
   subst this
   obtain ⟨n, rfl, -, hw⟩ := DataW.trod_int hu hf
   have hr : 0 <= n /\ n <= 255 := by simpa [Lit.wf, IntKind.min, IntKind.max, IntKind.signed, IntKind.bits] using hw
   have e : u8P (UInt8.ofNat n.toNat) = .v (.int .u8 n) := by
    have : (UInt8.ofNat n.toNat).toNat = n.toNat := by rw [UInt8.toNat_ofNat']; omega
    rw [u8P, u8v, this, show ((n.toNat : Nat) : Int) = n by omega]
   refine ⟨(UInt8.ofNat n.toNat : UInt8), trivial, ?_⟩
   show qe _ W [u8P (UInt8.ofNat n.toNat)] _
   rw [e]
   exact .cons (.v rfl) .nil
  ·cases h
 | .b => by
  refine ⟨fun t o o' ts fuel cs x h hf => ?_, fun ts n o cs h => by simp [ui] at h⟩
  simp only [ui] at h
  split at h
  ·rename_i hu
   obtain ⟨q, rfl, -⟩ := DataW.trod_bool hu hf
   exact ⟨q, trivial, .cons (.v rfl) .nil⟩
  ·cases h
 | .str => by
  refine ⟨fun t o o' ts fuel cs x h hf => ?_, fun ts n o cs h => by simp [ui] at h⟩
  simp only [ui] at h
  split at h
  ·rename_i hu
   obtain ⟨q, rfl, -, hl⟩ := DataW.trod_string hu hf
   exact ⟨q, hl, .cons (.v rfl) .nil⟩
  ·cases h
 | .l e => by
  refine ⟨fun t o o' ts fuel cs x h hf => ?_, fun ts n o cs h => by simp [ui] at h⟩
  simp only [ui] at h
  split at h
  ·rename_i t' hu
   simp only [Bool.and_eq_true, decide_eq_true_eq] at h
   obtain ⟨⟨hw, hc⟩, he⟩ := h
   rcases Go.Deep.open_slice hu hf with ⟨rfl, -⟩ | ⟨a, len, cap, m, n, D, Pl, rfl, -, hl, hm, hmm, -, hel⟩
   ·exact ⟨([] : List e.Dat), ⟨Nat.zero_le _, fun x hx => by cases hx⟩, .cons (.l (xs := []) (s := 1) .nil (fun x hx => by cases hx) (fun x hx => by cases hx) Y86 (Nat.le_refl _) (Nat.zero_le _) (.inl rfl)) .nil⟩
   ·simp only [if_true] at hmm
    rw [hc] at hel
    obtain ⟨xs, us, h1, h2, h3, h4⟩ := qd7 (W := W) (e := e) (a := a) (len := len) hw fun i hi => by
     obtain ⟨cs', q1, q2⟩ := hel i Y54
     obtain ⟨d, q3, q4⟩ := (y4 e).1 t' _ _ _ _ _ _ he q2
     exact ⟨d, cs', q1, q3, q4⟩
    refine ⟨xs, ⟨by rw [h1]; omega, h2⟩, .cons ?_ .nil⟩
    have hlen : (xs.map e.el).length = len := by rw [List.length_map, h1]
    show qN _ W (.l (xs.map e.el)) _
    rw [<- hlen]
    refine .l (s := e.w) (us := us) (by rw [qa7]; exact h3) (fun x hx => ?_) (fun x hx => ?_) hw Y54 hm h4
    ·obtain ⟨y, hy, rfl⟩ := List.mem_map.1 hx
     rw [Sh.el_cells]
     exact Sh.len e y (h2 y hy)
    ·obtain ⟨y, hy, rfl⟩ := List.mem_map.1 hx
     rw [Sh.el_cells]
     exact Sh.cs_one e y
  ·cases h
 | .p0 => by
  refine ⟨fun t o o' ts fuel cs x h hf => by simp [ui] at h, fun ts n o cs h hl ht => ⟨(), trivial, ?_⟩⟩
  have hl : cs.length = o + 0 := hl
  rw [List.drop_eq_nil_of_le Y54]
  exact .nil
 | .pc f r => by
  have key : ∀ (t : TypeId) (o o' : Nat) (ts : List (TypeId × Nat)) (n : Nat) (cs : List Value), o' = o -> P.cellsOf t = f.w -> ui P f false 0 [(t, 0)] = true -> ui P r true (o + f.w) ts = true -> cs.length = o + (f.w + r.w) -> (∀ (i : Nat) (q : TypeId × Nat), ((t, o') :: ts)[i]? = some q -> ∃ y, DataW.trod enc P W 0 (fun _ => true) true n q.1 ((cs.drop q.2).take (P.cellsOf q.1)) = some y) -> ∃ d : (Sh.pc f r).Dat, (Sh.pc f r).ok d /\ qe (fun _ => False) W ((Sh.pc f r).cs d) (cs.drop o) := by
   intro t o o' ts n cs e1 e2 hf hr hl ht
   subst e1
   obtain ⟨y, hy⟩ := ht 0 _ rfl
   obtain ⟨d1, k1, k2⟩ := (y4 f).1 t _ _ _ _ _ _ hf hy
   obtain ⟨d2, k3, k4⟩ := (y4 r).2 ts n (o' + f.w) cs hr Y54 fun i q hq => ht (i + 1) q (by simpa using hq)
   refine ⟨(d1, d2), ⟨k1, k3⟩, ?_⟩
   show qe _ W (f.cs d1 ++ r.cs d2) _
   rw [<- List.take_append_drop f.w (cs.drop o'), List.drop_drop]
   rw [e2] at k2
   exact k2.app k4
  refine ⟨fun t o o' ts fuel cs x h hf => ?_, fun ts n o cs h hl ht => ?_⟩
  ·simp only [ui] at h
   split at h
   ·rename_i fs hu
    simp only [Bool.and_eq_true, decide_eq_true_eq] at h
    obtain ⟨hc, h⟩ := h
    obtain ⟨xs, n, -, -, hcl, hlen, hg⟩ := DataW.trod_struct hu hf
    split at h
    ·rename_i t' o2 ts' hts
     simp only [Bool.and_eq_true, decide_eq_true_eq] at h
     obtain ⟨⟨⟨h1, h2⟩, h3⟩, h4⟩ := h
     have := key t' 0 o2 ts' n cs h1 h2 h3 h4 (by rw [hcl, hc, Nat.zero_add]) fun i q hq => by
      rw [<- hts, List.getElem?_map] at hq
      cases hfi : fs.toList[i]? with
      | none => rw [hfi] at hq; cases hq
      | some fi =>
       rw [hfi] at hq
       cases hq
       have hfi' : fs[i]? = some fi := by simpa using hfi
       have hlt : i < xs.length := by
        rw [hlen]
        rcases Nat.lt_or_ge i fs.size with q | q
        ·exact q
        ·rw [Array.getElem?_eq_none q] at hfi'; cases hfi'
       exact ⟨xs[i], (hg i fi hfi').trans (List.getElem?_eq_getElem hlt)⟩
     simpa using this
    ·cases h
   ·cases h
  ·cases ts with
   | nil => simp [ui] at h
   | cons q ts =>
    obtain ⟨t, o'⟩ := q
    simp only [ui, Bool.and_eq_true, decide_eq_true_eq] at h
    obtain ⟨⟨⟨h1, h2⟩, h3⟩, h4⟩ := h
    exact key t o o' ts n cs h1 h2 h3 h4 hl ht
 | .ar n e => by
  refine ⟨fun t o o' ts fuel cs x h hf => ?_, fun ts n o cs h => by simp [ui] at h⟩
  simp only [ui] at h
  split at h
  ·rename_i n' t' hu
   simp only [Bool.and_eq_true, decide_eq_true_eq] at h
   obtain ⟨⟨⟨rfl, h2⟩, h3⟩, h4⟩ := h
   obtain ⟨xs, m, -, -, hcl, hlen, hg⟩ := DataW.trod_array hu hf
   rw [h2] at hg
   rw [h3] at hcl
   clear hu hf h3
   suffices hk : ∀ k, k <= n' -> ∃ ds : List e.Dat, ds.length = k /\ (∀ d ∈ ds, e.ok d) /\ qe (fun _ => False) W (ds.flatMap e.cs) (cs.take (k * e.w)) by
    obtain ⟨ds, q1, q2, q3⟩ := hk n' (Nat.le_refl _)
    rw [List.take_of_length_le Y54] at q3
    exact ⟨ds, ⟨q1, q2⟩, q3⟩
   intro k
   induction k with
   | zero => intro _; exact ⟨([] : List e.Dat), rfl, fun d hd => absurd hd (List.not_mem_nil), by rw [Nat.zero_mul]; exact .nil⟩
   | succ k ih =>
    intro hk
    obtain ⟨ds, q1, q2, q3⟩ := ih Y54
    have hy := (hg k Y54).trans (List.getElem?_eq_getElem Y54)
    obtain ⟨d, q4, q5⟩ := (y4 e).1 t' _ _ _ _ _ _ h4 hy
    refine ⟨ds ++ [d], by rw [List.length_append, q1]; rfl, fun x hx => ?_, ?_⟩
    ·rcases List.mem_append.1 hx with hx | hx
     ·exact q2 x hx
     ·rw [List.mem_singleton.1 hx]; exact q4
    ·rw [List.flatMap_append, Nat.succ_mul, List.take_add]
     refine q3.app ?_
     simpa using q5
  ·cases h
theorem ZB (f r : Sh) {t : TypeId} {fs : Array Field} {v : Value} {d : DataW H} {p : List MemPlace} {base : Nat} (ht : P.underlying t = some (.struct fs)) (hs : ui P (.pc f r) false 0 [(t, 0)] = true) (hval : Value.okWide P W .any base t v) (h : DataW.Trod enc P W 0 (fun _ => true) true t v d p) :
  ∃ x : f.Dat × r.Dat, (Sh.pc f r).ok x /\ qN (fun _ => False) W (.a (f.cs x.1 ++ r.cs x.2)) v := by
 obtain ⟨cs, rfl, -⟩ := okWide_struct ht hval
 obtain ⟨fuel, hf⟩ := h
 obtain ⟨x, h1, h2⟩ := (y4 (Sh.pc f r)).1 t _ _ _ _ _ _ hs hf
 refine ⟨x, h1, ?_⟩
 have := qN.a (A := fun _ => False) (w := W) (xs := (Sh.pc f r).cs x) (us := cs.toList) h2 (Sh.cs_one _ _)
 rwa [Array.toArray_toList] at this
theorem qcw (e : Sh) {t t' : TypeId} {v : Value} {d : DataW H} {p : List MemPlace} {base : Nat} (ht : P.underlying t = some (.slice t')) (hs : ui P (.l e) false 0 [(t, 0)] = true) (hval : Value.okWide P W .any base t v) (h : DataW.Trod enc P W 0 (fun _ => true) true t v d p) :
  ∃ x : List e.Dat, (x.length <= maxLen /\ ∀ y ∈ x, e.ok y) /\ qN (fun _ => False) W (.l (x.map e.el)) v := by
 obtain ⟨a, len, cap, rfl⟩ := okWide_slice ht hval
 obtain ⟨fuel, hf⟩ := h
 obtain ⟨x, h1, h2⟩ := (y4 (Sh.l e)).1 t _ _ _ _ _ _ hs hf
 refine ⟨x, h1, ?_⟩
 have h2 : qe (fun _ => False) W [.l (x.map e.el)] [.slice a len cap] := h2
 cases h2 with
 | cons h _ => exact h
end Go.Bl
