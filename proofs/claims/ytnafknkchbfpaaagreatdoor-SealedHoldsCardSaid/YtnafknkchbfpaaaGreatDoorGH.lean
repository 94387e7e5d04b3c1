import Derived.OpenShut
import Derived.Test.YtnafknkchbfpaaaGreatDoorGG
import Derived.Deep.Slices
set_option maxRecDepth 1000000
set_option maxHeartbeats 8000000
namespace Go.Proofs.YtnafknkchbfpaaaGreatDoor
open Go.RowKit Go.Bl
set_option linter.unusedVariables false
def RdB (A : Nat -> Prop) (w : World) (v : Value) (ls : List (Value × List UInt8)) : Prop := Vs A w v (ls.map (·.1)) /\ ∀ x ∈ ls, Bs A w x.1 x.2
theorem RdB.keep {A : Nat -> Prop} {w w' : World} {S : List Nat} {v : Value} {ls : List (Value × List UInt8)} (h : RdB A w v ls) (hf : Fr S w w') (hS : ∀ b ∈ S, A b) : RdB A w' v ls := by
 obtain ⟨⟨a, cap, h1, h2, h3, h4⟩, h5⟩ := h
 exact ⟨⟨a, cap, h1, h2, h3, h4.keep hf hS⟩, fun x hx => (h5 x hx).keep hf hS⟩
theorem zx {A : Nat -> Prop} {w : World} {v : Value} {ls : List (Value × List UInt8)} (h : RdB A w v ls) : ∃ a cap, v = .slice a ls.length cap /\ ls.length <= cap /\ cap <= maxLen := by
 obtain ⟨⟨a, cap, h1, h2, h3, h4⟩, -⟩ := h
 rw [List.length_map] at h1 h2
 exact ⟨a, cap, h1, h2, h3⟩
theorem vM {A : Nat -> Prop} {w : World} {a : Option Addr} {n cap : Nat} {ls : List (Value × List UInt8)} (h : RdB A w (.slice a n cap) ls) (j : Nat) (x : Value × List UInt8) (hx : ls[j]? = some x) :
  ∃ b off, a = some ⟨b, off, none⟩ /\ w.cell? ⟨b, off + j, none⟩ = some x.1 /\ Bs A w x.1 x.2 := by
 obtain ⟨⟨a', cap', e, h2, h3, h4⟩, h5⟩ := h
 cases e
 have hj : j < ls.length := (List.getElem?_eq_some_iff.1 hx).1
 obtain ⟨b, off, rfl, -, hc⟩ := h4.some_of Y65
 refine ⟨b, off, rfl, ?_, h5 x (List.mem_of_getElem? hx)⟩
 rw [hc j Y92, List.getElem?_map, hx]
 rfl
theorem jB {e te : TypeId} {base size n : Nat} {w : World} {v : Value} {xs : List Value} (h : w.ownsRow base e size v n xs) {b : Nat} {c : Array Value} {fz : Nat × Nat} (hb : w.heap[b]? = some (.cells c te fz)) (hne : te ≠ e) : v.ownBlock ≠ some b := by
 intro hg
 rcases h.2 with ⟨rfl, -⟩ | ⟨g, cap, cur, rfl, hbg, hh, -⟩
 ·simp [Value.ownBlock] at hg
 ·simp [Value.ownBlock] at hg
  subst hg
  have := hh.symm.trans hb
  simp at this
  exact hne this.2.1.symm
def BsT (w : World) (v : Value) (xs : List UInt8) : Prop :=
 ∃ b off cap c, v = .slice (some ⟨b, off, none⟩) xs.length cap /\ xs.length <= cap /\ cap <= maxLen /\ At w b (.cells c 5) /\ ∀ i, i < (xs.map u8v).length -> c[off + i]? = (xs.map u8v)[i]?
theorem BsT.bs {A : Nat -> Prop} {w : World} {v : Value} {xs : List UInt8} (h : BsT w v xs) (hA : ∀ b, ¬ A b) : Bs A w v xs := by
 obtain ⟨b, off, cap, c, rfl, h1, h2, h3, h4⟩ := h
 exact ⟨_, cap, rfl, h1, h2, .inr ⟨b, off, c, 5, (0, 0), rfl, hA b, h3, h4⟩⟩
theorem BsT.keep0 {w w' : World} {v : Value} {xs : List UInt8} (h : BsT w v xs) (hf : Fr [] w w') : BsT w' v xs := by
 obtain ⟨b, off, cap, c, rfl, h1, h2, h3, h4⟩ := h
 exact ⟨b, off, cap, c, rfl, h1, h2, h3.keep0 hf, h4⟩
theorem BsT.grown {w w' : World} {v o : Value} {xs : List UInt8} {base : Nat} {us : List Value} (h : BsT w v xs) (ho : qJ 22 base w o us) (hg : w.grownBy w' o.ownBlock) : BsT w' v xs := by
 obtain ⟨b, off, cap, c, rfl, h1, h2, h3, h4⟩ := h
 exact ⟨b, off, cap, c, rfl, h1, h2, h3.grown hg (jB ho h3 qd), h4⟩
theorem BsT.shape {w : World} {v : Value} {xs : List UInt8} (h : BsT w v xs) : ∃ b off cap, v = .slice (some ⟨b, off, none⟩) xs.length cap := by
 obtain ⟨b, off, cap, c, rfl, -⟩ := h
 exact ⟨b, off, cap, rfl⟩
theorem Tryz.infoByte : (Tryz.prog.info? 5).map (fun i => (i.zero, i.size, i.bytes)) = some (some (.int .u8 0), 1, 1) := by kernel_rfl
theorem qY (A : Nat -> Prop) (w : World) (v : Value) (xs : List UInt8) (hb : Bs A w v xs) (hl : xs.length <= 140737488351232) :
   Calls Tryz.prog 59 #[v] w fun e w' => ∃ v', e = .returned v' /\ qh 5 w.heap.size w' v' xs /\ Fr [] w w' := by
  obtain ⟨a, cap, rfl, h2, h3, h4⟩ := hb
  cases a with
  | none =>
    have hx : xs = [] := by
      rcases h4 with h | ⟨b, off, c, e, fz, h, _⟩
      · simpa using h
      · cases h
    subst hx
    have hn : ∀ w, (binOp .eql 22 (.slice none 0 cap) (.slice none 0 0)).run Tryz.prog w = .ok (.bool true) w := fun w => @Lib.run_eql_slice_nil Tryz.prog w 22 5 none 0 cap 0 0 Tryz.underlying22
    go_enter Tryz.func59, Tryz.ntmps59
    go_wp2
    go_ret
    exact ⟨_, rfl, qh.nil _ _ _, Fr.refl _ _⟩
  | some ad =>
    have hn : ∀ w, (binOp .eql 22 (.slice (some ad) xs.length cap) (.slice none 0 0)).run Tryz.prog w = .ok (.bool false) w := fun w => @Lib.run_eql_slice_nil Tryz.prog w 22 5 (some ad) _ cap 0 0 Tryz.underlying22
    have h0 := qh.empty 5 w.heap.size w (Nat.le_refl _)
    go_enter Tryz.func59, Tryz.ntmps59
    go_wp2_with (at_builtin; refine qg (A := A) (ys := xs) (base := w.heap.size) Tryz.underlying22 Tryz.infoByte rfl (.tmp 5) (.tmp 6) rfl rfl rfl h0 (Bs.keep ⟨some ad, cap, rfl, h2, h3, h4⟩ (Fr.alloc (S := []) _ _) qf) ?hl ?hb ?_)
    case hl => simp; omega
    case hb => simp
    intro v' w' h5 h6
    go_wp2
    go_ret
    exact ⟨_, rfl, h5, h0.fr (Fr.alloc _ _) h6 (Nat.le_refl _)⟩
end Go.Proofs.YtnafknkchbfpaaaGreatDoor
namespace Go.Bl
open Go.RowKit
theorem js {P : Program} {w : World} {ops : Array Oper} {rest : List Oper} {o : Oper} {a : Act} {Q : Exit -> Act -> World -> Prop} {t : TypeId} (x : Operand) (ho : o.op = .box t x) (hgd : o.guard = none) (c : Array Value) (hx : a.eval x = .agg c)
  (h : wpList P ops Q rest (a.put o.dst (.pointer (some ⟨w.heap.size, 0, none⟩))) (w.alloc (.cells c t))) : wpList P ops Q (o :: rest) a w := by
 refine wpList_plain hgd fun K hK => ?_
 unfold Oper.wp execOp
 simp only [ho, hx]
 simp [Instr.box, newVar, go_sem, Value.cells]
 exact hK _ _ h
end Go.Bl
namespace Go.Proofs.YtnafknkchbfpaaaGreatDoor
open Go.ChangeShapes Go.WideShapes Go.ChangeAt Go.RowKit Go.Bl
set_option linter.unusedVariables false
theorem V3 {W : World} {a : Addr} {cs : List Value} (h : ∀ i, i < cs.length -> W.cell? (a.add i) = cs[i]?) : Row (fun _ => False) W (some a) cs := by
 rcases Nat.eq_zero_or_pos cs.length with h0 | h0
 ·exact .inl (List.length_eq_zero_iff.1 h0)
 ·have hc := h 0 h0
  obtain ⟨b, off, sp⟩ := a
  have hb : ∃ c e fz, W.heap[b]? = some (.cells c e fz) /\ sp = none := by
   have hne : (W.cell? ((⟨b, off, sp⟩ : Addr).add 0)) ≠ none := by rw [hc]; simp [h0]
   have hbl : ((⟨b, off, sp⟩ : Addr).add 0).block = b := by unfold Addr.add; split <;> rfl
   unfold World.cell? at hne
   rw [hbl] at hne
   cases hh : W.heap[b]? with
   | none => rw [hh] at hne; exact absurd rfl hne
   | some o =>
    rw [hh] at hne
    cases o with
    | cells c e fz =>
     refine ⟨c, e, fz, rfl, ?_⟩
     cases sp with
     | none => rfl
     | some s => exact absurd (by simp [Addr.add]) hne
    | _ => exact absurd rfl hne
  obtain ⟨c, e, fz, hh, rfl⟩ := hb
  refine .inr ⟨b, off, c, e, fz, rfl, fun h => h, hh, fun i hi => ?_⟩
  have := h i hi
  have he : (⟨b, off, none⟩ : Addr).add i = ⟨b, off + i, none⟩ := by unfold Addr.add; split <;> simp_all
  rw [he, qK hh] at this
  exact this
def inM (n : Int) : Prop := -9223372036854775808 <= n /\ n <= 9223372036854775807
theorem VD {n : Int} (h : (Lit.int IntKind.i64 n).wf = true) : inM n := by
 unfold inM
 simpa [Lit.wf, IntKind.min, IntKind.max, IntKind.signed, IntKind.bits] using h
theorem JA {H : Type} {enc : TypeId × Value -> H} {W : World} {fuel : Nat} {cs : List Value} {x : DataW H × List MemPlace} (hf : DataW.trod enc Tryz.prog W 0 (fun _ => true) true fuel 22 cs = some x) :
  ∃ (v : Value) (xs : List UInt8), cs = [v] /\ Bs (fun _ => False) W v xs := by
 rcases open_ints Tryz.underlying22 Tryz.underlying5 (show Tryz.prog.cellsOf 5 = 1 by kernel_rfl) hf with ⟨hcs, hx⟩ | ⟨a, len, cap, zs, hcs, _, hl, hm, hz, hx, hcell, hwz⟩
 ·exact ⟨_, [], hcs, Bs.nil _ _ _ _ (by simp [maxLen])⟩
 ·simp only [if_true] at hz
  have hlen : ((zs.take len).map fun n => UInt8.ofNat n.toNat).length = len := by simp; omega
  refine ⟨_, (zs.take len).map fun n => UInt8.ofNat n.toNat, hcs, some a, cap, by rw [hlen], by rw [hlen]; exact hl, hm, V3 fun i hi => ?_⟩
  have hi' : i < len := by simp at hi; omega
  rw [hcell i Y62]
  have hwf := hwz (zs.getD i 0) (by
   rw [List.getD_eq_getElem?_getD, List.getElem?_eq_getElem Y62]
   exact List.getElem_mem _)
  have hr : 0 <= zs.getD i 0 /\ zs.getD i 0 <= 255 := by simpa [Lit.wf, IntKind.min, IntKind.max, IntKind.signed, IntKind.bits] using hwf
  have hg : (zs.take len)[i]? = some (zs.getD i 0) := by
   rw [List.getElem?_take, if_pos hi', List.getD_eq_getElem?_getD, List.getElem?_eq_getElem Y62]
   rfl
  simp only [List.getElem?_map, hg, Option.map_some, u8v, Option.some.injEq, Value.int.injEq, true_and]
  have : (UInt8.ofNat (zs.getD i 0).toNat).toNat = (zs.getD i 0).toNat := by
   rw [UInt8.toNat_ofNat']
   omega
  rw [this]
  omega
theorem YL {H : Type} {enc : TypeId × Value -> H} {W : World} {fuel : Nat} {c0 c1 c2 c3 c4 c5 : Value} {x : DataW H × List MemPlace} (hf : DataW.trod enc Tryz.prog W 0 (fun _ => true) true fuel 24 [c0, c1, c2, c3, c4, c5] = some x) :
  ∃ q : Par, c0 = .int .i64 q.size /\ c1 = .int .i64 q.sent /\ c2 = .int .i64 q.spots /\ c3 = .int .i64 q.per /\ c4 = .int .i64 q.pat /\ c5 = .int .i64 q.ret /\ inM q.size /\ inM q.sent /\ inM q.spots := by
 obtain ⟨xs, n, -, -, -, hlen, hg⟩ := DataW.trod_struct Tryz.underlying24 hf
 have hl6 : xs.length = 6 := hlen
 have si : Tryz.prog.cellsOf 3 = 1 := by kernel_rfl
 have some_of : ∀ i, i < 6 -> ∃ y, xs[i]? = some y := fun i hi => ⟨_, List.getElem?_eq_getElem Y62⟩
 obtain ⟨y0, e0⟩ := some_of 0 Y62
 obtain ⟨y1, e1⟩ := some_of 1 Y62
 obtain ⟨y2, e2⟩ := some_of 2 Y62
 obtain ⟨y3, e3⟩ := some_of 3 Y62
 obtain ⟨y4, e4⟩ := some_of 4 Y62
 obtain ⟨y5, e5⟩ := some_of 5 Y62
 have g0 := (hg 0 _ rfl).trans e0
 have g1 := (hg 1 _ rfl).trans e1
 have g2 := (hg 2 _ rfl).trans e2
 have g3 := (hg 3 _ rfl).trans e3
 have g4 := (hg 4 _ rfl).trans e4
 have g5 := (hg 5 _ rfl).trans e5
 simp only [List.getElem_toArray, List.getElem_cons_succ, List.getElem_cons_zero, si, List.drop_zero, List.drop_succ_cons, List.take_succ_cons, List.take_zero] at g0 g1 g2 g3 g4 g5
 obtain ⟨n0, z0, -, w0⟩ := DataW.trod_int Tryz.underlying3 g0
 obtain ⟨n1, z1, -, w1⟩ := DataW.trod_int Tryz.underlying3 g1
 obtain ⟨n2, z2, -, w2⟩ := DataW.trod_int Tryz.underlying3 g2
 obtain ⟨n3, z3, -, w3⟩ := DataW.trod_int Tryz.underlying3 g3
 obtain ⟨n4, z4, -, w4⟩ := DataW.trod_int Tryz.underlying3 g4
 obtain ⟨n5, z5, -, w5⟩ := DataW.trod_int Tryz.underlying3 g5
 simp only [List.cons.injEq, and_true] at z0 z1 z2 z3 z4 z5
 exact ⟨⟨n0, n1, n2, n3, n4, n5⟩, z0, z1, z2, z3, z4, z5, VD w0, VD w1, VD w2⟩
def qb4 (mv : Value) (n : Int) (fv : Value) (q : Par) : Value := .agg #[mv, .int .i64 n, fv, .int .i64 q.size, .int .i64 q.sent, .int .i64 q.spots, .int .i64 q.per, .int .i64 q.pat, .int .i64 q.ret]
theorem qao {H : Type} {enc : TypeId × Value -> H} {W : World} {base : Nat} {v : Value} {d : DataW H} {p : List MemPlace} (hval : Value.okWide Tryz.prog W .any base 26 v) (h : DataW.Trod enc Tryz.prog W 0 (fun _ => true) true 26 v d p) :
  ∃ (mv : Value) (n : Int) (fv : Value) (q : Par) (m f : List UInt8), v = qb4 mv n fv q /\ Bs (fun _ => False) W mv m /\ Bs (fun _ => False) W fv f /\ inM n /\ inM q.size /\ inM q.sent /\ inM q.spots := by
 obtain ⟨cs, rfl, hsz⟩ := okWide_struct Tryz.underlying26 hval
 obtain ⟨q⟩ := cs
 have h9 : Tryz.prog.cellsOf 26 = 9 := by kernel_rfl
 have si : Tryz.prog.cellsOf 3 = 1 := by kernel_rfl
 have sb : Tryz.prog.cellsOf 22 = 1 := by kernel_rfl
 have sp : Tryz.prog.cellsOf 24 = 6 := by kernel_rfl
 match q, hsz.trans h9 with
 | [c0, c1, c2, c3, c4, c5, c6, c7, c8], _ =>
  obtain ⟨fuel, hf⟩ := h
  obtain ⟨xs, n, -, -, -, hlen, hg⟩ := DataW.trod_struct Tryz.underlying26 hf
  have hl4 : xs.length = 4 := hlen
  have some_of : ∀ i, i < 4 -> ∃ y, xs[i]? = some y := fun i hi => ⟨_, List.getElem?_eq_getElem Y62⟩
  obtain ⟨y0, e0⟩ := some_of 0 Y62
  obtain ⟨y1, e1⟩ := some_of 1 Y62
  obtain ⟨y2, e2⟩ := some_of 2 Y62
  obtain ⟨y3, e3⟩ := some_of 3 Y62
  have g0 := (hg 0 _ rfl).trans e0
  have g1 := (hg 1 _ rfl).trans e1
  have g2 := (hg 2 _ rfl).trans e2
  have g3 := (hg 3 _ rfl).trans e3
  simp only [List.getElem_toArray, List.getElem_cons_succ, List.getElem_cons_zero, Value.cells, si, sb, sp, List.drop_zero, List.drop_succ_cons, List.take_succ_cons, List.take_zero] at g0 g1 g2 g3
  obtain ⟨v0, m, z0, b0⟩ := JA g0
  obtain ⟨n1, z1, -, w1⟩ := DataW.trod_int Tryz.underlying3 g1
  obtain ⟨v2, f, z2, b2⟩ := JA g2
  obtain ⟨q, q0, q1, q2, q3, q4, q5, q6, q7, q8⟩ := YL g3
  simp only [List.cons.injEq, and_true] at z0 z1 z2
  subst z0 z1 z2 q0 q1 q2 q3 q4 q5
  exact ⟨_, n1, _, q, m, f, rfl, b0, b2, VD w1, q6, q7, q8⟩
end Go.Proofs.YtnafknkchbfpaaaGreatDoor
