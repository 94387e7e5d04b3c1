import Derived.Test.YtnafknkchbfpaaaGreatDoorRows
import Derived.Test.YtnafknkchbfpaaaGreatDoorGA
import Derived.ProofKit
import Derived.OpenShut
import Derived.Test.YtnafknkchbfpaaaGreatDoorGG
import Derived.Deep.Slices
set_option maxRecDepth 1000000
set_option maxHeartbeats 8000000
namespace Go.Proofs.YtnafknkchbfpaaaGreatDoor
open Go.ChangeShapes Go.WideShapes Go.ChangeAt Go.RowKit Go.Bl
set_option linter.unusedVariables false
theorem row_of_cells {W : World} {a : Addr} {cs : List Value} (h : ∀ i, i < cs.length -> W.cell? (a.add i) = cs[i]?) : Row (fun _ => False) W (some a) cs := by
 rcases Nat.eq_zero_or_pos cs.length with h0 | h0
 ·exact .inl (List.length_eq_zero_iff.1 h0)
 ·have hc := h 0 h0
  obtain ⟨b, off, sp⟩ := a
  have hb : ∃ c e fz, W.heap[b]? = some (.cells c e fz) /\ sp = none := by
   have hne : (W.cell? ((⟨b, off, sp⟩ : Addr).add 0)) ≠ none := by rw [hc]; simp [h0]
   have hbl : ((⟨b, off, sp⟩ : Addr).add 0).block = b := by unfold Addr.add; split <;> rfl
   unfold World.cell? at hne
   rw [hbl] at hne
   cases hh : W.heap[b]? with
   | none => rw [hh] at hne; exact absurd rfl hne
   | some o =>
    rw [hh] at hne
    cases o with
    | cells c e fz =>
     refine ⟨c, e, fz, rfl, ?_⟩
     cases sp with
     | none => rfl
     | some s => exact absurd (by simp [Addr.add]) hne
    | _ => exact absurd rfl hne
  obtain ⟨c, e, fz, hh, rfl⟩ := hb
  refine .inr ⟨b, off, c, e, fz, rfl, fun h => h, hh, fun i hi => ?_⟩
  have := h i hi
  have he : (⟨b, off, none⟩ : Addr).add i = ⟨b, off + i, none⟩ := by unfold Addr.add; split <;> simp_all
  rw [he, cell_of hh] at this
  exact this
def inM (n : Int) : Prop := -9223372036854775808 <= n /\ n <= 9223372036854775807
theorem inM_of {n : Int} (h : (Lit.int IntKind.i64 n).wf = true) : inM n := by
 unfold inM
 simpa [Lit.wf, IntKind.min, IntKind.max, IntKind.signed, IntKind.bits] using h
theorem bs_of_trodM {H : Type} {enc : TypeId × Value -> H} {W : World} {fuel : Nat} {cs : List Value} {x : DataW H × List MemPlace} (hf : DataW.trod enc Tryz.prog W 0 (fun _ => true) true fuel 22 cs = some x) :
  ∃ (v : Value) (xs : List UInt8), cs = [v] /\ Bs (fun _ => False) W v xs := by
 rcases open_ints Tryz.underlying22 Tryz.underlying5 (show Tryz.prog.cellsOf 5 = 1 by kernel_rfl) hf with ⟨hcs, hx⟩ | ⟨a, len, cap, zs, hcs, _, hl, hm, hz, hx, hcell, hwz⟩
 ·exact ⟨_, [], hcs, Bs.nil _ _ _ _ (by simp [maxLen])⟩
 ·simp only [if_true] at hz
  have hlen : ((zs.take len).map fun n => UInt8.ofNat n.toNat).length = len := by simp; omega
  refine ⟨_, (zs.take len).map fun n => UInt8.ofNat n.toNat, hcs, some a, cap, by rw [hlen], by rw [hlen]; exact hl, hm, row_of_cells fun i hi => ?_⟩
  have hi' : i < len := by simp at hi; omega
  rw [hcell i (by omega)]
  have hwf := hwz (zs.getD i 0) (by
   rw [List.getD_eq_getElem?_getD, List.getElem?_eq_getElem (by omega)]
   exact List.getElem_mem _)
  have hr : 0 <= zs.getD i 0 /\ zs.getD i 0 <= 255 := by simpa [Lit.wf, IntKind.min, IntKind.max, IntKind.signed, IntKind.bits] using hwf
  have hg : (zs.take len)[i]? = some (zs.getD i 0) := by
   rw [List.getElem?_take, if_pos hi', List.getD_eq_getElem?_getD, List.getElem?_eq_getElem (by omega)]
   rfl
  simp only [List.getElem?_map, hg, Option.map_some, u8v, Option.some.injEq, Value.int.injEq, true_and]
  have : (UInt8.ofNat (zs.getD i 0).toNat).toNat = (zs.getD i 0).toNat := by
   rw [UInt8.toNat_ofNat']
   omega
  rw [this]
  omega
theorem par_of_trod {H : Type} {enc : TypeId × Value -> H} {W : World} {fuel : Nat} {c0 c1 c2 c3 c4 c5 : Value} {x : DataW H × List MemPlace} (hf : DataW.trod enc Tryz.prog W 0 (fun _ => true) true fuel 24 [c0, c1, c2, c3, c4, c5] = some x) :
  ∃ q : Par, c0 = .int .i64 q.size /\ c1 = .int .i64 q.sent /\ c2 = .int .i64 q.spots /\ c3 = .int .i64 q.per /\ c4 = .int .i64 q.pat /\ c5 = .int .i64 q.ret /\ inM q.size /\ inM q.sent /\ inM q.spots := by
 obtain ⟨xs, n, -, -, -, hlen, hg⟩ := DataW.trod_struct Tryz.underlying24 hf
 have hl6 : xs.length = 6 := hlen
 have si : Tryz.prog.cellsOf 3 = 1 := by kernel_rfl
 have some_of : ∀ i, i < 6 -> ∃ y, xs[i]? = some y := fun i hi => ⟨_, List.getElem?_eq_getElem (by omega)⟩
 obtain ⟨y0, e0⟩ := some_of 0 (by omega)
 obtain ⟨y1, e1⟩ := some_of 1 (by omega)
 obtain ⟨y2, e2⟩ := some_of 2 (by omega)
 obtain ⟨y3, e3⟩ := some_of 3 (by omega)
 obtain ⟨y4, e4⟩ := some_of 4 (by omega)
 obtain ⟨y5, e5⟩ := some_of 5 (by omega)
 have g0 := (hg 0 _ rfl).trans e0
 have g1 := (hg 1 _ rfl).trans e1
 have g2 := (hg 2 _ rfl).trans e2
 have g3 := (hg 3 _ rfl).trans e3
 have g4 := (hg 4 _ rfl).trans e4
 have g5 := (hg 5 _ rfl).trans e5
 simp only [List.getElem_toArray, List.getElem_cons_succ, List.getElem_cons_zero, si, List.drop_zero, List.drop_succ_cons, List.take_succ_cons, List.take_zero] at g0 g1 g2 g3 g4 g5
 obtain ⟨n0, z0, -, w0⟩ := DataW.trod_int Tryz.underlying3 g0
 obtain ⟨n1, z1, -, w1⟩ := DataW.trod_int Tryz.underlying3 g1
 obtain ⟨n2, z2, -, w2⟩ := DataW.trod_int Tryz.underlying3 g2
 obtain ⟨n3, z3, -, w3⟩ := DataW.trod_int Tryz.underlying3 g3
 obtain ⟨n4, z4, -, w4⟩ := DataW.trod_int Tryz.underlying3 g4
 obtain ⟨n5, z5, -, w5⟩ := DataW.trod_int Tryz.underlying3 g5
 simp only [List.cons.injEq, and_true] at z0 z1 z2 z3 z4 z5
 exact ⟨⟨n0, n1, n2, n3, n4, n5⟩, z0, z1, z2, z3, z4, z5, inM_of w0, inM_of w1, inM_of w2⟩
def madeV (mv : Value) (n : Int) (fv : Value) (q : Par) : Value := .agg #[mv, .int .i64 n, fv, .int .i64 q.size, .int .i64 q.sent, .int .i64 q.spots, .int .i64 q.per, .int .i64 q.pat, .int .i64 q.ret]
theorem open_made {H : Type} {enc : TypeId × Value -> H} {W : World} {base : Nat} {v : Value} {d : DataW H} {p : List MemPlace} (hval : Value.okWide Tryz.prog W .any base 26 v) (h : DataW.Trod enc Tryz.prog W 0 (fun _ => true) true 26 v d p) :
  ∃ (mv : Value) (n : Int) (fv : Value) (q : Par) (m f : List UInt8), v = madeV mv n fv q /\ Bs (fun _ => False) W mv m /\ Bs (fun _ => False) W fv f /\ inM n /\ inM q.size /\ inM q.sent /\ inM q.spots := by
 obtain ⟨cs, rfl, hsz⟩ := okWide_struct Tryz.underlying26 hval
 obtain ⟨q⟩ := cs
 have h9 : Tryz.prog.cellsOf 26 = 9 := by kernel_rfl
 have si : Tryz.prog.cellsOf 3 = 1 := by kernel_rfl
 have sb : Tryz.prog.cellsOf 22 = 1 := by kernel_rfl
 have sp : Tryz.prog.cellsOf 24 = 6 := by kernel_rfl
 match q, hsz.trans h9 with
 | [c0, c1, c2, c3, c4, c5, c6, c7, c8], _ =>
  obtain ⟨fuel, hf⟩ := h
  obtain ⟨xs, n, -, -, -, hlen, hg⟩ := DataW.trod_struct Tryz.underlying26 hf
  have hl4 : xs.length = 4 := hlen
  have some_of : ∀ i, i < 4 -> ∃ y, xs[i]? = some y := fun i hi => ⟨_, List.getElem?_eq_getElem (by omega)⟩
  obtain ⟨y0, e0⟩ := some_of 0 (by omega)
  obtain ⟨y1, e1⟩ := some_of 1 (by omega)
  obtain ⟨y2, e2⟩ := some_of 2 (by omega)
  obtain ⟨y3, e3⟩ := some_of 3 (by omega)
  have g0 := (hg 0 _ rfl).trans e0
  have g1 := (hg 1 _ rfl).trans e1
  have g2 := (hg 2 _ rfl).trans e2
  have g3 := (hg 3 _ rfl).trans e3
  simp only [List.getElem_toArray, List.getElem_cons_succ, List.getElem_cons_zero, Value.cells, si, sb, sp, List.drop_zero, List.drop_succ_cons, List.take_succ_cons, List.take_zero] at g0 g1 g2 g3
  obtain ⟨v0, m, z0, b0⟩ := bs_of_trodM g0
  obtain ⟨n1, z1, -, w1⟩ := DataW.trod_int Tryz.underlying3 g1
  obtain ⟨v2, f, z2, b2⟩ := bs_of_trodM g2
  obtain ⟨q, q0, q1, q2, q3, q4, q5, q6, q7, q8⟩ := par_of_trod g3
  simp only [List.cons.injEq, and_true] at z0 z1 z2
  subst z0 z1 z2 q0 q1 q2 q3 q4 q5
  exact ⟨_, n1, _, q, m, f, rfl, b0, b2, inM_of w1, q6, q7, q8⟩
end Go.Proofs.YtnafknkchbfpaaaGreatDoor
