/-
  Opening arguments: bytes; a struct act, by value.
-/
import Derived.Test.YtbohmnblegljkaaDoorOf
import Derived.ProofKit
import Derived.OpenShut
import Derived.Deep.Slices
namespace Go.Proofs.YtbohmnblegljkaaDoor
open Go.ChangeShapes Go.WideShapes Go.ChangeAt Go.RowKit Go.Bl
set_option linter.unusedVariables false

theorem row_of_cells {W : World} {a : Addr} {cs : List Value} (h : ∀ i, i < cs.length → W.cell? (a.add i) = cs[i]?) : Row (fun _ => False) W (some a) cs := by
  rcases Nat.eq_zero_or_pos cs.length with h0 | h0
  · exact .inl (List.length_eq_zero_iff.1 h0)
  · have hc := h 0 h0
    obtain ⟨b, off, sp⟩ := a
    have hb : ∃ c e fz, W.heap[b]? = some (.cells c e fz) ∧ sp = none := by
      have hne : (W.cell? ((⟨b, off, sp⟩ : Addr).add 0)) ≠ none := by rw [hc]; simp [h0]
      have hbl : ((⟨b, off, sp⟩ : Addr).add 0).block = b := by unfold Addr.add; split <;> rfl
      unfold World.cell? at hne
      rw [hbl] at hne
      cases hh : W.heap[b]? with
      | none => rw [hh] at hne; exact absurd rfl hne
      | some o =>
        rw [hh] at hne
        cases o with
        | cells c e fz =>
          refine ⟨c, e, fz, rfl, ?_⟩
          cases sp with
          | none => rfl
          | some s => exact absurd (by simp [Addr.add]) hne
        | _ => exact absurd rfl hne
    obtain ⟨c, e, fz, hh, rfl⟩ := hb
    refine .inr ⟨b, off, c, e, fz, rfl, fun h => h, hh, fun i hi => ?_⟩
    have := h i hi
    have he : (⟨b, off, none⟩ : Addr).add i = ⟨b, off + i, none⟩ := by unfold Addr.add; split <;> simp_all
    rw [he, cell_of hh] at this
    exact this

/-- bytes, out of their reading -/
theorem bs_of_trod {H : Type} {enc : TypeId × Value → H} {W : World} {fuel : Nat} {cs : List Value} {x : DataW H × List MemPlace} (hf : DataW.trod enc Tryd.prog W 0 (fun _ => true) true fuel 59 cs = some x) :
    ∃ (v : Value) (xs : List UInt8), cs = [v] ∧ Bs (fun _ => False) W v xs := by
  rcases open_ints Tryd.underlying59 Tryd.underlying5 (show Tryd.prog.cellsOf 5 = 1 by kernel_rfl) hf with ⟨hcs, hx⟩ | ⟨a, len, cap, zs, hcs, _, hl, hm, hz, hx, hcell, hwz⟩
  · exact ⟨_, [], hcs, Bs.nil _ _ _ _ (by simp [maxLen])⟩
  · simp only [if_true] at hz
    have hlen : ((zs.take len).map fun n => UInt8.ofNat n.toNat).length = len := by simp; omega
    refine ⟨_, (zs.take len).map fun n => UInt8.ofNat n.toNat, hcs, some a, cap, by rw [hlen], by rw [hlen]; exact hl, hm, row_of_cells fun i hi => ?_⟩
    have hi' : i < len := by simp at hi; omega
    rw [hcell i (by omega)]
    have hwf := hwz (zs.getD i 0) (by
      rw [List.getD_eq_getElem?_getD, List.getElem?_eq_getElem (by omega)]
      exact List.getElem_mem _)
    have hr : 0 ≤ zs.getD i 0 ∧ zs.getD i 0 ≤ 255 := by simpa [Lit.wf, IntKind.min, IntKind.max, IntKind.signed, IntKind.bits] using hwf
    have hg : (zs.take len)[i]? = some (zs.getD i 0) := by
      rw [List.getElem?_take, if_pos hi', List.getD_eq_getElem?_getD, List.getElem?_eq_getElem (by omega)]
      rfl
    simp only [List.getElem?_map, hg, Option.map_some, u8v, Option.some.injEq, Value.int.injEq, true_and]
    have : (UInt8.ofNat (zs.getD i 0).toNat).toNat = (zs.getD i 0).toNat := by
      rw [UInt8.toNat_ofNat']
      omega
    rw [this]
    omega

set_option maxRecDepth 100000 in
theorem act_of_trod {H : Type} {enc : TypeId × Value → H} {W : World} {fuel : Nat} {l : List Value} {x : DataW H × List MemPlace} (hf : DataW.trod enc Tryd.prog W 0 (fun _ => true) true fuel 71 l = some x) :
    ∃ (x : ActP) (bv : Value), l = (actC x bv).toList ∧ Bs (fun _ => False) W bv x.bytes ∧ 0 ≤ x.scat ∧ x.scat < 18446744073709551616 := by
  have h16 : Tryd.prog.cellsOf 71 = 16 := by kernel_rfl
  have si : Tryd.prog.cellsOf 3 = 1 := by kernel_rfl
  have su : Tryd.prog.cellsOf 67 = 1 := by kernel_rfl
  have ss : Tryd.prog.cellsOf 9 = 1 := by kernel_rfl
  have sb : Tryd.prog.cellsOf 59 = 1 := by kernel_rfl
  have sp : Tryd.prog.cellsOf 36 = 6 := by kernel_rfl
  have sc : Tryd.prog.cellsOf 69 = 3 := by kernel_rfl
  obtain ⟨xs, n, -, -, hcl, hlen, hg⟩ := DataW.trod_struct Tryd.underlying71 hf
  match l, hcl.trans h16 with
  | [c0, c1, c2, c3, c4, c5, c6, c7, c8, c9, c10, c11, c12, c13, c14, c15], _ =>
    have hl9 : xs.length = 9 := hlen
    have some_of : ∀ i, i < 9 → ∃ y, xs[i]? = some y := fun i hi => ⟨_, List.getElem?_eq_getElem (by omega)⟩
    obtain ⟨y0, e0⟩ := some_of 0 (by omega)
    obtain ⟨y1, e1⟩ := some_of 1 (by omega)
    obtain ⟨y2, e2⟩ := some_of 2 (by omega)
    obtain ⟨y3, e3⟩ := some_of 3 (by omega)
    obtain ⟨y4, e4⟩ := some_of 4 (by omega)
    obtain ⟨y5, e5⟩ := some_of 5 (by omega)
    obtain ⟨y6, e6⟩ := some_of 6 (by omega)
    obtain ⟨y7, e7⟩ := some_of 7 (by omega)
    obtain ⟨y8, e8⟩ := some_of 8 (by omega)
    have g0 := (hg 0 _ rfl).trans e0
    have g1 := (hg 1 _ rfl).trans e1
    have g2 := (hg 2 _ rfl).trans e2
    have g3 := (hg 3 _ rfl).trans e3
    have g4 := (hg 4 _ rfl).trans e4
    have g5 := (hg 5 _ rfl).trans e5
    have g6 := (hg 6 _ rfl).trans e6
    have g7 := (hg 7 _ rfl).trans e7
    have g8 := (hg 8 _ rfl).trans e8
    simp only [List.getElem_toArray, List.getElem_cons_succ, List.getElem_cons_zero, si, ss, sb, sp, sc, List.drop_zero, List.drop_succ_cons, List.take_succ_cons, List.take_zero] at g0 g1 g2 g3 g4 g5 g6 g7 g8
    obtain ⟨n0, z0, -⟩ := DataW.trod_int Tryd.underlying3 g0
    obtain ⟨n1, z1, -⟩ := DataW.trod_int Tryd.underlying3 g1
    obtain ⟨n2, z2, -⟩ := DataW.trod_int Tryd.underlying3 g2
    obtain ⟨n3, z3, -⟩ := DataW.trod_int Tryd.underlying3 g3
    obtain ⟨n4, z4, -⟩ := DataW.trod_int Tryd.underlying3 g4
    obtain ⟨s5, z5, -⟩ := DataW.trod_string Tryd.underlying9 g5
    obtain ⟨bv, bs, z6, hb⟩ := bs_of_trod g6
    obtain ⟨xp, np, -, -, -, hlp, hgp⟩ := DataW.trod_struct Tryd.underlying36 g7
    have hl6 : xp.length = 6 := hlp
    have some_p : ∀ i, i < 6 → ∃ y, xp[i]? = some y := fun i hi => ⟨_, List.getElem?_eq_getElem (by omega)⟩
    obtain ⟨w0, f0⟩ := some_p 0 (by omega)
    obtain ⟨w1, f1⟩ := some_p 1 (by omega)
    obtain ⟨w2, f2⟩ := some_p 2 (by omega)
    obtain ⟨w3, f3⟩ := some_p 3 (by omega)
    obtain ⟨w4, f4⟩ := some_p 4 (by omega)
    obtain ⟨w5, f5⟩ := some_p 5 (by omega)
    have k0 := (hgp 0 _ rfl).trans f0
    have k1 := (hgp 1 _ rfl).trans f1
    have k2 := (hgp 2 _ rfl).trans f2
    have k3 := (hgp 3 _ rfl).trans f3
    have k4 := (hgp 4 _ rfl).trans f4
    have k5 := (hgp 5 _ rfl).trans f5
    obtain ⟨xc, nc, -, -, -, hlc, hgc⟩ := DataW.trod_struct Tryd.underlying69 g8
    have hl3 : xc.length = 3 := hlc
    have some_c : ∀ i, i < 3 → ∃ y, xc[i]? = some y := fun i hi => ⟨_, List.getElem?_eq_getElem (by omega)⟩
    obtain ⟨v0, j0⟩ := some_c 0 (by omega)
    obtain ⟨v1, j1⟩ := some_c 1 (by omega)
    obtain ⟨v2, j2⟩ := some_c 2 (by omega)
    have t0 := (hgc 0 _ rfl).trans j0
    have t1 := (hgc 1 _ rfl).trans j1
    have t2 := (hgc 2 _ rfl).trans j2
    simp only [List.getElem_toArray, List.getElem_cons_succ, List.getElem_cons_zero, si, su, List.drop_zero, List.drop_succ_cons, List.take_succ_cons, List.take_zero] at k0 k1 k2 k3 k4 k5 t0 t1 t2
    obtain ⟨m0, q0, -⟩ := DataW.trod_int Tryd.underlying3 k0
    obtain ⟨m1, q1, -⟩ := DataW.trod_int Tryd.underlying3 k1
    obtain ⟨m2, q2, -⟩ := DataW.trod_int Tryd.underlying3 k2
    obtain ⟨m3, q3, -⟩ := DataW.trod_int Tryd.underlying3 k3
    obtain ⟨m4, q4, -⟩ := DataW.trod_int Tryd.underlying3 k4
    obtain ⟨m5, q5, -⟩ := DataW.trod_int Tryd.underlying3 k5
    obtain ⟨r0, o0, -⟩ := DataW.trod_int Tryd.underlying3 t0
    obtain ⟨r1, o1, -⟩ := DataW.trod_int Tryd.underlying3 t1
    obtain ⟨r2, o2, -, hwf⟩ := DataW.trod_int Tryd.underlying67 t2
    have hr2 : 0 ≤ r2 ∧ r2 ≤ 18446744073709551615 := by simpa [Lit.wf, IntKind.min, IntKind.max, IntKind.signed, IntKind.bits] using hwf
    simp only [List.cons.injEq, and_true] at z0 z1 z2 z3 z4 z5 z6 q0 q1 q2 q3 q4 q5 o0 o1 o2
    subst z0 z1 z2 z3 z4 z5 z6 q0 q1 q2 q3 q4 q5 o0 o1 o2
    exact ⟨⟨n0, n1, n2, n3, n4, s5, bs, m0, m1, m2, m3, m4, m5, r0, r1, r2⟩, _, rfl, hb, hr2.1, by show r2 < 18446744073709551616; omega⟩
theorem list_of {α : Type} {P : Nat → α → Prop} : ∀ (n : Nat), (∀ i, i < n → ∃ x, P i x) → ∃ l : List α, l.length = n ∧ ∀ i x, l[i]? = some x → P i x
  | 0, _ => ⟨[], rfl, fun i x h => by simp at h⟩
  | n + 1, h => by
    obtain ⟨l, hl, hp⟩ := list_of n (fun i hi => h i (by omega))
    obtain ⟨x, hx⟩ := h n (by omega)
    refine ⟨l ++ [x], by simp [hl], fun i y hy => ?_⟩
    rcases Nat.lt_or_ge i n with hi | hi
    · rw [List.getElem?_append_left (by omega)] at hy
      exact hp i y hy
    · rw [List.getElem?_append_right (by omega)] at hy
      have : i = n := by
        rcases Nat.lt_or_ge i (n + 1) with h1 | h1
        · omega
        · rw [List.getElem?_eq_none (by simp; omega)] at hy; cases hy
      subst this
      rw [hl] at hy
      simp at hy
      subst hy
      exact hx
set_option maxRecDepth 100000 in
theorem open_acts {H : Type} {enc : TypeId × Value → H} {W : World} {base : Nat} {v : Value} {d : DataW H} {p : List MemPlace} (hval : Value.okWide Tryd.prog W .any base 57 v) (h : DataW.Trod enc Tryd.prog W 0 (fun _ => true) true 57 v d p) :
    ∃ l : List AV, RdA (fun _ => False) W v l ∧ ∀ x ∈ l, 0 ≤ x.1.scat ∧ x.1.scat < 18446744073709551616 := by
  obtain ⟨a1, len, cap, rfl⟩ := okWide_slice Tryd.underlying57 hval
  obtain ⟨fuel, hf⟩ := h
  have h16 : Tryd.prog.cellsOf 71 = 16 := by kernel_rfl
  rcases Go.Deep.open_slice Tryd.underlying57 hf with ⟨hcs, hx⟩ | ⟨a, len', cap', m, n, D, Pl, hcs, _, hl, hm, hmm, hx, hel⟩
  · simp [Value.cells] at hcs
    obtain ⟨rfl, rfl, rfl⟩ := hcs
    exact ⟨[], ⟨⟨none, 0, rfl, Nat.le_refl _, by simp [maxLen], .inl rfl⟩, fun x hx => by simp at hx⟩, fun x hx => by simp at hx⟩
  · simp [Value.cells] at hcs
    obtain ⟨rfl, rfl, rfl⟩ := hcs
    simp only [if_true] at hmm
    rw [h16] at hel
    have key : ∀ i, i < len → ∃ x : AV, (∀ f, f < 16 → W.cell? (a.add (i * 16 + f)) = (avC x)[f]?) ∧ Bs (fun _ => False) W x.2 x.1.bytes ∧ 0 ≤ x.1.scat ∧ x.1.scat < 18446744073709551616 := fun i hi => by
      obtain ⟨cs', hc, ht⟩ := hel i (by omega)
      obtain ⟨x, bv, hx, hb, hs⟩ := act_of_trod ht
      have hcc := (World.cells?_some hc).2.2
      refine ⟨(x, bv), fun f hf => ?_, hb, hs⟩
      have := hcc f hf
      rw [hx, Addr.add_add] at this
      exact this
    obtain ⟨l, hl, hp⟩ := list_of len key
    refine ⟨l, ⟨⟨some a, cap, by rw [hl], by omega, hm, row_of_cells fun i hi => ?_⟩, fun x hx => ?_⟩, fun x hx => ?_⟩
    · rw [avC_len] at hi
      obtain ⟨x, hx⟩ : ∃ x, l[i / 16]? = some x := ⟨_, List.getElem?_eq_getElem (by omega)⟩
      have h1 := (hp _ x hx).1 (i % 16) (by omega)
      rw [← avC_get l (i / 16) (i % 16) x hx (by omega), show i / 16 * 16 + i % 16 = i by omega] at h1
      exact h1
    · obtain ⟨i, hi⟩ := List.mem_iff_getElem?.1 hx
      exact (hp i x hi).2.1
    · obtain ⟨i, hi⟩ := List.mem_iff_getElem?.1 hx
      exact (hp i x hi).2.2
end Go.Proofs.YtbohmnblegljkaaDoor
