/-
  Opening an argument: a letter.
-/
import Derived.Test.YtmohiblgfmdkjaaDoorOpB
import Derived.Test.YtmohiblgfmdkjaaDoorLtr
import Derived.Deep.Slices
import Derived.ProofKit
import Derived.OpenShut
namespace Go.Proofs.YtmohiblgfmdkjaaDoor
open Go.ChangeShapes Go.WideShapes Go.ChangeAt Go.RowKit Go.Bl
set_option linter.unusedVariables false
theorem list_ofT {α : Type} {P : Nat → α → Prop} : ∀ (n : Nat), (∀ i, i < n → ∃ x, P i x) → ∃ l : List α, l.length = n ∧ ∀ i x, l[i]? = some x → P i x
  | 0, _ => ⟨[], rfl, fun i x h => by simp at h⟩
  | n + 1, h => by
    obtain ⟨l, hl, hp⟩ := list_ofT n (fun i hi => h i (by omega))
    obtain ⟨x, hx⟩ := h n (by omega)
    refine ⟨l ++ [x], by simp [hl], fun i y hy => ?_⟩
    rcases Nat.lt_or_ge i n with hi | hi
    · rw [List.getElem?_append_left (by omega)] at hy
      exact hp i y hy
    · rw [List.getElem?_append_right (by omega)] at hy
      have : i = n := by
        rcases Nat.lt_or_ge i (n + 1) with h1 | h1
        · omega
        · rw [List.getElem?_eq_none (by simp; omega)] at hy; cases hy
      subst this
      rw [hl] at hy
      simp at hy
      subst hy
      exact hx
theorem rdk_of {W : World} {s : Nat} (hs : 0 < s) {a : Addr} {len cap : Nat} {rs : List (List Value)} (hl : rs.length = len) (hlc : len ≤ cap) (hm : cap ≤ maxLen) (h : ∀ (i : Nat) r, rs[i]? = some r → r.length = s ∧ ∀ f, f < s → W.cell? (a.add (i * s + f)) = r[f]?) : RdK (fun _ => False) s W (.slice (some a) len cap) rs := by
  have hall : ∀ r ∈ rs, r.length = s := fun r hr => by
    obtain ⟨i, hi⟩ := List.mem_iff_getElem?.1 hr
    exact (h i r hi).1
  refine ⟨⟨some a, cap, by rw [hl], by omega, hm, row_of_cells fun i hi => ?_⟩, hall⟩
  rw [flat_len s rs hall] at hi
  have hd : i / s < rs.length := Nat.div_lt_of_lt_mul (by rwa [Nat.mul_comm])
  obtain ⟨r, hr⟩ : ∃ r, rs[i / s]? = some r := ⟨_, List.getElem?_eq_getElem hd⟩
  have h1 := (h _ r hr).2 (i % s) (Nat.mod_lt _ hs)
  have h2 := flat_get s rs (i / s) (i % s) r hall hr (Nat.mod_lt _ hs)
  rw [Nat.mul_comm (i / s) s, Nat.div_add_mod] at h1 h2
  rw [h1, h2]
set_option maxRecDepth 100000 in
theorem dig_of_trod {H : Type} {enc : TypeId × Value → H} {W : World} {fuel : Nat} {l : List Value} {x : DataW H × List MemPlace} (hf : DataW.trod enc Tryd.prog W 0 (fun _ => true) true fuel 65 l = some x) :
    ∃ ys : List UInt8, ys.length = 32 ∧ l = ys.map u8v := by
  have h8 : Tryd.prog.cellsOf 65 = 32 := by kernel_rfl
  have su : Tryd.prog.cellsOf 5 = 1 := by kernel_rfl
  obtain ⟨xs, m, -, -, hcl, hlen, hg⟩ := DataW.trod_array Tryd.underlying65 hf
  rw [h8] at hcl
  rw [su] at hg
  have key : ∀ i, i < 32 → ∃ c : UInt8, l[i]? = some (u8v c) := fun i hi => by
    have h1 := hg i hi
    obtain ⟨y, hy⟩ : ∃ y, xs[i]? = some y := ⟨_, List.getElem?_eq_getElem (by omega)⟩
    rw [hy] at h1
    obtain ⟨n, hn, -, hwf⟩ := DataW.trod_int Tryd.underlying5 h1
    have hr : 0 ≤ n ∧ n ≤ 255 := by simpa [Lit.wf, IntKind.min, IntKind.max, IntKind.signed, IntKind.bits] using hwf
    refine ⟨UInt8.ofNat n.toNat, ?_⟩
    have h2 := congrArg (fun q : List Value => q[0]?) hn
    simp only [Nat.mul_one, List.getElem?_take, List.getElem?_drop, List.getElem?_cons_zero] at h2
    rw [if_pos (by decide), Nat.add_zero] at h2
    rw [h2]
    unfold u8v
    congr 2
    rw [UInt8.toNat_ofNat']
    omega
  obtain ⟨ys, hl, hp⟩ := list_ofT (P := fun i (c : UInt8) => l[i]? = some (u8v c)) 32 key
  refine ⟨ys, hl, ?_⟩
  apply List.ext_getElem?
  intro i
  rw [List.getElem?_map]
  rcases Nat.lt_or_ge i 32 with hi | hi
  · obtain ⟨c, hc⟩ : ∃ c, ys[i]? = some c := ⟨_, List.getElem?_eq_getElem (by omega)⟩
    rw [hc, hp i c hc]
    rfl
  · rw [List.getElem?_eq_none (by omega), List.getElem?_eq_none (by omega)]
    rfl
theorem inI_of {n : Int} (h : (Lit.int IntKind.i64 n).wf = true) : inI n := by
  unfold inI
  simpa [Lit.wf, IntKind.min, IntKind.max, IntKind.signed, IntKind.bits] using h
set_option maxRecDepth 100000 in
theorem bs_of_trodT {H : Type} {enc : TypeId × Value → H} {W : World} {fuel : Nat} {cs : List Value} {x : DataW H × List MemPlace} (hf : DataW.trod enc Tryd.prog W 0 (fun _ => true) true fuel 22 cs = some x) :
    ∃ (v : Value) (xs : List UInt8), cs = [v] ∧ Bs (fun _ => False) W v xs := by
  rcases open_ints Tryd.underlying22 Tryd.underlying5 (show Tryd.prog.cellsOf 5 = 1 by kernel_rfl) hf with ⟨hcs, hx⟩ | ⟨a, len, cap, zs, hcs, _, hl, hm, hz, hx, hcell, hwz⟩
  · exact ⟨_, [], hcs, Bs.nil _ _ _ _ (by simp [maxLen])⟩
  · simp only [if_true] at hz
    have hlen : ((zs.take len).map fun n => UInt8.ofNat n.toNat).length = len := by simp; omega
    refine ⟨_, (zs.take len).map fun n => UInt8.ofNat n.toNat, hcs, some a, cap, by rw [hlen], by rw [hlen]; exact hl, hm, row_of_cells fun i hi => ?_⟩
    have hi' : i < len := by simp at hi; omega
    rw [hcell i (by omega)]
    have hwf := hwz (zs.getD i 0) (by
      rw [List.getD_eq_getElem?_getD, List.getElem?_eq_getElem (by omega)]
      exact List.getElem_mem _)
    have hr : 0 ≤ zs.getD i 0 ∧ zs.getD i 0 ≤ 255 := by simpa [Lit.wf, IntKind.min, IntKind.max, IntKind.signed, IntKind.bits] using hwf
    have hg : (zs.take len)[i]? = some (zs.getD i 0) := by
      rw [List.getElem?_take, if_pos hi', List.getD_eq_getElem?_getD, List.getElem?_eq_getElem (by omega)]
      rfl
    simp only [List.getElem?_map, hg, Option.map_some, u8v, Option.some.injEq, Value.int.injEq, true_and]
    have : (UInt8.ofNat (zs.getD i 0).toNat).toNat = (zs.getD i 0).toNat := by
      rw [UInt8.toNat_ofNat']
      omega
    rw [this]
    omega
set_option maxRecDepth 100000 in
theorem is_of_trodT {H : Type} {enc : TypeId × Value → H} {W : World} {fuel : Nat} {cs : List Value} {x : DataW H × List MemPlace} (hf : DataW.trod enc Tryd.prog W 0 (fun _ => true) true fuel 32 cs = some x) :
    ∃ (v : Value) (xs : List Int), cs = [v] ∧ Is (fun _ => False) W v xs ∧ ∀ y ∈ xs, inI y := by
  rcases open_ints Tryd.underlying32 Tryd.underlying3 (show Tryd.prog.cellsOf 3 = 1 by kernel_rfl) hf with ⟨hcs, hx⟩ | ⟨a, len, cap, zs, hcs, _, hl, hm, hz, hx, hcell, hwz⟩
  · exact ⟨_, [], hcs, Vs.nil _ _ _ _ (by simp [maxLen]), by simp⟩
  · simp only [if_true] at hz
    have hlen : ((zs.take len).map iv).length = len := by simp; omega
    refine ⟨_, zs.take len, hcs, ⟨some a, cap, by rw [hlen], by rw [hlen]; exact hl, hm, row_of_cells fun i hi => ?_⟩, fun y hy => inI_of (hwz y (List.mem_of_mem_take hy))⟩
    have hi' : i < len := by simp at hi; omega
    rw [hcell i (by omega)]
    have hg : (zs.take len)[i]? = some (zs.getD i 0) := by
      rw [List.getElem?_take, if_pos hi', List.getD_eq_getElem?_getD, List.getElem?_eq_getElem (by omega)]
      rfl
    simp only [List.getElem?_map, hg, Option.map_some, iv]
set_option maxRecDepth 100000 in
theorem digs_of_trod {H : Type} {enc : TypeId × Value → H} {W : World} {fuel : Nat} {cs : List Value} {x : DataW H × List MemPlace} (hf : DataW.trod enc Tryd.prog W 0 (fun _ => true) true fuel 112 cs = some x) :
    ∃ (v : Value) (ds : List (List UInt8)), cs = [v] ∧ RdK (fun _ => False) 32 W v (ds.map digC) ∧ ∀ d ∈ ds, d.length = 32 := by
  have h2 : Tryd.prog.cellsOf 65 = 32 := by kernel_rfl
  rcases Go.Deep.open_slice Tryd.underlying112 hf with ⟨hcs, hx⟩ | ⟨a, len, cap, m, n, D, Pl, hcs, _, hl, hm, hmm, hx, hel⟩
  · exact ⟨_, [], hcs, ⟨⟨none, 0, rfl, Nat.le_refl _, by simp [maxLen], .inl rfl⟩, by simp⟩, by simp⟩
  · simp only [if_true] at hmm
    rw [h2] at hel
    have key : ∀ i, i < len → ∃ d : List UInt8, d.length = 32 ∧ ∀ f, f < 32 → W.cell? (a.add (i * 32 + f)) = (digC d)[f]? := fun i hi => by
      obtain ⟨cs', hc, ht⟩ := hel i (by omega)
      obtain ⟨d, hd, he⟩ := dig_of_trod ht
      have hcc := (World.cells?_some hc).2.2
      refine ⟨d, hd, fun f hf => ?_⟩
      have := hcc f hf
      rw [he, Addr.add_add] at this
      exact this
    obtain ⟨ds, hdl, hp⟩ := list_ofT len key
    refine ⟨_, ds, hcs, rdk_of (by decide) (by rw [List.length_map, hdl]) (by omega) hm (fun i r hr => ?_), fun d hd => ?_⟩
    · rw [List.getElem?_map] at hr
      cases hdi : ds[i]? with
      | none => rw [hdi] at hr; cases hr
      | some d =>
        rw [hdi] at hr
        cases hr
        exact ⟨by rw [digC, List.length_map]; exact (hp i d hdi).1, (hp i d hdi).2⟩
    · obtain ⟨i, hi⟩ := List.mem_iff_getElem?.1 hd
      exact (hp i d hi).1
set_option maxRecDepth 100000 in
theorem shown_of_trod {H : Type} {enc : TypeId × Value → H} {W : World} {fuel : Nat} {l : List Value} {x : DataW H × List MemPlace} (hf : DataW.trod enc Tryd.prog W 0 (fun _ => true) true fuel 114 l = some x) :
    ∃ y : ShV, l = shC y ∧ Bs (fun _ => False) W y.sv y.p.stored ∧ RdK (fun _ => False) 32 W y.pv (y.p.path.map digC) ∧ ∀ d ∈ y.p.path, d.length = 32 := by
  have h2 : Tryd.prog.cellsOf 114 = 3 := by kernel_rfl
  have si : Tryd.prog.cellsOf 3 = 1 := by kernel_rfl
  have sb : Tryd.prog.cellsOf 22 = 1 := by kernel_rfl
  have sd : Tryd.prog.cellsOf 112 = 1 := by kernel_rfl
  obtain ⟨xs, n, -, -, hcl, hlen, hg⟩ := DataW.trod_struct Tryd.underlying114 hf
  match l, hcl.trans h2 with
  | [c0, c1, c2], _ =>
    have hl3 : xs.length = 3 := hlen
    have some_of : ∀ i, i < 3 → ∃ y, xs[i]? = some y := fun i hi => ⟨_, List.getElem?_eq_getElem (by omega)⟩
    obtain ⟨y0, e0⟩ := some_of 0 (by omega)
    obtain ⟨y1, e1⟩ := some_of 1 (by omega)
    obtain ⟨y2, e2⟩ := some_of 2 (by omega)
    have g0 := (hg 0 _ rfl).trans e0
    have g1 := (hg 1 _ rfl).trans e1
    have g2 := (hg 2 _ rfl).trans e2
    simp only [List.getElem_toArray, List.getElem_cons_succ, List.getElem_cons_zero, si, sb, sd, List.drop_zero, List.drop_succ_cons, List.take_succ_cons, List.take_zero] at g0 g1 g2
    obtain ⟨n0, z0, -⟩ := DataW.trod_int Tryd.underlying3 g0
    obtain ⟨v1, xs1, z1, b1⟩ := bs_of_trodT g1
    obtain ⟨v2, ds2, z2, b2, k2⟩ := digs_of_trod g2
    simp only [List.cons.injEq, and_true] at z0 z1 z2
    subst z0 z1 z2
    exact ⟨⟨⟨n0, xs1, ds2⟩, _, _⟩, rfl, b1, b2, k2⟩
set_option maxRecDepth 100000 in
theorem showns_of_trod {H : Type} {enc : TypeId × Value → H} {W : World} {fuel : Nat} {cs : List Value} {x : DataW H × List MemPlace} (hf : DataW.trod enc Tryd.prog W 0 (fun _ => true) true fuel 38 cs = some x) :
    ∃ (v : Value) (l : List ShV), cs = [v] ∧ RdSh (fun _ => False) W v l ∧ ∀ y ∈ l, ∀ d ∈ y.p.path, d.length = 32 := by
  have h2 : Tryd.prog.cellsOf 114 = 3 := by kernel_rfl
  rcases Go.Deep.open_slice Tryd.underlying38 hf with ⟨hcs, hx⟩ | ⟨a, len, cap, m, n, D, Pl, hcs, _, hl, hm, hmm, hx, hel⟩
  · exact ⟨_, [], hcs, ⟨⟨⟨none, 0, rfl, Nat.le_refl _, by simp [maxLen], .inl rfl⟩, by simp⟩, by simp⟩, by simp⟩
  · simp only [if_true] at hmm
    rw [h2] at hel
    have key : ∀ i, i < len → ∃ y : ShV, (∀ f, f < 3 → W.cell? (a.add (i * 3 + f)) = (shC y)[f]?) ∧ Bs (fun _ => False) W y.sv y.p.stored ∧ RdK (fun _ => False) 32 W y.pv (y.p.path.map digC) ∧ ∀ d ∈ y.p.path, d.length = 32 := fun i hi => by
      obtain ⟨cs', hc, ht⟩ := hel i (by omega)
      obtain ⟨y, he, hb⟩ := shown_of_trod ht
      have hcc := (World.cells?_some hc).2.2
      refine ⟨y, fun f hf => ?_, hb⟩
      have := hcc f hf
      rw [he, Addr.add_add] at this
      exact this
    obtain ⟨l, hdl, hp⟩ := list_ofT len key
    refine ⟨_, l, hcs, ⟨rdk_of (by decide) (by rw [List.length_map, hdl]) (by omega) hm (fun i r hr => ?_), fun y hy => ?_⟩, fun y hy => ?_⟩
    · rw [List.getElem?_map] at hr
      cases hdi : l[i]? with
      | none => rw [hdi] at hr; cases hr
      | some d =>
        rw [hdi] at hr
        cases hr
        exact ⟨rfl, (hp i d hdi).1⟩
    · obtain ⟨i, hi⟩ := List.mem_iff_getElem?.1 hy
      exact ⟨(hp i y hi).2.1, (hp i y hi).2.2.1⟩
    · obtain ⟨i, hi⟩ := List.mem_iff_getElem?.1 hy
      exact (hp i y hi).2.2.2
set_option maxRecDepth 100000 in
theorem lists_of_trod {H : Type} {enc : TypeId × Value → H} {W : World} {fuel : Nat} {cs : List Value} {x : DataW H × List MemPlace} (hf : DataW.trod enc Tryd.prog W 0 (fun _ => true) true fuel 25 cs = some x) :
    ∃ (v : Value) (ls : List (Value × List UInt8)), cs = [v] ∧ RdB (fun _ => False) W v ls := by
  have h2 : Tryd.prog.cellsOf 22 = 1 := by kernel_rfl
  rcases Go.Deep.open_slice Tryd.underlying25 hf with ⟨hcs, hx⟩ | ⟨a, len, cap, m, n, D, Pl, hcs, _, hl, hm, hmm, hx, hel⟩
  · exact ⟨_, [], hcs, ⟨none, 0, rfl, Nat.le_refl _, by simp [maxLen], .inl rfl⟩, by simp⟩
  · simp only [if_true] at hmm
    rw [h2] at hel
    have key : ∀ i, i < len → ∃ x : Value × List UInt8, W.cell? (a.add i) = some x.1 ∧ Bs (fun _ => False) W x.1 x.2 := fun i hi => by
      obtain ⟨cs', hc, ht⟩ := hel i (by omega)
      obtain ⟨v', xs, e, hb⟩ := bs_of_trodT ht
      have hcc := (World.cells?_some hc).2.2 0 (by omega)
      rw [e, Addr.add_add, Nat.mul_one, Nat.add_zero] at hcc
      exact ⟨(v', xs), hcc, hb⟩
    obtain ⟨ls, hl2, hp⟩ := list_ofT len key
    refine ⟨_, ls, hcs, ⟨some a, cap, by rw [List.length_map, hl2], by rw [List.length_map]; omega, hm, row_of_cells fun i hi => ?_⟩, fun x hx => ?_⟩
    · rw [List.length_map] at hi
      obtain ⟨x, hx⟩ : ∃ x, ls[i]? = some x := ⟨_, List.getElem?_eq_getElem (by omega)⟩
      rw [(hp i x hx).1, List.getElem?_map, hx]
      rfl
    · obtain ⟨i, hi⟩ := List.mem_iff_getElem?.1 hx
      exact (hp i x hi).2
/-- a letter that came in -/
structure LetIn (W : World) (v : Value) (kd id ob fr co cd : Int) (pa sa ba : Option Addr) (PN pc SN sc BN bc : Nat) (ps : List Int) (l : List ShV) (bl : List (Value × List UInt8)) : Prop where
  eq : v = .agg (letC kd id ob (.slice pa PN pc) (.slice sa SN sc) fr co (.slice ba BN bc) cd)
  fps : Is (fun _ => False) W (.slice pa PN pc) ps
  pl : ps.length = PN
  pb : ∀ x ∈ ps, inI x
  sh : RdSh (fun _ => False) W (.slice sa SN sc) l
  sl : l.length = SN
  sd : ∀ x ∈ l, ∀ d ∈ x.p.path, d.length = 32
  fbl : RdB (fun _ => False) W (.slice ba BN bc) bl
  bn : bl.length = BN
  pm : PN ≤ maxLen
  sm : SN ≤ maxLen
  bm : BN ≤ maxLen
  ik : inI kd
  ii : inI id
  io : inI ob
  ifr : inI fr
  ico : inI co
  icd : inI cd
set_option maxRecDepth 100000 in
theorem open_letter {H : Type} {enc : TypeId × Value → H} {W : World} {base : Nat} {v : Value} {d : DataW H} {p : List MemPlace} (hval : Value.okWide Tryd.prog W .any base 40 v) (h : DataW.Trod enc Tryd.prog W 0 (fun _ => true) true 40 v d p) :
    ∃ kd id ob fr co cd pa sa ba PN pc SN sc BN bc ps l bl, LetIn W v kd id ob fr co cd pa sa ba PN pc SN sc BN bc ps l bl := by
  obtain ⟨cs, rfl, hsz⟩ := okWide_struct Tryd.underlying40 hval
  obtain ⟨q⟩ := cs
  have h9 : Tryd.prog.cellsOf 40 = 9 := by kernel_rfl
  have si : Tryd.prog.cellsOf 3 = 1 := by kernel_rfl
  have sp : Tryd.prog.cellsOf 32 = 1 := by kernel_rfl
  have ss : Tryd.prog.cellsOf 38 = 1 := by kernel_rfl
  have sl : Tryd.prog.cellsOf 25 = 1 := by kernel_rfl
  match q, hsz.trans h9 with
  | [c0, c1, c2, c3, c4, c5, c6, c7, c8], _ =>
    obtain ⟨fuel, hf⟩ := h
    obtain ⟨xs, n, -, -, -, hlen, hg⟩ := DataW.trod_struct Tryd.underlying40 hf
    have hl9 : xs.length = 9 := hlen
    have some_of : ∀ i, i < 9 → ∃ y, xs[i]? = some y := fun i hi => ⟨_, List.getElem?_eq_getElem (by omega)⟩
    obtain ⟨y0, e0⟩ := some_of 0 (by omega)
    obtain ⟨y1, e1⟩ := some_of 1 (by omega)
    obtain ⟨y2, e2⟩ := some_of 2 (by omega)
    obtain ⟨y3, e3⟩ := some_of 3 (by omega)
    obtain ⟨y4, e4⟩ := some_of 4 (by omega)
    obtain ⟨y5, e5⟩ := some_of 5 (by omega)
    obtain ⟨y6, e6⟩ := some_of 6 (by omega)
    obtain ⟨y7, e7⟩ := some_of 7 (by omega)
    obtain ⟨y8, e8⟩ := some_of 8 (by omega)
    have g0 := (hg 0 _ rfl).trans e0
    have g1 := (hg 1 _ rfl).trans e1
    have g2 := (hg 2 _ rfl).trans e2
    have g3 := (hg 3 _ rfl).trans e3
    have g4 := (hg 4 _ rfl).trans e4
    have g5 := (hg 5 _ rfl).trans e5
    have g6 := (hg 6 _ rfl).trans e6
    have g7 := (hg 7 _ rfl).trans e7
    have g8 := (hg 8 _ rfl).trans e8
    simp only [List.getElem_toArray, List.getElem_cons_succ, List.getElem_cons_zero, Value.cells, si, sp, ss, sl, List.drop_zero, List.drop_succ_cons, List.take_succ_cons, List.take_zero] at g0 g1 g2 g3 g4 g5 g6 g7 g8
    obtain ⟨n0, z0, -, w0⟩ := DataW.trod_int Tryd.underlying3 g0
    obtain ⟨n1, z1, -, w1⟩ := DataW.trod_int Tryd.underlying3 g1
    obtain ⟨n2, z2, -, w2⟩ := DataW.trod_int Tryd.underlying3 g2
    obtain ⟨v3, ps, z3, p3, b3⟩ := is_of_trodT g3
    obtain ⟨v4, l, z4, p4, b4⟩ := showns_of_trod g4
    obtain ⟨n5, z5, -, w5⟩ := DataW.trod_int Tryd.underlying3 g5
    obtain ⟨n6, z6, -, w6⟩ := DataW.trod_int Tryd.underlying3 g6
    obtain ⟨v7, bl, z7, p7⟩ := lists_of_trod g7
    obtain ⟨n8, z8, -, w8⟩ := DataW.trod_int Tryd.underlying3 g8
    simp only [List.cons.injEq, and_true] at z0 z1 z2 z3 z4 z5 z6 z7 z8
    subst z0 z1 z2 z3 z4 z5 z6 z7 z8
    obtain ⟨pa, pc, rfl, q1, q2, -⟩ := p3.shape
    obtain ⟨sa, sc, e4', q3, q4⟩ := p4.1.shape
    rw [List.length_map] at e4' q3
    subst e4'
    obtain ⟨ba, bc, rfl, q5, q6⟩ := rdb_shape p7
    exact ⟨n0, n1, n2, n5, n6, n8, pa, sa, ba, _, pc, _, sc, _, bc, ps, l, bl, ⟨rfl, p3, rfl, b3, p4, rfl, b4, p7, rfl, by omega, by omega, by omega, inI_of w0, inI_of w1, inI_of w2, inI_of w5, inI_of w6, inI_of w8⟩⟩
set_option maxRecDepth 100000 in
theorem open_result {H : Type} {enc : TypeId × Value → H} {W : World} {base : Nat} {v : Value} {d : DataW H} {p : List MemPlace} (hval : Value.okWide Tryd.prog W .any base 49 v) (h : DataW.Trod enc Tryd.prog W 0 (fun _ => true) true 49 v d p) :
    ∃ a b : Int, v = .agg #[.int .i64 a, .int .i64 b] ∧ inI a ∧ inI b := by
  obtain ⟨cs, rfl, hsz⟩ := okWide_struct Tryd.underlying49 hval
  obtain ⟨q⟩ := cs
  have h2 : Tryd.prog.cellsOf 49 = 2 := by kernel_rfl
  have si : Tryd.prog.cellsOf 3 = 1 := by kernel_rfl
  match q, hsz.trans h2 with
  | [c0, c1], _ =>
    obtain ⟨fuel, hf⟩ := h
    obtain ⟨xs, n, -, -, -, hlen, hg⟩ := DataW.trod_struct Tryd.underlying49 hf
    have hl2 : xs.length = 2 := hlen
    have some_of : ∀ i, i < 2 → ∃ y, xs[i]? = some y := fun i hi => ⟨_, List.getElem?_eq_getElem (by omega)⟩
    obtain ⟨y0, e0⟩ := some_of 0 (by omega)
    obtain ⟨y1, e1⟩ := some_of 1 (by omega)
    have g0 := (hg 0 _ rfl).trans e0
    have g1 := (hg 1 _ rfl).trans e1
    simp only [List.getElem_toArray, List.getElem_cons_succ, List.getElem_cons_zero, Value.cells, si, List.drop_zero, List.drop_succ_cons, List.take_succ_cons, List.take_zero] at g0 g1
    obtain ⟨n0, z0, -, w0⟩ := DataW.trod_int Tryd.underlying3 g0
    obtain ⟨n1, z1, -, w1⟩ := DataW.trod_int Tryd.underlying3 g1
    simp only [List.cons.injEq, and_true] at z0 z1
    subst z0 z1
    exact ⟨n0, n1, rfl, inI_of w0, inI_of w1⟩
set_option maxRecDepth 100000 in
theorem open_actk {H : Type} {enc : TypeId × Value → H} {W : World} {base : Nat} {v : Value} {d : DataW H} {p : List MemPlace} (hval : Value.okWide Tryd.prog W .any base 47 v) (h : DataW.Trod enc Tryd.prog W 0 (fun _ => true) true 47 v d p) :
    ∃ (A : List Value) (k : Int), v = .agg A.toArray ∧ A.length = 16 ∧ A[0]? = some (.int .i64 k) ∧ inI k := by
  obtain ⟨cs, rfl, hsz⟩ := okWide_struct Tryd.underlying47 hval
  obtain ⟨q⟩ := cs
  have h16 : Tryd.prog.cellsOf 47 = 16 := by kernel_rfl
  have si : Tryd.prog.cellsOf 3 = 1 := by kernel_rfl
  have hq : q.length = 16 := hsz.trans h16
  obtain ⟨fuel, hf⟩ := h
  obtain ⟨xs, n, -, -, -, hlen, hg⟩ := DataW.trod_struct Tryd.underlying47 hf
  have hl9 : xs.length = 9 := hlen
  obtain ⟨y0, e0⟩ : ∃ y, xs[0]? = some y := ⟨_, List.getElem?_eq_getElem (by omega)⟩
  have g0 := (hg 0 _ rfl).trans e0
  match q, hq with
  | c0 :: q, hq =>
    simp only [List.getElem_toArray, List.getElem_cons_succ, List.getElem_cons_zero, Value.cells, si, List.drop_zero, List.take_succ_cons, List.take_zero] at g0
    obtain ⟨n0, z0, -, w0⟩ := DataW.trod_int Tryd.underlying3 g0
    simp only [List.cons.injEq, and_true] at z0
    subst z0
    exact ⟨_, n0, rfl, hq, rfl, inI_of w0⟩
end Go.Proofs.YtmohiblgfmdkjaaDoor
