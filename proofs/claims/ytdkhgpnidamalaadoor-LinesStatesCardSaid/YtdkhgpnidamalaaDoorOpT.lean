/-
  Opening an argument: a letter.
-/
import Derived.Test.YtdkhgpnidamalaaDoorOpB
import Derived.Test.YtdkhgpnidamalaaDoorLtr
import Derived.Deep.Slices
import Derived.ProofKit
import Derived.OpenShut
namespace Go.Proofs.YtdkhgpnidamalaaDoor
open Go.ChangeShapes Go.WideShapes Go.ChangeAt Go.RowKit Go.Bl
set_option linter.unusedVariables false
theorem list_ofT {α : Type} {P : Nat → α → Prop} : ∀ (n : Nat), (∀ i, i < n → ∃ x, P i x) → ∃ l : List α, l.length = n ∧ ∀ i x, l[i]? = some x → P i x
  | 0, _ => ⟨[], rfl, fun i x h => by simp at h⟩
  | n + 1, h => by
    obtain ⟨l, hl, hp⟩ := list_ofT n (fun i hi => h i (by omega))
    obtain ⟨x, hx⟩ := h n (by omega)
    refine ⟨l ++ [x], by simp [hl], fun i y hy => ?_⟩
    rcases Nat.lt_or_ge i n with hi | hi
    · rw [List.getElem?_append_left (by omega)] at hy
      exact hp i y hy
    · rw [List.getElem?_append_right (by omega)] at hy
      have : i = n := by
        rcases Nat.lt_or_ge i (n + 1) with h1 | h1
        · omega
        · rw [List.getElem?_eq_none (by simp; omega)] at hy; cases hy
      subst this
      rw [hl] at hy
      simp at hy
      subst hy
      exact hx
theorem rdk_of {W : World} {s : Nat} (hs : 0 < s) {a : Addr} {len cap : Nat} {rs : List (List Value)} (hl : rs.length = len) (hlc : len ≤ cap) (hm : cap ≤ maxLen) (h : ∀ (i : Nat) r, rs[i]? = some r → r.length = s ∧ ∀ f, f < s → W.cell? (a.add (i * s + f)) = r[f]?) : RdK (fun _ => False) s W (.slice (some a) len cap) rs := by
  have hall : ∀ r ∈ rs, r.length = s := fun r hr => by
    obtain ⟨i, hi⟩ := List.mem_iff_getElem?.1 hr
    exact (h i r hi).1
  refine ⟨⟨some a, cap, by rw [hl], by omega, hm, row_of_cells fun i hi => ?_⟩, hall⟩
  rw [flat_len s rs hall] at hi
  have hd : i / s < rs.length := Nat.div_lt_of_lt_mul (by rwa [Nat.mul_comm])
  obtain ⟨r, hr⟩ : ∃ r, rs[i / s]? = some r := ⟨_, List.getElem?_eq_getElem hd⟩
  have h1 := (h _ r hr).2 (i % s) (Nat.mod_lt _ hs)
  have h2 := flat_get s rs (i / s) (i % s) r hall hr (Nat.mod_lt _ hs)
  rw [Nat.mul_comm (i / s) s, Nat.div_add_mod] at h1 h2
  rw [h1, h2]
set_option maxRecDepth 100000 in
theorem dig_of_trod {H : Type} {enc : TypeId × Value → H} {W : World} {fuel : Nat} {l : List Value} {x : DataW H × List MemPlace} (hf : DataW.trod enc Tryd.prog W 0 (fun _ => true) true fuel 30 l = some x) :
    ∃ ys : List UInt8, ys.length = 32 ∧ l = ys.map u8v := by
  have h8 : Tryd.prog.cellsOf 30 = 32 := by kernel_rfl
  have su : Tryd.prog.cellsOf 5 = 1 := by kernel_rfl
  obtain ⟨xs, m, -, -, hcl, hlen, hg⟩ := DataW.trod_array Tryd.underlying30 hf
  rw [h8] at hcl
  rw [su] at hg
  have key : ∀ i, i < 32 → ∃ c : UInt8, l[i]? = some (u8v c) := fun i hi => by
    have h1 := hg i hi
    obtain ⟨y, hy⟩ : ∃ y, xs[i]? = some y := ⟨_, List.getElem?_eq_getElem (by omega)⟩
    rw [hy] at h1
    obtain ⟨n, hn, -, hwf⟩ := DataW.trod_int Tryd.underlying5 h1
    have hr : 0 ≤ n ∧ n ≤ 255 := by simpa [Lit.wf, IntKind.min, IntKind.max, IntKind.signed, IntKind.bits] using hwf
    refine ⟨UInt8.ofNat n.toNat, ?_⟩
    have h2 := congrArg (fun q : List Value => q[0]?) hn
    simp only [Nat.mul_one, List.getElem?_take, List.getElem?_drop, List.getElem?_cons_zero] at h2
    rw [if_pos (by decide), Nat.add_zero] at h2
    rw [h2]
    unfold u8v
    congr 2
    rw [UInt8.toNat_ofNat']
    omega
  obtain ⟨ys, hl, hp⟩ := list_ofT (P := fun i (c : UInt8) => l[i]? = some (u8v c)) 32 key
  refine ⟨ys, hl, ?_⟩
  apply List.ext_getElem?
  intro i
  rw [List.getElem?_map]
  rcases Nat.lt_or_ge i 32 with hi | hi
  · obtain ⟨c, hc⟩ : ∃ c, ys[i]? = some c := ⟨_, List.getElem?_eq_getElem (by omega)⟩
    rw [hc, hp i c hc]
    rfl
  · rw [List.getElem?_eq_none (by omega), List.getElem?_eq_none (by omega)]
    rfl
theorem inI_of {n : Int} (h : (Lit.int IntKind.i64 n).wf = true) : inI n := by
  unfold inI
  simpa [Lit.wf, IntKind.min, IntKind.max, IntKind.signed, IntKind.bits] using h
set_option maxRecDepth 100000 in
theorem bs_of_trodT {H : Type} {enc : TypeId × Value → H} {W : World} {fuel : Nat} {cs : List Value} {x : DataW H × List MemPlace} (hf : DataW.trod enc Tryd.prog W 0 (fun _ => true) true fuel 61 cs = some x) :
    ∃ (v : Value) (xs : List UInt8), cs = [v] ∧ Bs (fun _ => False) W v xs := by
  rcases open_ints Tryd.underlying61 Tryd.underlying5 (show Tryd.prog.cellsOf 5 = 1 by kernel_rfl) hf with ⟨hcs, hx⟩ | ⟨a, len, cap, zs, hcs, _, hl, hm, hz, hx, hcell, hwz⟩
  · exact ⟨_, [], hcs, Bs.nil _ _ _ _ (by simp [maxLen])⟩
  · simp only [if_true] at hz
    have hlen : ((zs.take len).map fun n => UInt8.ofNat n.toNat).length = len := by simp; omega
    refine ⟨_, (zs.take len).map fun n => UInt8.ofNat n.toNat, hcs, some a, cap, by rw [hlen], by rw [hlen]; exact hl, hm, row_of_cells fun i hi => ?_⟩
    have hi' : i < len := by simp at hi; omega
    rw [hcell i (by omega)]
    have hwf := hwz (zs.getD i 0) (by
      rw [List.getD_eq_getElem?_getD, List.getElem?_eq_getElem (by omega)]
      exact List.getElem_mem _)
    have hr : 0 ≤ zs.getD i 0 ∧ zs.getD i 0 ≤ 255 := by simpa [Lit.wf, IntKind.min, IntKind.max, IntKind.signed, IntKind.bits] using hwf
    have hg : (zs.take len)[i]? = some (zs.getD i 0) := by
      rw [List.getElem?_take, if_pos hi', List.getD_eq_getElem?_getD, List.getElem?_eq_getElem (by omega)]
      rfl
    simp only [List.getElem?_map, hg, Option.map_some, u8v, Option.some.injEq, Value.int.injEq, true_and]
    have : (UInt8.ofNat (zs.getD i 0).toNat).toNat = (zs.getD i 0).toNat := by
      rw [UInt8.toNat_ofNat']
      omega
    rw [this]
    omega
/-- a letter that came in -/
structure LetIn (W : World) (v : Value) (kd id ob fr co cd : Int) (pa sa ba : Option Addr) (PN pc SN sc BN bc : Nat) (ps : List Int) (l : List ShV) (bl : List (Value × List UInt8)) : Prop where
  eq : v = .agg (letC kd id ob (.slice pa PN pc) (.slice sa SN sc) fr co (.slice ba BN bc) cd)
  fps : Is (fun _ => False) W (.slice pa PN pc) ps
  pl : ps.length = PN
  pb : ∀ x ∈ ps, inI x
  sh : RdSh (fun _ => False) W (.slice sa SN sc) l
  sl : l.length = SN
  sd : ∀ x ∈ l, ∀ d ∈ x.p.path, d.length = 32
  fbl : RdB (fun _ => False) W (.slice ba BN bc) bl
  bn : bl.length = BN
  pm : PN ≤ maxLen
  sm : SN ≤ maxLen
  bm : BN ≤ maxLen
  ik : inI kd
  ii : inI id
  io : inI ob
  ifr : inI fr
  ico : inI co
  icd : inI cd
end Go.Proofs.YtdkhgpnidamalaaDoor
