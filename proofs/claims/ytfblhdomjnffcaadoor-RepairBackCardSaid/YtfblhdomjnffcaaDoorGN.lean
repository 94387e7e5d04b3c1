/-
  Places of numbers, rows of truth values, for the laws of layers 4 and 5.
  Changes (a place, and by what) that can be read.
  Opening an argument: bytes.
  Opening arguments: changes (a place, and by what).
-/
import Derived.Test.YtfblhdomjnffcaaDoorGF
import Derived.Test.YtfblhdomjnffcaaDoorClo
import Derived.Test.YtfblhdomjnffcaaDoorGA
import Derived.Test.YtfblhdomjnffcaaDoorRows
import Derived.ProofKit
import Derived.OpenShut
import Derived.Deep.Slices
import Derived.SizedLaws
namespace Go.Proofs.YtfblhdomjnffcaaDoor
open Go.RowKit Go.Bl
set_option linter.unusedVariables false
theorem Tryd.infoBool : (Tryd.prog.info? 4).map (fun i => (i.zero, i.size, i.bytes)) = some (some (.bool false), 1, 1) := by kernel_rfl
def boolC (bs : List Bool) : Array Value := (bs.map Value.bool).toArray
theorem boolC_len (bs : List Bool) : (boolC bs).size = bs.length := by simp [boolC]
theorem made_bools (n : Nat) : madeCells #[.bool false] n = boolC (inL n []) := by
  rw [inL_nil]
  unfold boolC
  apply Array.ext
  · simp [madeCells]
  · intro i h1 h2
    simp [madeCells, Nat.mod_one]
theorem boolC_set (bs : List Bool) (p : Nat) : (boolC bs).setIfInBounds p (.bool true) = boolC (bs.set p true) := by
  unfold boolC; rw [List.map_set]; simp
theorem bool_cell {w : World} {b n p : Nat} {t : TypeId} {ps : List Nat} (h : At w b (.cells (boolC (inL n ps)) t)) (hp : p < n) : w.cell? ⟨b, p, none⟩ = some (.bool (decide (p ∈ ps))) := by
  rw [cell_of h]
  unfold boolC
  simp [inL_get n ps p hp]
theorem bool_set {w : World} {b n p : Nat} {t : TypeId} {ps : List Nat} (h : At w b (.cells ((boolC (inL n ps)).setIfInBounds p (.bool true)) t)) (hp : p < n) : At w b (.cells (boolC (inL n (ps ++ [p]))) t) := by
  rwa [boolC_set, inL_set n ps p hp] at h
theorem OwnB_keep_at {e : TypeId} {base : Nat} {w w' : World} {g n cp : Nat} {xs : List UInt8} {S : List Nat} (h : OwnB e base w (.slice (some ⟨g, 0, none⟩) n cp) xs) (hf : Fr S w w') (hg : g ∉ S) : OwnB e base w' (.slice (some ⟨g, 0, none⟩) n cp) xs :=
  own_keep h hf (by
    intro b hb hm
    simp [Value.ownBlock] at hb
    subst hb
    exact hg hm)
theorem own_ne_tyB {e te : TypeId} {base size n : Nat} {w : World} {v : Value} {xs : List Value} (h : w.ownsRow base e size v n xs) {b : Nat} {c : Array Value} {fz : Nat × Nat} (hb : At w b (.cells c te fz)) (hne : te ≠ e) : v.ownBlock ≠ some b := by
  intro hg
  rcases h.2 with ⟨rfl, -⟩ | ⟨g, cap, cur, rfl, hbg, hh, -⟩
  · simp [Value.ownBlock] at hg
  · simp [Value.ownBlock] at hg
    subst hg
    have := hh.symm.trans hb
    simp at this
    exact hne this.2.1.symm
theorem grown_fr {w w' : World} {r : Option Nat} (h : w.grownBy w' r) : Fr r.toList w w' := Fr.grown h (by intro k hk; simp [hk])
theorem pl_at (pl : Int) (n : Nat) (h0 : 0 < n) (hn : n ≤ 255) : ∃ p : Nat, p < n ∧ wrap64 ((IntKind.u64.wrap pl).tmod n) = p := by
  have h := wrap_u64_nonneg pl
  rw [Int.tmod_eq_emod_of_nonneg h]
  have h1 := Int.emod_nonneg (IntKind.u64.wrap pl) (show (n : Int) ≠ 0 by omega)
  have h2 := Int.emod_lt_of_pos (IntKind.u64.wrap pl) (show (0 : Int) < n by omega)
  refine ⟨((IntKind.u64.wrap pl) % (n : Int)).toNat, by omega, ?_⟩
  unfold wrap64
  omega
end Go.Proofs.YtfblhdomjnffcaaDoor
namespace Go.Bl
open Go.RowKit
set_option linter.unusedVariables false
def chC (x : Int × UInt8) : List Value := [.int .i64 x.1, u8v x.2]
theorem chC_len : ∀ l : List (Int × UInt8), (l.flatMap chC).length = l.length * 2
  | [] => rfl
  | x :: l => by
    rw [List.flatMap_cons, List.length_append, chC_len l, List.length_cons]
    have : (chC x).length = 2 := rfl
    omega
theorem chC_get (l : List (Int × UInt8)) : ∀ (j f : Nat) (x : Int × UInt8), l[j]? = some x → f < 2 → (l.flatMap chC)[j * 2 + f]? = (chC x)[f]? := by
  induction l with
  | nil => intro j f x h; simp at h
  | cons e l ih =>
    intro j f x h hf
    have hl : (chC e).length = 2 := rfl
    rw [List.flatMap_cons]
    cases j with
    | zero =>
      simp at h; subst h
      rw [List.getElem?_append_left (by omega)]; simp
    | succ j =>
      rw [List.getElem?_append_right (by omega), hl, show (j + 1) * 2 + f - 2 = j * 2 + f by omega]
      exact ih j f x (by simpa using h) hf
def RdC (w : World) (v : Value) (l : List (Int × UInt8)) : Prop := ∃ a cap, v = .slice a l.length cap ∧ l.length ≤ cap ∧ cap ≤ maxLen ∧ Row (fun _ => False) w a (l.flatMap chC)
theorem RdC.keep {w w' : World} {v : Value} {l : List (Int × UInt8)} (h : RdC w v l) (hf : Fr [] w w') : RdC w' v l := by
  obtain ⟨a, cap, h1, h2, h3, h4⟩ := h
  exact ⟨a, cap, h1, h2, h3, h4.keep hf (by simp)⟩
theorem RdC.cell {w : World} {a : Option Addr} {n cap : Nat} {l : List (Int × UInt8)} (h : RdC w (.slice a n cap) l) (j : Nat) (x : Int × UInt8) (hx : l[j]? = some x) :
    ∃ b off, a = some ⟨b, off, none⟩ ∧ w.cell? ⟨b, off + j * 2, none⟩ = some (.int .i64 x.1) ∧ w.cell? ⟨b, off + j * 2 + 1, none⟩ = some (.int .u8 (x.2.toNat : Int)) := by
  obtain ⟨a', cap', e, h2, h3, h4⟩ := h
  cases e
  have hj := (List.getElem?_eq_some_iff.1 hx).1
  obtain ⟨b, off, rfl, -, hc⟩ := h4.some_of (by rw [chC_len]; omega)
  refine ⟨b, off, rfl, ?_, ?_⟩
  · have := hc (j * 2) (by rw [chC_len]; omega)
    rw [this, show j * 2 = j * 2 + 0 from rfl, chC_get l j 0 x hx (by omega)]; rfl
  · have := hc (j * 2 + 1) (by rw [chC_len]; omega)
    rw [Nat.add_assoc, this, chC_get l j 1 x hx (by omega)]; rfl
end Go.Bl
namespace Go.Proofs.YtfblhdomjnffcaaDoor
open Go.ChangeShapes Go.WideShapes Go.ChangeAt Go.RowKit Go.Bl
set_option linter.unusedVariables false

theorem row_of_cells {W : World} {a : Addr} {cs : List Value} (h : ∀ i, i < cs.length → W.cell? (a.add i) = cs[i]?) : Row (fun _ => False) W (some a) cs := by
  rcases Nat.eq_zero_or_pos cs.length with h0 | h0
  · exact .inl (List.length_eq_zero_iff.1 h0)
  · have hc := h 0 h0
    obtain ⟨b, off, sp⟩ := a
    have hb : ∃ c e fz, W.heap[b]? = some (.cells c e fz) ∧ sp = none := by
      have hne : (W.cell? ((⟨b, off, sp⟩ : Addr).add 0)) ≠ none := by rw [hc]; simp [h0]
      have hbl : ((⟨b, off, sp⟩ : Addr).add 0).block = b := by unfold Addr.add; split <;> rfl
      unfold World.cell? at hne
      rw [hbl] at hne
      cases hh : W.heap[b]? with
      | none => rw [hh] at hne; exact absurd rfl hne
      | some o =>
        rw [hh] at hne
        cases o with
        | cells c e fz =>
          refine ⟨c, e, fz, rfl, ?_⟩
          cases sp with
          | none => rfl
          | some s => exact absurd (by simp [Addr.add]) hne
        | _ => exact absurd rfl hne
    obtain ⟨c, e, fz, hh, rfl⟩ := hb
    refine .inr ⟨b, off, c, e, fz, rfl, fun h => h, hh, fun i hi => ?_⟩
    have := h i hi
    have he : (⟨b, off, none⟩ : Addr).add i = ⟨b, off + i, none⟩ := by unfold Addr.add; split <;> simp_all
    rw [he, cell_of hh] at this
    exact this

set_option maxRecDepth 100000 in
theorem open_bs {H : Type} {enc : TypeId × Value → H} {W : World} {base : Nat} {v : Value} {d : DataW H} {p : List MemPlace} (hval : Value.okWide Tryd.prog W .any base 22 v) (h : DataW.Trod enc Tryd.prog W 0 (fun _ => true) true 22 v d p) :
    ∃ xs : List UInt8, Bs (fun _ => False) W v xs ∧ xs.length ≤ maxLen := by
  obtain ⟨a1, len, cap, rfl⟩ := okWide_slice Tryd.underlying22 hval
  obtain ⟨fuel, hf⟩ := h
  rcases open_ints Tryd.underlying22 Tryd.underlying5 (show Tryd.prog.cellsOf 5 = 1 by kernel_rfl) hf with ⟨hcs, hx⟩ | ⟨a, len', cap', zs, hcs, _, hl, hm, hz, hx, hcell, hwz⟩
  · simp [Value.cells] at hcs
    obtain ⟨rfl, rfl, rfl⟩ := hcs
    exact ⟨[], Bs.nil _ _ _ _ (Nat.zero_le _), Nat.zero_le _⟩
  · simp [Value.cells] at hcs
    obtain ⟨rfl, rfl, rfl⟩ := hcs
    simp only [if_true] at hz
    have hlen : ((zs.take len).map fun n => UInt8.ofNat n.toNat).length = len := by simp; omega
    refine ⟨(zs.take len).map fun n => UInt8.ofNat n.toNat, ⟨some a, cap, by rw [hlen], by rw [hlen]; exact hl, hm, row_of_cells fun i hi => ?_⟩, by rw [hlen]; omega⟩
    have hi' : i < len := by simp at hi; omega
    rw [hcell i (by omega)]
    have hwf := hwz (zs.getD i 0) (by
      rw [List.getD_eq_getElem?_getD, List.getElem?_eq_getElem (by omega)]
      exact List.getElem_mem _)
    have hr : 0 ≤ zs.getD i 0 ∧ zs.getD i 0 ≤ 255 := by simpa [Lit.wf, IntKind.min, IntKind.max, IntKind.signed, IntKind.bits] using hwf
    have hg : (zs.take len)[i]? = some (zs.getD i 0) := by
      rw [List.getElem?_take, if_pos hi', List.getD_eq_getElem?_getD, List.getElem?_eq_getElem (by omega)]
      rfl
    simp only [List.getElem?_map, hg, Option.map_some, u8v, Option.some.injEq, Value.int.injEq, true_and]
    have : (UInt8.ofNat (zs.getD i 0).toNat).toNat = (zs.getD i 0).toNat := by
      rw [UInt8.toNat_ofNat']
      omega
    rw [this]
    omega

end Go.Proofs.YtfblhdomjnffcaaDoor
namespace Go.Proofs.YtfblhdomjnffcaaDoor
open Go.ChangeShapes Go.WideShapes Go.ChangeAt Go.RowKit Go.Bl
set_option linter.unusedVariables false
theorem list_ofC {α : Type} {P : Nat → α → Prop} : ∀ (n : Nat), (∀ i, i < n → ∃ x, P i x) → ∃ l : List α, l.length = n ∧ ∀ i x, l[i]? = some x → P i x
  | 0, _ => ⟨[], rfl, fun i x h => by simp at h⟩
  | n + 1, h => by
    obtain ⟨l, hl, hp⟩ := list_ofC n (fun i hi => h i (by omega))
    obtain ⟨x, hx⟩ := h n (by omega)
    refine ⟨l ++ [x], by simp [hl], fun i y hy => ?_⟩
    rcases Nat.lt_or_ge i n with hi | hi
    · rw [List.getElem?_append_left (by omega)] at hy
      exact hp i y hy
    · rw [List.getElem?_append_right (by omega)] at hy
      have : i = n := by
        rcases Nat.lt_or_ge i (n + 1) with h1 | h1
        · omega
        · rw [List.getElem?_eq_none (by simp; omega)] at hy; cases hy
      subst this
      rw [hl] at hy
      simp at hy
      subst hy
      exact hx
set_option maxRecDepth 100000 in
theorem chg_of_trod {H : Type} {enc : TypeId × Value → H} {W : World} {fuel : Nat} {l : List Value} {x : DataW H × List MemPlace} (hf : DataW.trod enc Tryd.prog W 0 (fun _ => true) true fuel 57 l = some x) :
    ∃ y : Int × UInt8, l = chC y := by
  have h2 : Tryd.prog.cellsOf 57 = 2 := by kernel_rfl
  have si : Tryd.prog.cellsOf 3 = 1 := by kernel_rfl
  have su : Tryd.prog.cellsOf 5 = 1 := by kernel_rfl
  obtain ⟨xs, n, -, -, hcl, hlen, hg⟩ := DataW.trod_struct Tryd.underlying57 hf
  match l, hcl.trans h2 with
  | [c0, c1], _ =>
    have hl2 : xs.length = 2 := hlen
    have some_of : ∀ i, i < 2 → ∃ y, xs[i]? = some y := fun i hi => ⟨_, List.getElem?_eq_getElem (by omega)⟩
    obtain ⟨y0, e0⟩ := some_of 0 (by omega)
    obtain ⟨y1, e1⟩ := some_of 1 (by omega)
    have g0 := (hg 0 _ rfl).trans e0
    have g1 := (hg 1 _ rfl).trans e1
    simp only [List.getElem_toArray, List.getElem_cons_succ, List.getElem_cons_zero, si, su, List.drop_zero, List.drop_succ_cons, List.take_succ_cons, List.take_zero] at g0 g1
    obtain ⟨n0, z0, -⟩ := DataW.trod_int Tryd.underlying3 g0
    obtain ⟨n1, z1, -, hwf⟩ := DataW.trod_int Tryd.underlying5 g1
    have hr2 : 0 ≤ n1 ∧ n1 ≤ 255 := by simpa [Lit.wf, IntKind.min, IntKind.max, IntKind.signed, IntKind.bits] using hwf
    simp only [List.cons.injEq, and_true] at z0 z1
    subst z0 z1
    refine ⟨(n0, UInt8.ofNat n1.toNat), ?_⟩
    have : (((UInt8.ofNat n1.toNat).toNat : Nat) : Int) = n1 := by rw [UInt8.toNat_ofNat']; omega
    show [Value.int .i64 n0, Value.int .u8 n1] = [.int .i64 n0, .int .u8 ((UInt8.ofNat n1.toNat).toNat : Int)]
    rw [this]
set_option maxRecDepth 100000 in
theorem open_chgz {H : Type} {enc : TypeId × Value → H} {W : World} {base : Nat} {v : Value} {d : DataW H} {p : List MemPlace} (hval : Value.okWide Tryd.prog W .any base 53 v) (h : DataW.Trod enc Tryd.prog W 0 (fun _ => true) true 53 v d p) :
    ∃ l : List (Int × UInt8), RdC W v l ∧ ((d = .nil ∧ l = []) ∨ ∃ e s, d = .slice e s ∧ e.length = l.length) := by
  obtain ⟨a1, len, cap, rfl⟩ := okWide_slice Tryd.underlying53 hval
  obtain ⟨fuel, hf⟩ := h
  have h2 : Tryd.prog.cellsOf 57 = 2 := by kernel_rfl
  rcases Go.Deep.open_slice Tryd.underlying53 hf with ⟨hcs, hx⟩ | ⟨a, len', cap', m, n, D, Pl, hcs, _, hl, hm, hmm, hx, hel⟩
  · simp [Value.cells] at hcs
    obtain ⟨rfl, rfl, rfl⟩ := hcs
    have hd : d = .nil := congrArg Prod.fst hx
    exact ⟨[], ⟨none, 0, rfl, Nat.le_refl _, by simp [maxLen], .inl rfl⟩, .inl ⟨hd, rfl⟩⟩
  · simp [Value.cells] at hcs
    obtain ⟨rfl, rfl, rfl⟩ := hcs
    simp only [if_true] at hmm
    rw [h2] at hel
    have hd := congrArg Prod.fst hx
    have key : ∀ i, i < len → ∃ x : Int × UInt8, ∀ f, f < 2 → W.cell? (a.add (i * 2 + f)) = (chC x)[f]? := fun i hi => by
      obtain ⟨cs', hc, ht⟩ := hel i (by omega)
      obtain ⟨x, hx⟩ := chg_of_trod ht
      have hcc := (World.cells?_some hc).2.2
      refine ⟨x, fun f hf => ?_⟩
      have := hcc f hf
      rw [hx, Addr.add_add] at this
      exact this
    obtain ⟨l, hl, hp⟩ := list_ofC len key
    refine ⟨l, ⟨some a, cap, by rw [hl], by omega, hm, row_of_cells fun i hi => ?_⟩, .inr ⟨_, _, hd, by simp [hl]⟩⟩
    rw [chC_len] at hi
    obtain ⟨x, hx⟩ : ∃ x, l[i / 2]? = some x := ⟨_, List.getElem?_eq_getElem (by omega)⟩
    have h1 := (hp _ x hx) (i % 2) (by omega)
    rw [← chC_get l (i / 2) (i % 2) x hx (by omega), show i / 2 * 2 + i % 2 = i by omega] at h1
    exact h1
set_option maxRecDepth 100000 in
theorem chg_sized {H : Type} {ts : List TypeId} {ds : List (DataW H)} {j : Nat} {d : DataW H} {l : List (Int × UInt8)} (h : (DataW.weightsEach Tryd.prog ts ds).all (· ≤ reachBytes) = true) (ht : ts[j]? = some 53) (hd : ds[j]? = some d) (hS : (d = .nil ∧ l = []) ∨ ∃ e s, d = .slice e s ∧ e.length = l.length) : l.length ≤ 8796093022208 := by
  rcases hS with ⟨-, rfl⟩ | ⟨e, s, rfl, hl⟩
  · exact Nat.zero_le _
  · have h1 := sized_slice h ht hd Tryd.underlying53
    have h2 : Tryd.prog.bytesOf 57 = 16 := by kernel_rfl
    have h3 := reachBytes_lt
    rw [h2] at h1
    obtain ⟨R, hR⟩ : ∃ R, reachBytes = R := ⟨_, rfl⟩
    rw [hR] at h1 h3
    omega
set_option maxRecDepth 100000 in
theorem open_chg {H : Type} {enc : TypeId × Value → H} {W : World} {base : Nat} {v : Value} {d : DataW H} {p : List MemPlace} (hval : Value.okWide Tryd.prog W .any base 53 v) (h : DataW.Trod enc Tryd.prog W 0 (fun _ => true) true 53 v d p) :
    ∃ l : List (Int × UInt8), RdC W v l := by
  obtain ⟨l, hl, -⟩ := open_chgz hval h
  exact ⟨l, hl⟩
end Go.Proofs.YtfblhdomjnffcaaDoor
