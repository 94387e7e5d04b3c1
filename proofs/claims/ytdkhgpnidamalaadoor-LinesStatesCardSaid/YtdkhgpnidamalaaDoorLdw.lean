/-
  What the listed tables give: the powers of ten, the words of kinds.
-/
import Derived.Test.YtdkhgpnidamalaaDoorLin
import Derived.Test.YtdkhgpnidamalaaDoorRows
import Derived.ProofKit
import Derived.OpenShut
namespace Go.Proofs.YtdkhgpnidamalaaDoor
open Go.ChangeShapes Go.WideShapes Go.ChangeAt Go.RowKit Go.Bl
set_option linter.unusedVariables false
def wordsD {H : Type} (ls : List (List UInt8)) : DataW H := .agg (ls.map fun l => .lit (.string l))
theorem words_of_trod {H : Type} {enc : TypeId × Value → H} {P : Program} {w : World} {base : Nat} {sp : Nat → Bool} {held : Bool} {fuel : Nat} {t e : TypeId} {n : Nat} {cs : List Value} {ls : List (List UInt8)} {p : List MemPlace}
    (ht : P.underlying t = some (.array n e)) (he : P.underlying e = some .string) (hce : P.cellsOf e = 1) (hct : P.cellsOf t = n)
    (h : DataW.trod enc P w base sp held fuel t cs = some (wordsD ls, p)) : cs = ls.map fun l => Value.string (bA l) := by
  obtain ⟨xs, m, -, hx, hcl, hn, hg⟩ := DataW.trod_array ht h
  rw [hce] at hg
  have hm : xs.map (·.1) = ls.map fun l => (DataW.lit (.string l) : DataW H) := by
    have := congrArg Prod.fst hx
    simpa [wordsD] using this.symm
  have hl : ls.length = n := by
    have := congrArg List.length hm
    simp at this
    omega
  apply List.ext_getElem?
  intro i
  rw [List.getElem?_map]
  rcases Nat.lt_or_ge i n with hi | hi
  · have h1 := hg i hi
    obtain ⟨y, hy⟩ : ∃ y, xs[i]? = some y := ⟨_, List.getElem?_eq_getElem (by omega)⟩
    rw [hy] at h1
    obtain ⟨s, hs, rfl, -⟩ := DataW.trod_string he h1
    have h2 := congrArg (fun q : List Value => q[0]?) hs
    simp only [Nat.mul_one, List.getElem?_take, List.getElem?_drop, List.getElem?_cons_zero] at h2
    rw [if_pos (by decide), Nat.add_zero] at h2
    have h3 := congrArg (fun q : List (DataW H) => q[i]?) hm
    simp only [List.getElem?_map, hy, Option.map_some] at h3
    cases hli : ls[i]? with
    | none => rw [hli] at h3; cases h3
    | some l =>
      rw [hli] at h3
      simp only [Option.map_some, Option.some.injEq, DataW.lit.injEq, Lit.string.injEq] at h3
      rw [h2, Option.map_some, ← h3, bA_list]
  · rw [List.getElem?_eq_none (by omega), List.getElem?_eq_none (by omega)]
    rfl
theorem words_at {P : Program} {W : World} {name : String} {g : Nat} {l0 : List UInt8} {ls : List (List UInt8)} (hg : P.globalNamed name = some g) (h : W.var? P name = some ((l0 :: ls).map fun l => Value.string (bA l)).toArray) : WordsAt g ls W := fun i l hl => by
  rw [World.var?_cell hg h, List.getElem?_toArray, List.getElem?_map, List.getElem?_cons_succ, hl]
  rfl
set_option maxRecDepth 100000 in
theorem tab_var {W : World} {d : DataW Unit} {r : List (String × DataW Unit)} {ps : List MemPlace} (h : DataW.LaidVars Tryd.prog W (("internal/strconv.uint64pow10", d) :: r) ps) (hd : d = Lib.tabData .u64 Lib.pow10Tab) {t e : TypeId} {n : Nat} (hg : Tryd.prog.globalNamed "internal/strconv.uint64pow10" = some 1) (hty : (Tryd.prog.globals[1]?).map (·.type) = some t) (ht : Tryd.prog.underlying t = some (.array n e)) (he : Tryd.prog.underlying e = some (.int .u64)) (hce : Tryd.prog.cellsOf e = 1) (hct : Tryd.prog.cellsOf t = n) : Tab10 W ∧ ∃ q, DataW.LaidVars Tryd.prog W r q := by
  obtain ⟨g', t', cs, fuel, p, q, hg', ht', hvar, hdd, hq, -⟩ := h
  obtain rfl := Option.some.inj (hg.symm.trans hg')
  obtain rfl := Option.some.inj (hty.symm.trans ht')
  subst hd
  refine ⟨?_, q, hq⟩
  unfold Tab10 Lib.TabIs
  rw [hvar, ← Lib.cells_of_tab ht he hce hct hdd]
set_option maxRecDepth 100000 in
theorem words_var {W : World} {name : String} {g : Nat} {d : DataW Unit} {r : List (String × DataW Unit)} {ps : List MemPlace} {l0 : List UInt8} {ls : List (List UInt8)} (h : DataW.LaidVars Tryd.prog W ((name, d) :: r) ps) (hd : d = wordsD (l0 :: ls)) {t e : TypeId} {n : Nat} (hg : Tryd.prog.globalNamed name = some g) (hty : (Tryd.prog.globals[g]?).map (·.type) = some t) (ht : Tryd.prog.underlying t = some (.array n e)) (he : Tryd.prog.underlying e = some .string) (hce : Tryd.prog.cellsOf e = 1) (hct : Tryd.prog.cellsOf t = n) : WordsAt g ls W ∧ ∃ q, DataW.LaidVars Tryd.prog W r q := by
  obtain ⟨g', t', cs, fuel, p, q, hg', ht', hvar, hdd, hq, -⟩ := h
  obtain rfl := Option.some.inj (hg.symm.trans hg')
  obtain rfl := Option.some.inj (hty.symm.trans ht')
  subst hd
  refine ⟨words_at (P := Tryd.prog) (l0 := l0) hg ?_, q, hq⟩
  rw [hvar, ← words_of_trod ht he hce hct hdd]
theorem skip_var {W : World} {x : String × DataW Unit} {r : List (String × DataW Unit)} {ps : List MemPlace} (h : DataW.LaidVars Tryd.prog W (x :: r) ps) : ∃ q, DataW.LaidVars Tryd.prog W r q := by
  obtain ⟨g', t', cs, fuel, p, q, hg', ht', hvar, hdd, hq, -⟩ := h
  exact ⟨q, hq⟩
end Go.Proofs.YtdkhgpnidamalaaDoor
