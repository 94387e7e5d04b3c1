/-
  PROVED: baileelaw05.RepairBack returns true for all data, all erased places and all changes, and leaves its arguments as they were. Conditions: the package-level errors of package api read as listed; the card ties that to the program's text.
-/
import Derived.Test.YtfblhdomjnffcaaDoorRbk
import Derived.Test.YtfblhdomjnffcaaDoorGN
import Derived.Test.YtfblhdomjnffcaaDoorFin
import Derived.Test.YtfblhdomjnffcaaDoorCards
import Derived.Test.YtfblhdomjnffcaaDoorTie
namespace Go.Proofs.YtfblhdomjnffcaaDoor.repairBack
open Go.ChangeShapes Go.WideShapes Go.ChangeAt Go.RowKit Go.Bl
set_option linter.unusedVariables false

def lst : List Nat := [1, 8, 10, 16, 17, 20]
/-- the texts of the listed errors -/
def text (k : Nat) : List UInt8 := match (Rows.repairBackRow.laid.getD (lst.idxOf k) ("", .nil)).2 with
  | .iface _ (.ptr (.agg [.lit (.string t)])) => t
  | _ => []
theorem laid_eq : Rows.repairBackRow.laid = lst.map fun k => (nmOf k, .iface "*errors.errorString" (.ptr (.agg [.lit (.string (text k))]))) := by kernel_rfl
theorem closed : ∀ k ∈ lst, Tryd.prog.globalNamed (nmOf k) = some (gOf k) ∧ (Tryd.prog.globals[gOf k]?).map (·.type) = some 35 := by
  have h1 : lst.map (fun k => Tryd.prog.globalNamed (nmOf k)) = lst.map fun k => some (gOf k) := by kernel_rfl
  have h2 : lst.map (fun k => (Tryd.prog.globals[gOf k]?).map (·.type)) = lst.map fun _ => some 35 := by kernel_rfl
  intro k hk
  exact ⟨List.map_inj_left.1 h1 k hk, List.map_inj_left.1 h2 k hk⟩

theorem door_met (os : Os) (args : Array Value) : laidMetH Tryd.prog Rows.repairBackRow.laid ((World.doorLaid Tryd.prog 389 os).forCall (fun _ _ => 0) ⟨#[], args, []⟩).memory :=
  laidMetH_of_parts3 (fuel := 8) (laidMet_of_run' 8 (by kernel_rfl) (by kernel_rfl)) (by kernel_rfl) (by kernel_rfl)
theorem reads (os : Os) {H : Type} (enc : TypeId × Value → H) : ∃ places, DataW.whole enc Tryd.prog ((World.doorLaid Tryd.prog 389 os).forCall (fun _ _ => 0) ⟨#[], #[.slice none 0 0, .slice none 0 0, .slice none 0 0], []⟩).memory Tryd.f9.params.toList Rows.repairBackSpec.vars false (#[.slice none 0 0, .slice none 0 0, .slice none 0 0] : Array Value).toList 8 = some ([.nil, .nil, .nil], [], places) :=
  ⟨[], by kernel_rfl⟩

set_option maxRecDepth 100000 in
theorem contract (H : Type) (enc : TypeId × Value → H) (W : World) (base : Nat) (args : Array Value) (ds gs : List (DataW H)) (before : List MemPlace)
    (hval : ∀ (j : Nat) t v, Tryd.f9.params[j]? = some t → args[j]? = some v → Value.okWide Tryd.prog W .any base t v)
    (hZ : (DataW.weightsEach Tryd.prog (Tryd.f9.params.toList ++ (OpenSpec.ofChange Rows.repairBackSpec).bare.plain.varTypes Tryd.prog) (ds ++ gs)).all (· ≤ reachBytes) = true)
    (hW : DataW.Whole enc Tryd.prog Tryd.f9.params.toList Rows.repairBackSpec.vars false W args.toList ds gs before) (hL : laidMetH Tryd.prog Rows.repairBackRow.laid W) :
    Calls Tryd.prog 9 args W fun e W' => ∃ v, e = .returned v ∧ Rows.repairBackSpec.post enc Tryd.prog Tryd.f9 false true false false W args v W' := by
  have hW' := hW
  obtain ⟨p, q, hA0, hV, rfl, hfz, hnd⟩ := hW
  have hA : DataW.TrodAll enc Tryd.prog W 0 (fun _ => true) true Tryd.f9.params.toList args.toList ds p := hA0
  rw [Tryd.params9] at hA hval
  obtain ⟨v0, vs0, d0, ds0, p0, q_0, hargs, rfl, rfl, h0, r0⟩ := trodAll_cons hA
  obtain ⟨v1, vs1, d1, ds1, p1, q_1, rfl, rfl, rfl, h1, r1⟩ := trodAll_cons r0
  obtain ⟨v2, vs2, d2, ds2, p2, q_2, rfl, rfl, rfl, h2, r2⟩ := trodAll_cons r1
  obtain ⟨rfl, rfl, rfl⟩ := trodAll_nil r2
  obtain rfl : args = #[v0, v1, v2] := by cases args; simp_all
  obtain ⟨rfl, rfl⟩ := trodVars_none hV
  obtain ⟨xs0, B0, L0⟩ := open_bs (hval 0 22 v0 rfl rfl) h0
  obtain ⟨l1, B1⟩ := open_chg (hval 1 53 v1 rfl rfl) h1
  obtain ⟨l2, B2, S2⟩ := open_chgz (hval 2 53 v2 rfl rfl) h2
  have Z2 : l2.length ≤ 8796093022208 := chg_sized hZ (j := 2) (by rw [Tryd.params9]; rfl) rfl S2
  rw [MakeChecks.laidMetH_plain _ _ _ (by kernel_rfl), laid_eq] at hL
  obtain ⟨E, hE⟩ := errs_of_laid text lst (by decide) closed hL
  have walk : Calls Tryd.prog 9 #[v0, v1, v2] W fun e w' => e = .returned (.bool true) ∧ Fr [] W w' := by
    exact rbk_any _ E _ W _ _ _ xs0 l1 l2 hE (by decide) (by decide) (by decide) (by decide) (by decide) B0 B1 B2 Z2
  refine walk.mono fun e W' ⟨he, hf⟩ => ?_
  subst he
  exact ⟨_, rfl, law_post hW' rfl rfl rfl rfl rfl (by
    rw [Tryd.params9]
    intro t ht
    simp only [List.mem_cons, List.not_mem_nil, or_false] at ht
    rcases ht with rfl | rfl | rfl
    all_goals exact ⟨by kernel_rfl, of_decide_eq_true (by kernel_rfl)⟩) hf⟩

set_option maxRecDepth 100000 in
theorem lifted (os : Os) (started : os.Started) (H : Type) (enc : TypeId × Value → H) (F : Stop.Interp) :
    ReturnsInHanded {} Tryd.checked os 9 .any ((OpenSpec.ofChange Rows.repairBackSpec).preRow enc Tryd.prog Tryd.f9 Rows.repairBackRow.domain false Rows.repairBackRow.laid) (((OpenSpec.ofChange Rows.repairBackSpec).at F).post enc Tryd.prog Tryd.f9 false true false false) := by
  obtain ⟨places, hx⟩ := reads os enc
  refine returnsInHanded_of_row (C := Tryd.checked) (s := OpenSpec.ofChange Rows.repairBackSpec) Tryd.own started (by kernel_rfl) Tryd.func9
    ⟨World.doorLaid Tryd.prog 389 os, fun _ _ => 0, ⟨#[], #[.slice none 0 0, .slice none 0 0, .slice none 0 0], []⟩, rfl, World.shaped_of_RefB (by kernel_rfl) (by kernel_rfl), rfl, (Input.okWide_of_okWideB (by kernel_rfl)).2,
      OpenSpec.preRow_of_cond 8 hx (by kernel_rfl) (fun k hk => by cases hk) (by kernel_rfl) (door_met os _), by simp [Assume.holds]⟩ ?_
  intro W base args ds gs before hval hW _ _ hZ hL _ _
  exact contract H enc W base args ds gs before hval hZ hW hL

theorem said : Rows.RepairBackSaid :=
  OpenClaim.holds_of_cond 9 Tryd.f9 rfl rfl rfl rfl rfl rfl rfl ⟨rfl, rfl, rfl, rfl, rfl⟩ rfl rfl rfl rfl rfl (by kernel_rfl) Tryd.func9 (by kernel_rfl)
    (of_decide_eq_true (by kernel_rfl)) (by unfold Func.isWrapper; first | (rw [if_pos (by decide +kernel)]; kernel_rfl) | (rw [if_neg (by decide +kernel)]; exact ⟨rfl, rfl⟩))
    (fun os started H enc _ F => by rw [OpenClaim.pre_eq_preRow]; exact lifted os started H enc F)

theorem plain (f : FuncId) (fn : Func) (hf : Tryd.pinned.checked.prog.funcNamed "bailee/baileelaw05.RepairBack" = some f) (hfn : Tryd.pinned.checked.prog.funcs[f]? = some fn) :
    true = Tryd.pinned.checked.prog.looks [] ∧ ∀ (j : Nat) t, fn.params[j]? = some t → Tryd.pinned.checked.prog.wantsStandIn t = false := by
  obtain rfl : f = 9 := Option.some.inj ((show Tryd.prog.funcNamed "bailee/baileelaw05.RepairBack" = some 9 by kernel_rfl).symm.trans hf) |>.symm
  obtain rfl : fn = Tryd.f9 := (Option.some.inj (Tryd.func9.symm.trans hfn)).symm
  refine ⟨by kernel_rfl, fun j t ht => ?_⟩
  have hc : (Tryd.f9.params.toList.all fun t => !Tryd.prog.wantsStandIn t) = true := by kernel_rfl
  have h := List.all_eq_true.1 hc t (Array.mem_toList_iff.2 (Array.mem_of_getElem? ht))
  exact (by simpa using h : Tryd.prog.wantsStandIn t = false)

theorem card : Rows.RepairBackCardSaid :=
  Claim7.holds_tied_plain_at .later [] _ _ _ _ said (fun _ h => by cases h) (by kernel_rfl) (fun _ h => by cases h) repairBack_row_tie rfl ⟨rfl, rfl⟩ (by kernel_rfl) rfl plain (by kernel_rfl)
end Go.Proofs.YtfblhdomjnffcaaDoor.repairBack
