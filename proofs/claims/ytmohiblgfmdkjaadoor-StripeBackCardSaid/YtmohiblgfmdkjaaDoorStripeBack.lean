/-
  PROVED: baileelaw06.StripeBack returns true for every file's bytes and all hits, and leaves its arguments as they were. Conditions: the package-level errors of package api read as listed; the card ties that to the program's text.
-/
import Derived.Test.YtmohiblgfmdkjaaDoorSbb
import Derived.Test.YtmohiblgfmdkjaaDoorKH
import Derived.Test.YtmohiblgfmdkjaaDoorFin
import Derived.Test.YtmohiblgfmdkjaaDoorCards
import Derived.Test.YtmohiblgfmdkjaaDoorTie
namespace Go.Proofs.YtmohiblgfmdkjaaDoor.stripeBack
open Go.ChangeShapes Go.WideShapes Go.ChangeAt Go.RowKit Go.Bl
set_option linter.unusedVariables false

def lst : List Nat := all20
/-- the texts of the listed errors -/
def text (k : Nat) : List UInt8 := match (Rows.stripeBackRow.laid.getD (lst.idxOf k) ("", .nil)).2 with
  | .iface _ (.ptr (.agg [.lit (.string t)])) => t
  | _ => []
theorem laid_eq : Rows.stripeBackRow.laid = lst.map fun k => (nmOf k, .iface "*errors.errorString" (.ptr (.agg [.lit (.string (text k))]))) := by kernel_rfl
theorem closed : ∀ k ∈ lst, Tryd.prog.globalNamed (nmOf k) = some (gOf k) ∧ (Tryd.prog.globals[gOf k]?).map (·.type) = some 27 := by
  have h1 : lst.map (fun k => Tryd.prog.globalNamed (nmOf k)) = lst.map fun k => some (gOf k) := by kernel_rfl
  have h2 : lst.map (fun k => (Tryd.prog.globals[gOf k]?).map (·.type)) = lst.map fun _ => some 27 := by kernel_rfl
  intro k hk
  exact ⟨List.map_inj_left.1 h1 k hk, List.map_inj_left.1 h2 k hk⟩

theorem door_met (os : Os) (args : Array Value) : laidMetH Tryd.prog Rows.stripeBackRow.laid ((World.doorLaid Tryd.prog 177 os).forCall (fun _ _ => 0) ⟨#[], args, []⟩).memory :=
  laidMetH_of_parts3 (fuel := 8) (laidMet_of_run' 8 (by kernel_rfl) (by kernel_rfl)) (by kernel_rfl) (by kernel_rfl)
theorem reads (os : Os) {H : Type} (enc : TypeId × Value → H) : ∃ places, DataW.whole enc Tryd.prog ((World.doorLaid Tryd.prog 177 os).forCall (fun _ _ => 0) ⟨#[], #[.slice none 0 0, .slice none 0 0], []⟩).memory Tryd.f3.params.toList Rows.stripeBackSpec.vars false (#[.slice none 0 0, .slice none 0 0] : Array Value).toList 8 = some ([.nil, .nil], [], places) :=
  ⟨[], by kernel_rfl⟩

set_option maxRecDepth 100000 in
theorem contract (H : Type) (enc : TypeId × Value → H) (W : World) (base : Nat) (args : Array Value) (ds gs : List (DataW H)) (before : List MemPlace)
    (hval : ∀ (j : Nat) t v, Tryd.f3.params[j]? = some t → args[j]? = some v → Value.okWide Tryd.prog W .any base t v)
    (hW : DataW.Whole enc Tryd.prog Tryd.f3.params.toList Rows.stripeBackSpec.vars false W args.toList ds gs before) (hL : laidMetH Tryd.prog Rows.stripeBackRow.laid W) :
    Calls Tryd.prog 3 args W fun e W' => ∃ v, e = .returned v ∧ Rows.stripeBackSpec.post enc Tryd.prog Tryd.f3 false true false false W args v W' := by
  have hW' := hW
  obtain ⟨p, q, hA0, hV, rfl, hfz, hnd⟩ := hW
  have hA : DataW.TrodAll enc Tryd.prog W 0 (fun _ => true) true Tryd.f3.params.toList args.toList ds p := hA0
  rw [Tryd.params3] at hA hval
  obtain ⟨v0, vs0, d0, ds0, p0, q_0, hargs, rfl, rfl, h0, r0⟩ := trodAll_cons hA
  obtain ⟨v1, vs1, d1, ds1, p1, q_1, rfl, rfl, rfl, h1, r1⟩ := trodAll_cons r0
  obtain ⟨rfl, rfl, rfl⟩ := trodAll_nil r1
  obtain rfl : args = #[v0, v1] := by cases args; simp_all
  obtain ⟨rfl, rfl⟩ := trodVars_none hV
  obtain ⟨xs0, B0, L0⟩ := open_bs (hval 0 22 v0 rfl rfl) h0
  obtain ⟨l1, B1⟩ := open_hits (hval 1 23 v1 rfl rfl) h1
  rw [MakeChecks.laidMetH_plain _ _ _ (by kernel_rfl), laid_eq] at hL
  obtain ⟨E, hE⟩ := errs_of_laid text lst (by decide) closed hL
  have walk : Calls Tryd.prog 3 #[v0, v1] W fun e w' => e = .returned (.bool true) ∧ Fr [] W w' := by
    exact sbb_any E _ W _ _ xs0 l1 hE B0 B1
  refine walk.mono fun e W' ⟨he, hf⟩ => ?_
  subst he
  exact ⟨_, rfl, law_post hW' rfl rfl rfl rfl rfl (by
    rw [Tryd.params3]
    intro t ht
    simp only [List.mem_cons, List.not_mem_nil, or_false] at ht
    rcases ht with rfl | rfl
    all_goals exact ⟨by kernel_rfl, of_decide_eq_true (by kernel_rfl)⟩) hf⟩

set_option maxRecDepth 100000 in
theorem lifted (os : Os) (started : os.Started) (H : Type) (enc : TypeId × Value → H) (F : Stop.Interp) :
    ReturnsInHanded {} Tryd.checked os 3 .any ((OpenSpec.ofChange Rows.stripeBackSpec).preRow enc Tryd.prog Tryd.f3 Rows.stripeBackRow.domain false Rows.stripeBackRow.laid) (((OpenSpec.ofChange Rows.stripeBackSpec).at F).post enc Tryd.prog Tryd.f3 false true false false) := by
  obtain ⟨places, hx⟩ := reads os enc
  refine returnsInHanded_of_row (C := Tryd.checked) (s := OpenSpec.ofChange Rows.stripeBackSpec) Tryd.own started (by kernel_rfl) Tryd.func3
    ⟨World.doorLaid Tryd.prog 177 os, fun _ _ => 0, ⟨#[], #[.slice none 0 0, .slice none 0 0], []⟩, rfl, World.shaped_of_RefB (by kernel_rfl) (by kernel_rfl), rfl, (Input.okWide_of_okWideB (by kernel_rfl)).2,
      OpenSpec.preRow_of_cond 8 hx (by kernel_rfl) (fun k hk => by cases hk) (by kernel_rfl) (door_met os _), by simp [Assume.holds]⟩ ?_
  intro W base args ds gs before hval hW _ _ hZ hL _ _
  exact contract H enc W base args ds gs before hval hW hL

theorem said : Rows.StripeBackSaid :=
  OpenClaim.holds_of_cond 3 Tryd.f3 rfl rfl rfl rfl rfl rfl rfl ⟨rfl, rfl, rfl, rfl, rfl⟩ rfl rfl rfl rfl rfl (by kernel_rfl) Tryd.func3 (by kernel_rfl)
    (of_decide_eq_true (by kernel_rfl)) (by unfold Func.isWrapper; first | (rw [if_pos (by decide +kernel)]; kernel_rfl) | (rw [if_neg (by decide +kernel)]; exact ⟨rfl, rfl⟩))
    (fun os started H enc _ F => by rw [OpenClaim.pre_eq_preRow]; exact lifted os started H enc F)

theorem plain (f : FuncId) (fn : Func) (hf : Tryd.pinned.checked.prog.funcNamed "bailee/baileelaw06.StripeBack" = some f) (hfn : Tryd.pinned.checked.prog.funcs[f]? = some fn) :
    true = Tryd.pinned.checked.prog.looks [] ∧ ∀ (j : Nat) t, fn.params[j]? = some t → Tryd.pinned.checked.prog.wantsStandIn t = false := by
  obtain rfl : f = 3 := Option.some.inj ((show Tryd.prog.funcNamed "bailee/baileelaw06.StripeBack" = some 3 by kernel_rfl).symm.trans hf) |>.symm
  obtain rfl : fn = Tryd.f3 := (Option.some.inj (Tryd.func3.symm.trans hfn)).symm
  refine ⟨by kernel_rfl, fun j t ht => ?_⟩
  have hc : (Tryd.f3.params.toList.all fun t => !Tryd.prog.wantsStandIn t) = true := by kernel_rfl
  have h := List.all_eq_true.1 hc t (Array.mem_toList_iff.2 (Array.mem_of_getElem? ht))
  exact (by simpa using h : Tryd.prog.wantsStandIn t = false)

theorem card : Rows.StripeBackCardSaid :=
  Claim7.holds_tied_plain_at .later [] _ _ _ _ said (fun _ h => by cases h) (by kernel_rfl) (fun _ h => by cases h) stripeBack_row_tie rfl ⟨rfl, rfl⟩ (by kernel_rfl) rfl plain (by kernel_rfl)
end Go.Proofs.YtmohiblgfmdkjaaDoor.stripeBack
