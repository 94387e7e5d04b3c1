/-
  PROVED: baileelaw06.StripeRebuilds returns true for all blocks, sizes and places, and leaves its arguments as they were. Conditions: the package-level errors of package api read as listed; the card ties that to the program's text.
-/
import Derived.Test.YtmohiblgfmdkjaaGreatDoorJL
import Derived.Test.YtmohiblgfmdkjaaGreatDoorJD
import Derived.Test.YtmohiblgfmdkjaaGreatDoorFin
import Derived.Test.YtmohiblgfmdkjaaGreatDoorCards
import Derived.Test.YtmohiblgfmdkjaaGreatDoorTie
namespace Go.Proofs.YtmohiblgfmdkjaaGreatDoor.stripeRebuilds
open Go.ChangeShapes Go.WideShapes Go.ChangeAt Go.RowKit Go.Bl
set_option linter.unusedVariables false

def lst : List Nat := all20
/-- the texts of the listed errors -/
def text (k : Nat) : List UInt8 := match (Rows.stripeRebuildsRow.laid.getD (lst.idxOf k) ("", .nil)).2 with
  | .iface _ (.ptr (.agg [.lit (.string t)])) => t
  | _ => []
theorem laid_eq : Rows.stripeRebuildsRow.laid = lst.map fun k => (nmOf k, .iface "*errors.errorString" (.ptr (.agg [.lit (.string (text k))]))) := by kernel_rfl
theorem closed : ∀ k ∈ lst, Tryz.prog.globalNamed (nmOf k) = some (gOf k) ∧ (Tryz.prog.globals[gOf k]?).map (·.type) = some 30 := by
  have h1 : lst.map (fun k => Tryz.prog.globalNamed (nmOf k)) = lst.map fun k => some (gOf k) := by kernel_rfl
  have h2 : lst.map (fun k => (Tryz.prog.globals[gOf k]?).map (·.type)) = lst.map fun _ => some 30 := by kernel_rfl
  intro k hk
  exact ⟨List.map_inj_left.1 h1 k hk, List.map_inj_left.1 h2 k hk⟩

theorem door_met (os : Os) (args : Array Value) : laidMetH Tryz.prog Rows.stripeRebuildsRow.laid ((World.doorLaid Tryz.prog 389 os).forCall (fun _ _ => 0) ⟨#[], args, []⟩).memory :=
  laidMetH_of_parts3 (fuel := 8) (laidMet_of_run' 8 (by kernel_rfl) (by kernel_rfl)) (by kernel_rfl) (by kernel_rfl)
theorem reads (os : Os) {H : Type} (enc : TypeId × Value → H) : ∃ places, DataW.whole enc Tryz.prog ((World.doorLaid Tryz.prog 389 os).forCall (fun _ _ => 0) ⟨#[], #[.slice none 0 0, .int .i64 0, .int .i64 0], []⟩).memory Tryz.f4.params.toList Rows.stripeRebuildsSpec.vars false (#[.slice none 0 0, .int .i64 0, .int .i64 0] : Array Value).toList 8 = some ([.nil, .lit (.int .i64 0), .lit (.int .i64 0)], [], places) :=
  ⟨[], by kernel_rfl⟩

set_option maxRecDepth 100000 in
theorem contract (H : Type) (enc : TypeId × Value → H) (W : World) (base : Nat) (args : Array Value) (ds gs : List (DataW H)) (before : List MemPlace)
    (hval : ∀ (j : Nat) t v, Tryz.f4.params[j]? = some t → args[j]? = some v → Value.okWide Tryz.prog W .any base t v)
    (hW : DataW.Whole enc Tryz.prog Tryz.f4.params.toList Rows.stripeRebuildsSpec.vars false W args.toList ds gs before) (hL : laidMetH Tryz.prog Rows.stripeRebuildsRow.laid W) :
    Calls Tryz.prog 4 args W fun e W' => ∃ v, e = .returned v ∧ Rows.stripeRebuildsSpec.post enc Tryz.prog Tryz.f4 false true false false W args v W' := by
  have hW' := hW
  obtain ⟨p, q, hA0, hV, rfl, hfz, hnd⟩ := hW
  have hA : DataW.TrodAll enc Tryz.prog W 0 (fun _ => true) true Tryz.f4.params.toList args.toList ds p := hA0
  rw [Tryz.params4] at hA hval
  obtain ⟨v0, vs0, d0, ds0, p0, q_0, hargs, rfl, rfl, h0, r0⟩ := trodAll_cons hA
  obtain ⟨v1, vs1, d1, ds1, p1, q_1, rfl, rfl, rfl, h1, r1⟩ := trodAll_cons r0
  obtain ⟨v2, vs2, d2, ds2, p2, q_2, rfl, rfl, rfl, h2, r2⟩ := trodAll_cons r1
  obtain ⟨rfl, rfl, rfl⟩ := trodAll_nil r2
  obtain rfl : args = #[v0, v1, v2] := by cases args; simp_all
  obtain ⟨rfl, rfl⟩ := trodVars_none hV
  obtain ⟨ls0, B0⟩ := open_lls (hval 0 41 v0 rfl rfl) h0
  obtain ⟨a1, rfl, rfl, rfl, w1⟩ := open_int Tryz.underlying3 (hval 1 3 v1 rfl rfl) h1
  have b1 : -9223372036854775808 ≤ a1 ∧ a1 ≤ 9223372036854775807 := by simpa [Lit.wf, IntKind.min, IntKind.max, IntKind.signed, IntKind.bits] using w1
  obtain ⟨a2, rfl, rfl, rfl, w2⟩ := open_int Tryz.underlying3 (hval 2 3 v2 rfl rfl) h2
  have b2 : -9223372036854775808 ≤ a2 ∧ a2 ≤ 9223372036854775807 := by simpa [Lit.wf, IntKind.min, IntKind.max, IntKind.signed, IntKind.bits] using w2
  rw [MakeChecks.laidMetH_plain _ _ _ (by kernel_rfl), laid_eq] at hL
  obtain ⟨E, hE⟩ := errs_of_laid text lst (by decide) closed hL
  have walk : Calls Tryz.prog 4 #[v0, .int .i64 a1, .int .i64 a2] W fun e w' => e = .returned (.bool true) ∧ Fr [] W w' := by
    exact rsb_any E _ W _ ls0 a1 a2 hE B0
  refine walk.mono fun e W' ⟨he, hf⟩ => ?_
  subst he
  exact ⟨_, rfl, law_post hW' rfl rfl rfl rfl rfl (by
    rw [Tryz.params4]
    intro t ht
    simp only [List.mem_cons, List.not_mem_nil, or_false] at ht
    rcases ht with rfl | rfl | rfl
    all_goals exact ⟨by kernel_rfl, of_decide_eq_true (by kernel_rfl)⟩) hf⟩

set_option maxRecDepth 100000 in
theorem lifted (os : Os) (started : os.Started) (H : Type) (enc : TypeId × Value → H) (F : Stop.Interp) :
    ReturnsInHanded {} Tryz.checked os 4 .any ((OpenSpec.ofChange Rows.stripeRebuildsSpec).preRow enc Tryz.prog Tryz.f4 Rows.stripeRebuildsRow.domain false Rows.stripeRebuildsRow.laid) (((OpenSpec.ofChange Rows.stripeRebuildsSpec).at F).post enc Tryz.prog Tryz.f4 false true false false) := by
  obtain ⟨places, hx⟩ := reads os enc
  refine returnsInHanded_of_row (C := Tryz.checked) (s := OpenSpec.ofChange Rows.stripeRebuildsSpec) Tryz.own started (by kernel_rfl) Tryz.func4
    ⟨World.doorLaid Tryz.prog 389 os, fun _ _ => 0, ⟨#[], #[.slice none 0 0, .int .i64 0, .int .i64 0], []⟩, rfl, World.shaped_of_RefB (by kernel_rfl) (by kernel_rfl), rfl, (Input.okWide_of_okWideB (by kernel_rfl)).2,
      OpenSpec.preRow_of_cond 8 hx (by kernel_rfl) (fun k hk => by cases hk) (by kernel_rfl) (door_met os _), by simp [Assume.holds]⟩ ?_
  intro W base args ds gs before hval hW _ _ hZ hL _ _
  exact contract H enc W base args ds gs before hval hW hL

theorem said : Rows.StripeRebuildsSaid :=
  OpenClaim.holds_of_cond 4 Tryz.f4 rfl rfl rfl rfl rfl rfl rfl ⟨rfl, rfl, rfl, rfl, rfl⟩ rfl rfl rfl rfl rfl (by kernel_rfl) Tryz.func4 (by kernel_rfl)
    (of_decide_eq_true (by kernel_rfl)) (by unfold Func.isWrapper; first | (rw [if_pos (by decide +kernel)]; kernel_rfl) | (rw [if_neg (by decide +kernel)]; exact ⟨rfl, rfl⟩))
    (fun os started H enc _ F => by rw [OpenClaim.pre_eq_preRow]; exact lifted os started H enc F)

theorem plain (f : FuncId) (fn : Func) (hf : Tryz.pinned.checked.prog.funcNamed "bailee/baileelaw06.StripeRebuilds" = some f) (hfn : Tryz.pinned.checked.prog.funcs[f]? = some fn) :
    true = Tryz.pinned.checked.prog.looks [] ∧ ∀ (j : Nat) t, fn.params[j]? = some t → Tryz.pinned.checked.prog.wantsStandIn t = false := by
  obtain rfl : f = 4 := Option.some.inj ((show Tryz.prog.funcNamed "bailee/baileelaw06.StripeRebuilds" = some 4 by kernel_rfl).symm.trans hf) |>.symm
  obtain rfl : fn = Tryz.f4 := (Option.some.inj (Tryz.func4.symm.trans hfn)).symm
  refine ⟨by kernel_rfl, fun j t ht => ?_⟩
  have hc : (Tryz.f4.params.toList.all fun t => !Tryz.prog.wantsStandIn t) = true := by kernel_rfl
  have h := List.all_eq_true.1 hc t (Array.mem_toList_iff.2 (Array.mem_of_getElem? ht))
  exact (by simpa using h : Tryz.prog.wantsStandIn t = false)

theorem card : Rows.StripeRebuildsCardSaid :=
  Claim7.holds_tied_plain_at .later [] _ _ _ _ said (fun _ h => by cases h) (by kernel_rfl) (fun _ h => by cases h) stripeRebuilds_row_tie rfl ⟨rfl, rfl⟩ (by kernel_rfl) rfl plain (by kernel_rfl)
end Go.Proofs.YtmohiblgfmdkjaaGreatDoor.stripeRebuilds
