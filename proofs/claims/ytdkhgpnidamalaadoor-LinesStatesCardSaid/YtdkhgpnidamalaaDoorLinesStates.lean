/-
  PROVED: baileelaw35.LinesStates returns true for every state and number of an object, and leaves its arguments as they were. Conditions: the listed package-level table (powers of ten) reads as listed; the card ties that to the program's text.
-/
import Derived.Test.YtdkhgpnidamalaaDoorLss
import Derived.Test.YtdkhgpnidamalaaDoorOpW
import Derived.Test.YtdkhgpnidamalaaDoorLdw
import Derived.Test.YtdkhgpnidamalaaDoorHD
import Derived.Test.YtdkhgpnidamalaaDoorCards
import Derived.Test.YtdkhgpnidamalaaDoorTie
import Derived.Lay
namespace Go.Proofs.YtdkhgpnidamalaaDoor.linesStates
open Go.ChangeShapes Go.WideShapes Go.ChangeAt Go.RowKit Go.Bl
set_option linter.unusedVariables false

theorem door_met (os : Os) (args : Array Value) : laidMetH Tryd.prog Rows.linesStatesRow.laid ((World.laidAll Tryd.prog os Rows.linesStatesRow.laid).forCall (fun _ _ => 0) ⟨#[], args, []⟩).memory :=
  by rw [MakeChecks.laidMetH_plain _ _ _ (by kernel_rfl)]; exact laidMet_laidAll _ (by kernel_rfl) (by kernel_rfl)
theorem reads (os : Os) {H : Type} (enc : TypeId × Value → H) : ∃ places, DataW.whole enc Tryd.prog ((World.laidAll Tryd.prog os Rows.linesStatesRow.laid).forCall (fun _ _ => 0) ⟨#[], #[.agg #[.slice none 0 0, .slice none 0 0], .int .i64 0], []⟩).memory Tryd.f3.params.toList Rows.linesStatesSpec.vars false (#[.agg #[.slice none 0 0, .slice none 0 0], .int .i64 0] : Array Value).toList 8 = some ([.agg [.nil, .nil], .lit (.int .i64 0)], [], places) :=
  ⟨[], by kernel_rfl⟩

set_option maxRecDepth 100000 in
theorem contract (H : Type) (enc : TypeId × Value → H) (W : World) (base : Nat) (args : Array Value) (ds gs : List (DataW H)) (before : List MemPlace)
    (hval : ∀ (j : Nat) t v, Tryd.f3.params[j]? = some t → args[j]? = some v → Value.okWide Tryd.prog W .any base t v)
    (hW : DataW.Whole enc Tryd.prog Tryd.f3.params.toList Rows.linesStatesSpec.vars false W args.toList ds gs before) (hL : laidMetH Tryd.prog Rows.linesStatesRow.laid W) :
    Calls Tryd.prog 3 args W fun e W' => ∃ v, e = .returned v ∧ Rows.linesStatesSpec.post enc Tryd.prog Tryd.f3 false true false false W args v W' := by
  have hW' := hW
  obtain ⟨p, q, hA0, hV, rfl, hfz, hnd⟩ := hW
  have hA : DataW.TrodAll enc Tryd.prog W 0 (fun _ => true) true Tryd.f3.params.toList args.toList ds p := hA0
  rw [Tryd.params3] at hA hval
  obtain ⟨v0, vs0, d0, ds0, p0, q_0, hargs, rfl, rfl, h0, r0⟩ := trodAll_cons hA
  obtain ⟨v1, vs1, d1, ds1, p1, q_1, rfl, rfl, rfl, h1, r1⟩ := trodAll_cons r0
  obtain ⟨rfl, rfl, rfl⟩ := trodAll_nil r1
  obtain rfl : args = #[v0, v1] := by cases args; simp_all
  obtain ⟨rfl, rfl⟩ := trodVars_none hV
  obtain ⟨ia0, ea0, IN0, ic0, EN0, ec0, its0, ens0, e0, B0, I0, J0, M0, Q0⟩ := open_state (hval 0 25 v0 rfl rfl) h0
  subst e0
  obtain ⟨a1, rfl, rfl, rfl, w1⟩ := open_int Tryd.underlying3 (hval 1 3 v1 rfl rfl) h1
  have b1 : -9223372036854775808 ≤ a1 ∧ a1 ≤ 9223372036854775807 := by simpa [Lit.wf, IntKind.min, IntKind.max, IntKind.signed, IntKind.bits] using w1
  rw [MakeChecks.laidMetH_plain _ _ _ (by kernel_rfl)] at hL

  have walk : Calls Tryd.prog 3 #[.agg #[.slice ia0 IN0 ic0, .slice ea0 EN0 ec0], .int .i64 a1] W fun e w' => e = .returned (.bool true) ∧ Fr [] W w' := by
    obtain ⟨ps, hv, -, -⟩ := hL
    obtain ⟨q1, h1v⟩ := skip_var hv
    obtain ⟨q2, h2v⟩ := skip_var h1v
    obtain ⟨hT, q3, h3v⟩ := tab_var (t := 100) (e := 86) (n := 20) h2v (by kernel_rfl) (by kernel_rfl) (by kernel_rfl) (by kernel_rfl) (by kernel_rfl) (by kernel_rfl) (by kernel_rfl)
    exact lss_any W ia0 ea0 IN0 ic0 EN0 ec0 its0 ens0 a1 hT B0 I0 J0 M0 Q0
  refine walk.mono fun e W' ⟨he, hf⟩ => ?_
  subst he
  exact ⟨_, rfl, law_post hW' rfl rfl rfl rfl rfl (by
    rw [Tryd.params3]
    intro t ht
    simp only [List.mem_cons, List.not_mem_nil, or_false] at ht
    rcases ht with rfl | rfl
    all_goals exact ⟨by kernel_rfl, of_decide_eq_true (by kernel_rfl)⟩) hf⟩

set_option maxRecDepth 100000 in
theorem lifted (os : Os) (started : os.Started) (H : Type) (enc : TypeId × Value → H) (F : Stop.Interp) :
    ReturnsInHanded {} Tryd.checked os 3 .any ((OpenSpec.ofChange Rows.linesStatesSpec).preRow enc Tryd.prog Tryd.f3 Rows.linesStatesRow.domain false Rows.linesStatesRow.laid) (((OpenSpec.ofChange Rows.linesStatesSpec).at F).post enc Tryd.prog Tryd.f3 false true false false) := by
  obtain ⟨places, hx⟩ := reads os enc
  refine returnsInHanded_of_row (C := Tryd.checked) (s := OpenSpec.ofChange Rows.linesStatesSpec) Tryd.own started (by kernel_rfl) Tryd.func3
    ⟨World.laidAll Tryd.prog os Rows.linesStatesRow.laid, fun _ _ => 0, ⟨#[], #[.agg #[.slice none 0 0, .slice none 0 0], .int .i64 0], []⟩, World.laidAll_os _ _ _, World.shaped_of_ZipB (by kernel_rfl) (by kernel_rfl), rfl, (Input.okWide_of_okWideB (by kernel_rfl)).2,
      OpenSpec.preRow_of_cond 8 hx (by kernel_rfl) (fun k hk => by cases hk) (by kernel_rfl) (door_met os _), by simp [Assume.holds]⟩ ?_
  intro W base args ds gs before hval hW _ _ hZ hL _ _
  exact contract H enc W base args ds gs before hval hW hL

theorem said : Rows.LinesStatesSaid :=
  OpenClaim.holds_of_cond 3 Tryd.f3 rfl rfl rfl rfl rfl rfl rfl ⟨rfl, rfl, rfl, rfl, rfl⟩ rfl rfl rfl rfl rfl (by kernel_rfl) Tryd.func3 (by kernel_rfl)
    (of_decide_eq_true (by kernel_rfl)) (by unfold Func.isWrapper; first | (rw [if_pos (by decide +kernel)]; kernel_rfl) | (rw [if_neg (by decide +kernel)]; exact ⟨rfl, rfl⟩))
    (fun os started H enc _ F => by rw [OpenClaim.pre_eq_preRow]; exact lifted os started H enc F)

theorem plain (f : FuncId) (fn : Func) (hf : Tryd.pinned.checked.prog.funcNamed "bailee/baileelaw35.LinesStates" = some f) (hfn : Tryd.pinned.checked.prog.funcs[f]? = some fn) :
    true = Tryd.pinned.checked.prog.looks [] ∧ ∀ (j : Nat) t, fn.params[j]? = some t → Tryd.pinned.checked.prog.wantsStandIn t = false := by
  obtain rfl : f = 3 := Option.some.inj ((show Tryd.prog.funcNamed "bailee/baileelaw35.LinesStates" = some 3 by kernel_rfl).symm.trans hf) |>.symm
  obtain rfl : fn = Tryd.f3 := (Option.some.inj (Tryd.func3.symm.trans hfn)).symm
  refine ⟨by kernel_rfl, fun j t ht => ?_⟩
  have hc : (Tryd.f3.params.toList.all fun t => !Tryd.prog.wantsStandIn t) = true := by kernel_rfl
  have h := List.all_eq_true.1 hc t (Array.mem_toList_iff.2 (Array.mem_of_getElem? ht))
  exact (by simpa using h : Tryd.prog.wantsStandIn t = false)

theorem card : Rows.LinesStatesCardSaid :=
  Claim7.holds_tied_plain_at .later [] _ _ _ _ said (fun _ h => by cases h) (by kernel_rfl) (fun _ h => by cases h) linesStates_row_tie rfl ⟨rfl, rfl⟩ (by kernel_rfl) rfl plain (by kernel_rfl)
end Go.Proofs.YtdkhgpnidamalaaDoor.linesStates
