/-
  PROVED: baileelaw27.JudgeSound returns true for every file to seal, yu and answers, and leaves its arguments as they were. Conditions: the listed package-level errors and tables read as listed; the card ties them to the program's text.
-/
import Derived.Test.YtdloaifdpajcjaaGreatDoorJs6
import Derived.Test.YtdloaifdpajcjaaGreatDoorJn9
import Derived.Test.YtdloaifdpajcjaaGreatDoorOpb
import Derived.Test.YtdloaifdpajcjaaGreatDoorLD
import Derived.Test.YtdloaifdpajcjaaGreatDoorFin
import Derived.Test.YtdloaifdpajcjaaGreatDoorCards
import Derived.Test.YtdloaifdpajcjaaGreatDoorTie
import Derived.Lay
set_option linter.unusedVariables false
set_option linter.unusedSimpArgs false
namespace Go.Proofs.YtdloaifdpajcjaaGreatDoor.judgeSound
open Go.ChangeShapes Go.WideShapes Go.ChangeAt Go.RowKit Go.Bl

def lst : List Nat := [1, 4, 6, 7, 8, 9, 15, 18]
/-- the texts of the listed errors -/
def text (k : Nat) : List UInt8 := match (Rows.judgeSoundRow.laid.getD (1 + lst.idxOf k) ("", .nil)).2 with
  | .iface _ (.ptr (.agg [.lit (.string t)])) => t
  | _ => []
theorem closed : ∀ k ∈ lst, Tryz.prog.globalNamed (Lh k) = some (gOf k) ∧ (Tryz.prog.globals[gOf k]?).map (·.type) = some 40 := by
  have h1 : lst.map (fun k => Tryz.prog.globalNamed (Lh k)) = lst.map fun k => some (gOf k) := by kernel_rfl
  have h2 : lst.map (fun k => (Tryz.prog.globals[gOf k]?).map (·.type)) = lst.map fun _ => some 40 := by kernel_rfl
  intro k hk
  exact ⟨List.map_inj_left.1 h1 k hk, List.map_inj_left.1 h2 k hk⟩

theorem door_met (os : Os) (args : Array Value) : laidMetH Tryz.prog Rows.judgeSoundRow.laid ((World.laidAll Tryz.prog os Rows.judgeSoundRow.laid).forCall (fun _ _ => 0) ⟨#[], args, []⟩).memory :=
  by rw [MakeChecks.laidMetH_plain _ _ _ (by kernel_rfl)]; exact laidMet_laidAll _ (by kernel_rfl) (by kernel_rfl)
theorem reads (os : Os) {H : Type} (enc : TypeId × Value → H) : ∃ places, DataW.whole enc Tryz.prog ((World.laidAll Tryz.prog os Rows.judgeSoundRow.laid).forCall (fun _ _ => 0) ⟨#[], #[.agg #[.slice none 0 0, .int .i64 0, .slice none 0 0, .int .i64 0, .int .i64 0, .int .i64 0, .int .i64 0, .int .i64 0, .int .i64 0], .agg #[.int .i64 0, .int .i64 0, .int .i64 0, .int .i64 0, .int .i64 0, .int .i64 0, .int .i64 0], .slice none 0 0], []⟩).memory Tryz.f3.params.toList Rows.judgeSoundSpec.vars false (#[.agg #[.slice none 0 0, .int .i64 0, .slice none 0 0, .int .i64 0, .int .i64 0, .int .i64 0, .int .i64 0, .int .i64 0, .int .i64 0], .agg #[.int .i64 0, .int .i64 0, .int .i64 0, .int .i64 0, .int .i64 0, .int .i64 0, .int .i64 0], .slice none 0 0] : Array Value).toList 8 = some ([.agg [.nil, .lit (.int .i64 0), .nil, .agg [.lit (.int .i64 0), .lit (.int .i64 0), .lit (.int .i64 0), .lit (.int .i64 0), .lit (.int .i64 0), .lit (.int .i64 0)]], .agg [.lit (.int .i64 0), .lit (.int .i64 0), .lit (.int .i64 0), .lit (.int .i64 0), .lit (.int .i64 0), .lit (.int .i64 0), .lit (.int .i64 0)], .nil], [], places) :=
  ⟨[], by kernel_rfl⟩

set_option maxRecDepth 100000 in
theorem contract (H : Type) (enc : TypeId × Value → H) (W : World) (base : Nat) (args : Array Value) (ds gs : List (DataW H)) (before : List MemPlace)
    (hval : ∀ (j : Nat) t v, Tryz.f3.params[j]? = some t → args[j]? = some v → Value.okWide Tryz.prog W .any base t v)
    (hW : DataW.Whole enc Tryz.prog Tryz.f3.params.toList Rows.judgeSoundSpec.vars false W args.toList ds gs before) (hL : laidMetH Tryz.prog Rows.judgeSoundRow.laid W) :
    Calls Tryz.prog 3 args W fun e W' => ∃ v, e = .returned v ∧ Rows.judgeSoundSpec.post enc Tryz.prog Tryz.f3 false true false false W args v W' := by
  have hW' := hW
  obtain ⟨p, q, hA0, hV, rfl, hfz, hnd⟩ := hW
  have hA : DataW.TrodAll enc Tryz.prog W 0 (fun _ => true) true Tryz.f3.params.toList args.toList ds p := hA0
  rw [Tryz.params3] at hA hval
  obtain ⟨v0, vs0, d0, ds0, p0, q_0, hargs, rfl, rfl, h0, r0⟩ := trodAll_cons hA
  obtain ⟨v1, vs1, d1, ds1, p1, q_1, rfl, rfl, rfl, h1, r1⟩ := trodAll_cons r0
  obtain ⟨v2, vs2, d2, ds2, p2, q_2, rfl, rfl, rfl, h2, r2⟩ := trodAll_cons r1
  obtain ⟨rfl, rfl, rfl⟩ := trodAll_nil r2
  obtain rfl : args = #[v0, v1, v2] := by cases args; simp_all
  obtain ⟨rfl, rfl⟩ := trodVars_none hV
  obtain ⟨m0, n0, x0, q0, R0⟩ := L7 (hval 0 26 v0 rfl rfl) h0
  obtain ⟨y1, R1⟩ := WT (hval 1 28 v1 rfl rfl) h1
  obtain ⟨sh2, O2, R2⟩ := KO (hval 2 29 v2 rfl rfl) h2
  rw [MakeChecks.laidMetH_plain _ _ _ (by kernel_rfl)] at hL
  obtain ⟨E, hE⟩ := XT text lst (by decide) closed (yC (A := Rows.judgeSoundRow.laid.take 1) (M := lst.map fun k => (Lh k, .iface "*errors.errorString" (.ptr (.agg [.lit (.string (text k))])))) (B := Rows.judgeSoundRow.laid.drop 9) hL (by kernel_rfl))
  have hSG : SG W := qhF (yC (A := Rows.judgeSoundRow.laid.take 9) (B := Rows.judgeSoundRow.laid.drop 10) hL (by kernel_rfl)) (yC (A := Rows.judgeSoundRow.laid.take 10) (B := Rows.judgeSoundRow.laid.drop 11) hL (by kernel_rfl))
  have walk : Calls Tryz.prog 3 #[v0, v1, v2] W fun e w' => e = .returned (.bool true) ∧ Fr [] W w' := by
    exact Le (xs := [_, _, _]) ⟨E, W, hE⟩ (qg5 ⟨E, W, hE⟩ (fun _ f => f ()) (fun _ _ => rfl) m0 x0 n0 q0 y1 sh2 O2) hSG (.cons R0 (.cons R1 (.cons R2 .nil)))
  refine walk.mono fun e W' ⟨he, hf⟩ => ?_
  subst he
  exact ⟨_, rfl, qex hW' rfl rfl rfl rfl rfl (by
    rw [Tryz.params3]
    intro t ht
    simp only [List.mem_cons, List.not_mem_nil, or_false] at ht
    rcases ht with rfl | rfl | rfl
    all_goals exact ⟨by kernel_rfl, of_decide_eq_true (by kernel_rfl)⟩) hf⟩

set_option maxRecDepth 100000 in
theorem lifted (os : Os) (started : os.Started) (H : Type) (enc : TypeId × Value → H) (F : Stop.Interp) :
    ReturnsInHanded {} Tryz.checked os 3 .any ((OpenSpec.ofChange Rows.judgeSoundSpec).preRow enc Tryz.prog Tryz.f3 Rows.judgeSoundRow.domain false Rows.judgeSoundRow.laid) (((OpenSpec.ofChange Rows.judgeSoundSpec).at F).post enc Tryz.prog Tryz.f3 false true false false) := by
  obtain ⟨places, hx⟩ := reads os enc
  refine returnsInHanded_of_row (C := Tryz.checked) (s := OpenSpec.ofChange Rows.judgeSoundSpec) Tryz.own started (by kernel_rfl) Tryz.func3
    ⟨World.laidAll Tryz.prog os Rows.judgeSoundRow.laid, fun _ _ => 0, ⟨#[], #[.agg #[.slice none 0 0, .int .i64 0, .slice none 0 0, .int .i64 0, .int .i64 0, .int .i64 0, .int .i64 0, .int .i64 0, .int .i64 0], .agg #[.int .i64 0, .int .i64 0, .int .i64 0, .int .i64 0, .int .i64 0, .int .i64 0, .int .i64 0], .slice none 0 0], []⟩, World.laidAll_os _ _ _, World.shaped_of_ZipB (by kernel_rfl) (by kernel_rfl), rfl, (Input.okWide_of_okWideB (by kernel_rfl)).2,
      OpenSpec.preRow_of_cond 8 hx (by kernel_rfl) (fun k hk => by cases hk) (by kernel_rfl) (door_met os _), by simp [Assume.holds]⟩ ?_
  intro W base args ds gs before hval hW _ _ hZ hL _ _
  exact contract H enc W base args ds gs before hval hW hL

theorem said : Rows.JudgeSoundSaid :=
  OpenClaim.holds_of_cond 3 Tryz.f3 rfl rfl rfl rfl rfl rfl rfl ⟨rfl, rfl, rfl, rfl, rfl⟩ rfl rfl rfl rfl rfl (by kernel_rfl) Tryz.func3 qho
    (of_decide_eq_true (by kernel_rfl)) (by unfold Func.isWrapper; first | (rw [if_pos (by decide +kernel)]; kernel_rfl) | (rw [if_neg (by decide +kernel)]; exact ⟨rfl, rfl⟩))
    (fun os started H enc _ F => by rw [OpenClaim.pre_eq_preRow]; exact lifted os started H enc F)

theorem plain (f : FuncId) (fn : Func) (hf : Tryz.pinned.checked.prog.funcNamed "bailee/baileelaw27.JudgeSound" = some f) (hfn : Tryz.pinned.checked.prog.funcs[f]? = some fn) :
    true = Tryz.pinned.checked.prog.looks [] ∧ ∀ (j : Nat) t, fn.params[j]? = some t → Tryz.pinned.checked.prog.wantsStandIn t = false := by
  obtain rfl : f = 3 := Option.some.inj ((show Tryz.prog.funcNamed "bailee/baileelaw27.JudgeSound" = some 3 by kernel_rfl).symm.trans hf) |>.symm
  obtain rfl : fn = Tryz.f3 := (Option.some.inj (Tryz.func3.symm.trans hfn)).symm
  refine ⟨by kernel_rfl, fun j t ht => ?_⟩
  have hc : (Tryz.f3.params.toList.all fun t => !Tryz.prog.wantsStandIn t) = true := by kernel_rfl
  have h := List.all_eq_true.1 hc t (Array.mem_toList_iff.2 (Array.mem_of_getElem? ht))
  exact (by simpa using h : Tryz.prog.wantsStandIn t = false)

theorem card : Rows.JudgeSoundCardSaid :=
  Claim7.holds_tied_plain_at .later [] _ _ _ _ said (fun _ h => by cases h) (by kernel_rfl) (fun _ h => by cases h) judgeSound_row_tie rfl ⟨rfl, rfl⟩ (by kernel_rfl) rfl plain (by kernel_rfl)
end Go.Proofs.YtdloaifdpajcjaaGreatDoor.judgeSound
