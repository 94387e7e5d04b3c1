/-
  PROVED: baileelaw35.LinesLetters returns true for every letter, act and result, and leaves its arguments as they were. Conditions: the listed package-level tables (powers of ten, words of kinds) read as listed; the card ties that to the program's text.
-/
import Derived.Test.YtmohiblgfmdkjaaDoorLll
import Derived.Test.YtmohiblgfmdkjaaDoorOpT
import Derived.Test.YtmohiblgfmdkjaaDoorLdw
import Derived.Test.YtmohiblgfmdkjaaDoorHD
import Derived.Test.YtmohiblgfmdkjaaDoorCards
import Derived.Test.YtmohiblgfmdkjaaDoorTie
namespace Go.Proofs.YtmohiblgfmdkjaaDoor.linesLetters
open Go.ChangeShapes Go.WideShapes Go.ChangeAt Go.RowKit Go.Bl
set_option linter.unusedVariables false

theorem door_met (os : Os) (args : Array Value) : laidMetH Tryd.prog Rows.linesLettersRow.laid ((World.doorLaid Tryd.prog 177 os).forCall (fun _ _ => 0) ⟨#[], args, []⟩).memory :=
  laidMetH_of_parts3 (fuel := 8) (laidMet_of_run' 8 (by kernel_rfl) (by kernel_rfl)) (by kernel_rfl) (by kernel_rfl)
theorem reads (os : Os) {H : Type} (enc : TypeId × Value → H) : ∃ places, DataW.whole enc Tryd.prog ((World.doorLaid Tryd.prog 177 os).forCall (fun _ _ => 0) ⟨#[], #[.agg #[.int .i64 0, .int .i64 0, .int .i64 0, .slice none 0 0, .slice none 0 0, .int .i64 0, .int .i64 0, .slice none 0 0, .int .i64 0], .agg #[.int .i64 0, .int .i64 0, .int .i64 0, .int .i64 0, .int .i64 0, .string ⟨#[]⟩, .slice none 0 0, .int .i64 0, .int .i64 0, .int .i64 0, .int .i64 0, .int .i64 0, .int .i64 0, .int .i64 0, .int .i64 0, .int .u64 0], .agg #[.int .i64 0, .int .i64 0]], []⟩).memory Tryd.f4.params.toList Rows.linesLettersSpec.vars false (#[.agg #[.int .i64 0, .int .i64 0, .int .i64 0, .slice none 0 0, .slice none 0 0, .int .i64 0, .int .i64 0, .slice none 0 0, .int .i64 0], .agg #[.int .i64 0, .int .i64 0, .int .i64 0, .int .i64 0, .int .i64 0, .string ⟨#[]⟩, .slice none 0 0, .int .i64 0, .int .i64 0, .int .i64 0, .int .i64 0, .int .i64 0, .int .i64 0, .int .i64 0, .int .i64 0, .int .u64 0], .agg #[.int .i64 0, .int .i64 0]] : Array Value).toList 8 = some ([.agg [.lit (.int .i64 0), .lit (.int .i64 0), .lit (.int .i64 0), .nil, .nil, .lit (.int .i64 0), .lit (.int .i64 0), .nil, .lit (.int .i64 0)], .agg [.lit (.int .i64 0), .lit (.int .i64 0), .lit (.int .i64 0), .lit (.int .i64 0), .lit (.int .i64 0), .lit (.string []), .nil, .agg [.lit (.int .i64 0), .lit (.int .i64 0), .lit (.int .i64 0), .lit (.int .i64 0), .lit (.int .i64 0), .lit (.int .i64 0)], .agg [.lit (.int .i64 0), .lit (.int .i64 0), .lit (.int .u64 0)]], .agg [.lit (.int .i64 0), .lit (.int .i64 0)]], [], places) :=
  ⟨[], by kernel_rfl⟩

set_option maxRecDepth 100000 in
theorem contract (H : Type) (enc : TypeId × Value → H) (W : World) (base : Nat) (args : Array Value) (ds gs : List (DataW H)) (before : List MemPlace)
    (hval : ∀ (j : Nat) t v, Tryd.f4.params[j]? = some t → args[j]? = some v → Value.okWide Tryd.prog W .any base t v)
    (hW : DataW.Whole enc Tryd.prog Tryd.f4.params.toList Rows.linesLettersSpec.vars false W args.toList ds gs before) (hL : laidMetH Tryd.prog Rows.linesLettersRow.laid W) :
    Calls Tryd.prog 4 args W fun e W' => ∃ v, e = .returned v ∧ Rows.linesLettersSpec.post enc Tryd.prog Tryd.f4 false true false false W args v W' := by
  have hW' := hW
  obtain ⟨p, q, hA0, hV, rfl, hfz, hnd⟩ := hW
  have hA : DataW.TrodAll enc Tryd.prog W 0 (fun _ => true) true Tryd.f4.params.toList args.toList ds p := hA0
  rw [Tryd.params4] at hA hval
  obtain ⟨v0, vs0, d0, ds0, p0, q_0, hargs, rfl, rfl, h0, r0⟩ := trodAll_cons hA
  obtain ⟨v1, vs1, d1, ds1, p1, q_1, rfl, rfl, rfl, h1, r1⟩ := trodAll_cons r0
  obtain ⟨v2, vs2, d2, ds2, p2, q_2, rfl, rfl, rfl, h2, r2⟩ := trodAll_cons r1
  obtain ⟨rfl, rfl, rfl⟩ := trodAll_nil r2
  obtain rfl : args = #[v0, v1, v2] := by cases args; simp_all
  obtain ⟨rfl, rfl⟩ := trodVars_none hV
  obtain ⟨kd0, id0, ob0, fr0, co0, cd0, pa0, sa0, ba0, PN0, pc0, SN0, sc0, BN0, bc0, ps0, l0, bl0, B0⟩ := open_letter (hval 0 40 v0 rfl rfl) h0
  obtain ⟨A1, ak1, e1, L1, Z1, B1⟩ := open_actk (hval 1 47 v1 rfl rfl) h1
  subst e1
  obtain ⟨a2, b2, e2, B2, C2⟩ := open_result (hval 2 49 v2 rfl rfl) h2
  subst e2
  rw [MakeChecks.laidMetH_plain _ _ _ (by kernel_rfl)] at hL

  have walk : Calls Tryd.prog 4 #[v0, .agg A1.toArray, .agg #[.int .i64 a2, .int .i64 b2]] W fun e w' => e = .returned (.bool true) ∧ Fr [] W w' := by
    have e0 := B0.eq
    subst e0
    obtain ⟨ps, hv, -, -⟩ := hL
    obtain ⟨q1, h1v⟩ := skip_var hv
    obtain ⟨q2, h2v⟩ := skip_var h1v
    obtain ⟨hT, q3, h3v⟩ := tab_var (t := 224) (e := 43) (n := 20) h2v (by kernel_rfl) (by kernel_rfl) (by kernel_rfl) (by kernel_rfl) (by kernel_rfl) (by kernel_rfl) (by kernel_rfl)
    obtain ⟨hW1, q4, h4v⟩ := words_var (t := 138) (e := 9) (n := 8) (g := 3) (l0 := []) (ls := lWords) h3v (by kernel_rfl) (by kernel_rfl) (by kernel_rfl) (by kernel_rfl) (by kernel_rfl) (by kernel_rfl) (by kernel_rfl)
    obtain ⟨hW2, q5, h5v⟩ := words_var (t := 140) (e := 9) (n := 14) (g := 4) (l0 := []) (ls := wWords) h4v (by kernel_rfl) (by kernel_rfl) (by kernel_rfl) (by kernel_rfl) (by kernel_rfl) (by kernel_rfl) (by kernel_rfl)
    exact lll_any W kd0 id0 ob0 fr0 co0 cd0 pa0 sa0 ba0 PN0 pc0 SN0 sc0 BN0 bc0 ps0 l0 bl0 A1 ak1 a2 b2 hT hW1 hW2 B0.fps B0.pl B0.pb B0.sh B0.sl B0.sd B0.fbl B0.bn B0.pm B0.sm B0.bm B0.ik B0.ii B0.io B0.ifr B0.ico B0.icd L1 Z1 B1 B2 C2
  refine walk.mono fun e W' ⟨he, hf⟩ => ?_
  subst he
  exact ⟨_, rfl, law_post hW' rfl rfl rfl rfl rfl (by
    rw [Tryd.params4]
    intro t ht
    simp only [List.mem_cons, List.not_mem_nil, or_false] at ht
    rcases ht with rfl | rfl | rfl
    all_goals exact ⟨by kernel_rfl, of_decide_eq_true (by kernel_rfl)⟩) hf⟩

set_option maxRecDepth 100000 in
theorem lifted (os : Os) (started : os.Started) (H : Type) (enc : TypeId × Value → H) (F : Stop.Interp) :
    ReturnsInHanded {} Tryd.checked os 4 .any ((OpenSpec.ofChange Rows.linesLettersSpec).preRow enc Tryd.prog Tryd.f4 Rows.linesLettersRow.domain false Rows.linesLettersRow.laid) (((OpenSpec.ofChange Rows.linesLettersSpec).at F).post enc Tryd.prog Tryd.f4 false true false false) := by
  obtain ⟨places, hx⟩ := reads os enc
  refine returnsInHanded_of_row (C := Tryd.checked) (s := OpenSpec.ofChange Rows.linesLettersSpec) Tryd.own started (by kernel_rfl) Tryd.func4
    ⟨World.doorLaid Tryd.prog 177 os, fun _ _ => 0, ⟨#[], #[.agg #[.int .i64 0, .int .i64 0, .int .i64 0, .slice none 0 0, .slice none 0 0, .int .i64 0, .int .i64 0, .slice none 0 0, .int .i64 0], .agg #[.int .i64 0, .int .i64 0, .int .i64 0, .int .i64 0, .int .i64 0, .string ⟨#[]⟩, .slice none 0 0, .int .i64 0, .int .i64 0, .int .i64 0, .int .i64 0, .int .i64 0, .int .i64 0, .int .i64 0, .int .i64 0, .int .u64 0], .agg #[.int .i64 0, .int .i64 0]], []⟩, rfl, World.shaped_of_RefB (by kernel_rfl) (by kernel_rfl), rfl, (Input.okWide_of_okWideB (by kernel_rfl)).2,
      OpenSpec.preRow_of_cond 8 hx (by kernel_rfl) (fun k hk => by cases hk) (by kernel_rfl) (door_met os _), by simp [Assume.holds]⟩ ?_
  intro W base args ds gs before hval hW _ _ hZ hL _ _
  exact contract H enc W base args ds gs before hval hW hL

theorem said : Rows.LinesLettersSaid :=
  OpenClaim.holds_of_cond 4 Tryd.f4 rfl rfl rfl rfl rfl rfl rfl ⟨rfl, rfl, rfl, rfl, rfl⟩ rfl rfl rfl rfl rfl (by kernel_rfl) Tryd.func4 (by kernel_rfl)
    (of_decide_eq_true (by kernel_rfl)) (by unfold Func.isWrapper; first | (rw [if_pos (by decide +kernel)]; kernel_rfl) | (rw [if_neg (by decide +kernel)]; exact ⟨rfl, rfl⟩))
    (fun os started H enc _ F => by rw [OpenClaim.pre_eq_preRow]; exact lifted os started H enc F)

theorem plain (f : FuncId) (fn : Func) (hf : Tryd.pinned.checked.prog.funcNamed "bailee/baileelaw35.LinesLetters" = some f) (hfn : Tryd.pinned.checked.prog.funcs[f]? = some fn) :
    true = Tryd.pinned.checked.prog.looks [] ∧ ∀ (j : Nat) t, fn.params[j]? = some t → Tryd.pinned.checked.prog.wantsStandIn t = false := by
  obtain rfl : f = 4 := Option.some.inj ((show Tryd.prog.funcNamed "bailee/baileelaw35.LinesLetters" = some 4 by kernel_rfl).symm.trans hf) |>.symm
  obtain rfl : fn = Tryd.f4 := (Option.some.inj (Tryd.func4.symm.trans hfn)).symm
  refine ⟨by kernel_rfl, fun j t ht => ?_⟩
  have hc : (Tryd.f4.params.toList.all fun t => !Tryd.prog.wantsStandIn t) = true := by kernel_rfl
  have h := List.all_eq_true.1 hc t (Array.mem_toList_iff.2 (Array.mem_of_getElem? ht))
  exact (by simpa using h : Tryd.prog.wantsStandIn t = false)

theorem card : Rows.LinesLettersCardSaid :=
  Claim7.holds_tied_plain_at .later [] _ _ _ _ said (fun _ h => by cases h) (by kernel_rfl) (fun _ h => by cases h) linesLetters_row_tie rfl ⟨rfl, rfl⟩ (by kernel_rfl) rfl plain (by kernel_rfl)
end Go.Proofs.YtmohiblgfmdkjaaDoor.linesLetters
