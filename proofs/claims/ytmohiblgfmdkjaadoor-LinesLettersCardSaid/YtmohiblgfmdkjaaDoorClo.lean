/-
  slices.Clone of bytes.
-/
import Derived.Test.YtmohiblgfmdkjaaDoorRows
import Derived.Test.YtmohiblgfmdkjaaDoorGA
import Derived.ProofKit
import Derived.Deep.QuietTactic
import Derived.BigQuiet
import Derived.WalkLawsBesides
import Derived.WalkSpells
namespace Go.Proofs.YtmohiblgfmdkjaaDoor
open Go.RowKit Go.Bl
set_option linter.unusedVariables false

theorem Tryd.infoByte : (Tryd.prog.info? 5).map (fun i => (i.zero, i.size, i.bytes)) = some (some (.int .u8 0), 1, 1) := by kernel_rfl

set_option maxHeartbeats 400000 in
theorem clone_any (A : Nat → Prop) (w : World) (v : Value) (xs : List UInt8) (hb : Bs A w v xs) (hl : xs.length ≤ 140737488351232) :
   Calls Tryd.prog 50 #[v] w fun e w' => ∃ v', e = .returned v' ∧ OwnB 5 w.heap.size w' v' xs ∧ Fr [] w w' := by
  obtain ⟨a, cap, rfl, h2, h3, h4⟩ := hb
  cases a with
  | none =>
    have hx : xs = [] := by
      rcases h4 with h | ⟨b, off, c, e, fz, h, _⟩
      · simpa using h
      · cases h
    subst hx
    have hn : ∀ w, (binOp .eql 22 (.slice none 0 cap) (.slice none 0 0)).run Tryd.prog w = .ok (.bool true) w := fun w => @Lib.run_eql_slice_nil Tryd.prog w 22 5 none 0 cap 0 0 Tryd.underlying22
    go_enter Tryd.func50, Tryd.ntmps50
    go_wp2
    go_ret
    exact ⟨_, rfl, OwnB.nil _ _ _, Fr.refl _ _⟩
  | some ad =>
    have hn : ∀ w, (binOp .eql 22 (.slice (some ad) xs.length cap) (.slice none 0 0)).run Tryd.prog w = .ok (.bool false) w := fun w => @Lib.run_eql_slice_nil Tryd.prog w 22 5 (some ad) _ cap 0 0 Tryd.underlying22
    have h0 := OwnB.empty 5 w.heap.size w (Nat.le_refl _)
    go_enter Tryd.func50, Tryd.ntmps50
    go_wp2_with (at_builtin; refine wpl_append_bs (A := A) (ys := xs) (base := w.heap.size) Tryd.underlying22 Tryd.infoByte rfl (.tmp 5) (.tmp 6) rfl rfl rfl h0 (Bs.keep ⟨some ad, cap, rfl, h2, h3, h4⟩ (Fr.alloc (S := []) _ _) (by simp)) ?hl ?hb ?_)
    case hl => simp; omega
    case hb => simp
    intro v' w' h5 h6
    go_wp2
    go_ret
    exact ⟨_, rfl, h5, h0.fr (Fr.alloc _ _) h6 (Nat.le_refl _)⟩

end Go.Proofs.YtmohiblgfmdkjaaDoor
