/-
  baileenum.Kept: the marked copy still stands as it stood.
-/
import Derived.Test.YtbohmnblegljkaaNum
import Derived.BigQuiet
namespace Go.Proofs.Ytbohmnblegljkaa
open Go.RowKit Go.Bl
set_option linter.unusedVariables false


theorem quiet_str {P : Program} {o : Oper} {a : Act} {C : World → Prop} {K : Act → Prop} {s d : TypeId} {v : Value} (x : Operand) (h : o.op = .convert s d x) (hr : ∀ w, C w → (convert s d (a.eval x)).run P w = .ok v w) (hk : K (a.put o.dst v)) : o.quiet P a C K :=
  ⟨v, fun w hw => by
    unfold Oper.quietAt execOp
    simp only [h, Sem.run_bind, hr w hw, Result.andThen_ok, Sem.run_pure]
    first | exact ⟨rfl, rfl⟩ | exact ⟨rfl, hw⟩ | trivial, hk⟩

set_option maxRecDepth 100000 in
set_option maxHeartbeats 2000000 in
theorem kept_any (A : Nat → Prop) (base : Nat) (w : World) (u v : Value) (xs : List UInt8) (hm : Mk base w u xs) (hb : Bs A w v xs) (hx : xs.length ≤ 1000000) :
    Calls Try.prog 11 #[u, v] w fun e w' => e = .returned (.bool true) ∧ Fr [] w w' := by
  have HU := Lib.hid (hm.bs (A := fun _ => False) (fun _ h => h.elim))
  have HV := Lib.hid hb
  obtain ⟨ad, c2, rfl, g2, g3, -⟩ := id hb
  obtain ⟨g, cp, cur, rfl, q2, q3, q4, q5, q6, q7⟩ := id hm
  have HC : Hid (∀ k, k < 6 → w.cell? ⟨g, xs.length + k, none⟩ = some (.int .u8 (201 + k))) := Lib.hid fun k hk => by
    have : (cur.toList.take (xs.length + 6))[xs.length + k]? = ((xs ++ marks).map u8v)[xs.length + k]? := by rw [q7]
    rw [List.getElem?_take, if_pos (by omega), List.map_append, List.getElem?_append_right (by simp)] at this
    rw [cell_of q3]
    simp only [List.length_map, Nat.add_sub_cancel_left] at this
    rw [Array.getElem?_toList] at this
    rw [this]
    have : k = 0 ∨ k = 1 ∨ k = 2 ∨ k = 3 ∨ k = 4 ∨ k = 5 := by omega
    rcases this with rfl | rfl | rfl | rfl | rfl | rfl <;> rfl
  obtain ⟨N, hN⟩ : ∃ N, xs.length = N := ⟨_, rfl⟩
  rw [hN] at HU HV HC hx q4 g2
  rw [hN]
  unfold maxLen at g3 q5
  have HG := Lib.hid q3
  have hd : decide ((cp : Int) < (N : Int) + 6) = false := by simp; omega
  clear hb hm q2 q3 q6 q7 hN
  go_enter Try.func11, Try.ntmps11
  go_wp2_with fail
  refine wp_region_calm w (by kernel_rfl) (by kernel_rfl) (Fr.refl _ _) ?_
  repeat (go_big_quiet_step (fail))
  refine BigFrame.wpQuiet_want rfl fun K hK => ?_
  refine quiet_str (.tmp 21) rfl (v := .string ⟨xs.toArray⟩) ?_ (hK _ ?_)
  · rintro _ ⟨y, rfl⟩
    exact run_str_bs Try.underlying22 Try.underlying5 Try.underlying9 (HU.out.keep y.fr (by simp))
  simp only [Act.put, List.setIfInBounds_toArray, List.set_cons_succ, List.set_cons_zero]
  repeat (go_big_quiet_step (fail))
  refine BigFrame.wpQuiet_want rfl fun K hK => ?_
  refine quiet_str (.tmp 23) rfl (v := .string ⟨xs.toArray⟩) ?_ (hK _ ?_)
  · rintro _ ⟨y, rfl⟩
    exact run_str_bs Try.underlying22 Try.underlying5 Try.underlying9 (HV.out.keep y.fr (by simp))
  simp only [Act.put, List.setIfInBounds_toArray, List.set_cons_succ, List.set_cons_zero]
  repeat (go_big_quiet_step (fail))
  refine wpQuiet_nil ?_
  rintro _ ⟨wq, rfl⟩
  have HC2 : Hid (∀ k, k < 6 → wq.w.cell? ⟨g, N + k, none⟩ = some (.int .u8 (201 + k))) := Lib.hid fun k hk => by
    have := HC.out k hk
    have h1 : At wq.w g (.cells cur 5) := HG.out.keep0 wq.fr
    rw [cell_of h1]
    rw [cell_of HG.out] at this
    exact this
  have HF := Lib.hid wq.fr
  generalize wq.w = w1 at HC2 HF ⊢
  clear HC HV HU HG hd
  go_wp2
  go_loopw [6] (fun v wr => ∃ k : Nat, k ≤ 6 ∧ v = .int .i64 k ∧ wr = w1) (fun v _ => (6 - intOf v).toNat)
  case atStart => exact ⟨0, by omega, rfl, rfl⟩
  case round =>
    obtain ⟨k, hk, rfl, rfl⟩ := hrel
    by_cases h6 : k < 6
    · have q0 := HC2.out k h6
      go_wp2
      go_roundw
      case rel => exact ⟨k + 1, by omega, by simp, trivial⟩
      case measure => simp [intOf]; omega
    · go_wp2
      go_ret
      exact ⟨rfl, HF.out⟩
end Go.Proofs.Ytbohmnblegljkaa
