/-
  slices.Clone of bytes.
  append of one integer onto a row of one's own, with the place of the new row.
-/
import Derived.Test.YtmohiblgfmdkjaaDoorRows
import Derived.Test.YtmohiblgfmdkjaaDoorGA
import Derived.ProofKit
import Derived.Deep.QuietTactic
import Derived.BigQuiet
import Derived.WalkLawsBesides
import Derived.WalkSpells
import Derived.Maps.AppendAt
namespace Go.Proofs.YtmohiblgfmdkjaaDoor
open Go.RowKit Go.Bl
set_option linter.unusedVariables false

theorem Tryd.infoByte : (Tryd.prog.info? 5).map (fun i => (i.zero, i.size, i.bytes)) = some (some (.int .u8 0), 1, 1) := by kernel_rfl

set_option maxHeartbeats 400000 in
theorem clone_any (A : Nat → Prop) (w : World) (v : Value) (xs : List UInt8) (hb : Bs A w v xs) (hl : xs.length ≤ 140737488351232) :
   Calls Tryd.prog 50 #[v] w fun e w' => ∃ v', e = .returned v' ∧ OwnB 5 w.heap.size w' v' xs ∧ Fr [] w w' := by
  obtain ⟨a, cap, rfl, h2, h3, h4⟩ := hb
  cases a with
  | none =>
    have hx : xs = [] := by
      rcases h4 with h | ⟨b, off, c, e, fz, h, _⟩
      · simpa using h
      · cases h
    subst hx
    have hn : ∀ w, (binOp .eql 22 (.slice none 0 cap) (.slice none 0 0)).run Tryd.prog w = .ok (.bool true) w := fun w => @Lib.run_eql_slice_nil Tryd.prog w 22 5 none 0 cap 0 0 Tryd.underlying22
    go_enter Tryd.func50, Tryd.ntmps50
    go_wp2
    go_ret
    exact ⟨_, rfl, OwnB.nil _ _ _, Fr.refl _ _⟩
  | some ad =>
    have hn : ∀ w, (binOp .eql 22 (.slice (some ad) xs.length cap) (.slice none 0 0)).run Tryd.prog w = .ok (.bool false) w := fun w => @Lib.run_eql_slice_nil Tryd.prog w 22 5 (some ad) _ cap 0 0 Tryd.underlying22
    have h0 := OwnB.empty 5 w.heap.size w (Nat.le_refl _)
    go_enter Tryd.func50, Tryd.ntmps50
    go_wp2_with (at_builtin; refine wpl_append_bs (A := A) (ys := xs) (base := w.heap.size) Tryd.underlying22 Tryd.infoByte rfl (.tmp 5) (.tmp 6) rfl rfl rfl h0 (Bs.keep ⟨some ad, cap, rfl, h2, h3, h4⟩ (Fr.alloc (S := []) _ _) (by simp)) ?hl ?hb ?_)
    case hl => simp; omega
    case hb => simp
    intro v' w' h5 h6
    go_wp2
    go_ret
    exact ⟨_, rfl, h5, h0.fr (Fr.alloc _ _) h6 (Nat.le_refl _)⟩

end Go.Proofs.YtmohiblgfmdkjaaDoor
namespace Go.Bl
open Go.RowKit
set_option linter.unusedVariables false
theorem wpl_append_nA {P : Program} {w : World} {ops : Array Oper} {rest : List Oper} {o : Oper} {a : Act} {Q : Exit → Act → World → Prop} {t e : TypeId}
    (ht : P.underlying t = some (.slice e)) (hinfo : (P.info? e).map (fun i => (i.zero, i.size, i.bytes)) = some (some (.int .i64 0), 1, 8)) (hgd : o.guard = none) (s x : Operand)
    (ho : o.op = .call { callee := .builtin .append, args := #[s, x], argTypes := #[t, t] })
    {base b : Nat} {v : Value} {n : Int} {xs : List Int} (hs : a.eval s = v) (hx : a.eval x = .slice (some ⟨b, 0, none⟩) 1 1) (hb : w.heap[b]? = some (.cells #[.int .i64 n] e (0, 0))) (hown : OwnI e base w v xs)
    (hlen : xs.length ≤ 17592186044414) (hbase : base ≤ w.heap.size)
    (h : ∀ v' w', OwnI e base w' v' (xs ++ [n]) → w.grownBy w' v.ownBlock → (v'.ownBlock = v.ownBlock ∨ v'.ownBlock = some w.heap.size) → wpList P ops Q rest (a.put o.dst v') w') : wpList P ops Q (o :: rest) a w := by
  refine wpList_plain hgd fun K hK => ?_
  obtain ⟨i, hi, hz, hsz, hby⟩ : ∃ i, P.info? e = some i ∧ i.zero = some (.int .i64 0) ∧ i.size = 1 ∧ i.bytes = 8 := by
    cases h : P.info? e with
    | none => simp [h] at hinfo
    | some i => simp [h] at hinfo; exact ⟨i, rfl, hinfo.1, hinfo.2.1, hinfo.2.2⟩
  obtain ⟨v', w', hr, h2, h3, -, h5⟩ := run_append_own_at (P := P) w base t o.type e i (.int .i64 0) 1 8 ht hi hz hsz hby rfl (by decide) v xs.length (xs.map iv) (by have h1 := hown.1; have h2 := hown; unfold OwnI OwnV at h2; simpa using h2) ⟨b, 0, none⟩ 1 1 [.int .i64 n] rfl (fun j u hj => by
    have hlt : j < 1 := by
      rcases Nat.lt_or_ge j 1 with h | h
      · exact h
      · rw [List.getElem?_eq_none (by simpa using h)] at hj; cases hj
    obtain rfl : j = 0 := by omega
    simp at hj
    subst hj
    have := cell_of hb 0
    simpa [Addr.add] using this) (fun u hu => by simp at hu; subst hu; rfl) (by simp [maxLen]; omega) (by omega) hbase
  unfold Oper.wp execOp
  simp only [ho, resolve, invoke, builtin, Sem.run_bind, Sem.run_pure, Result.andThen_ok, List.map_toArray, List.map_cons, List.map_nil, hs, hx, hr]
  refine hK _ _ (h v' w' ?_ h3 h5)
  unfold OwnI OwnV
  rw [List.map_append, List.length_append, List.length_map]
  exact h2
end Go.Bl
