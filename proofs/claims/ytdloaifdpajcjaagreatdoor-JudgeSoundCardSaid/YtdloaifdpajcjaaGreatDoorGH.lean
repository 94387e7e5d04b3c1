import Derived.Test.YtdloaifdpajcjaaGreatDoorGA
import Derived.Test.YtdloaifdpajcjaaGreatDoorRows
import Derived.ProofKit
import Derived.WalkLawsBesides
import Derived.WalkSpells
set_option linter.unusedVariables false
set_option linter.unusedSimpArgs false
set_option maxRecDepth 1000000
set_option maxHeartbeats 8000000
namespace Go.Proofs.YtdloaifdpajcjaaGreatDoor
open Go.RowKit Go.Bl
def RdB (A : Nat -> Prop) (w : World) (v : Value) (ls : List (Value × List UInt8)) : Prop := Vs A w v (ls.map (·.1)) /\ ∀ x ∈ ls, Bs A w x.1 x.2
theorem RdB.keep {A : Nat -> Prop} {w w' : World} {S : List Nat} {v : Value} {ls : List (Value × List UInt8)} (h : RdB A w v ls) (hf : Fr S w w') (hS : ∀ b ∈ S, A b) : RdB A w' v ls := by
 obtain ⟨⟨a, cap, h1, h2, h3, h4⟩, h5⟩ := h
 exact ⟨⟨a, cap, h1, h2, h3, h4.keep hf hS⟩, fun x hx => (h5 x hx).keep hf hS⟩
theorem JR {A : Nat -> Prop} {w : World} {v : Value} {ls : List (Value × List UInt8)} (h : RdB A w v ls) : ∃ a cap, v = .slice a ls.length cap /\ ls.length <= cap /\ cap <= maxLen := by
 obtain ⟨⟨a, cap, h1, h2, h3, h4⟩, -⟩ := h
 rw [List.length_map] at h1 h2
 exact ⟨a, cap, h1, h2, h3⟩
theorem W7 {A : Nat -> Prop} {w : World} {a : Option Addr} {n cap : Nat} {ls : List (Value × List UInt8)} (h : RdB A w (.slice a n cap) ls) (j : Nat) (x : Value × List UInt8) (hx : ls[j]? = some x) :
  ∃ b off, a = some ⟨b, off, none⟩ /\ w.cell? ⟨b, off + j, none⟩ = some x.1 /\ Bs A w x.1 x.2 := by
 obtain ⟨⟨a', cap', e, h2, h3, h4⟩, h5⟩ := h
 cases e
 have hj : j < ls.length := (List.getElem?_eq_some_iff.1 hx).1
 obtain ⟨b, off, rfl, -, hc⟩ := h4.some_of Y57
 refine ⟨b, off, rfl, ?_, h5 x (List.mem_of_getElem? hx)⟩
 rw [hc j Y74, List.getElem?_map, hx]
 rfl
theorem ub {e te : TypeId} {base size n : Nat} {w : World} {v : Value} {xs : List Value} (h : w.ownsRow base e size v n xs) {b : Nat} {c : Array Value} {fz : Nat × Nat} (hb : w.heap[b]? = some (.cells c te fz)) (hne : te ≠ e) : v.ownBlock ≠ some b := by
 intro hg
 rcases h.2 with ⟨rfl, -⟩ | ⟨g, cap, cur, rfl, hbg, hh, -⟩
 ·simp [Value.ownBlock] at hg
 ·simp [Value.ownBlock] at hg
  subst hg
  have := hh.symm.trans hb
  simp at this
  exact hne this.2.1.symm
def BsT (w : World) (v : Value) (xs : List UInt8) : Prop :=
 ∃ b off cap c, v = .slice (some ⟨b, off, none⟩) xs.length cap /\ xs.length <= cap /\ cap <= maxLen /\ At w b (.cells c 5) /\ ∀ i, i < (xs.map u8v).length -> c[off + i]? = (xs.map u8v)[i]?
theorem BsT.bs {A : Nat -> Prop} {w : World} {v : Value} {xs : List UInt8} (h : BsT w v xs) (hA : ∀ b, ¬ A b) : Bs A w v xs := by
 obtain ⟨b, off, cap, c, rfl, h1, h2, h3, h4⟩ := h
 exact ⟨_, cap, rfl, h1, h2, .inr ⟨b, off, c, 5, (0, 0), rfl, hA b, h3, h4⟩⟩
theorem BsT.keep0 {w w' : World} {v : Value} {xs : List UInt8} (h : BsT w v xs) (hf : Fr [] w w') : BsT w' v xs := by
 obtain ⟨b, off, cap, c, rfl, h1, h2, h3, h4⟩ := h
 exact ⟨b, off, cap, c, rfl, h1, h2, h3.keep0 hf, h4⟩
theorem BsT.grown {w w' : World} {v o : Value} {xs : List UInt8} {base : Nat} {us : List Value} (h : BsT w v xs) (ho : ja 22 base w o us) (hg : w.grownBy w' o.ownBlock) : BsT w' v xs := by
 obtain ⟨b, off, cap, c, rfl, h1, h2, h3, h4⟩ := h
 exact ⟨b, off, cap, c, rfl, h1, h2, h3.grown hg (ub ho h3 Y86), h4⟩
theorem BsT.shape {w : World} {v : Value} {xs : List UInt8} (h : BsT w v xs) : ∃ b off cap, v = .slice (some ⟨b, off, none⟩) xs.length cap := by
 obtain ⟨b, off, cap, c, rfl, -⟩ := h
 exact ⟨b, off, cap, rfl⟩
theorem Tryz.infoByte : (Tryz.prog.info? 5).map (fun i => (i.zero, i.size, i.bytes)) = some (some (.int .u8 0), 1, 1) := by kernel_rfl
theorem clone_any (A : Nat -> Prop) (w : World) (v : Value) (xs : List UInt8) (hb : Bs A w v xs) (hl : xs.length <= 140737488351232) :
   Calls Tryz.prog 107 #[v] w fun e w' => ∃ v', e = .returned v' /\ qt 5 w.heap.size w' v' xs /\ Fr [] w w' := by
  obtain ⟨a, cap, rfl, h2, h3, h4⟩ := hb
  cases a with
  | none =>
    have hx : xs = [] := by
      rcases h4 with h | ⟨b, off, c, e, fz, h, _⟩
      · simpa using h
      · cases h
    subst hx
    have hn : ∀ w, (binOp .eql 22 (.slice none 0 cap) (.slice none 0 0)).run Tryz.prog w = .ok (.bool true) w := fun w => @Lib.run_eql_slice_nil Tryz.prog w 22 5 none 0 cap 0 0 Tryz.underlying22
    go_enter Tryz.func107, Tryz.ntmps107
    go_wp2
    go_ret
    exact ⟨_, rfl, qt.nil _ _ _, Fr.refl _ _⟩
  | some ad =>
    have hn : ∀ w, (binOp .eql 22 (.slice (some ad) xs.length cap) (.slice none 0 0)).run Tryz.prog w = .ok (.bool false) w := fun w => @Lib.run_eql_slice_nil Tryz.prog w 22 5 (some ad) _ cap 0 0 Tryz.underlying22
    have h0 := qt.empty 5 w.heap.size w (Nat.le_refl _)
    go_enter Tryz.func107, Tryz.ntmps107
    go_wp2_with (at_builtin; refine qd (A := A) (ys := xs) (base := w.heap.size) Tryz.underlying22 Tryz.infoByte rfl (.tmp 5) (.tmp 6) rfl rfl rfl h0 (Bs.keep ⟨some ad, cap, rfl, h2, h3, h4⟩ (Fr.alloc (S := []) _ _) Y85) ?hl ?hb ?_)
    case hl => simp; omega
    case hb => simp
    intro v' w' h5 h6
    go_wp2
    go_ret
    exact ⟨_, rfl, h5, h0.fr (Fr.alloc _ _) h6 (Nat.le_refl _)⟩
end Go.Proofs.YtdloaifdpajcjaaGreatDoor
namespace Go.Bl
open Go.RowKit
theorem qaM {P : Program} {w : World} {ops : Array Oper} {rest : List Oper} {o : Oper} {a : Act} {Q : Exit -> Act -> World -> Prop} {t : TypeId} (x : Operand) (ho : o.op = .box t x) (hgd : o.guard = none) (c : Array Value) (hx : a.eval x = .agg c)
  (h : wpList P ops Q rest (a.put o.dst (.pointer (some ⟨w.heap.size, 0, none⟩))) (w.alloc (.cells c t))) : wpList P ops Q (o :: rest) a w := by
 refine wpList_plain hgd fun K hK => ?_
 unfold Oper.wp execOp
 simp only [ho, hx]
 simp [Instr.box, newVar, go_sem, Value.cells]
 exact hK _ _ h
end Go.Bl
