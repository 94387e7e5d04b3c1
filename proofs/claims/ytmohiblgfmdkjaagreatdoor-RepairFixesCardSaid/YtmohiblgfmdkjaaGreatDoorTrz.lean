/-
  Layer 2: poly.Degree and poly.Trim, of empty ones too.
-/
import Derived.Test.YtmohiblgfmdkjaaGreatDoorTrm
import Derived.Test.YtmohiblgfmdkjaaGreatDoorGF
namespace Go.Proofs.YtmohiblgfmdkjaaGreatDoor
open Go.RowKit Go.Bl
set_option linter.unusedVariables false

theorem bwI_own {w : World} {base : Nat} {v : Value} {xs : List UInt8} (h : OwnB 5 base w v xs) : BwI w.heap.size w v xs := by
  obtain ⟨h1, h2⟩ := h
  rcases h2 with ⟨rfl, h2⟩ | ⟨g, cap, cur, rfl, hg, hh, hn, hm, hs, ht⟩
  · exact .inl ⟨rfl, by simpa using h2⟩
  · refine .inr ⟨g, 0, cap, rfl, lt_of_heap hh, fun j hj => ?_⟩
    have e : (cur.toList.take (xs.length * 1))[j]? = (xs.map u8v)[j]? := by rw [ht]
    rw [List.getElem?_take, if_pos (by omega), Array.getElem?_toList] at e
    rw [cell_of hh, Nat.zero_add, e]
    simp [List.getD_eq_getElem?_getD, hj, u8v]
theorem bwI_of_bs {A : Nat → Prop} {w : World} {v : Value} {xs : List UInt8} (h : Bs A w v xs) (hne : xs ≠ []) : BwI w.heap.size w v xs := by
  obtain ⟨a, cap, -, hI⟩ := bwI_of A w v xs h
  exact hI hne
theorem BwI.fr {w w' : World} {v : Value} {xs : List UInt8} (h : BwI w.heap.size w v xs) (hf : Fr [] w w') : BwI w'.heap.size w' v xs := by
  rcases h with h | ⟨b, off, cap, e, hb, hc⟩
  · exact .inl h
  · exact .inr ⟨b, off, cap, e, by have := hf.size; omega, fun j hj => cell_mono hf (hc j hj)⟩
theorem BwI.bs {w : World} {v : Value} {n : Nat} {xs : List UInt8} (h : BwI n w v xs) : ∃ a cap, v = .slice a xs.length cap := by
  rcases h with ⟨rfl, rfl⟩ | ⟨b, off, cap, e, -⟩
  · exact ⟨_, _, rfl⟩
  · exact ⟨_, _, e⟩
theorem degree_z (w : World) (v : Value) (zs : List UInt8) (hI : BwI w.heap.size w v zs) (hl : zs.length ≤ 1000000) :
    Calls Tryz.prog 46 #[v] w fun e w' => e = .returned (.int .i64 ((plen zs : Int) - 1)) ∧ Fr [] w w' := by
  obtain ⟨a, cap, rfl⟩ := hI.bs
  refine (callsIn_wide.1 (deg_in Fence.wide 3 trivial trivial trivial rfl (by omega) a zs.length cap zs hl w hI)).mono ?_
  rintro e w' ⟨rfl, h⟩
  exact ⟨rfl, Fr.of_below h⟩

set_option maxRecDepth 100000 in
set_option maxHeartbeats 2000000 in
theorem trim_z (A : Nat → Prop) (w : World) (v : Value) (zs : List UInt8) (hb : Bs A w v zs) (hI : BwI w.heap.size w v zs) (hl : zs.length ≤ 1000000) :
    Calls Tryz.prog 78 #[v] w fun e w' => ∃ u, e = .returned u ∧ OwnB 5 w.heap.size w' u (ptrim zs) ∧ Fr [] w w' := by
  have HB := Lib.hid hb
  have HD := Lib.hid (degree_z w v zs hI hl)
  have hpl := plen_le zs
  obtain ⟨a, cap, rfl, h2, h3, -⟩ := hb
  unfold maxLen at h3
  obtain ⟨m, hm⟩ : ∃ m, plen zs = m := ⟨_, rfl⟩
  obtain ⟨N, hN⟩ : ∃ N, zs.length = N := ⟨_, rfl⟩
  have HT := Lib.hid (show ptrim zs = zs.take m by unfold ptrim; rw [hm])
  rw [hm] at HD hpl
  rw [hN] at HD hpl hl h2 HB ⊢
  have HN := Lib.hid hN
  clear hm hN hI
  have hmm : (m : Int) - 1 + 1 = m := by omega
  go_enter Tryz.func78, Tryz.ntmps78
  go_wp2_with fail
  refine HD.out.mono ?_
  rintro e w1 ⟨rfl, hf⟩
  have HF := Lib.hid hf
  replace HB := Lib.hid (HB.out.keep hf (by simp))
  have i1 : m ≤ cap := by omega
  clear hf HD
  go_wp2_with fail
  have hcut := HB.out.take m hpl
  have hs1 := HF.out.size
  refine (clone_any A _ _ _ hcut (by simp; omega)).mono ?_
  rintro e w2 ⟨u, rfl, ho, hf⟩
  have HO := Lib.hid (ho.base hs1)
  have HF2 := Lib.hid (HF.out.trans hf)
  clear ho hf hcut
  go_wp2
  go_ret
  exact ⟨_, rfl, by rw [HT.out]; exact HO.out, HF2.out⟩
theorem trim_own (w : World) (base : Nat) (v : Value) (zs : List UInt8) (ho : OwnB 5 base w v zs) (hl : zs.length ≤ 1000000) :
    Calls Tryz.prog 78 #[v] w fun e w' => ∃ u, e = .returned u ∧ OwnB 5 w.heap.size w' u (ptrim zs) ∧ Fr [] w w' :=
  trim_z (fun _ => False) w v zs (ho.bs (by simp)) (bwI_own ho) hl
end Go.Proofs.YtmohiblgfmdkjaaGreatDoor
