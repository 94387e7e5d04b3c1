/-
  The document's layer 6: baileeref06.Pad.
-/
import Derived.Test.YtenjpnhccnmnpaaDoorClo
import Derived.Test.YtenjpnhccnmnpaaDoorGC
namespace Go.Proofs.YtenjpnhccnmnpaaDoor
open Go.RowKit Go.Bl
set_option linter.unusedVariables false

theorem bs_lit1 (A : Nat → Prop) (w : World) (c : UInt8) (e : TypeId) (hA : ¬ A w.heap.size) : Bs A (w.alloc (.cells #[.int .u8 (c.toNat : Int)] e)) (.slice (some ⟨w.heap.size, 0, none⟩) 1 1) [c] :=
  ⟨some ⟨w.heap.size, 0, none⟩, 1, rfl, Nat.le_refl _, by simp [maxLen], Row.of_block (c := #[.int .u8 (c.toNat : Int)]) (heap_alloc_at rfl) hA⟩

set_option maxRecDepth 100000 in
set_option maxHeartbeats 2000000 in
theorem rpad_any (w : World) (v : Value) (xs : List UInt8) (hb : Bs (fun _ => False) w v xs) (hl : xs.length ≤ 100000) :
    Calls Tryd.prog 14 #[v] w fun e w' => ∃ u, e = .returned u ∧ OwnB 5 w.heap.size w' u (padL xs) ∧ Fr [] w w' := by
  have HB := Lib.hid hb
  obtain ⟨a, cap, rfl, k2, k3, -⟩ := hb
  unfold maxLen at k3
  obtain ⟨N, hN⟩ : ∃ N, xs.length = N := ⟨_, rfl⟩
  rw [hN] at HB k2 hl ⊢
  have HN := Lib.hid hN
  clear hN
  obtain ⟨B, hB⟩ : ∃ B, w.heap.size = B := ⟨_, rfl⟩
  have HBB := Lib.hid hB
  have HE := Lib.hid (show OwnB 5 B (w.alloc (.cells #[] 5)) (.slice (some ⟨B, 0, none⟩) 0 0) [] by
    have h := OwnB.empty 5 B w (by omega)
    rwa [hB] at h)
  have HBa := Lib.hid (show Bs (fun _ => False) (w.alloc (.cells #[] 5)) (.slice a N cap) xs from HB.out.keep (Fr.alloc (S := []) _ _) (by simp))
  have hbs : B ≤ (w.alloc (.cells #[] 5)).heap.size := by simp; omega
  go_enter Tryd.func14, Tryd.ntmps14
  go_wp2_with (at_builtin; refine wpl_append_bs (A := fun _ => False) (ys := xs) (base := B) Tryd.underlying22 Tryd.infoByte rfl (.tmp 4) (.tmp 5) rfl rfl rfl HE.out HBa.out (by simp; have := HN.out; omega) hbs ?_)
  intro v2 w2 ho2 hg2
  have HF2 := Lib.hid (show Fr [] w w2 from OwnB.fr HE.out (Fr.alloc _ _) hg2 (by omega))
  have HO2 := Lib.hid (show OwnB 5 B w2 v2 (xs ++ List.replicate 0 0) by simpa using ho2)
  have hs2 : B ≤ w2.heap.size := by have := hg2.size; omega
  obtain ⟨p, hp⟩ : ∃ p, padN N = p := ⟨_, rfl⟩
  have hp2 : (N = 0 → p = 8) ∧ (N ≠ 0 → p = (8 - N % 8) % 8) := by
    rw [← hp]; unfold padN; constructor <;> intro h <;> simp [h]
  have HP := Lib.hid hp
  clear ho2 hg2 HE HBa hbs hp
  go_wp2
  go_loopw [3] (fun o wr => ∃ i n : Nat, i ≤ p ∧ Hid (n = N + i) ∧ Hid (OwnB 5 B wr o (xs ++ List.replicate i 0)) ∧ B ≤ wr.heap.size ∧ (∃ a c, o = .slice a n c ∧ n ≤ c ∧ c ≤ maxLen) ∧ Hid (Fr [] w wr)) (fun o _ => 2000000 - (match o with | .slice _ n _ => n | _ => 0))
  case atStart =>
    refine ⟨0, N, by omega, Lib.hid rfl, HO2, hs2, ?_, HF2⟩
    obtain ⟨a', c', e, q1, q2, -⟩ := HO2.out.bs (A := fun _ => False) (by simp)
    have hl : (xs ++ List.replicate 0 (0 : UInt8)).length = N := by simp; exact HN.out
    rw [hl] at e q1
    exact ⟨a', c', e, q1, q2⟩
  case round =>
    clear HO2 HF2 hs2
    obtain ⟨i, n, hi, HNI, HO, hbw, ⟨a', c', rfl, hn1, hn2⟩, HF⟩ := hrel
    unfold maxLen at hn2
    have hnb : n ≤ 200000 := by have := HNI.out; omega
    have hlen : (xs ++ List.replicate i (0 : UInt8)).length = n := by have := HNI.out; have := HN.out; simp; omega
    have HLE := Lib.hid hlen
    clear hlen
    by_cases hip : i < p
    · have HOa := Lib.hid (show OwnB 5 B (wr.alloc (.cells #[.int .u8 0] 5)) (.slice a' n c') (xs ++ List.replicate i 0) from HO.out.keep (Fr.alloc (S := []) _ _) (by simp))
      have HLi := Lib.hid (show Bs (fun _ => False) (wr.alloc (.cells #[.int .u8 0] 5)) (.slice (some ⟨wr.heap.size, 0, none⟩) 1 1) [0] from bs_lit1 _ wr 0 5 (by simp))
      have hba : B ≤ (wr.alloc (.cells #[.int .u8 0] 5)).heap.size := by simp; omega
      have hfa := Lib.hid (show Fr [] w (wr.alloc (.cells #[.int .u8 0] 5)) from HF.out.al)
      have hc2 : n = 0 ∨ (n ≠ 0 ∧ ((n : Int) % 8 != 0) = true) := by
        rw [bne_iff_ne]
        have h1 := HNI.out
        rcases Nat.eq_zero_or_pos N with h0 | h0
        · have := hp2.1 h0; omega
        · have := hp2.2 (by omega); omega
      clear HO
      rcases hc2 with h0 | ⟨h0, hr⟩
      case inl => 
        obtain rfl : n = 0 := h0
        go_wp2_with (at_builtin; refine wpl_append_bs (A := fun _ => False) (ys := [0]) (base := B) Tryd.underlying22 Tryd.infoByte rfl (.tmp 16) (.tmp 17) rfl rfl rfl HOa.out HLi.out (by rw [HLE.out]; simp) hba ?_)
        intro v' w' h5 h6
        have HO5 := Lib.hid (show OwnB 5 B w' v' (xs ++ List.replicate (i + 1) 0) by rw [List.replicate_succ']; exact h5)
        have HF5 := Lib.hid (show Fr [] w w' from OwnB.fr HOa.out hfa.out h6 (by have := HBB.out; omega))
        have hb5 : B ≤ w'.heap.size := by have := h6.size; omega
        have hl5 : (xs ++ List.replicate (i + 1) (0 : UInt8)).length = 1 := by have := HNI.out; have := HN.out; simp; omega
        obtain ⟨a5, c5, e5, p5, p6, -⟩ := HO5.out.bs (A := fun _ => False) (by simp)
        rw [hl5] at e5 p5
        have HNI5 := Lib.hid (show 1 = N + (i + 1) by have := HNI.out; omega)
        subst e5
        clear h5 h6 HOa HLi hfa hl5 hba HNI HLE
        go_wp2
        constructor
        · exact ⟨i + 1, 1, by omega, HNI5, HO5, hb5, ⟨a5, c5, rfl, p5, p6⟩, HF5⟩
        · first | (simp; done) | (simp; omega)
      case inr =>
        go_wp2_with (at_builtin; refine wpl_append_bs (A := fun _ => False) (ys := [0]) (base := B) Tryd.underlying22 Tryd.infoByte rfl (.tmp 16) (.tmp 17) rfl rfl rfl HOa.out HLi.out (by rw [HLE.out]; simp; omega) hba ?_)
        intro v' w' h5 h6
        have HO5 := Lib.hid (show OwnB 5 B w' v' (xs ++ List.replicate (i + 1) 0) by rw [List.replicate_succ']; exact h5)
        have HF5 := Lib.hid (show Fr [] w w' from OwnB.fr HOa.out hfa.out h6 (by have := HBB.out; omega))
        have hb5 : B ≤ w'.heap.size := by have := h6.size; omega
        have hl5 : (xs ++ List.replicate (i + 1) (0 : UInt8)).length = (n + 1) := by have := HNI.out; have := HN.out; simp; omega
        obtain ⟨a5, c5, e5, p5, p6, -⟩ := HO5.out.bs (A := fun _ => False) (by simp)
        rw [hl5] at e5 p5
        have HNI5 := Lib.hid (show (n + 1) = N + (i + 1) by have := HNI.out; omega)
        subst e5
        clear h5 h6 HOa HLi hfa hl5 hba HNI HLE
        go_wp2
        constructor
        · exact ⟨i + 1, (n + 1), by omega, HNI5, HO5, hb5, ⟨a5, c5, rfl, p5, p6⟩, HF5⟩
        · first | (simp; done) | (simp; omega)
    · obtain rfl : i = p := by omega
      have hc2 : n ≠ 0 ∧ (n : Int).tmod 8 = 0 := by
        have h1 := HNI.out
        rw [Int.tmod_eq_emod_of_nonneg (by omega)]
        rcases Nat.eq_zero_or_pos N with h0 | h0
        · have := hp2.1 h0; omega
        · have := hp2.2 (by omega); omega
      obtain ⟨h0, hr⟩ := hc2
      have HR := Lib.hid (show OwnB 5 w.heap.size wr (.slice a' n c') (padL xs) by
        have h := HO.out
        rw [← HP.out, ← HN.out] at h
        rw [HBB.out]
        exact h)
      clear HO
      go_wp2
      go_ret
      exact ⟨_, rfl, HR.out, HF.out⟩
end Go.Proofs.YtenjpnhccnmnpaaDoor
