/-
  Layer 4: the document's Forney.
-/
import Derived.Test.YtfblhdomjnffcaaDoorGK
import Derived.Test.YtfblhdomjnffcaaDoorGF
namespace Go.Proofs.YtfblhdomjnffcaaDoor
open Go.RowKit Go.Bl
set_option linter.unusedVariables false
set_option maxRecDepth 100000 in
set_option maxHeartbeats 4000000 in
theorem rforney_any (w : World) (s g : List UInt8) (gv : Value) (e : Nat) (hs : s.length = 32) (hg : Bs (fun _ => False) w gv g) (hgn : plen g = e + 1) (he : e ≤ 32) (hgl : g.length ≤ 100) :
    Calls Tryd.prog 24 #[.agg (s.map u8v).toArray, gv] w fun r w' => ∃ u, r = .returned u ∧ OwnB 5 w.heap.size w' u (fornL s g e) ∧ Fr [] w w' := by
  have HTR := Lib.hid (fun w' (h : Fr [] w w') => rtrim_any w' gv g (hg.keep h (by simp)) (by omega))
  have HTL := Lib.hid (show (ptrim g).length = e + 1 by rw [ptrim_length]; exact hgn)
  have HG := Lib.hid hg
  have hsz : (s.map u8v).toArray.size = 32 := by simp [hs]
  have hrow : ∀ n, n ≤ 32 - e → (List.range n).map (fun j => cf (pmul s g) (e + j)) = (List.range n).map (fun j => conv (cf s) (cf g) (e + j)) := fun n _ => List.map_congr_left fun j _ => cf_mul _ _ _
  have HRES := Lib.hid (show (List.range (32 - e)).map (fun j => cf (pmul s g) (e + j)) = fornL s g e from hrow _ (Nat.le_refl _))
  obtain ⟨w0, hw0⟩ : ∃ w0, w.alloc (.cells (s.map u8v).toArray 32) = w0 := ⟨_, rfl⟩
  have HA := Lib.hid (show At w0 w.heap.size (.cells (s.map u8v).toArray 32) by rw [← hw0]; exact At.new rfl)
  have HF0 := Lib.hid (show Fr [] w w0 by rw [← hw0]; exact Fr.alloc _ _)
  have HSB := Lib.hid (fun w1 (hf : Fr [] w0 w1) => (⟨_, 32, by rw [hs], by omega, by simp [maxLen], by simpa using Row.of_block (HA.out.keep0 hf) (by simp)⟩ : Bs (fun _ => False) w1 (.slice (some ⟨w.heap.size, 0, none⟩) 32 32) s))
  have HMU := Lib.hid (fun w1 (h0 : Fr [] w0 w1) => rdmul_any w1 (.slice (some ⟨w.heap.size, 0, none⟩) 32 32) gv s g (HSB.out w1 h0) (hg.keep (HF0.out.trans h0) (by simp)) (by omega) (by omega))
  have HPL := Lib.hid (show (pmul s g).length ≤ 200 by have := pmul_len s g; omega)
  obtain ⟨pr, hpr⟩ : ∃ pr, pmul s g = pr := ⟨_, rfl⟩
  rw [hpr] at HMU HRES HPL
  clear hrow hpr
  obtain ⟨ga, gc, rfl, g2, g3, -⟩ := hg
  unfold maxLen at g3
  obtain ⟨GL, hGL⟩ : ∃ n, g.length = n := ⟨_, rfl⟩
  obtain ⟨TL, hTL⟩ : ∃ n, ptrim g = n := ⟨_, rfl⟩
  rw [hGL] at HTR HMU g2 hgl ⊢
  rw [hTL] at HTR HTL
  obtain ⟨SC, hSC⟩ : ∃ c, (s.map u8v).toArray = c := ⟨_, rfl⟩
  rw [hSC] at hsz hw0 HA ⊢
  obtain ⟨R, hR⟩ : ∃ R, fornL s g e = R := ⟨_, rfl⟩
  rw [hR] at HRES ⊢
  have hei : ¬ (e : Int) < 0 := by omega
  have HS0 := Lib.hid (show w0.heap.size = w.heap.size + 1 by rw [← hw0]; simp)
  have hwr : IntKind.i64.wrap (((e + 1 : Nat) : Int) - 1) = (e : Int) := by rw [IntKind.wrap_i64]; omega
  clear hGL hTL HG hR
  go_enter Tryd.func24, Tryd.ntmps24
  go_wp2_with (go_at_call 27; fail)
  try rw [hw0]
  clear hw0
  refine (HTR.out w0 HF0.out).mono ?_
  rintro r w1 ⟨u, rfl, ho1, hf1⟩
  obtain ⟨ta, tc, rfl, -, -, -⟩ := ho1.bs (A := fun _ => False) (by simp)
  rw [HTL.out]
  have HF1 := Lib.hid hf1
  clear ho1 hf1 HTR
  go_wp2_with (go_at_call 28; fail)
  refine (HMU.out w1 HF1.out).mono ?_
  rintro r w2 ⟨pv, rfl, ho2, hf2⟩
  have HF2 := Lib.hid (HF1.out.trans hf2)
  have HO2 := Lib.hid (ho2.base (Nat.le_trans (by have := HS0.out; omega : w.heap.size ≤ w0.heap.size) HF1.out.size))
  have HAT := Lib.hid (fun w' (h : Fr [] w2 w') j => rat_any (fun _ => False) w' pv pr j ((ho2.bs (by simp)).keep h (by simp)) (by have := HPL.out; omega))
  have hs2 : w.heap.size ≤ w2.heap.size := by have := HF2.out.size; have := HS0.out; omega
  clear ho2 hf2 HF1 HMU HSB
  obtain ⟨BW, hBW⟩ : ∃ B, w2.heap.size = B := ⟨_, rfl⟩
  have HBW := Lib.hid hBW
  have HE0 := Lib.hid (OwnB.empty 5 w2.heap.size w2 (Nat.le_refl _))
  have HWW := Lib.hid (HF0.out.trans HF2.out)
  have HS2 := Lib.hid hs2
  have HF2A := Lib.hid (Fr.alloc (S := []) w2 (.cells #[] 5))
  clear hBW
  go_wp2
  go_loopw [7, 8] (fun o i wr => ∃ k : Nat, k ≤ 32 - e ∧ i = .int .i64 ((e : Int) + k) ∧ Hid (OwnB 5 BW wr o ((List.range k).map (fun j => cf pr (e + j)))) ∧ Hid (Fr [] w2 wr)) (fun _ i _ => 32 - (intOf i).toNat)
  case atStart => exact ⟨0, Nat.zero_le _, by simp, Lib.hid (by rw [← HBW.out]; exact HE0.out), HF2A⟩
  case round =>
    obtain ⟨k, hk, rfl, HO, HFF⟩ := hrel
    obtain ⟨wl, rfl⟩ : ∃ wl, wl = wr := ⟨wr, rfl⟩
    by_cases hke : e + k < 32
    · have hki : (e : Int) + k < 32 := by omega
      have HC := Lib.hid (HAT.out wl HFF.out (e + k))
      have hcast : ((e + k : Nat) : Int) = (e : Int) + k := by omega
      rw [hcast] at HC
      obtain ⟨c, hc⟩ : ∃ c, cf pr (e + k) = c := ⟨_, rfl⟩
      have HRS := Lib.hid (show (List.range k).map (fun j => cf pr (e + j)) ++ [c] = (List.range (k + 1)).map (fun j => cf pr (e + j)) by rw [List.range_succ, List.map_append, ← hc]; rfl)
      rw [hc] at HC
      clear hc hcast
      go_wp2_with (go_at_call 50; fail)
      refine HC.out.mono ?_
      rintro r w3 ⟨rfl, hf3⟩
      have HO3 := Lib.hid ((HO.out.keep hf3 (by simp)).keep (Fr.alloc (S := []) w3 (.cells #[.int .u8 (c.toNat : Int)] 5)) (by simp))
      have HFF3 := Lib.hid (HFF.out.trans hf3)
      have HBS := Lib.hid (show BW ≤ (w3.alloc (.cells #[.int .u8 (c.toNat : Int)] 5)).heap.size by rw [← HBW.out]; simp; have := HFF3.out.size; omega)
      clear hf3 HC HO HFF
      go_wp2_with (at_builtin; refine wpl_append_b Tryd.underlying22 Tryd.infoByte rfl (.tmp 24) (.tmp 28) rfl rfl rfl (At.new rfl) HO3.out (by simp; omega) HBS.out ?_)
      intro v4 w4 h4 g4
      rw [HRS.out] at h4
      have HO4 := Lib.hid h4
      have HF4 := Lib.hid (show Fr [] w2 w4 from OwnB.fr HO3.out (HFF3.out.trans (Fr.alloc _ _)) g4 (by rw [HBW.out]; exact Nat.le_refl _))
      clear h4 g4 HO3 HFF3 HBS
      go_wp2
      go_roundw
      case rel => exact ⟨k + 1, by omega, by go_num, HO4, HF4⟩
      case measure => simp [intOf]; omega
    · have hki : ¬ (e : Int) + k < 32 := by omega
      have HK := Lib.hid (show (List.range k).map (fun j => cf pr (e + j)) = R by rw [show k = 32 - e by omega]; exact HRES.out)
      rw [HK.out] at HO
      go_wp2
      go_ret
      exact ⟨_, rfl, HO.out.base (by rw [← HBW.out]; exact HS2.out), HWW.out.trans HFF.out⟩
end Go.Proofs.YtfblhdomjnffcaaDoor
