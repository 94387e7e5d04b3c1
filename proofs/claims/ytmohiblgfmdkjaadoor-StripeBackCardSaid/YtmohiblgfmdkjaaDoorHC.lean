/-
  Layer 5: repair.Fix. (printed by genfix.py)
  Layer 5: what repair.Fix answers.
-/
import Derived.Test.YtmohiblgfmdkjaaDoorFxR
import Derived.Test.YtmohiblgfmdkjaaDoorHD
import Derived.Test.YtmohiblgfmdkjaaDoorMnT
import Derived.Test.YtmohiblgfmdkjaaDoorAmR
import Derived.Test.YtmohiblgfmdkjaaDoorGA
import Derived.Test.YtmohiblgfmdkjaaDoorGM
namespace Go.Proofs.YtmohiblgfmdkjaaDoor
open Go.RowKit Go.Bl
set_option linter.unusedVariables false
/-- nothing mended -/
def noFix : Value := .agg #[.slice none 0 0, .slice none 0 0, .int .i64 0]
set_option maxRecDepth 100000 in
set_option maxHeartbeats 4000000 in
theorem fix_size (w : World) (wa pa : Option Addr) (wn wc pn pc : Nat) (C : Array Value) (hC : C.size = 32) (hone : C.all (·.oneCell') = true) (AD : Addr) (hof : ∀ p, Fr [] w p → Calls Tryd.prog 67 #[.slice wa wn wc] p fun e w' => e = .returned (.tuple #[.agg C, .iface 261 (.pointer (some AD))]) ∧ Fr [] p w') :
    Calls Tryd.prog 55 #[.slice wa wn wc, .slice pa pn pc] w fun e w' => e = .returned (.tuple #[noFix, .iface 261 (.pointer (some AD))]) ∧ Fr [] w w' := by
  have HR0 := Lib.hid (show At (w.alloc (.cells #[.slice none 0 0, .slice none 0 0, .int .i64 0] 133)) w.heap.size (.cells #[.slice none 0 0, .slice none 0 0, .int .i64 0] 133 (0, 0)) from At.new rfl)
  have HF0 := Lib.hid (show Fr [] w (w.alloc (.cells #[.slice none 0 0, .slice none 0 0, .int .i64 0] 133)) from Fr.alloc _ _)
  have hs0 : (w.alloc (.cells #[.slice none 0 0, .slice none 0 0, .int .i64 0] 133)).heap.size = w.heap.size + 1 := by simp
  obtain ⟨w0, hw0⟩ : ∃ w0, (w.alloc (.cells #[.slice none 0 0, .slice none 0 0, .int .i64 0] 133)) = w0 := ⟨_, rfl⟩
  rw [hw0] at HR0 HF0 hs0
  have HS0 := Lib.hid hs0
  have HOF := Lib.hid (hof w0 HF0.out)
  have HC := Lib.hid hC
  have HONEC := Lib.hid hone
  have HZ := Lib.hid (show (#[.slice none 0 0, .slice none 0 0, .int .i64 0] : Array Value).all (·.oneCell') = true by simp [Value.oneCell'])
  unfold noFix
  clear hC hone hof
  go_enter Tryd.func55, Tryd.ntmps55
  go_wp2_with (go_at_call 67; fail)
  try rw [hw0]
  clear hw0
  refine HOF.out.mono ?_
  rintro e w1 ⟨rfl, hf⟩
  have HR1 := Lib.hid (HR0.out.keep0 hf)
  have HF1 := Lib.hid (HF0.out.trans hf)
  have hs1 := hf.size
  clear hf HR0 HF0 HOF
  have HR2 := Lib.hid (show At (w1.alloc (.cells C 148)) w.heap.size (.cells #[.slice none 0 0, .slice none 0 0, .int .i64 0] 133 (0, 0)) from HR1.out.al)
  have HF2 := Lib.hid (show Fr [] w (w1.alloc (.cells C 148)) from HF1.out.trans (Fr.alloc _ _))
  have HA2 := Lib.hid (show At (w1.alloc (.cells C 148)) w1.heap.size (.cells C 148) from At.new rfl)
  have hs2 : (w1.alloc (.cells C 148)).heap.size = w1.heap.size + 1 := by simp
  have HS2 := Lib.hid (show w.heap.size + 2 ≤ (w1.alloc (.cells C 148)).heap.size by have := HS0.out; omega)
  clear hs0 hs1 hs2
  have HSC := Lib.hid (show (#[.int .u8 0, .int .u8 0, .int .u8 0, .int .u8 0, .int .u8 0, .int .u8 0, .int .u8 0, .int .u8 0, .int .u8 0, .int .u8 0, .int .u8 0, .int .u8 0, .int .u8 0, .int .u8 0, .int .u8 0, .int .u8 0, .int .u8 0, .int .u8 0, .int .u8 0, .int .u8 0, .int .u8 0, .int .u8 0, .int .u8 0, .int .u8 0, .int .u8 0, .int .u8 0, .int .u8 0, .int .u8 0, .int .u8 0, .int .u8 0, .int .u8 0, .int .u8 0] : Array Value).size = C.size by rw [HC.out]; rfl)
  go_wp2_with (first | (refine wpl_store_new (.tmp 6) (.tmp 14) rfl rfl C rfl rfl (by rw [HC.out]; kernel_rfl) HSC.out HONEC.out ?_) | (refine wpl_store_at (.tmp 4) (.tmp 18) rfl rfl #[.slice none 0 0, .slice none 0 0, .int .i64 0] rfl rfl (by kernel_rfl) HR2.out (by simp) HZ.out ?_))
  intro w9 hf9 hr9 _
  have HF9 := Lib.hid (show Fr [] w w9 from HF2.out.then hf9 (by intro x hx; simp at hx; subst hx; exact .inr (Nat.le_refl _)))
  have hc0 := hr9.cell 0
  have hc1 := hr9.cell 1
  have hc2 := hr9.cell 2
  simp at hc0 hc1 hc2
  clear hf9 hr9
  go_wp2
  refine bodyPost_ret (v := .tuple #[.agg #[.slice none 0 0, .slice none 0 0, .int .i64 0], .iface 261 (.pointer (some AD))]) ?_ rfl ?_
  · rw [results_cell_tmp rfl]
    simp [asAddr, Result.andThen, hc0, hc1, hc2, go_sem]
  · exact ⟨rfl, HF9.out⟩
set_option maxRecDepth 100000 in
set_option maxHeartbeats 4000000 in
theorem fix_find (w : World) (wa pa : Option Addr) (wn wc pn pc : Nat) (C : Array Value) (hC : C.size = 32) (hone : C.all (·.oneCell') = true) (AD : Addr) (hof : ∀ p, Fr [] w p → Calls Tryd.prog 67 #[.slice wa wn wc] p fun e w' => e = .returned (.tuple #[.agg C, .nilIface]) ∧ Fr [] p w')
    (hfi : ∀ p, Fr [] w p → Calls Tryd.prog 68 #[.agg C, .int .i64 wn, .slice pa pn pc] p fun e w' => e = .returned (.tuple #[noFound, .iface 261 (.pointer (some AD))]) ∧ Fr [] p w') :
    Calls Tryd.prog 55 #[.slice wa wn wc, .slice pa pn pc] w fun e w' => e = .returned (.tuple #[noFix, .iface 261 (.pointer (some AD))]) ∧ Fr [] w w' := by
  have HR0 := Lib.hid (show At (w.alloc (.cells #[.slice none 0 0, .slice none 0 0, .int .i64 0] 133)) w.heap.size (.cells #[.slice none 0 0, .slice none 0 0, .int .i64 0] 133 (0, 0)) from At.new rfl)
  have HF0 := Lib.hid (show Fr [] w (w.alloc (.cells #[.slice none 0 0, .slice none 0 0, .int .i64 0] 133)) from Fr.alloc _ _)
  have hs0 : (w.alloc (.cells #[.slice none 0 0, .slice none 0 0, .int .i64 0] 133)).heap.size = w.heap.size + 1 := by simp
  obtain ⟨w0, hw0⟩ : ∃ w0, (w.alloc (.cells #[.slice none 0 0, .slice none 0 0, .int .i64 0] 133)) = w0 := ⟨_, rfl⟩
  rw [hw0] at HR0 HF0 hs0
  have HS0 := Lib.hid hs0
  have HOF := Lib.hid (hof w0 HF0.out)
  have HC := Lib.hid hC
  have HONEC := Lib.hid hone
  have HZ := Lib.hid (show (#[.slice none 0 0, .slice none 0 0, .int .i64 0] : Array Value).all (·.oneCell') = true by simp [Value.oneCell'])
  unfold noFix
  unfold noFound at hfi
  have HFI := Lib.hid hfi
  clear hC hone hof hfi
  go_enter Tryd.func55, Tryd.ntmps55
  go_wp2_with (go_at_call 67; fail)
  try rw [hw0]
  clear hw0
  refine HOF.out.mono ?_
  rintro e w1 ⟨rfl, hf⟩
  have HR1 := Lib.hid (HR0.out.keep0 hf)
  have HF1 := Lib.hid (HF0.out.trans hf)
  have hs1 := hf.size
  clear hf HR0 HF0 HOF
  have HR2 := Lib.hid (show At (w1.alloc (.cells C 148)) w.heap.size (.cells #[.slice none 0 0, .slice none 0 0, .int .i64 0] 133 (0, 0)) from HR1.out.al)
  have HF2 := Lib.hid (show Fr [] w (w1.alloc (.cells C 148)) from HF1.out.trans (Fr.alloc _ _))
  have HA2 := Lib.hid (show At (w1.alloc (.cells C 148)) w1.heap.size (.cells C 148) from At.new rfl)
  have hs2 : (w1.alloc (.cells C 148)).heap.size = w1.heap.size + 1 := by simp
  have HS2 := Lib.hid (show w.heap.size + 2 ≤ (w1.alloc (.cells C 148)).heap.size by have := HS0.out; omega)
  clear hs0 hs1 hs2
  have HSC := Lib.hid (show (#[.int .u8 0, .int .u8 0, .int .u8 0, .int .u8 0, .int .u8 0, .int .u8 0, .int .u8 0, .int .u8 0, .int .u8 0, .int .u8 0, .int .u8 0, .int .u8 0, .int .u8 0, .int .u8 0, .int .u8 0, .int .u8 0, .int .u8 0, .int .u8 0, .int .u8 0, .int .u8 0, .int .u8 0, .int .u8 0, .int .u8 0, .int .u8 0, .int .u8 0, .int .u8 0, .int .u8 0, .int .u8 0, .int .u8 0, .int .u8 0, .int .u8 0, .int .u8 0] : Array Value).size = C.size by rw [HC.out]; rfl)
  go_wp2_with (first | (refine wpl_store_new (.tmp 6) (.tmp 14) rfl rfl C rfl rfl (by rw [HC.out]; kernel_rfl) HSC.out HONEC.out ?_) | (refine wpl_load_rowG (.tmp 6) rfl rfl w1.heap.size C rfl HA2.out Tryd.underlying148 rfl (by rw [HC.out]; kernel_rfl) ?_) | (go_at_call 68; fail))
  refine (HFI.out _ HF2.out).mono ?_
  rintro e w3 ⟨rfl, hf⟩
  have hs3 := hf.size
  have HR3 := Lib.hid (show At (w3.alloc (.cells #[.int .i64 0, .slice none 0 0, .slice none 0 0] 152)) w.heap.size (.cells #[.slice none 0 0, .slice none 0 0, .int .i64 0] 133 (0, 0)) from (HR2.out.keep0 hf).al)
  have HF3 := Lib.hid (show Fr [] w (w3.alloc (.cells #[.int .i64 0, .slice none 0 0, .slice none 0 0] 152)) from (HF2.out.trans hf).trans (Fr.alloc _ _))
  clear hf hs3 HR2 HF2 HA2 HFI
  go_wp2_with (first | (refine wpl_store_new (.tmp 8) (.tmp 26) rfl rfl #[.int .i64 0, .slice none 0 0, .slice none 0 0] rfl rfl (by kernel_rfl) rfl (by rfl) ?_) | (refine wpl_store_at (.tmp 4) (.tmp 30) rfl rfl #[.slice none 0 0, .slice none 0 0, .int .i64 0] rfl rfl (by kernel_rfl) HR3.out (by simp) HZ.out ?_))
  intro w9 hf9 hr9 _
  have HF9 := Lib.hid (show Fr [] w w9 from HF3.out.then hf9 (by intro x hx; simp at hx; subst hx; exact .inr (Nat.le_refl _)))
  have hc0 := hr9.cell 0
  have hc1 := hr9.cell 1
  have hc2 := hr9.cell 2
  simp at hc0 hc1 hc2
  clear hf9 hr9
  go_wp2
  refine bodyPost_ret (v := .tuple #[.agg #[.slice none 0 0, .slice none 0 0, .int .i64 0], .iface 261 (.pointer (some AD))]) ?_ rfl ?_
  · rw [results_cell_tmp rfl]
    simp [asAddr, Result.andThen, hc0, hc1, hc2, go_sem]
  · exact ⟨rfl, HF9.out⟩
set_option maxRecDepth 100000 in
set_option maxHeartbeats 4000000 in
theorem fix_wrong (w : World) (wa pa : Option Addr) (wn wc pn pc : Nat) (C : Array Value) (hC : C.size = 32) (hone : C.all (·.oneCell') = true) (AD : Addr) (lg : Int) (loc ev : List UInt8) (hof : ∀ p, Fr [] w p → Calls Tryd.prog 67 #[.slice wa wn wc] p fun e w' => e = .returned (.tuple #[.agg C, .nilIface]) ∧ Fr [] p w')
    (hfi : ∀ p, Fr [] w p → Calls Tryd.prog 68 #[.agg C, .int .i64 wn, .slice pa pn pc] p fun e w' => ∃ u v, e = .returned (.tuple #[.agg #[.int .i64 lg, u, v], .nilIface]) ∧ OwnB 5 p.heap.size w' u loc ∧ OwnB 5 p.heap.size w' v ev ∧ Fr [] p w')
    (hme : ∀ p u v, Fr [] w p → OwnB 5 w.heap.size p u loc → OwnB 5 w.heap.size p v ev → Calls Tryd.prog 69 #[.slice wa wn wc, .agg #[.int .i64 lg, u, v]] p fun e w' => ∃ u, e = .returned (.tuple #[u, .bool false]) ∧ Fr [] p w')
    (hg : ∃ t fz, w.heap[1]? = some (.cells #[.iface 261 (.pointer (some AD))] t fz)) :
    Calls Tryd.prog 55 #[.slice wa wn wc, .slice pa pn pc] w fun e w' => e = .returned (.tuple #[noFix, .iface 261 (.pointer (some AD))]) ∧ Fr [] w w' := by
  have HR0 := Lib.hid (show At (w.alloc (.cells #[.slice none 0 0, .slice none 0 0, .int .i64 0] 133)) w.heap.size (.cells #[.slice none 0 0, .slice none 0 0, .int .i64 0] 133 (0, 0)) from At.new rfl)
  have HF0 := Lib.hid (show Fr [] w (w.alloc (.cells #[.slice none 0 0, .slice none 0 0, .int .i64 0] 133)) from Fr.alloc _ _)
  have hs0 : (w.alloc (.cells #[.slice none 0 0, .slice none 0 0, .int .i64 0] 133)).heap.size = w.heap.size + 1 := by simp
  obtain ⟨w0, hw0⟩ : ∃ w0, (w.alloc (.cells #[.slice none 0 0, .slice none 0 0, .int .i64 0] 133)) = w0 := ⟨_, rfl⟩
  rw [hw0] at HR0 HF0 hs0
  have HS0 := Lib.hid hs0
  have HOF := Lib.hid (hof w0 HF0.out)
  have HC := Lib.hid hC
  have HONEC := Lib.hid hone
  have HZ := Lib.hid (show (#[.slice none 0 0, .slice none 0 0, .int .i64 0] : Array Value).all (·.oneCell') = true by simp [Value.oneCell'])
  unfold noFix
  have HFI := Lib.hid hfi
  have HME := Lib.hid hme
  have HG := Lib.hid hg
  have HLT := Lib.hid (show 1 < w.heap.size by obtain ⟨t, fz, hh⟩ := hg; exact (Array.getElem?_eq_some_iff.1 hh).1)
  clear hC hone hof hfi hme hg
  go_enter Tryd.func55, Tryd.ntmps55
  go_wp2_with (go_at_call 67; fail)
  try rw [hw0]
  clear hw0
  refine HOF.out.mono ?_
  rintro e w1 ⟨rfl, hf⟩
  have HR1 := Lib.hid (HR0.out.keep0 hf)
  have HF1 := Lib.hid (HF0.out.trans hf)
  have hs1 := hf.size
  clear hf HR0 HF0 HOF
  have HR2 := Lib.hid (show At (w1.alloc (.cells C 148)) w.heap.size (.cells #[.slice none 0 0, .slice none 0 0, .int .i64 0] 133 (0, 0)) from HR1.out.al)
  have HF2 := Lib.hid (show Fr [] w (w1.alloc (.cells C 148)) from HF1.out.trans (Fr.alloc _ _))
  have HA2 := Lib.hid (show At (w1.alloc (.cells C 148)) w1.heap.size (.cells C 148) from At.new rfl)
  have hs2 : (w1.alloc (.cells C 148)).heap.size = w1.heap.size + 1 := by simp
  have HS2 := Lib.hid (show w.heap.size + 2 ≤ (w1.alloc (.cells C 148)).heap.size by have := HS0.out; omega)
  clear hs0 hs1 hs2
  have HSC := Lib.hid (show (#[.int .u8 0, .int .u8 0, .int .u8 0, .int .u8 0, .int .u8 0, .int .u8 0, .int .u8 0, .int .u8 0, .int .u8 0, .int .u8 0, .int .u8 0, .int .u8 0, .int .u8 0, .int .u8 0, .int .u8 0, .int .u8 0, .int .u8 0, .int .u8 0, .int .u8 0, .int .u8 0, .int .u8 0, .int .u8 0, .int .u8 0, .int .u8 0, .int .u8 0, .int .u8 0, .int .u8 0, .int .u8 0, .int .u8 0, .int .u8 0, .int .u8 0, .int .u8 0] : Array Value).size = C.size by rw [HC.out]; rfl)
  go_wp2_with (first | (refine wpl_store_new (.tmp 6) (.tmp 14) rfl rfl C rfl rfl (by rw [HC.out]; kernel_rfl) HSC.out HONEC.out ?_) | (refine wpl_load_rowG (.tmp 6) rfl rfl w1.heap.size C rfl HA2.out Tryd.underlying148 rfl (by rw [HC.out]; kernel_rfl) ?_) | (go_at_call 68; fail))
  refine (HFI.out _ HF2.out).mono ?_
  rintro e w3 ⟨u, v, rfl, hu, hv, hf⟩
  obtain ⟨ua, uc, rfl, -⟩ := hu.bs (A := fun _ => False) (by simp)
  obtain ⟨va, vc, rfl, -⟩ := hv.bs (A := fun _ => False) (by simp)
  have hs2 := HS2.out
  have HU3 := Lib.hid (show OwnB 5 w.heap.size (w3.alloc (.cells #[.int .i64 lg, .slice ua loc.length uc, .slice va ev.length vc] 152)) (.slice ua loc.length uc) loc from (hu.base (by omega)).keep (Fr.alloc (S := []) _ _) (by simp))
  have HV3 := Lib.hid (show OwnB 5 w.heap.size (w3.alloc (.cells #[.int .i64 lg, .slice ua loc.length uc, .slice va ev.length vc] 152)) (.slice va ev.length vc) ev from (hv.base (by omega)).keep (Fr.alloc (S := []) _ _) (by simp))
  have HR3 := Lib.hid (show At (w3.alloc (.cells #[.int .i64 lg, .slice ua loc.length uc, .slice va ev.length vc] 152)) w.heap.size (.cells #[.slice none 0 0, .slice none 0 0, .int .i64 0] 133 (0, 0)) from (HR2.out.keep0 hf).al)
  have HB3 := Lib.hid (show At (w3.alloc (.cells #[.int .i64 lg, .slice ua loc.length uc, .slice va ev.length vc] 152)) w3.heap.size (.cells #[.int .i64 lg, .slice ua loc.length uc, .slice va ev.length vc] 152) from At.new rfl)
  have HF3 := Lib.hid (show Fr [] w (w3.alloc (.cells #[.int .i64 lg, .slice ua loc.length uc, .slice va ev.length vc] 152)) from (HF2.out.trans hf).trans (Fr.alloc _ _))
  have HS3 := Lib.hid (show w.heap.size + 2 ≤ w3.heap.size by have := hf.size; omega)
  have HME2 := Lib.hid (HME.out _ _ _ HF3.out HU3.out HV3.out)
  clear hf hs2 hu hv HR2 HF2 HA2 HFI HME HU3 HV3
  obtain ⟨ln, hln⟩ : ∃ x, loc.length = x := ⟨_, rfl⟩
  obtain ⟨en, hen⟩ : ∃ x, ev.length = x := ⟨_, rfl⟩
  rw [hln, hen] at HR3 HB3 HF3 HME2 ⊢
  clear hln hen
  go_wp2_with (first | (refine wpl_store_new (.tmp 8) (.tmp 26) rfl rfl #[.int .i64 lg, .slice ua ln uc, .slice va en vc] rfl rfl (by kernel_rfl) rfl (by rfl) ?_) | (refine wpl_load_rowG (.tmp 8) rfl rfl w3.heap.size #[.int .i64 lg, .slice ua ln uc, .slice va en vc] rfl HB3.out Tryd.underlying152 rfl (by kernel_rfl) ?_) | (go_at_call 69; fail))
  refine HME2.out.mono ?_
  rintro e w4 ⟨u, rfl, hf⟩
  have HR4 := Lib.hid (HR3.out.keep0 hf)
  have HF4 := Lib.hid (HF3.out.trans hf)
  clear hf HR3 HB3 HF3 HME2
  have hcc : w4.cell? ⟨1, 0, none⟩ = some (.iface 261 (.pointer (some AD))) := by
    obtain ⟨t, fz, hh⟩ := HG.out
    exact cell_mono HF4.out (by rw [cell_of hh]; rfl)
  have z0 := HR4.out.cell 0
  have z1 := HR4.out.cell 1
  have z2 := HR4.out.cell 2
  have f0 := HR4.out.free 0
  have f1 := HR4.out.free 1
  have f2 := HR4.out.free 2
  simp at z0 z1 z2
  have hlt := HLT.out
  have hn1 : ¬ 1 = w.heap.size := by omega
  have hn2 : ¬ w.heap.size = 1 := by omega
  clear hlt
  go_wp2
  go_region
  have HF9 := Lib.hid (show Fr [] w (((w4.setCell ⟨w.heap.size, 0, none⟩ (.slice none 0 0)).setCell ⟨w.heap.size, 1, none⟩ (.slice none 0 0)).setCell ⟨w.heap.size, 2, none⟩ (.int .i64 0)).drew from
    (((HF4.out.sc (.inl (by simp))).sc (.inl (by simp))).sc (.inl (by simp))).dr)
  have hr9 : At (((w4.setCell ⟨w.heap.size, 0, none⟩ (.slice none 0 0)).setCell ⟨w.heap.size, 1, none⟩ (.slice none 0 0)).setCell ⟨w.heap.size, 2, none⟩ (.int .i64 0)).drew w.heap.size (.cells #[.slice none 0 0, .slice none 0 0, .int .i64 0] 133 (0, 0)) := by
    have h := ((HR4.out.set 0 (.slice none 0 0)).set 1 (.slice none 0 0)).set 2 (.int .i64 0)
    simp only [Array.setIfInBounds, List.size_toArray, List.length_cons, List.length_nil] at h
    exact At.keep0 h (Fr.drew _)
  have hc0 := hr9.cell 0
  have hc1 := hr9.cell 1
  have hc2 := hr9.cell 2
  simp only [List.getElem?_toArray, List.getElem?_cons_zero, List.getElem?_cons_succ] at hc0 hc1 hc2
  clear hr9 z0 z1 z2 f0 f1 f2 hcc
  generalize (((w4.setCell ⟨w.heap.size, 0, none⟩ (.slice none 0 0)).setCell ⟨w.heap.size, 1, none⟩ (.slice none 0 0)).setCell ⟨w.heap.size, 2, none⟩ (.int .i64 0)).drew = w9 at HF9 hc0 hc1 hc2 ⊢
  go_wp2
  refine bodyPost_ret (v := .tuple #[.agg #[.slice none 0 0, .slice none 0 0, .int .i64 0], .iface 261 (.pointer (some AD))]) ?_ rfl ?_
  · rw [results_cell_tmp rfl]
    simp [asAddr, Result.andThen, hc0, hc1, hc2, go_sem]
  · exact ⟨rfl, HF9.out⟩
set_option maxRecDepth 100000 in
set_option maxHeartbeats 4000000 in
theorem fix_right (w : World) (wa pa : Option Addr) (wn wc pn pc : Nat) (C : Array Value) (hC : C.size = 32) (hone : C.all (·.oneCell') = true) (lg : Int) (loc ev out : List UInt8) (dl : List Int) (hof : ∀ p, Fr [] w p → Calls Tryd.prog 67 #[.slice wa wn wc] p fun e w' => e = .returned (.tuple #[.agg C, .nilIface]) ∧ Fr [] p w')
    (hfi : ∀ p, Fr [] w p → Calls Tryd.prog 68 #[.agg C, .int .i64 wn, .slice pa pn pc] p fun e w' => ∃ u v, e = .returned (.tuple #[.agg #[.int .i64 lg, u, v], .nilIface]) ∧ OwnB 5 p.heap.size w' u loc ∧ OwnB 5 p.heap.size w' v ev ∧ Fr [] p w')
    (hme : ∀ p u v, Fr [] w p → OwnB 5 w.heap.size p u loc → OwnB 5 w.heap.size p v ev → Calls Tryd.prog 69 #[.slice wa wn wc, .agg #[.int .i64 lg, u, v]] p fun e w' => ∃ u, e = .returned (.tuple #[u, .bool true]) ∧ OwnB 5 p.heap.size w' u out ∧ Fr [] p w')
    (hdf : ∀ p u, Fr [] w p → Bs (fun _ => False) p u out → Calls Tryd.prog 70 #[.slice wa wn wc, u] p fun e w' => ∃ r, e = .returned r ∧ OwnI 3 p.heap.size w' r dl ∧ Fr [] p w') :
    Calls Tryd.prog 55 #[.slice wa wn wc, .slice pa pn pc] w fun e w' => ∃ u r, e = .returned (.tuple #[.agg #[u, r, .int .i64 lg], .nilIface]) ∧ OwnB 5 w.heap.size w' u out ∧ OwnI 3 w.heap.size w' r dl ∧ Fr [] w w' := by
  have HR0 := Lib.hid (show At (w.alloc (.cells #[.slice none 0 0, .slice none 0 0, .int .i64 0] 133)) w.heap.size (.cells #[.slice none 0 0, .slice none 0 0, .int .i64 0] 133 (0, 0)) from At.new rfl)
  have HF0 := Lib.hid (show Fr [] w (w.alloc (.cells #[.slice none 0 0, .slice none 0 0, .int .i64 0] 133)) from Fr.alloc _ _)
  have hs0 : (w.alloc (.cells #[.slice none 0 0, .slice none 0 0, .int .i64 0] 133)).heap.size = w.heap.size + 1 := by simp
  obtain ⟨w0, hw0⟩ : ∃ w0, (w.alloc (.cells #[.slice none 0 0, .slice none 0 0, .int .i64 0] 133)) = w0 := ⟨_, rfl⟩
  rw [hw0] at HR0 HF0 hs0
  have HS0 := Lib.hid hs0
  have HOF := Lib.hid (hof w0 HF0.out)
  have HC := Lib.hid hC
  have HONEC := Lib.hid hone
  have HZ := Lib.hid (show (#[.slice none 0 0, .slice none 0 0, .int .i64 0] : Array Value).all (·.oneCell') = true by simp [Value.oneCell'])
  have HFI := Lib.hid hfi
  have HME := Lib.hid hme
  have HDF := Lib.hid hdf
  clear hC hone hof hfi hme hdf
  go_enter Tryd.func55, Tryd.ntmps55
  go_wp2_with (go_at_call 67; fail)
  try rw [hw0]
  clear hw0
  refine HOF.out.mono ?_
  rintro e w1 ⟨rfl, hf⟩
  have HR1 := Lib.hid (HR0.out.keep0 hf)
  have HF1 := Lib.hid (HF0.out.trans hf)
  have hs1 := hf.size
  clear hf HR0 HF0 HOF
  have HR2 := Lib.hid (show At (w1.alloc (.cells C 148)) w.heap.size (.cells #[.slice none 0 0, .slice none 0 0, .int .i64 0] 133 (0, 0)) from HR1.out.al)
  have HF2 := Lib.hid (show Fr [] w (w1.alloc (.cells C 148)) from HF1.out.trans (Fr.alloc _ _))
  have HA2 := Lib.hid (show At (w1.alloc (.cells C 148)) w1.heap.size (.cells C 148) from At.new rfl)
  have hs2 : (w1.alloc (.cells C 148)).heap.size = w1.heap.size + 1 := by simp
  have HS2 := Lib.hid (show w.heap.size + 2 ≤ (w1.alloc (.cells C 148)).heap.size by have := HS0.out; omega)
  clear hs0 hs1 hs2
  have HSC := Lib.hid (show (#[.int .u8 0, .int .u8 0, .int .u8 0, .int .u8 0, .int .u8 0, .int .u8 0, .int .u8 0, .int .u8 0, .int .u8 0, .int .u8 0, .int .u8 0, .int .u8 0, .int .u8 0, .int .u8 0, .int .u8 0, .int .u8 0, .int .u8 0, .int .u8 0, .int .u8 0, .int .u8 0, .int .u8 0, .int .u8 0, .int .u8 0, .int .u8 0, .int .u8 0, .int .u8 0, .int .u8 0, .int .u8 0, .int .u8 0, .int .u8 0, .int .u8 0, .int .u8 0] : Array Value).size = C.size by rw [HC.out]; rfl)
  go_wp2_with (first | (refine wpl_store_new (.tmp 6) (.tmp 14) rfl rfl C rfl rfl (by rw [HC.out]; kernel_rfl) HSC.out HONEC.out ?_) | (refine wpl_load_rowG (.tmp 6) rfl rfl w1.heap.size C rfl HA2.out Tryd.underlying148 rfl (by rw [HC.out]; kernel_rfl) ?_) | (go_at_call 68; fail))
  refine (HFI.out _ HF2.out).mono ?_
  rintro e w3 ⟨u, v, rfl, hu, hv, hf⟩
  obtain ⟨ua, uc, rfl, -⟩ := hu.bs (A := fun _ => False) (by simp)
  obtain ⟨va, vc, rfl, -⟩ := hv.bs (A := fun _ => False) (by simp)
  have hs2 := HS2.out
  have HU3 := Lib.hid (show OwnB 5 w.heap.size (w3.alloc (.cells #[.int .i64 lg, .slice ua loc.length uc, .slice va ev.length vc] 152)) (.slice ua loc.length uc) loc from (hu.base (by omega)).keep (Fr.alloc (S := []) _ _) (by simp))
  have HV3 := Lib.hid (show OwnB 5 w.heap.size (w3.alloc (.cells #[.int .i64 lg, .slice ua loc.length uc, .slice va ev.length vc] 152)) (.slice va ev.length vc) ev from (hv.base (by omega)).keep (Fr.alloc (S := []) _ _) (by simp))
  have HR3 := Lib.hid (show At (w3.alloc (.cells #[.int .i64 lg, .slice ua loc.length uc, .slice va ev.length vc] 152)) w.heap.size (.cells #[.slice none 0 0, .slice none 0 0, .int .i64 0] 133 (0, 0)) from (HR2.out.keep0 hf).al)
  have HB3 := Lib.hid (show At (w3.alloc (.cells #[.int .i64 lg, .slice ua loc.length uc, .slice va ev.length vc] 152)) w3.heap.size (.cells #[.int .i64 lg, .slice ua loc.length uc, .slice va ev.length vc] 152) from At.new rfl)
  have HF3 := Lib.hid (show Fr [] w (w3.alloc (.cells #[.int .i64 lg, .slice ua loc.length uc, .slice va ev.length vc] 152)) from (HF2.out.trans hf).trans (Fr.alloc _ _))
  have HS3 := Lib.hid (show w.heap.size + 2 ≤ w3.heap.size by have := hf.size; omega)
  have HME2 := Lib.hid (HME.out _ _ _ HF3.out HU3.out HV3.out)
  clear hf hs2 hu hv HR2 HF2 HA2 HFI HME HU3 HV3
  obtain ⟨ln, hln⟩ : ∃ x, loc.length = x := ⟨_, rfl⟩
  obtain ⟨en, hen⟩ : ∃ x, ev.length = x := ⟨_, rfl⟩
  rw [hln, hen] at HR3 HB3 HF3 HME2 ⊢
  clear hln hen
  go_wp2_with (first | (refine wpl_store_new (.tmp 8) (.tmp 26) rfl rfl #[.int .i64 lg, .slice ua ln uc, .slice va en vc] rfl rfl (by kernel_rfl) rfl (by rfl) ?_) | (refine wpl_load_rowG (.tmp 8) rfl rfl w3.heap.size #[.int .i64 lg, .slice ua ln uc, .slice va en vc] rfl HB3.out Tryd.underlying152 rfl (by kernel_rfl) ?_) | (go_at_call 69; fail))
  refine HME2.out.mono ?_
  rintro e w4 ⟨u, rfl, hu, hf⟩
  obtain ⟨ka, kc, rfl, -⟩ := hu.bs (A := fun _ => False) (by simp)
  have hs3 := HS3.out
  have hs4 : w3.heap.size + 1 ≤ w4.heap.size := by have := hf.size; simpa using this
  have HR4 := Lib.hid (HR3.out.keep0 hf)
  have HB4 := Lib.hid (HB3.out.keep0 hf)
  have HF4 := Lib.hid (HF3.out.trans hf)
  have HU4 := Lib.hid (show OwnB 5 (w.heap.size + 1) w4 (.slice ka out.length kc) out from hu.base (by simp; omega))
  obtain ⟨kn, hkn⟩ : ∃ x, out.length = x := ⟨_, rfl⟩
  rw [hkn] at HU4 ⊢
  obtain ⟨fb, hfb⟩ : ∃ x, w3.heap.size = x := ⟨_, rfl⟩
  rw [hfb] at HB4 hs4 hs3 ⊢
  have hne : fb ≠ w.heap.size := by omega
  have hrw : w.heap.size < w4.heap.size := by omega
  have hcell := HB4.out.cell 0
  simp at hcell
  have HW4 := Lib.hid (show ∀ p, Fr [w.heap.size] w4 p → Fr [] w p from fun p hp => HF4.out.then hp (by intro x hx; simp at hx; subst hx; exact .inr (Nat.le_refl _)))
  have HU5 := Lib.hid (show ∀ p, Fr [w.heap.size] w4 p → OwnB 5 (w.heap.size + 1) p (.slice ka kn kc) out from fun p hp => HU4.out.keep hp (by simp))
  clear hf hu HR3 HB3 HF3 HME2 hkn hfb hs3 hs4 HU4
  go_wp2_with fail
  refine fix_reg w4 _ w.heap.size fb wa ka wn wc kn kc lg dl rfl hne hrw rfl rfl rfl rfl hcell HR4.out (fun p hp => HDF.out p _ (HW4.out p hp) ((HU5.out p hp).bs (by simp))) _ ?_
  intro b p pv q1 q2 q3 q4 hf hr ho
  have HF5 := Lib.hid (HW4.out p hf)
  have HU6 := Lib.hid (HU5.out p hf)
  have HO := Lib.hid (show OwnI 3 w.heap.size p pv dl from OwnV.base ho (by omega))
  have t4 : slot b 4 = .pointer (some ⟨w.heap.size, 0, none⟩) := q3 4 (by decide)
  have HR5 := Lib.hid hr
  rw [frame49 b q2 q1, q4, t4]
  clear hf hr ho t4 q3 q4 HW4 HU5
  go_wp2
  refine bodyPost_ret (v := .tuple #[.agg #[.slice ka kn kc, pv, .int .i64 lg], .nilIface]) ?_ rfl ?_
  · have h := fun tmps h => res_cell_row (fn := Tryd.f55) (p := 4) (u := 5) (ty := 133) rfl tmps p w.heap.size #[.slice ka kn kc, pv, .int .i64 lg] h HR5.out Tryd.underlying133 rfl (by kernel_rfl)
    exact h _ rfl
  · exact ⟨_, _, rfl, HU6.out.base (by omega), HO.out, HF5.out⟩
end Go.Proofs.YtmohiblgfmdkjaaDoor
namespace Go.Proofs.YtmohiblgfmdkjaaDoor
open Go.RowKit Go.Bl
set_option linter.unusedVariables false
theorem fLoc_le {s : List UInt8} {n : Int} {l : List Int} (h : eraBad n l = 0) : (fLoc s n l).length ≤ 1000 := by
  have hl := era_len h
  have h1 := (era_g h hl).2
  unfold fLoc
  have h2 := reg_len (fRow s n l)
  have h3 := reg_le (fRow s n l)
  have h4 : (fRow s n l).length ≤ 32 := by unfold fRow; rw [fornL_len]; omega
  have := pmul_len (regP (fRow s n l)) (pinvs (eraV n l))
  omega
theorem fEv_le (s : List UInt8) (n : Int) (l : List Int) : (fEv s n l).length ≤ 1000 := by
  unfold fEv
  rw [ptrim_length]
  have := plen_le ((pmul (ptrim s) (fLoc s n l)).take 32)
  rw [List.length_take] at this
  omega
def mLoc (ws : List UInt8) (l : List Int) : List UInt8 := fLoc (synL ws) (ws.length : Int) l
def mEv (ws : List UInt8) (l : List Int) : List UInt8 := fEv (synL ws) (ws.length : Int) l
/-- the mended word -/
def mOut (ws : List UInt8) (l : List Int) : List UInt8 := mendL (mLoc ws l) (mEv ws l) ws.length (srch (mLoc ws l) ws.length) ws
theorem mOut_len (ws : List UInt8) (l : List Int) : (mOut ws l).length = ws.length := mendL_len _ _ _ _ _
/-- is the word mended? -/
def mGood (ws : List UInt8) (l : List Int) : Prop := ¬ fLost (synL ws) (ws.length : Int) l ∧ mendOk (mLoc ws l) (mEv ws l) ws = true
theorem synC (ws : List UInt8) : ((synL ws).map u8v).toArray.size = 32 := by simp [synL_len]
theorem zeroC : (zero32.map u8v).toArray.size = 32 := by simp [zero32]
theorem fix_fail (L : List Nat) (E : Nat → Addr) (B : Nat) (w : World) (v pv : Value) (ws : List UInt8) (l : List Int) (hE : Errs L E B w) (m1 : 1 ∈ L) (m8 : 8 ∈ L) (m10 : 10 ∈ L) (m16 : 16 ∈ L) (m17 : 17 ∈ L) (m20 : 20 ∈ L) (hb : Bs (fun _ => False) w v ws) (hv : Is (fun _ => False) w pv l) (hl : l.length ≤ 1000) (K : Nat)
    (hK : (eraBad (ws.length : Int) l ≠ 0 ∧ K = eraBad (ws.length : Int) l) ∨ (eraBad (ws.length : Int) l = 0 ∧ K = 17 ∧ ¬ mGood ws l)) :
    Calls Tryd.prog 55 #[v, pv] w fun e w' => e = .returned (.tuple #[noFix, errv E K]) ∧ Fr [] w w' := by
  obtain ⟨wa, wc, e, -⟩ := id hb
  subst e
  obtain ⟨pa, pc, e, -⟩ := hv.shape
  subst e
  by_cases hn : 33 ≤ ws.length ∧ ws.length ≤ 255
  · have hof : ∀ p, Fr [] w p → Calls Tryd.prog 67 #[.slice wa ws.length wc] p fun e w' => e = .returned (.tuple #[.agg ((synL ws).map u8v).toArray, .nilIface]) ∧ Fr [] p w' := fun p hp => of_any p _ ws (hb.keep hp (by simp)) hn.1 hn.2
    rcases hK with ⟨h0, rfl⟩ | ⟨h0, rfl, hg⟩
    · rw [errv_pos E _ h0]
      refine fix_find w wa pa ws.length wc l.length pc _ (synC ws) (cells_one _) _ hof fun p hp => ?_
      have := find_bad L E B p (synL ws) (.slice pa l.length pc) (ws.length : Int) l (synL_len _) (hE.keep0 hp) m1 m8 m10 m16 (hv.keep hp (by simp)) hl h0
      rwa [errv_pos E _ h0] at this
    · rw [errv_pos E 17 (by decide)]
      by_cases hlost : fLost (synL ws) (ws.length : Int) l
      · refine fix_find w wa pa ws.length wc l.length pc _ (synC ws) (cells_one _) _ hof fun p hp => ?_
        have := find_lost L E B p (synL ws) (.slice pa l.length pc) (ws.length : Int) l (synL_len _) (hE.keep0 hp) m1 m8 m10 m16 m17 (hv.keep hp (by simp)) h0 hlost
        rwa [errv_pos E 17 (by decide)] at this
      · have hm : mendOk (mLoc ws l) (mEv ws l) ws = false := by
          cases h : mendOk (mLoc ws l) (mEv ws l) ws with
          | false => rfl
          | true => exact absurd ⟨hlost, h⟩ hg
        refine fix_wrong w wa pa ws.length wc l.length pc _ (synC ws) (cells_one _) _ (regL (fRow (synL ws) (ws.length : Int) l) : Int) (mLoc ws l) (mEv ws l) hof (fun p hp => find_good L E B p (synL ws) (.slice pa l.length pc) (ws.length : Int) l (synL_len _) (hE.keep0 hp) m1 m8 m10 m16 (hv.keep hp (by simp)) (by omega) h0 hlost) (fun p u v hp hu hv => ?_) ?_
        · refine (mended_any L E B p _ _ u v ws (mLoc ws l) (mEv ws l) (hE.keep0 hp) m20 (hb.keep hp (by simp)) (hu.bs (by simp)) (bwI_own hu) (bwI_own hv) hn.1 hn.2 (fLoc_le h0) (fEv_le _ _ _)).mono ?_
          rintro e w' ⟨u, b, rfl, hbb, -, hf⟩
          exact ⟨u, by rw [hbb, hm], hf⟩
        · obtain ⟨t, fz, hh⟩ := hE.glob 17 m17
          exact ⟨t, fz, hh⟩
  · have h8 : eraBad (ws.length : Int) l = 8 := era_8 (by omega)
    rcases hK with ⟨h0, rfl⟩ | ⟨h0, -⟩
    · rw [h8, errv_pos E 8 (by decide)]
      refine fix_size w wa pa ws.length wc l.length pc _ zeroC (cells_one _) _ fun p hp => ?_
      have := of_bad L E B p _ ws (hE.keep0 hp) m8 (hb.keep hp (by simp)) hn
      rwa [errv_pos E 8 (by decide)] at this
    · omega
theorem fix_good (L : List Nat) (E : Nat → Addr) (B : Nat) (w : World) (v pv : Value) (ws : List UInt8) (l : List Int) (hE : Errs L E B w) (m1 : 1 ∈ L) (m8 : 8 ∈ L) (m10 : 10 ∈ L) (m16 : 16 ∈ L) (m20 : 20 ∈ L) (hb : Bs (fun _ => False) w v ws) (hv : Is (fun _ => False) w pv l)
    (h0 : eraBad (ws.length : Int) l = 0) (hg : mGood ws l) :
    Calls Tryd.prog 55 #[v, pv] w fun e w' => ∃ u r, e = .returned (.tuple #[.agg #[u, r, .int .i64 (regL (fRow (synL ws) (ws.length : Int) l) : Int)], .nilIface]) ∧ OwnB 5 w.heap.size w' u (mOut ws l) ∧ OwnI 3 w.heap.size w' r (intL (dfrK ws (mOut ws l) ws.length)) ∧ Fr [] w w' := by
  obtain ⟨wa, wc, e, -⟩ := id hb
  subst e
  obtain ⟨pa, pc, e, -⟩ := hv.shape
  subst e
  obtain ⟨hlost, hm⟩ := hg
  obtain ⟨ps, -, -, -, -, h33, h255⟩ := era_ps h0
  refine fix_right w wa pa ws.length wc l.length pc _ (synC ws) (cells_one _) (regL (fRow (synL ws) (ws.length : Int) l) : Int) (mLoc ws l) (mEv ws l) (mOut ws l) (intL (dfrK ws (mOut ws l) ws.length)) (fun p hp => of_any p _ ws (hb.keep hp (by simp)) h33 h255) (fun p hp => find_good L E B p (synL ws) (.slice pa l.length pc) (ws.length : Int) l (synL_len _) (hE.keep0 hp) m1 m8 m10 m16 (hv.keep hp (by simp)) (by omega) h0 hlost) (fun p u v hp hu hv => ?_) (fun p u hp hu => ?_)
  · refine (mended_any L E B p _ _ u v ws (mLoc ws l) (mEv ws l) (hE.keep0 hp) m20 (hb.keep hp (by simp)) (hu.bs (by simp)) (bwI_own hu) (bwI_own hv) h33 h255 (fLoc_le h0) (fEv_le _ _ _)).mono ?_
    rintro e w' ⟨u, b, rfl, hbb, ho, hf⟩
    have hbt : b = true := by rw [hbb, hm]
    exact ⟨u, by rw [hbt], ho hbt, hf⟩
  · exact differ_any p _ u ws (mOut ws l) (hb.keep hp (by simp)) hu (mOut_len ws l) (by omega)
end Go.Proofs.YtmohiblgfmdkjaaDoor
