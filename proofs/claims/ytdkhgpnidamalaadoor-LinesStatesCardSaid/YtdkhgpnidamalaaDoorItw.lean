/-
  Layer 35: the law's Item, walked. (printed by genlst.py)
-/
import Derived.Test.YtdkhgpnidamalaaDoorItf
import Derived.Test.YtdkhgpnidamalaaDoorGB
import Derived.Test.YtdkhgpnidamalaaDoorBs0
namespace Go.Proofs.YtdkhgpnidamalaaDoor
open Go.RowKit Go.Bl
set_option linter.unusedVariables false
set_option maxRecDepth 100000 in
set_option maxHeartbeats 8000000 in
theorem item_of (w : World) (x : ItP) (hok : x.wf) : Calls Tryd.prog 7 #[.agg (itC x).toArray] w fun r w' => r = .returned (.agg (itC x).toArray) ∧ Fr [] w w' := by
  have hA : At ((w.alloc (.cells (itC x).toArray 32)).alloc (.cells Tryd.zeroCells37 37)) w.heap.size (.cells (itC x).toArray 32) := (At.new rfl).al
  have c0 : ((w.alloc (.cells (itC x).toArray 32)).alloc (.cells Tryd.zeroCells37 37)).cell? ⟨w.heap.size, 0, none⟩ = some (.int .i64 x.num) := (hA.cell 0).trans (itC_0 x)
  have c1 : ((w.alloc (.cells (itC x).toArray 32)).alloc (.cells Tryd.zeroCells37 37)).cell? ⟨w.heap.size, 1, none⟩ = some (.string (bA x.name)) := (hA.cell 1).trans (itC_1 x)
  have c72 : ((w.alloc (.cells (itC x).toArray 32)).alloc (.cells Tryd.zeroCells37 37)).cell? ⟨w.heap.size, 72, none⟩ = some (.int .i64 x.tick) := (hA.cell 72).trans (itC_72 hok)
  have c73 : ((w.alloc (.cells (itC x).toArray 32)).alloc (.cells Tryd.zeroCells37 37)).cell? ⟨w.heap.size, 73, none⟩ = some (.bool x.kept) := (hA.cell 73).trans (itC_73 hok)
  have c74 : ((w.alloc (.cells (itC x).toArray 32)).alloc (.cells Tryd.zeroCells37 37)).cell? ⟨w.heap.size, 74, none⟩ = some (.int .i64 x.used) := (hA.cell 74).trans (itC_74 hok)
  have c75 : ((w.alloc (.cells (itC x).toArray 32)).alloc (.cells Tryd.zeroCells37 37)).cell? ⟨w.heap.size, 75, none⟩ = some (.int .i64 x.rnds) := (hA.cell 75).trans (itC_75 hok)
  have HRP := Lib.hid (range_par (range_of (c := itC x) hA))
  have HRR := Lib.hid (range_root (range_of (c := itC x) hA))
  have HRF := Lib.hid (range_file hok (range_of (c := itC x) hA))
  have HSR := Lib.hid (show (Tryd.prog.info? 30).map (·.size) = some (digC x.root).length by rw [digC_len' hok.root]; kernel_rfl)
  have HSF := Lib.hid (show (Tryd.prog.info? 30).map (·.size) = some (digC x.file).length by rw [digC_len' hok.file]; kernel_rfl)
  have HB := Lib.hid (built_it hok)
  have HSI := Lib.hid (show (Tryd.prog.info? 37).map (·.size) = some (itC x).toArray.size by rw [List.size_toArray, itC_len hok]; kernel_rfl)
  have HSL := Lib.hid (show (Tryd.prog.info? 37).map (·.size) = some (itC x).length by rw [itC_len hok]; kernel_rfl)
  have H76 := Lib.hid (show (Tryd.zeroCells37).size = (itC x).toArray.size by rw [show (itC x).toArray.size = 76 by rw [List.size_toArray, itC_len hok]]; kernel_rfl)
  have HALL := Lib.hid (itC_all x)
  have HWS := Lib.hid (show (w.alloc (.cells (itC x).toArray 32)).heap.size = w.heap.size + 1 by simp)
  have HRES := Lib.hid (range_of (c := itC x) (At.new (by simp) : At ((w.alloc (.cells (itC x).toArray 32)).alloc (.cells (itC x).toArray 37)) (w.heap.size + 1) (.cells (itC x).toArray 37)))
  have HF := Lib.hid (show Fr [] w ((w.alloc (.cells (itC x).toArray 32)).alloc (.cells (itC x).toArray 37)) from (Fr.alloc _ _).trans (Fr.alloc _ _))
  clear hA hok
  go_enter Tryd.func7, Tryd.ntmps7
  go_wp2_with (first | (refine wpl_load_k (.tmp 7) rfl rfl w.heap.size 2 (itR x) rfl HRP.out Tryd.underlying28 rfl (by kernel_rfl) ?_) | (refine wpl_load_k (.tmp 9) rfl rfl w.heap.size 8 (digC x.root) rfl HRR.out Tryd.underlying30 rfl HSR.out ?_) | (refine wpl_load_k (.tmp 11) rfl rfl w.heap.size 40 (digC x.file) rfl HRF.out Tryd.underlying30 rfl HSF.out ?_) | (refine wpl_build_s rfl rfl (itV x) (itC x) rfl HB.out ?_) | (refine wpl_store_new (.tmp 2) (.tmp 21) rfl rfl (itC x).toArray (by rw [HWS.out]; rfl) rfl HSI.out H76.out HALL.out ?_))
  refine bodyPost_ret (results_cell (d := _) rfl _ _ (w.heap.size + 1) _ rfl HRES.out Tryd.underlying37 rfl HSL.out) rfl ?_
  exact ⟨rfl, HF.out⟩
end Go.Proofs.YtdkhgpnidamalaaDoor
