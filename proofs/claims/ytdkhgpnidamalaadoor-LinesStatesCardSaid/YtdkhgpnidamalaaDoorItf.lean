/-
  Layer 35: an item built of its parts. (printed by genlst.py)
-/
import Derived.Test.YtdkhgpnidamalaaDoorItm
namespace Go.Proofs.YtdkhgpnidamalaaDoor
open Go.RowKit Go.Bl
set_option linter.unusedVariables false
def itV (x : ItP) : List Value := [.int .i64 x.num, .string (bA x.name), .agg (itR x).toArray, .agg (digC x.root).toArray, .agg (digC x.file).toArray, .int .i64 x.tick, .bool x.kept, .int .i64 x.used, .int .i64 x.rnds]
theorem itV_cells (x : ItP) : cellsL (itV x) = itC x := by simp [cellsL, itV, itC, itH, itR, itT, Value.cells]
theorem Tryd.placesRit : (Tryd.prog.underlying 37).bind (fun d => match d with | .struct fs => fs.toList.mapM (fun f => (Tryd.prog.info? f.type).map fun i => (f.offset, i.size)) | _ => none) = some [(0, 1), (1, 1), (2, 6), (8, 32), (40, 32), (72, 1), (73, 1), (74, 1), (75, 1)] := by kernel_rfl
theorem Tryd.zeroRit : ((Tryd.prog.info? 37).bind (·.zero)).map (·.cells.size) = some 76 := by kernel_rfl
theorem built_it {x : ItP} (h : x.wf) : Tryd.prog.built 37 ((itV x).zipIdx 0 |>.map fun x => (x.2, x.1)) = some (itC x).toArray := by
  rw [← itV_cells]
  have hp := Tryd.placesRit
  cases hu : Tryd.prog.underlying 37 with
  | none => rw [hu] at hp; simp at hp
  | some d =>
    rw [hu] at hp
    cases d with
    | struct fs =>
      refine built_s (itV x) hu (by rw [Tryd.zeroRit, itV_cells, itC_len h]) hp (fun k v hv => ?_)
      have hr := digC_len' h.root
      have hf := digC_len' h.file
      match k, hv with
      | 0, hv => cases hv; rfl
      | 1, hv => cases hv; rfl
      | 2, hv => cases hv; rfl
      | 3, hv => cases hv; simp [itV, cellsL, Value.cells, itR, hr]
      | 4, hv => cases hv; simp [itV, cellsL, Value.cells, itR, hr, hf]
      | 5, hv => cases hv; simp [itV, cellsL, Value.cells, itR, hr, hf]
      | 6, hv => cases hv; simp [itV, cellsL, Value.cells, itR, hr, hf]
      | 7, hv => cases hv; simp [itV, cellsL, Value.cells, itR, hr, hf]
      | 8, hv => cases hv; simp [itV, cellsL, Value.cells, itR, hr, hf]
      | (k + 9), hv => simp [itV] at hv
    | _ => simp at hp
theorem range_par {w : World} {b : Nat} {x : ItP} (h : w.rangeAt b 0 (itC x)) : w.rangeAt b 2 (itR x) := by
  have := range_mid (n := 2) (A := itH x) (B := itR x) (C := digC x.root ++ (digC x.file ++ itT x)) h rfl
  rwa [Nat.zero_add] at this
theorem range_root {w : World} {b : Nat} {x : ItP} (h : w.rangeAt b 0 (itC x)) : w.rangeAt b 8 (digC x.root) := by
  have := range_mid (n := 8) (A := itH x ++ itR x) (B := digC x.root) (C := digC x.file ++ itT x) (by rw [List.append_assoc]; exact h) rfl
  rwa [Nat.zero_add] at this
theorem range_file {w : World} {b : Nat} {x : ItP} (hw : x.wf) (h : w.rangeAt b 0 (itC x)) : w.rangeAt b 40 (digC x.file) := by
  have := range_mid (n := 40) (A := itH x ++ (itR x ++ digC x.root)) (B := digC x.file) (C := itT x) (by rw [List.append_assoc, List.append_assoc]; exact h) (by simp [itH, itR, digC_len' hw.root])
  rwa [Nat.zero_add] at this
end Go.Proofs.YtdkhgpnidamalaaDoor
