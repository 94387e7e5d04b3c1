/-
  Layer 22, the law's Of: a path is copied. (printed by genof.py)
-/
import Derived.Test.YtdkhgpnidamalaaDoorLtr
import Derived.Test.YtdkhgpnidamalaaDoorGB
import Derived.Test.YtdkhgpnidamalaaDoorBs0
namespace Go.Proofs.YtdkhgpnidamalaaDoor
open Go.RowKit Go.Bl
set_option linter.unusedVariables false
set_option maxRecDepth 100000 in
theorem frame60 (a : Go.Act) (hs : a.tmps.size = 60) (hd : a.defers = []) : a = ⟨(slot a 0 :: slot a 1 :: slot a 2 :: slot a 3 :: slot a 4 :: slot a 5 :: slot a 6 :: slot a 7 :: slot a 8 :: slot a 9 :: slot a 10 :: slot a 11 :: slot a 12 :: slot a 13 :: slot a 14 :: slot a 15 :: slot a 16 :: slot a 17 :: slot a 18 :: slot a 19 :: slot a 20 :: slot a 21 :: slot a 22 :: slot a 23 :: slot a 24 :: slot a 25 :: slot a 26 :: slot a 27 :: slot a 28 :: slot a 29 :: slot a 30 :: slot a 31 :: slot a 32 :: slot a 33 :: slot a 34 :: slot a 35 :: slot a 36 :: slot a 37 :: slot a 38 :: slot a 39 :: slot a 40 :: slot a 41 :: slot a 42 :: slot a 43 :: slot a 44 :: slot a 45 :: slot a 46 :: slot a 47 :: slot a 48 :: slot a 49 :: slot a 50 :: slot a 51 :: slot a 52 :: slot a 53 :: slot a 54 :: slot a 55 :: slot a 56 :: slot a 57 :: slot a 58 :: slot a 59 :: []).toArray, []⟩ := frameX a 60 hs hd
theorem own_neK {e te : TypeId} {base s : Nat} {w : World} {v : Value} {rs : List (List Value)} (h : OwnK e base s w v rs) {b : Nat} {c : Array Value} {fz : Nat × Nat} (hb : w.heap[b]? = some (.cells c te fz)) (hne : te ≠ e) : v.ownBlock ≠ some b := own_neT h.1 hb hne
theorem Tryd.infoArr : (Tryd.prog.info? 29).map (fun i => (i.zero, i.size, i.bytes)) = some (some (.agg (List.replicate 32 (Value.int .u8 0)).toArray), 32, 32) := by kernel_rfl
theorem digC_len {d : List UInt8} (h : d.length = 32) : (digC d).length = 32 := by simp [digC, h]
theorem digC_one (d : List UInt8) : ∀ u ∈ digC d, u.oneCell' = true := u8v_one d
theorem digC_all (d : List UInt8) : (digC d).toArray.all (·.oneCell') = true := by
  rw [List.all_toArray]
  exact List.all_eq_true.2 (digC_one d)
end Go.Proofs.YtdkhgpnidamalaaDoor
