/-
  Layer 6: a file's data blocks: slices.Collect(slices.Chunk(pad, 8)).
  Layer 6: rows of bytes in blocks of bytes: they stand when a row of rows grows.
-/
import Derived.Test.YtmohiblgfmdkjaaDoorKB
import Derived.Test.YtmohiblgfmdkjaaDoorKG
import Derived.Test.YtmohiblgfmdkjaaDoorHY
namespace Go.Proofs.YtmohiblgfmdkjaaDoor
open Go.RowKit Go.Bl
set_option linter.unusedVariables false

set_option maxRecDepth 100000 in
set_option maxHeartbeats 1000000 in
theorem chunk_any (w : World) (a : Option Addr) (L cap : Nat) :
    Calls Tryd.prog 31 #[.slice a L cap, .int .i64 8] w fun e w' => e = .returned (.func (.func 49) #[] #[.pointer (some ⟨w.heap.size, 0, none⟩), .pointer (some ⟨w.heap.size + 1, 0, none⟩)]) ∧ w' = (w.alloc (.cells #[.slice a L cap] 22)).alloc (.cells #[.int .i64 8] 3) := by
  go_enter Tryd.func31, Tryd.ntmps31
  go_wp2
  go_ret
  exact ⟨by simp, rfl⟩
set_option maxRecDepth 100000 in
set_option maxHeartbeats 1000000 in
theorem collect_any (w : World) (Bs Bn b M L cap : Nat) (hL : L = 8 * M) (hM : M ≤ 1000) (hc1 : L ≤ cap) (hc2 : cap ≤ 2 ^ 63 - 1)
    (hBs : w.cell? ⟨Bs, 0, none⟩ = some (.slice (some ⟨b, 0, none⟩) L cap)) (hBn : w.cell? ⟨Bn, 0, none⟩ = some (.int .i64 8)) :
    Calls Tryd.prog 30 #[.func (.func 49) #[] #[.pointer (some ⟨Bs, 0, none⟩), .pointer (some ⟨Bn, 0, none⟩)]] w fun e w' => ∃ v, e = .returned v ∧ OwnV 22 w.heap.size w' v ((List.range M).map (ckV b)) ∧ Fr [] w w' := by
  have HA := Lib.hid (callsIn_wide.1 (apseq_in Fence.wide 3 trivial trivial rfl (by omega) Bs Bn b M L cap hL hM hc1 hc2 w hBs hBn (cell_lt hBs) (cell_lt hBn)))
  clear hBs hBn
  go_enter Tryd.func30, Tryd.ntmps30
  go_wp2_with fail
  refine HA.out.mono ?_
  rintro e w1 ⟨v, rfl, ho, hb⟩
  have HO := Lib.hid (show OwnV 22 w.heap.size w1 v ((List.range M).map (ckV b)) by unfold OwnV; rw [List.length_map, List.length_range]; exact ho)
  have HF := Lib.hid (Fr.of_below hb)
  clear ho hb
  go_wp2
  go_ret
  exact ⟨_, rfl, HO.out, HF.out⟩
/-- a cut of eight out of a row -/
theorem ck_bs {A : Nat → Prop} {w : World} {b L cap : Nat} {xs : List UInt8} (h : Bs A w (.slice (some ⟨b, 0, none⟩) L cap) xs) (k : Nat) (hk : 8 * k + 8 ≤ L) : Bs A w (ckV b k) ((xs.drop (8 * k)).take 8) := by
  obtain ⟨a, cp, e, h1, h2, h3⟩ := h
  cases e
  have hl : ((xs.drop (8 * k)).take 8).length = 8 := by rw [List.length_take, List.length_drop]; omega
  refine ⟨some ⟨b, 8 * k, none⟩, 8, by unfold ckV; rw [hl], by rw [hl]; exact Nat.le_refl _, by simp [maxLen], ?_⟩
  have h4 := (h3.drop (8 * k)).take 8
  rw [Nat.zero_add, ← List.map_drop, ← List.map_take] at h4
  exact h4
/-- the data blocks as a list that can be read -/
def ckL (b M : Nat) (xs : List UInt8) : List (Value × List UInt8) := (List.range M).map fun k => (ckV b k, (xs.drop (8 * k)).take 8)
theorem ckL_rd {A : Nat → Prop} {w : World} {b M L cap : Nat} {v : Value} {xs : List UInt8} (h : Bs A w (.slice (some ⟨b, 0, none⟩) L cap) xs) (hL : L = 8 * M) (hv : Vs A w v ((List.range M).map (ckV b))) : RdB A w v (ckL b M xs) := by
  refine ⟨?_, fun x hx => ?_⟩
  · have e : (ckL b M xs).map (·.1) = (List.range M).map (ckV b) := by simp [ckL, Function.comp_def]
    rw [e]; exact hv
  · obtain ⟨k, hk, rfl⟩ := List.mem_map.1 hx
    exact ck_bs h k (by have := List.mem_range.1 hk; omega)
theorem ckL_data (b M : Nat) (xs : List UInt8) : (ckL b M xs).map (·.2) = chunkN M xs := by
  apply List.ext_getElem?
  intro k
  rcases Nat.lt_or_ge k M with h | h
  · rw [chunkN_get M k xs h]
    simp [ckL, h]
  · rw [List.getElem?_eq_none (by simp [ckL]; exact h), List.getElem?_eq_none (by rw [chunkN_len]; exact h)]
end Go.Proofs.YtmohiblgfmdkjaaDoor
namespace Go.Proofs.YtmohiblgfmdkjaaDoor
open Go.RowKit Go.Bl
set_option linter.unusedVariables false

/-- out of a row of one's own -/
theorem ck_bst {w : World} {base b L cap : Nat} {xs : List UInt8} (h : OwnB 5 base w (.slice (some ⟨b, 0, none⟩) L cap) xs) (k : Nat) (hk : 8 * k + 8 ≤ xs.length) : BsT w (ckV b k) ((xs.drop (8 * k)).take 8) := by
  obtain ⟨h1, h2⟩ := h
  rcases h2 with ⟨h2, -⟩ | ⟨g, cap', cur, he, hg, hh, hn, hm, hs, ht⟩
  · cases h2
  · cases he
    have hl : ((xs.drop (8 * k)).take 8).length = 8 := by rw [List.length_take, List.length_drop]; omega
    refine ⟨b, 8 * k, 8, cur, by unfold ckV; rw [hl], by rw [hl]; exact Nat.le_refl _, by simp [maxLen], hh, fun i hi => ?_⟩
    rw [List.length_map, hl] at hi
    have e : (cur.toList.take (xs.length * 1))[8 * k + i]? = (xs.map u8v)[8 * k + i]? := by rw [ht]
    rw [List.getElem?_take, if_pos (by omega), Array.getElem?_toList] at e
    rw [e, List.map_take, List.map_drop, List.getElem?_take, if_pos hi, List.getElem?_drop]
theorem rws_bst {base : Nat} {w : World} {bs : List Nat} {rows : List (List UInt8)} (h : Rws base w bs rows) (h8 : ∀ r ∈ rows, r.length = 8) (i b : Nat) (r : List UInt8) (hb : bs[i]? = some b) (hr : rows[i]? = some r) : BsT w (sl8 b) r := by
  have h3 := h.at_ i b r hb hr
  have hl := h8 r (List.mem_of_getElem? hr)
  exact ⟨b, 0, 8, _, by unfold sl8; rw [hl], by omega, by simp [maxLen], h3, fun i hi => by simp⟩
/-- a list of rows, typed -/
def RdT (A : Nat → Prop) (w : World) (v : Value) (ls : List (Value × List UInt8)) : Prop := Vs A w v (ls.map (·.1)) ∧ ∀ x ∈ ls, BsT w x.1 x.2
theorem RdT.rdb {w : World} {v : Value} {ls : List (Value × List UInt8)} (h : RdT (fun _ => False) w v ls) : RdB (fun _ => False) w v ls := ⟨h.1, fun x hx => (h.2 x hx).bs (fun _ h => h)⟩
end Go.Proofs.YtmohiblgfmdkjaaDoor
