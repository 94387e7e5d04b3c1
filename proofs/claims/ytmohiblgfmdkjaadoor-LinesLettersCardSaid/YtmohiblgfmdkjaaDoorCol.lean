/-
  Layer 6: stripe.Column: a byte of each block.
-/
import Derived.Test.YtmohiblgfmdkjaaDoorGI
namespace Go.Proofs.YtmohiblgfmdkjaaDoor
open Go.RowKit Go.Bl
set_option linter.unusedVariables false

/-- a list of rows of bytes that can be read -/
def RdB (A : Nat → Prop) (w : World) (v : Value) (ls : List (Value × List UInt8)) : Prop := Vs A w v (ls.map (·.1)) ∧ ∀ x ∈ ls, Bs A w x.1 x.2
theorem RdB.keep {A : Nat → Prop} {w w' : World} {S : List Nat} {v : Value} {ls : List (Value × List UInt8)} (h : RdB A w v ls) (hf : Fr S w w') (hS : ∀ b ∈ S, A b) : RdB A w' v ls := by
  obtain ⟨⟨a, cap, h1, h2, h3, h4⟩, h5⟩ := h
  exact ⟨⟨a, cap, h1, h2, h3, h4.keep hf hS⟩, fun x hx => (h5 x hx).keep hf hS⟩
theorem rdb_shape {A : Nat → Prop} {w : World} {v : Value} {ls : List (Value × List UInt8)} (h : RdB A w v ls) : ∃ a cap, v = .slice a ls.length cap ∧ ls.length ≤ cap ∧ cap ≤ maxLen := by
  obtain ⟨⟨a, cap, h1, h2, h3, h4⟩, -⟩ := h
  rw [List.length_map] at h1 h2
  exact ⟨a, cap, h1, h2, h3⟩
theorem rdb_cell {A : Nat → Prop} {w : World} {a : Option Addr} {n cap : Nat} {ls : List (Value × List UInt8)} (h : RdB A w (.slice a n cap) ls) (j : Nat) (x : Value × List UInt8) (hx : ls[j]? = some x) :
    ∃ b off, a = some ⟨b, off, none⟩ ∧ w.cell? ⟨b, off + j, none⟩ = some x.1 ∧ Bs A w x.1 x.2 := by
  obtain ⟨⟨a', cap', e, h2, h3, h4⟩, h5⟩ := h
  cases e
  have hj : j < ls.length := (List.getElem?_eq_some_iff.1 hx).1
  obtain ⟨b, off, rfl, -, hc⟩ := h4.some_of (by simp; omega)
  refine ⟨b, off, rfl, ?_, h5 x (List.mem_of_getElem? hx)⟩
  rw [hc j (by simpa using hj), List.getElem?_map, hx]
  rfl
def colF (j : Nat) (x : List UInt8) : UInt8 := x.getD j 0
/-- the column's row behind k rounds -/
def colR (j n k : Nat) (ls : List (Value × List UInt8)) : List UInt8 := (ls.take k).map (fun x => colF j x.2) ++ List.replicate (n - k) 0
theorem colR_step (j n k : Nat) (ls : List (Value × List UInt8)) (x : Value × List UInt8) (hx : ls[k]? = some x) (hn : ls.length = n) : (colR j n k ls).set k (colF j x.2) = colR j n (k + 1) ls := by
  have hk : k < ls.length := (List.getElem?_eq_some_iff.1 hx).1
  unfold colR
  rw [List.take_add_one, hx, show n - k = (n - (k + 1)) + 1 by omega, List.replicate_succ]
  have hl : ((ls.take k).map (fun x => colF j x.2)).length = k := by simp; omega
  rw [List.set_append_right _ _ (by omega), hl, Nat.sub_self]
  simp
theorem colR_len (j n k : Nat) (ls : List (Value × List UInt8)) (hn : ls.length = n) (hk : k ≤ n) : (colR j n k ls).length = n := by
  simp [colR]; omega

set_option maxRecDepth 100000 in
set_option maxHeartbeats 3000000 in
theorem column_any (A : Nat → Prop) (w : World) (v : Value) (ls : List (Value × List UInt8)) (j : Nat) (hr : RdB A w v ls) (hj : j < 8) (h8 : ∀ x ∈ ls, x.2.length = 8) (hl : ls.length ≤ 1000) :
    Calls Tryd.prog 53 #[v, .int .i64 j] w fun e w' => ∃ u, e = .returned u ∧ OwnB 5 w.heap.size w' u (ls.map fun x => colF j x.2) ∧ Fr [] w w' := by
  have HR := Lib.hid hr
  have H8 := Lib.hid h8
  obtain ⟨a, cap, rfl, c2, c3⟩ := rdb_shape hr
  unfold maxLen at c3
  obtain ⟨i0, hi, hz, hsz, hby⟩ := info_bytes Tryd.infoByte
  obtain ⟨N, hN⟩ : ∃ N, ls.length = N := ⟨_, rfl⟩
  rw [hN] at HR c2 hl ⊢
  have HN := Lib.hid hN
  clear hN hr h8
  have hmod : ((j : Int) % 8 + 8) % 8 = j := by omega
  have HA := Lib.hid (show At (w.alloc (.cells (madeCells #[.int .u8 0] N) 5)) w.heap.size (.cells ((colR j N 0 ls).map u8v).toArray 5) by rw [made_zeros]; simp only [colR, List.take_zero, List.map_nil, List.nil_append, Nat.sub_zero]; exact At.new rfl)
  go_enter Tryd.func53, Tryd.ntmps53
  go_wp2_with (refine wpList_make_row _ rfl (.tmp 13) (.tmp 13) 22 rfl 5 i0 (.int .u8 0) Tryd.underlying22 hi hz hsz rfl .i64 .i64 N rfl rfl (by rw [hby]; omega) (by omega) ?_)
  obtain ⟨w2, hw2⟩ : ∃ w2, w.alloc (.cells (madeCells #[.int .u8 0] N) 5) = w2 := ⟨_, rfl⟩
  have HF := Lib.hid (show Fr [] w w2 by rw [← hw2]; exact Fr.alloc _ _)
  rw [hw2] at HA ⊢
  clear hw2 hi hz hsz hby
  go_wp2
  try rw [hmod]
  clear hmod
  go_loopw [17] (fun i wr => ∃ k : Nat, k ≤ N ∧ i = .int .i64 k ∧ Hid (At wr w.heap.size (.cells ((colR j N k ls).map u8v).toArray 5)) ∧ Hid (Fr [] w wr)) (fun i _ => N - (intOf i).toNat)
  case atStart => exact ⟨0, by omega, rfl, HA.out, HF.out⟩
  case round =>
    clear HA HF
    obtain ⟨k, hk, rfl, HA, HF⟩ := hrel
    by_cases hkn : k < N
    · obtain ⟨x, hx⟩ : ∃ x, ls[k]? = some x := ⟨_, List.getElem?_eq_getElem (by have := HN.out; omega)⟩
      obtain ⟨b, off, rfl, hc, hbx⟩ := rdb_cell (HR.out.keep HF.out (by simp)) k x hx
      have h8x := H8.out x (List.mem_of_getElem? hx)
      have HS := Lib.hid (colR_step j N k ls x hx HN.out)
      have hcl := colR_len j N k ls HN.out hk
      obtain ⟨bo, bn, bc, hbv⟩ := bs_shp hbx
      obtain ⟨xv, xs⟩ := x
      simp only at hbv hc hbx h8x HS
      subst hbv
      obtain rfl : bn = 8 := by
        obtain ⟨a', c', e, -⟩ := hbx
        cases e
        exact h8x
      obtain ⟨z, hz⟩ : ∃ z, xs[j]? = some z := ⟨_, List.getElem?_eq_getElem (by omega)⟩
      obtain ⟨xb, xo, rfl, hcz⟩ := bs_cell hbx j z hz
      have HZ := Lib.hid (show colF j xs = z by unfold colF; rw [List.getD_eq_getElem?_getD, hz]; rfl)
      obtain ⟨cur, hcur⟩ : ∃ cur, colR j N k ls = cur := ⟨_, rfl⟩
      rw [hcur] at HA HS hcl
      clear hx hbx h8x hz hcur
      go_wp2_with (refine wpl_store_one (.tmp 31) (.tmp 30) rfl rfl (.int .u8 (z.toNat : Int)) rfl rfl HA.out (by simp [hcl]; omega) (by kernel_rfl) rfl ?_)
      intro w3 f3 a3 _
      have HA2 := Lib.hid (show At w3 w.heap.size (.cells ((colR j N (k + 1) ls).map u8v).toArray 5) by
        rw [← HS.out, HZ.out, List.map_set]
        simpa [u8v] using a3)
      have HF2 := Lib.hid (HF.out.then f3 (by intro b hb; simp at hb; omega))
      clear f3 a3 HA HF hc hcz
      go_wp2
      go_roundw
      case rel => exact ⟨k + 1, by omega, by go_num, HA2.out, HF2.out⟩
      case measure => simp [intOf]; omega
    · obtain rfl : k = N := by omega
      have HO := Lib.hid (show OwnB 5 w.heap.size wr (.slice (some ⟨w.heap.size, 0, none⟩) k k) (ls.map fun x => colF j x.2) from by
        have h := HA.out
        have hn := HN.out
        have hR : colR j k k ls = ls.map fun x => colF j x.2 := by
          unfold colR
          rw [List.take_of_length_le (by omega), Nat.sub_self]
          simp
        rw [hR] at h
        refine ⟨by simp, .inr ⟨w.heap.size, k, _, by simp [hn], Nat.le_refl _, h, by simp [hn], by simp [maxLen]; omega, by simp [hn], ?_⟩⟩
        rw [List.take_of_length_le (by simp [hn])])
      go_wp2
      go_ret
      exact ⟨_, rfl, HO.out, HF.out⟩
end Go.Proofs.YtmohiblgfmdkjaaDoor
