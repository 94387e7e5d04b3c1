/-
  Layer 6: stripe.Column: a byte of each block.
  Layer 6: stripe.blank: blocks of noughts.
-/
import Derived.Test.YtmohiblgfmdkjaaDoorGI
namespace Go.Proofs.YtmohiblgfmdkjaaDoor
open Go.RowKit Go.Bl
set_option linter.unusedVariables false

/-- a list of rows of bytes that can be read -/
def RdB (A : Nat → Prop) (w : World) (v : Value) (ls : List (Value × List UInt8)) : Prop := Vs A w v (ls.map (·.1)) ∧ ∀ x ∈ ls, Bs A w x.1 x.2
theorem RdB.keep {A : Nat → Prop} {w w' : World} {S : List Nat} {v : Value} {ls : List (Value × List UInt8)} (h : RdB A w v ls) (hf : Fr S w w') (hS : ∀ b ∈ S, A b) : RdB A w' v ls := by
  obtain ⟨⟨a, cap, h1, h2, h3, h4⟩, h5⟩ := h
  exact ⟨⟨a, cap, h1, h2, h3, h4.keep hf hS⟩, fun x hx => (h5 x hx).keep hf hS⟩
theorem rdb_shape {A : Nat → Prop} {w : World} {v : Value} {ls : List (Value × List UInt8)} (h : RdB A w v ls) : ∃ a cap, v = .slice a ls.length cap ∧ ls.length ≤ cap ∧ cap ≤ maxLen := by
  obtain ⟨⟨a, cap, h1, h2, h3, h4⟩, -⟩ := h
  rw [List.length_map] at h1 h2
  exact ⟨a, cap, h1, h2, h3⟩
theorem rdb_cell {A : Nat → Prop} {w : World} {a : Option Addr} {n cap : Nat} {ls : List (Value × List UInt8)} (h : RdB A w (.slice a n cap) ls) (j : Nat) (x : Value × List UInt8) (hx : ls[j]? = some x) :
    ∃ b off, a = some ⟨b, off, none⟩ ∧ w.cell? ⟨b, off + j, none⟩ = some x.1 ∧ Bs A w x.1 x.2 := by
  obtain ⟨⟨a', cap', e, h2, h3, h4⟩, h5⟩ := h
  cases e
  have hj : j < ls.length := (List.getElem?_eq_some_iff.1 hx).1
  obtain ⟨b, off, rfl, -, hc⟩ := h4.some_of (by simp; omega)
  refine ⟨b, off, rfl, ?_, h5 x (List.mem_of_getElem? hx)⟩
  rw [hc j (by simpa using hj), List.getElem?_map, hx]
  rfl
def colF (j : Nat) (x : List UInt8) : UInt8 := x.getD j 0
/-- the column's row behind k rounds -/
def colR (j n k : Nat) (ls : List (Value × List UInt8)) : List UInt8 := (ls.take k).map (fun x => colF j x.2) ++ List.replicate (n - k) 0
theorem colR_step (j n k : Nat) (ls : List (Value × List UInt8)) (x : Value × List UInt8) (hx : ls[k]? = some x) (hn : ls.length = n) : (colR j n k ls).set k (colF j x.2) = colR j n (k + 1) ls := by
  have hk : k < ls.length := (List.getElem?_eq_some_iff.1 hx).1
  unfold colR
  rw [List.take_add_one, hx, show n - k = (n - (k + 1)) + 1 by omega, List.replicate_succ]
  have hl : ((ls.take k).map (fun x => colF j x.2)).length = k := by simp; omega
  rw [List.set_append_right _ _ (by omega), hl, Nat.sub_self]
  simp
theorem colR_len (j n k : Nat) (ls : List (Value × List UInt8)) (hn : ls.length = n) (hk : k ≤ n) : (colR j n k ls).length = n := by
  simp [colR]; omega

set_option maxRecDepth 100000 in
set_option maxHeartbeats 3000000 in
theorem column_any (A : Nat → Prop) (w : World) (v : Value) (ls : List (Value × List UInt8)) (j : Nat) (hr : RdB A w v ls) (hj : j < 8) (h8 : ∀ x ∈ ls, x.2.length = 8) (hl : ls.length ≤ 1000) :
    Calls Tryd.prog 53 #[v, .int .i64 j] w fun e w' => ∃ u, e = .returned u ∧ OwnB 5 w.heap.size w' u (ls.map fun x => colF j x.2) ∧ Fr [] w w' := by
  have HR := Lib.hid hr
  have H8 := Lib.hid h8
  obtain ⟨a, cap, rfl, c2, c3⟩ := rdb_shape hr
  unfold maxLen at c3
  obtain ⟨i0, hi, hz, hsz, hby⟩ := info_bytes Tryd.infoByte
  obtain ⟨N, hN⟩ : ∃ N, ls.length = N := ⟨_, rfl⟩
  rw [hN] at HR c2 hl ⊢
  have HN := Lib.hid hN
  clear hN hr h8
  have hmod : ((j : Int) % 8 + 8) % 8 = j := by omega
  have HA := Lib.hid (show At (w.alloc (.cells (madeCells #[.int .u8 0] N) 5)) w.heap.size (.cells ((colR j N 0 ls).map u8v).toArray 5) by rw [made_zeros]; simp only [colR, List.take_zero, List.map_nil, List.nil_append, Nat.sub_zero]; exact At.new rfl)
  go_enter Tryd.func53, Tryd.ntmps53
  go_wp2_with (refine wpList_make_row _ rfl (.tmp 13) (.tmp 13) 22 rfl 5 i0 (.int .u8 0) Tryd.underlying22 hi hz hsz rfl .i64 .i64 N rfl rfl (by rw [hby]; omega) (by omega) ?_)
  obtain ⟨w2, hw2⟩ : ∃ w2, w.alloc (.cells (madeCells #[.int .u8 0] N) 5) = w2 := ⟨_, rfl⟩
  have HF := Lib.hid (show Fr [] w w2 by rw [← hw2]; exact Fr.alloc _ _)
  rw [hw2] at HA ⊢
  clear hw2 hi hz hsz hby
  go_wp2
  try rw [hmod]
  clear hmod
  go_loopw [17] (fun i wr => ∃ k : Nat, k ≤ N ∧ i = .int .i64 k ∧ Hid (At wr w.heap.size (.cells ((colR j N k ls).map u8v).toArray 5)) ∧ Hid (Fr [] w wr)) (fun i _ => N - (intOf i).toNat)
  case atStart => exact ⟨0, by omega, rfl, HA.out, HF.out⟩
  case round =>
    clear HA HF
    obtain ⟨k, hk, rfl, HA, HF⟩ := hrel
    by_cases hkn : k < N
    · obtain ⟨x, hx⟩ : ∃ x, ls[k]? = some x := ⟨_, List.getElem?_eq_getElem (by have := HN.out; omega)⟩
      obtain ⟨b, off, rfl, hc, hbx⟩ := rdb_cell (HR.out.keep HF.out (by simp)) k x hx
      have h8x := H8.out x (List.mem_of_getElem? hx)
      have HS := Lib.hid (colR_step j N k ls x hx HN.out)
      have hcl := colR_len j N k ls HN.out hk
      obtain ⟨bo, bn, bc, hbv⟩ := bs_shp hbx
      obtain ⟨xv, xs⟩ := x
      simp only at hbv hc hbx h8x HS
      subst hbv
      obtain rfl : bn = 8 := by
        obtain ⟨a', c', e, -⟩ := hbx
        cases e
        exact h8x
      obtain ⟨z, hz⟩ : ∃ z, xs[j]? = some z := ⟨_, List.getElem?_eq_getElem (by omega)⟩
      obtain ⟨xb, xo, rfl, hcz⟩ := bs_cell hbx j z hz
      have HZ := Lib.hid (show colF j xs = z by unfold colF; rw [List.getD_eq_getElem?_getD, hz]; rfl)
      obtain ⟨cur, hcur⟩ : ∃ cur, colR j N k ls = cur := ⟨_, rfl⟩
      rw [hcur] at HA HS hcl
      clear hx hbx h8x hz hcur
      go_wp2_with (refine wpl_store_one (.tmp 31) (.tmp 30) rfl rfl (.int .u8 (z.toNat : Int)) rfl rfl HA.out (by simp [hcl]; omega) (by kernel_rfl) rfl ?_)
      intro w3 f3 a3 _
      have HA2 := Lib.hid (show At w3 w.heap.size (.cells ((colR j N (k + 1) ls).map u8v).toArray 5) by
        rw [← HS.out, HZ.out, List.map_set]
        simpa [u8v] using a3)
      have HF2 := Lib.hid (HF.out.then f3 (by intro b hb; simp at hb; omega))
      clear f3 a3 HA HF hc hcz
      go_wp2
      go_roundw
      case rel => exact ⟨k + 1, by omega, by go_num, HA2.out, HF2.out⟩
      case measure => simp [intOf]; omega
    · obtain rfl : k = N := by omega
      have HO := Lib.hid (show OwnB 5 w.heap.size wr (.slice (some ⟨w.heap.size, 0, none⟩) k k) (ls.map fun x => colF j x.2) from by
        have h := HA.out
        have hn := HN.out
        have hR : colR j k k ls = ls.map fun x => colF j x.2 := by
          unfold colR
          rw [List.take_of_length_le (by omega), Nat.sub_self]
          simp
        rw [hR] at h
        refine ⟨by simp, .inr ⟨w.heap.size, k, _, by simp [hn], Nat.le_refl _, h, by simp [hn], by simp [maxLen]; omega, by simp [hn], ?_⟩⟩
        rw [List.take_of_length_le (by simp [hn])])
      go_wp2
      go_ret
      exact ⟨_, rfl, HO.out, HF.out⟩
end Go.Proofs.YtmohiblgfmdkjaaDoor
namespace Go.Proofs.YtmohiblgfmdkjaaDoor
open Go.RowKit Go.Bl
set_option linter.unusedVariables false

def sl8 (b : Nat) : Value := .slice (some ⟨b, 0, none⟩) 8 8
/-- rows of bytes, each in a block of its own from base on -/
structure Rws (base : Nat) (w : World) (bs : List Nat) (rows : List (List UInt8)) : Prop where
  len : bs.length = rows.length
  nd : bs.Nodup
  lo : ∀ b ∈ bs, base ≤ b
  at_ : ∀ (i b : Nat) (r : List UInt8), bs[i]? = some b → rows[i]? = some r → At w b (.cells (r.map u8v).toArray 5)
theorem Rws.nil (base : Nat) (w : World) : Rws base w [] [] := ⟨rfl, List.nodup_nil, fun b h => by simp at h, fun i b r h => by simp at h⟩
theorem Rws.keep {base : Nat} {w w' : World} {S : List Nat} {bs : List Nat} {rows : List (List UInt8)} (h : Rws base w bs rows) (hf : Fr S w w') (hS : ∀ b ∈ bs, b ∉ S) : Rws base w' bs rows :=
  ⟨h.len, h.nd, h.lo, fun i b r hb hr => (h.at_ i b r hb hr).keep hf (hS b (List.mem_of_getElem? hb))⟩
theorem Rws.lt {base : Nat} {w : World} {bs : List Nat} {rows : List (List UInt8)} (h : Rws base w bs rows) : ∀ b ∈ bs, b < w.heap.size := fun b hb => by
  obtain ⟨i, hi, rfl⟩ := List.getElem_of_mem hb
  have h2 : i < rows.length := by rw [← h.len]; exact hi
  exact (h.at_ i _ _ (List.getElem?_eq_getElem hi) (List.getElem?_eq_getElem h2)).lt
theorem Rws.snoc {base : Nat} {w : World} {bs : List Nat} {rows : List (List UInt8)} (h : Rws base w bs rows) {b : Nat} {r : List UInt8} (hb : b ∉ bs) (hl : base ≤ b) (hA : At w b (.cells (r.map u8v).toArray 5)) : Rws base w (bs ++ [b]) (rows ++ [r]) := by
  refine ⟨by simp [h.len], List.nodup_append.2 ⟨h.nd, by simp, fun x hx y hy => by simp at hy; subst hy; intro e; exact hb (e ▸ hx)⟩, fun x hx => ?_, fun i x y hx hy => ?_⟩
  · rcases List.mem_append.1 hx with hx | hx
    · exact h.lo x hx
    · simp at hx; subst hx; exact hl
  · have hlen := h.len
    rcases Nat.lt_or_ge i bs.length with hi | hi
    · rw [List.getElem?_append_left hi] at hx
      rw [List.getElem?_append_left (by omega)] at hy
      exact h.at_ i x y hx hy
    · rw [List.getElem?_append_right hi] at hx
      rw [List.getElem?_append_right (by omega)] at hy
      have : i - bs.length = 0 := by
        have := (List.getElem?_eq_some_iff.1 hx).1
        simp at this; omega
      rw [this] at hx
      rw [show i - rows.length = 0 by omega] at hy
      simp at hx hy
      subst hx hy
      exact hA
/-- one byte of one row turns -/
theorem Rws.set {base : Nat} {w w' : World} {bs : List Nat} {rows : List (List UInt8)} (h : Rws base w bs rows) (i b j : Nat) (r : List UInt8) (c : UInt8) (hb : bs[i]? = some b) (hr : rows[i]? = some r) (hf : Fr [b] w w') (hA : At w' b (.cells ((r.set j c).map u8v).toArray 5)) :
    Rws base w' bs (rows.set i (r.set j c)) := by
  refine ⟨by simp [h.len], h.nd, h.lo, fun k x y hx hy => ?_⟩
  by_cases hk : k = i
  · subst hk
    rw [hb] at hx; cases hx
    have hl := (List.getElem?_eq_some_iff.1 hr).1
    rw [List.getElem?_set_self hl] at hy
    cases hy
    exact hA
  · rw [List.getElem?_set_ne (Ne.symm hk)] at hy
    refine (h.at_ k x y hx hy).keep hf ?_
    simp only [List.mem_singleton]
    intro e
    subst e
    have h1 := (List.getElem?_eq_some_iff.1 hx).1
    exact hk ((List.getElem?_inj h1 h.nd).1 (by rw [hx, hb]))
theorem Tryd.infoBytes : (Tryd.prog.info? 22).map (fun i => (i.zero, i.size, i.bytes)) = some (some (.slice none 0 0), 1, 24) := by kernel_rfl
theorem made_nils (n : Nat) : madeCells #[.slice none 0 0] n = (List.replicate n (Value.slice none 0 0)).toArray := by
  apply Array.ext
  · simp [madeCells]
  · intro i h1 h2
    simp [madeCells, Nat.mod_one]

set_option maxRecDepth 100000 in
set_option maxHeartbeats 3000000 in
theorem blank_any (w : World) (n : Nat) (hn : n ≤ 1000) :
    Calls Tryd.prog 51 #[.int .i64 n] w fun e w' => ∃ (g : Nat) (bs : List Nat), e = .returned (.slice (some ⟨g, 0, none⟩) n n) ∧ w.heap.size ≤ g ∧ g ∉ bs ∧ At w' g (.cells (bs.map sl8).toArray 22) ∧ Rws w.heap.size w' bs (List.replicate n (List.replicate 8 0)) ∧ Fr [] w w' := by
  obtain ⟨i1, hi1, hz1, hsz1, hby1⟩ := info_bytes Tryd.infoBytes
  obtain ⟨i0, hi, hz, hsz, hby⟩ := info_bytes Tryd.infoByte
  have HA := Lib.hid (show At (w.alloc (.cells (madeCells #[.slice none 0 0] n) 22)) w.heap.size (.cells ((([] : List Nat).map sl8) ++ List.replicate (n - 0) (Value.slice none 0 0)).toArray 22) by rw [made_nils]; exact At.new rfl)
  go_enter Tryd.func51, Tryd.ntmps51
  go_wp2_with (refine wpList_make_row _ rfl (.tmp 5) (.tmp 5) 25 rfl 22 i1 (.slice none 0 0) Tryd.underlying25 hi1 hz1 hsz1 rfl .i64 .i64 n rfl rfl (by rw [hby1]; omega) (by omega) ?_)
  obtain ⟨w2, hw2⟩ : ∃ w2, w.alloc (.cells (madeCells #[.slice none 0 0] n) 22) = w2 := ⟨_, rfl⟩
  have HF := Lib.hid (show Fr [] w w2 by rw [← hw2]; exact Fr.alloc _ _)
  rw [hw2] at HA ⊢
  clear hw2 hi1 hz1 hsz1 hby1
  go_wp2
  go_loopw [9] (fun i wr => ∃ k : Nat, k ≤ n ∧ i = .int .i64 k ∧ ∃ bs : List Nat, bs.length = k ∧ Hid (w.heap.size ∉ bs) ∧ Hid (At wr w.heap.size (.cells (bs.map sl8 ++ List.replicate (n - k) (Value.slice none 0 0)).toArray 22)) ∧ Hid (Rws w.heap.size wr bs (List.replicate k (List.replicate 8 0))) ∧ Hid (Fr [] w wr)) (fun i _ => n - (intOf i).toNat)
  case atStart => exact ⟨0, by omega, rfl, [], rfl, (show w.heap.size ∉ ([] : List Nat) from by simp), HA.out, Rws.nil _ _, HF.out⟩
  case round =>
    clear HA HF
    obtain ⟨k, hk, rfl, bs, hbl, HN, HA, HR, HF⟩ := hrel
    by_cases hkn : k < n
    · have hgl := HA.out.lt
      have hA1 : At (wr.alloc (.cells (madeCells #[.int .u8 0] 8) 5)) w.heap.size (.cells (bs.map sl8 ++ List.replicate (n - k) (Value.slice none 0 0)).toArray 22) := HA.out.al
      have hcz : (bs.map sl8 ++ List.replicate (n - k) (Value.slice none 0 0)).length = n := by simp [hbl]; omega
      have HB := Lib.hid (show At (wr.alloc (.cells (madeCells #[.int .u8 0] 8) 5)) wr.heap.size (.cells ((List.replicate 8 (0 : UInt8)).map u8v).toArray 5) by rw [made_zeros]; exact At.new rfl)
      have HR1 := Lib.hid (HR.out.keep (Fr.alloc (S := []) wr (.cells (madeCells #[.int .u8 0] 8) 5)) (by simp))
      have HF1 := Lib.hid (show Fr [] w (wr.alloc (.cells (madeCells #[.int .u8 0] 8) 5)) from Fr.al HF.out)
      have HNB := Lib.hid (show wr.heap.size ∉ bs from fun h => by have := HR.out.lt _ h; omega)
      have HSET := Lib.hid (show (bs.map sl8 ++ List.replicate (n - k) (Value.slice none 0 0)).set k (sl8 wr.heap.size) = (bs ++ [wr.heap.size]).map sl8 ++ List.replicate (n - (k + 1)) (Value.slice none 0 0) by
        rw [show n - k = (n - (k + 1)) + 1 by omega, List.replicate_succ, List.set_append_right _ _ (by simp; omega)]
        simp [hbl])
      obtain ⟨cur, hcur⟩ : ∃ cur, (bs.map sl8 ++ List.replicate (n - k) (Value.slice none 0 0)) = cur := ⟨_, rfl⟩
      rw [hcur] at hA1 hcz HSET
      clear hcur
      have HA1 := Lib.hid hA1
      clear hA1 HA
      go_wp2_with (first | (refine wpList_make_row _ rfl (.const (.int .i64 8)) (.const (.int .i64 8)) 22 rfl 5 i0 (.int .u8 0) Tryd.underlying22 hi hz hsz rfl .i64 .i64 8 rfl rfl (by rw [hby]; omega) (by omega) ?_) | (refine wpl_store_one (.tmp 15) (.tmp 14) rfl rfl (sl8 wr.heap.size) rfl rfl HA1.out (by simp [hcz]; omega) (by kernel_rfl) rfl ?_))
      intro w3 f3 a3 _
      have HA3 := Lib.hid (show At w3 w.heap.size (.cells ((bs ++ [wr.heap.size]).map sl8 ++ List.replicate (n - (k + 1)) (Value.slice none 0 0)).toArray 22) by
        rw [← HSET.out]
        simpa using a3)
      have HR3 := Lib.hid (show Rws w.heap.size w3 (bs ++ [wr.heap.size]) (List.replicate (k + 1) (List.replicate 8 0)) from by
        rw [List.replicate_succ']
        exact (HR1.out.keep f3 (fun b hb => by simp only [List.mem_singleton]; intro e; exact HN.out (e ▸ hb))).snoc HNB.out (by omega) (HB.out.keep f3 (by simp; omega)))
      have HF3 := Lib.hid (HF1.out.then f3 (by intro b hb; simp at hb; omega))
      have HN3 := Lib.hid (show w.heap.size ∉ bs ++ [wr.heap.size] from fun h => by
        rcases List.mem_append.1 h with h | h
        · exact HN.out h
        · simp at h; omega)
      clear f3 a3 HR1 HF1 HA1 HB HSET HR HF
      go_wp2
      go_roundw
      case rel => exact ⟨k + 1, by omega, by go_num, bs ++ [wr.heap.size], by simp [hbl], HN3.out, HA3.out, HR3.out, HF3.out⟩
      case measure => simp [intOf]; omega
    · obtain rfl : k = n := by omega
      have HA2 := Lib.hid (show At wr w.heap.size (.cells (bs.map sl8).toArray 22) by have := HA.out; simpa using this)
      clear HA
      go_wp2
      go_ret
      exact ⟨_, bs, rfl, Nat.le_refl _, HN.out, HA2.out, HR.out, HF.out⟩
end Go.Proofs.YtmohiblgfmdkjaaDoor
