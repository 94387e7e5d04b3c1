import Derived.Test.YtmohiblgfmdkjaaGreatDoorGI
namespace Go.Proofs.YtmohiblgfmdkjaaGreatDoor
open Go.RowKit Go.Bl
set_option linter.unusedVariables false
def RdB (A : Nat → Prop) (w : World) (v : Value) (ls : List (Value × List UInt8)) : Prop := Vs A w v (ls.map (·.1)) ∧ ∀ x ∈ ls, Bs A w x.1 x.2
theorem RdB.keep {A : Nat → Prop} {w w' : World} {S : List Nat} {v : Value} {ls : List (Value × List UInt8)} (h : RdB A w v ls) (hf : Fr S w w') (hS : ∀ b ∈ S, A b) : RdB A w' v ls := by
  obtain ⟨⟨a, cap, h1, h2, h3, h4⟩, h5⟩ := h
  exact ⟨⟨a, cap, h1, h2, h3, h4.keep hf hS⟩, fun x hx => (h5 x hx).keep hf hS⟩
theorem rdb_shape {A : Nat → Prop} {w : World} {v : Value} {ls : List (Value × List UInt8)} (h : RdB A w v ls) : ∃ a cap, v = .slice a ls.length cap ∧ ls.length ≤ cap ∧ cap ≤ maxLen := by
  obtain ⟨⟨a, cap, h1, h2, h3, h4⟩, -⟩ := h
  rw [List.length_map] at h1 h2
  exact ⟨a, cap, h1, h2, h3⟩
theorem rdb_cell {A : Nat → Prop} {w : World} {a : Option Addr} {n cap : Nat} {ls : List (Value × List UInt8)} (h : RdB A w (.slice a n cap) ls) (j : Nat) (x : Value × List UInt8) (hx : ls[j]? = some x) :
    ∃ b off, a = some ⟨b, off, none⟩ ∧ w.cell? ⟨b, off + j, none⟩ = some x.1 ∧ Bs A w x.1 x.2 := by
  obtain ⟨⟨a', cap', e, h2, h3, h4⟩, h5⟩ := h
  cases e
  have hj : j < ls.length := (List.getElem?_eq_some_iff.1 hx).1
  obtain ⟨b, off, rfl, -, hc⟩ := h4.some_of (by simp; omega)
  refine ⟨b, off, rfl, ?_, h5 x (List.mem_of_getElem? hx)⟩
  rw [hc j (by simpa using hj), List.getElem?_map, hx]
  rfl
def sl8 (b : Nat) : Value := .slice (some ⟨b, 0, none⟩) 8 8
structure Rws (base : Nat) (w : World) (bs : List Nat) (rows : List (List UInt8)) : Prop where
  len : bs.length = rows.length
  nd : bs.Nodup
  lo : ∀ b ∈ bs, base ≤ b
  at_ : ∀ (i b : Nat) (r : List UInt8), bs[i]? = some b → rows[i]? = some r → At w b (.cells (r.map u8v).toArray 5)
theorem Rws.nil (base : Nat) (w : World) : Rws base w [] [] := ⟨rfl, List.nodup_nil, fun b h => by simp at h, fun i b r h => by simp at h⟩
theorem Rws.keep {base : Nat} {w w' : World} {S : List Nat} {bs : List Nat} {rows : List (List UInt8)} (h : Rws base w bs rows) (hf : Fr S w w') (hS : ∀ b ∈ bs, b ∉ S) : Rws base w' bs rows :=
  ⟨h.len, h.nd, h.lo, fun i b r hb hr => (h.at_ i b r hb hr).keep hf (hS b (List.mem_of_getElem? hb))⟩
theorem Rws.lt {base : Nat} {w : World} {bs : List Nat} {rows : List (List UInt8)} (h : Rws base w bs rows) : ∀ b ∈ bs, b < w.heap.size := fun b hb => by
  obtain ⟨i, hi, rfl⟩ := List.getElem_of_mem hb
  have h2 : i < rows.length := by rw [← h.len]; exact hi
  exact (h.at_ i _ _ (List.getElem?_eq_getElem hi) (List.getElem?_eq_getElem h2)).lt
theorem Rws.snoc {base : Nat} {w : World} {bs : List Nat} {rows : List (List UInt8)} (h : Rws base w bs rows) {b : Nat} {r : List UInt8} (hb : b ∉ bs) (hl : base ≤ b) (hA : At w b (.cells (r.map u8v).toArray 5)) : Rws base w (bs ++ [b]) (rows ++ [r]) := by
  refine ⟨by simp [h.len], List.nodup_append.2 ⟨h.nd, by simp, fun x hx y hy => by simp at hy; subst hy; intro e; exact hb (e ▸ hx)⟩, fun x hx => ?_, fun i x y hx hy => ?_⟩
  · rcases List.mem_append.1 hx with hx | hx
    · exact h.lo x hx
    · simp at hx; subst hx; exact hl
  · have hlen := h.len
    rcases Nat.lt_or_ge i bs.length with hi | hi
    · rw [List.getElem?_append_left hi] at hx
      rw [List.getElem?_append_left (by omega)] at hy
      exact h.at_ i x y hx hy
    · rw [List.getElem?_append_right hi] at hx
      rw [List.getElem?_append_right (by omega)] at hy
      have : i - bs.length = 0 := by
        have := (List.getElem?_eq_some_iff.1 hx).1
        simp at this; omega
      rw [this] at hx
      rw [show i - rows.length = 0 by omega] at hy
      simp at hx hy
      subst hx hy
      exact hA
theorem Rws.set {base : Nat} {w w' : World} {bs : List Nat} {rows : List (List UInt8)} (h : Rws base w bs rows) (i b j : Nat) (r : List UInt8) (c : UInt8) (hb : bs[i]? = some b) (hr : rows[i]? = some r) (hf : Fr [b] w w') (hA : At w' b (.cells ((r.set j c).map u8v).toArray 5)) :
    Rws base w' bs (rows.set i (r.set j c)) := by
  refine ⟨by simp [h.len], h.nd, h.lo, fun k x y hx hy => ?_⟩
  by_cases hk : k = i
  · subst hk
    rw [hb] at hx; cases hx
    have hl := (List.getElem?_eq_some_iff.1 hr).1
    rw [List.getElem?_set_self hl] at hy
    cases hy
    exact hA
  · rw [List.getElem?_set_ne (Ne.symm hk)] at hy
    refine (h.at_ k x y hx hy).keep hf ?_
    simp only [List.mem_singleton]
    intro e
    subst e
    have h1 := (List.getElem?_eq_some_iff.1 hx).1
    exact hk ((List.getElem?_inj h1 h.nd).1 (by rw [hx, hb]))
theorem Tryz.infoBytes : (Tryz.prog.info? 22).map (fun i => (i.zero, i.size, i.bytes)) = some (some (.slice none 0 0), 1, 24) := by kernel_rfl
theorem made_nils (n : Nat) : madeCells #[.slice none 0 0] n = (List.replicate n (Value.slice none 0 0)).toArray := by
  apply Array.ext
  · simp [madeCells]
  · intro i h1 h2
    simp [madeCells, Nat.mod_one]
set_option maxRecDepth 100000 in
set_option maxHeartbeats 3000000 in
theorem blank_any (w : World) (n : Nat) (hn : n ≤ 1000) :
    Calls Tryz.prog 66 #[.int .i64 n] w fun e w' => ∃ (g : Nat) (bs : List Nat), e = .returned (.slice (some ⟨g, 0, none⟩) n n) ∧ w.heap.size ≤ g ∧ g ∉ bs ∧ At w' g (.cells (bs.map sl8).toArray 22) ∧ Rws w.heap.size w' bs (List.replicate n (List.replicate 8 0)) ∧ Fr [] w w' := by
  obtain ⟨i1, hi1, hz1, hsz1, hby1⟩ := info_bytes Tryz.infoBytes
  obtain ⟨i0, hi, hz, hsz, hby⟩ := info_bytes Tryz.infoByte
  have HA := Lib.hid (show At (w.alloc (.cells (madeCells #[.slice none 0 0] n) 22)) w.heap.size (.cells ((([] : List Nat).map sl8) ++ List.replicate (n - 0) (Value.slice none 0 0)).toArray 22) by rw [made_nils]; exact At.new rfl)
  go_enter Tryz.func66, Tryz.ntmps66
  go_wp2_with (refine wpList_make_row _ rfl (.tmp 5) (.tmp 5) 41 rfl 22 i1 (.slice none 0 0) Tryz.underlying41 hi1 hz1 hsz1 rfl .i64 .i64 n rfl rfl (by rw [hby1]; omega) (by omega) ?_)
  obtain ⟨w2, hw2⟩ : ∃ w2, w.alloc (.cells (madeCells #[.slice none 0 0] n) 22) = w2 := ⟨_, rfl⟩
  have HF := Lib.hid (show Fr [] w w2 by rw [← hw2]; exact Fr.alloc _ _)
  rw [hw2] at HA ⊢
  clear hw2 hi1 hz1 hsz1 hby1
  go_wp2
  go_loopw [9] (fun i wr => ∃ k : Nat, k ≤ n ∧ i = .int .i64 k ∧ ∃ bs : List Nat, bs.length = k ∧ Hid (w.heap.size ∉ bs) ∧ Hid (At wr w.heap.size (.cells (bs.map sl8 ++ List.replicate (n - k) (Value.slice none 0 0)).toArray 22)) ∧ Hid (Rws w.heap.size wr bs (List.replicate k (List.replicate 8 0))) ∧ Hid (Fr [] w wr)) (fun i _ => n - (intOf i).toNat)
  case atStart => exact ⟨0, by omega, rfl, [], rfl, (show w.heap.size ∉ ([] : List Nat) from by simp), HA.out, Rws.nil _ _, HF.out⟩
  case round =>
    clear HA HF
    obtain ⟨k, hk, rfl, bs, hbl, HN, HA, HR, HF⟩ := hrel
    by_cases hkn : k < n
    · have hgl := HA.out.lt
      have hA1 : At (wr.alloc (.cells (madeCells #[.int .u8 0] 8) 5)) w.heap.size (.cells (bs.map sl8 ++ List.replicate (n - k) (Value.slice none 0 0)).toArray 22) := HA.out.al
      have hcz : (bs.map sl8 ++ List.replicate (n - k) (Value.slice none 0 0)).length = n := by simp [hbl]; omega
      have HB := Lib.hid (show At (wr.alloc (.cells (madeCells #[.int .u8 0] 8) 5)) wr.heap.size (.cells ((List.replicate 8 (0 : UInt8)).map u8v).toArray 5) by rw [made_zeros]; exact At.new rfl)
      have HR1 := Lib.hid (HR.out.keep (Fr.alloc (S := []) wr (.cells (madeCells #[.int .u8 0] 8) 5)) (by simp))
      have HF1 := Lib.hid (show Fr [] w (wr.alloc (.cells (madeCells #[.int .u8 0] 8) 5)) from Fr.al HF.out)
      have HNB := Lib.hid (show wr.heap.size ∉ bs from fun h => by have := HR.out.lt _ h; omega)
      have HSET := Lib.hid (show (bs.map sl8 ++ List.replicate (n - k) (Value.slice none 0 0)).set k (sl8 wr.heap.size) = (bs ++ [wr.heap.size]).map sl8 ++ List.replicate (n - (k + 1)) (Value.slice none 0 0) by
        rw [show n - k = (n - (k + 1)) + 1 by omega, List.replicate_succ, List.set_append_right _ _ (by simp; omega)]
        simp [hbl])
      obtain ⟨cur, hcur⟩ : ∃ cur, (bs.map sl8 ++ List.replicate (n - k) (Value.slice none 0 0)) = cur := ⟨_, rfl⟩
      rw [hcur] at hA1 hcz HSET
      clear hcur
      have HA1 := Lib.hid hA1
      clear hA1 HA
      go_wp2_with (first | (refine wpList_make_row _ rfl (.const (.int .i64 8)) (.const (.int .i64 8)) 22 rfl 5 i0 (.int .u8 0) Tryz.underlying22 hi hz hsz rfl .i64 .i64 8 rfl rfl (by rw [hby]; omega) (by omega) ?_) | (refine wpl_store_one (.tmp 15) (.tmp 14) rfl rfl (sl8 wr.heap.size) rfl rfl HA1.out (by simp [hcz]; omega) (by kernel_rfl) rfl ?_))
      intro w3 f3 a3 _
      have HA3 := Lib.hid (show At w3 w.heap.size (.cells ((bs ++ [wr.heap.size]).map sl8 ++ List.replicate (n - (k + 1)) (Value.slice none 0 0)).toArray 22) by
        rw [← HSET.out]
        simpa using a3)
      have HR3 := Lib.hid (show Rws w.heap.size w3 (bs ++ [wr.heap.size]) (List.replicate (k + 1) (List.replicate 8 0)) from by
        rw [List.replicate_succ']
        exact (HR1.out.keep f3 (fun b hb => by simp only [List.mem_singleton]; intro e; exact HN.out (e ▸ hb))).snoc HNB.out (by omega) (HB.out.keep f3 (by simp; omega)))
      have HF3 := Lib.hid (HF1.out.then f3 (by intro b hb; simp at hb; omega))
      have HN3 := Lib.hid (show w.heap.size ∉ bs ++ [wr.heap.size] from fun h => by
        rcases List.mem_append.1 h with h | h
        · exact HN.out h
        · simp at h; omega)
      clear f3 a3 HR1 HF1 HA1 HB HSET HR HF
      go_wp2
      go_roundw
      case rel => exact ⟨k + 1, by omega, by go_num, bs ++ [wr.heap.size], by simp [hbl], HN3.out, HA3.out, HR3.out, HF3.out⟩
      case measure => simp [intOf]; omega
    · obtain rfl : k = n := by omega
      have HA2 := Lib.hid (show At wr w.heap.size (.cells (bs.map sl8).toArray 22) by have := HA.out; simpa using this)
      clear HA
      go_wp2
      go_ret
      exact ⟨_, bs, rfl, Nat.le_refl _, HN.out, HA2.out, HR.out, HF.out⟩
end Go.Proofs.YtmohiblgfmdkjaaGreatDoor
