/-
  Layer 6: stripe.Pad. (printed by genpad.py)
-/
import Derived.Test.YtfblhdomjnffcaaDoorGI
import Derived.Test.YtfblhdomjnffcaaDoorGH
namespace Go.Proofs.YtfblhdomjnffcaaDoor
open Go.RowKit Go.Bl
set_option linter.unusedVariables false
theorem rep_snoc (xs : List UInt8) (i : Nat) : (xs ++ List.replicate i 0) ++ [0] = xs ++ List.replicate (i + 1) 0 := by
  rw [List.append_assoc, List.replicate_succ']

set_option maxRecDepth 100000 in
set_option maxHeartbeats 2000000 in
theorem pad_8 (A : Nat → Prop) (w : World) (v : Value) (xs : List UInt8) (hb : Bs A w v xs) (hl : xs.length ≤ 100000) (hr : xs.length = 0) :
    Calls Tryd.prog 75 #[v] w fun e w' => ∃ u, e = .returned u ∧ OwnB 5 w.heap.size w' u (xs ++ List.replicate 8 0) ∧ Fr [] w w' := by
  have HB := Lib.hid hb
  obtain ⟨a, cap, rfl, -, -, -⟩ := hb
  obtain ⟨N, hN⟩ : ∃ N, xs.length = N := ⟨_, rfl⟩
  rw [hN] at HB hl hr ⊢
  have HN := Lib.hid hN
  clear hN
  subst hr
  go_enter Tryd.func75, Tryd.ntmps75
  go_wp2_with fail
  refine (clone_any A _ _ xs HB.out (by have := HN.out; omega)).mono ?_
  rintro e w0 ⟨v0, rfl, ho, hf⟩
  have HO := Lib.hid (show OwnB 5 w.heap.size w0 v0 (xs ++ List.replicate 0 0) by simpa using ho)
  have HF := Lib.hid hf
  obtain ⟨o0, n0, c0, rfl⟩ := bs_shp (ho.bs (A := fun _ => False) (by simp))
  obtain rfl : n0 = 0 := by
    obtain ⟨a', c', e, -⟩ := ho.bs (A := fun _ => False) (by simp)
    cases e
    exact HN.out
  clear ho hf
  have B0 := Lib.hid (bs_lit (A := fun _ => False) w0 #[.int .u8 0] 5 [0] (by simp) rfl (by simp))
  have O0 := Lib.hid (HO.out.keep (Fr.alloc (S := []) w0 (.cells #[.int .u8 0] 5)) (by simp))
  have F0 := Lib.hid (show Fr [] w (w0.alloc (.cells #[.int .u8 0] 5)) from Fr.al HF.out)
  have s0 := F0.out.size
  clear HO HF
  go_wp2_with (at_builtin; refine wpl_append_bs (A := fun _ => False) (ys := [0]) (base := w.heap.size) Tryd.underlying22 Tryd.infoByte rfl (.tmp 30) (.tmp 31) rfl rfl rfl O0.out B0.out (by have := HN.out; simp; omega) s0 ?_)
  intro v1 w1 h5 h6
  have HO := Lib.hid (show OwnB 5 w.heap.size w1 v1 (xs ++ List.replicate 1 0) by simpa using h5)
  have HF := Lib.hid (show Fr [] w w1 from OwnB.fr O0.out F0.out h6 (Nat.le_refl _))
  clear h5 h6 O0 F0 B0 s0
  have B1 := Lib.hid (bs_lit (A := fun _ => False) w1 #[.int .u8 0] 5 [0] (by simp) rfl (by simp))
  have O1 := Lib.hid (HO.out.keep (Fr.alloc (S := []) w1 (.cells #[.int .u8 0] 5)) (by simp))
  have F1 := Lib.hid (show Fr [] w (w1.alloc (.cells #[.int .u8 0] 5)) from Fr.al HF.out)
  have s1 := F1.out.size
  clear HO HF
  go_wp2_with (at_builtin; refine wpl_append_bs (A := fun _ => False) (ys := [0]) (base := w.heap.size) Tryd.underlying22 Tryd.infoByte rfl (.tmp 33) (.tmp 34) rfl rfl rfl O1.out B1.out (by have := HN.out; simp; omega) s1 ?_)
  intro v2 w2 h5 h6
  have HO := Lib.hid (show OwnB 5 w.heap.size w2 v2 (xs ++ List.replicate 2 0) by simpa using h5)
  have HF := Lib.hid (show Fr [] w w2 from OwnB.fr O1.out F1.out h6 (Nat.le_refl _))
  clear h5 h6 O1 F1 B1 s1
  have B2 := Lib.hid (bs_lit (A := fun _ => False) w2 #[.int .u8 0] 5 [0] (by simp) rfl (by simp))
  have O2 := Lib.hid (HO.out.keep (Fr.alloc (S := []) w2 (.cells #[.int .u8 0] 5)) (by simp))
  have F2 := Lib.hid (show Fr [] w (w2.alloc (.cells #[.int .u8 0] 5)) from Fr.al HF.out)
  have s2 := F2.out.size
  clear HO HF
  go_wp2_with (at_builtin; refine wpl_append_bs (A := fun _ => False) (ys := [0]) (base := w.heap.size) Tryd.underlying22 Tryd.infoByte rfl (.tmp 36) (.tmp 37) rfl rfl rfl O2.out B2.out (by have := HN.out; simp; omega) s2 ?_)
  intro v3 w3 h5 h6
  have HO := Lib.hid (show OwnB 5 w.heap.size w3 v3 (xs ++ List.replicate 3 0) by simpa using h5)
  have HF := Lib.hid (show Fr [] w w3 from OwnB.fr O2.out F2.out h6 (Nat.le_refl _))
  clear h5 h6 O2 F2 B2 s2
  have B3 := Lib.hid (bs_lit (A := fun _ => False) w3 #[.int .u8 0] 5 [0] (by simp) rfl (by simp))
  have O3 := Lib.hid (HO.out.keep (Fr.alloc (S := []) w3 (.cells #[.int .u8 0] 5)) (by simp))
  have F3 := Lib.hid (show Fr [] w (w3.alloc (.cells #[.int .u8 0] 5)) from Fr.al HF.out)
  have s3 := F3.out.size
  clear HO HF
  go_wp2_with (at_builtin; refine wpl_append_bs (A := fun _ => False) (ys := [0]) (base := w.heap.size) Tryd.underlying22 Tryd.infoByte rfl (.tmp 39) (.tmp 40) rfl rfl rfl O3.out B3.out (by have := HN.out; simp; omega) s3 ?_)
  intro v4 w4 h5 h6
  have HO := Lib.hid (show OwnB 5 w.heap.size w4 v4 (xs ++ List.replicate 4 0) by simpa using h5)
  have HF := Lib.hid (show Fr [] w w4 from OwnB.fr O3.out F3.out h6 (Nat.le_refl _))
  clear h5 h6 O3 F3 B3 s3
  have B4 := Lib.hid (bs_lit (A := fun _ => False) w4 #[.int .u8 0] 5 [0] (by simp) rfl (by simp))
  have O4 := Lib.hid (HO.out.keep (Fr.alloc (S := []) w4 (.cells #[.int .u8 0] 5)) (by simp))
  have F4 := Lib.hid (show Fr [] w (w4.alloc (.cells #[.int .u8 0] 5)) from Fr.al HF.out)
  have s4 := F4.out.size
  clear HO HF
  go_wp2_with (at_builtin; refine wpl_append_bs (A := fun _ => False) (ys := [0]) (base := w.heap.size) Tryd.underlying22 Tryd.infoByte rfl (.tmp 42) (.tmp 43) rfl rfl rfl O4.out B4.out (by have := HN.out; simp; omega) s4 ?_)
  intro v5 w5 h5 h6
  have HO := Lib.hid (show OwnB 5 w.heap.size w5 v5 (xs ++ List.replicate 5 0) by simpa using h5)
  have HF := Lib.hid (show Fr [] w w5 from OwnB.fr O4.out F4.out h6 (Nat.le_refl _))
  clear h5 h6 O4 F4 B4 s4
  have B5 := Lib.hid (bs_lit (A := fun _ => False) w5 #[.int .u8 0] 5 [0] (by simp) rfl (by simp))
  have O5 := Lib.hid (HO.out.keep (Fr.alloc (S := []) w5 (.cells #[.int .u8 0] 5)) (by simp))
  have F5 := Lib.hid (show Fr [] w (w5.alloc (.cells #[.int .u8 0] 5)) from Fr.al HF.out)
  have s5 := F5.out.size
  clear HO HF
  go_wp2_with (at_builtin; refine wpl_append_bs (A := fun _ => False) (ys := [0]) (base := w.heap.size) Tryd.underlying22 Tryd.infoByte rfl (.tmp 45) (.tmp 46) rfl rfl rfl O5.out B5.out (by have := HN.out; simp; omega) s5 ?_)
  intro v6 w6 h5 h6
  have HO := Lib.hid (show OwnB 5 w.heap.size w6 v6 (xs ++ List.replicate 6 0) by simpa using h5)
  have HF := Lib.hid (show Fr [] w w6 from OwnB.fr O5.out F5.out h6 (Nat.le_refl _))
  clear h5 h6 O5 F5 B5 s5
  have B6 := Lib.hid (bs_lit (A := fun _ => False) w6 #[.int .u8 0] 5 [0] (by simp) rfl (by simp))
  have O6 := Lib.hid (HO.out.keep (Fr.alloc (S := []) w6 (.cells #[.int .u8 0] 5)) (by simp))
  have F6 := Lib.hid (show Fr [] w (w6.alloc (.cells #[.int .u8 0] 5)) from Fr.al HF.out)
  have s6 := F6.out.size
  clear HO HF
  go_wp2_with (at_builtin; refine wpl_append_bs (A := fun _ => False) (ys := [0]) (base := w.heap.size) Tryd.underlying22 Tryd.infoByte rfl (.tmp 48) (.tmp 49) rfl rfl rfl O6.out B6.out (by have := HN.out; simp; omega) s6 ?_)
  intro v7 w7 h5 h6
  have HO := Lib.hid (show OwnB 5 w.heap.size w7 v7 (xs ++ List.replicate 7 0) by simpa using h5)
  have HF := Lib.hid (show Fr [] w w7 from OwnB.fr O6.out F6.out h6 (Nat.le_refl _))
  clear h5 h6 O6 F6 B6 s6
  have B7 := Lib.hid (bs_lit (A := fun _ => False) w7 #[.int .u8 0] 5 [0] (by simp) rfl (by simp))
  have O7 := Lib.hid (HO.out.keep (Fr.alloc (S := []) w7 (.cells #[.int .u8 0] 5)) (by simp))
  have F7 := Lib.hid (show Fr [] w (w7.alloc (.cells #[.int .u8 0] 5)) from Fr.al HF.out)
  have s7 := F7.out.size
  clear HO HF
  go_wp2_with (at_builtin; refine wpl_append_bs (A := fun _ => False) (ys := [0]) (base := w.heap.size) Tryd.underlying22 Tryd.infoByte rfl (.tmp 51) (.tmp 52) rfl rfl rfl O7.out B7.out (by have := HN.out; simp; omega) s7 ?_)
  intro v8 w8 h5 h6
  have HO := Lib.hid (show OwnB 5 w.heap.size w8 v8 (xs ++ List.replicate 8 0) by simpa using h5)
  have HF := Lib.hid (show Fr [] w w8 from OwnB.fr O7.out F7.out h6 (Nat.le_refl _))
  clear h5 h6 O7 F7 B7 s7
  go_wp2
  go_ret
  exact ⟨_, rfl, HO.out, HF.out⟩

set_option maxRecDepth 100000 in
set_option maxHeartbeats 2000000 in
theorem pad_1 (A : Nat → Prop) (w : World) (v : Value) (xs : List UInt8) (hb : Bs A w v xs) (hl : xs.length ≤ 100000) (hr : xs.length % 8 = 1) (hp : 0 < xs.length) :
    Calls Tryd.prog 75 #[v] w fun e w' => ∃ u, e = .returned u ∧ OwnB 5 w.heap.size w' u (xs ++ List.replicate 7 0) ∧ Fr [] w w' := by
  have HB := Lib.hid hb
  obtain ⟨a, cap, rfl, -, -, -⟩ := hb
  obtain ⟨N, hN⟩ : ∃ N, xs.length = N := ⟨_, rfl⟩
  rw [hN] at HB hl hr hp ⊢
  have HN := Lib.hid hN
  clear hN
  have hm : (N : Int) % 8 = 1 := by omega
  have hz : ((N : Int) == 0) = false := by rw [beq_eq_false_iff_ne]; omega
  go_enter Tryd.func75, Tryd.ntmps75
  go_wp2_with fail
  refine (clone_any A _ _ xs HB.out (by have := HN.out; omega)).mono ?_
  rintro e w0 ⟨v0, rfl, ho, hf⟩
  have HO := Lib.hid (show OwnB 5 w.heap.size w0 v0 (xs ++ List.replicate 0 0) by simpa using ho)
  have HF := Lib.hid hf
  obtain ⟨o0, n0, c0, rfl⟩ := bs_shp (ho.bs (A := fun _ => False) (by simp))
  obtain rfl : n0 = N := by
    obtain ⟨a', c', e, -⟩ := ho.bs (A := fun _ => False) (by simp)
    cases e
    exact HN.out
  clear ho hf
  have B0 := Lib.hid (bs_lit (A := fun _ => False) w0 #[.int .u8 0] 5 [0] (by simp) rfl (by simp))
  have O0 := Lib.hid (HO.out.keep (Fr.alloc (S := []) w0 (.cells #[.int .u8 0] 5)) (by simp))
  have F0 := Lib.hid (show Fr [] w (w0.alloc (.cells #[.int .u8 0] 5)) from Fr.al HF.out)
  have s0 := F0.out.size
  clear HO HF
  go_wp2_with (at_builtin; refine wpl_append_bs (A := fun _ => False) (ys := [0]) (base := w.heap.size) Tryd.underlying22 Tryd.infoByte rfl (.tmp 33) (.tmp 34) rfl rfl rfl O0.out B0.out (by have := HN.out; simp; omega) s0 ?_)
  intro v1 w1 h5 h6
  have HO := Lib.hid (show OwnB 5 w.heap.size w1 v1 (xs ++ List.replicate 1 0) by simpa using h5)
  have HF := Lib.hid (show Fr [] w w1 from OwnB.fr O0.out F0.out h6 (Nat.le_refl _))
  clear h5 h6 O0 F0 B0 s0
  have B1 := Lib.hid (bs_lit (A := fun _ => False) w1 #[.int .u8 0] 5 [0] (by simp) rfl (by simp))
  have O1 := Lib.hid (HO.out.keep (Fr.alloc (S := []) w1 (.cells #[.int .u8 0] 5)) (by simp))
  have F1 := Lib.hid (show Fr [] w (w1.alloc (.cells #[.int .u8 0] 5)) from Fr.al HF.out)
  have s1 := F1.out.size
  clear HO HF
  go_wp2_with (at_builtin; refine wpl_append_bs (A := fun _ => False) (ys := [0]) (base := w.heap.size) Tryd.underlying22 Tryd.infoByte rfl (.tmp 36) (.tmp 37) rfl rfl rfl O1.out B1.out (by have := HN.out; simp; omega) s1 ?_)
  intro v2 w2 h5 h6
  have HO := Lib.hid (show OwnB 5 w.heap.size w2 v2 (xs ++ List.replicate 2 0) by simpa using h5)
  have HF := Lib.hid (show Fr [] w w2 from OwnB.fr O1.out F1.out h6 (Nat.le_refl _))
  clear h5 h6 O1 F1 B1 s1
  have B2 := Lib.hid (bs_lit (A := fun _ => False) w2 #[.int .u8 0] 5 [0] (by simp) rfl (by simp))
  have O2 := Lib.hid (HO.out.keep (Fr.alloc (S := []) w2 (.cells #[.int .u8 0] 5)) (by simp))
  have F2 := Lib.hid (show Fr [] w (w2.alloc (.cells #[.int .u8 0] 5)) from Fr.al HF.out)
  have s2 := F2.out.size
  clear HO HF
  go_wp2_with (at_builtin; refine wpl_append_bs (A := fun _ => False) (ys := [0]) (base := w.heap.size) Tryd.underlying22 Tryd.infoByte rfl (.tmp 39) (.tmp 40) rfl rfl rfl O2.out B2.out (by have := HN.out; simp; omega) s2 ?_)
  intro v3 w3 h5 h6
  have HO := Lib.hid (show OwnB 5 w.heap.size w3 v3 (xs ++ List.replicate 3 0) by simpa using h5)
  have HF := Lib.hid (show Fr [] w w3 from OwnB.fr O2.out F2.out h6 (Nat.le_refl _))
  clear h5 h6 O2 F2 B2 s2
  have B3 := Lib.hid (bs_lit (A := fun _ => False) w3 #[.int .u8 0] 5 [0] (by simp) rfl (by simp))
  have O3 := Lib.hid (HO.out.keep (Fr.alloc (S := []) w3 (.cells #[.int .u8 0] 5)) (by simp))
  have F3 := Lib.hid (show Fr [] w (w3.alloc (.cells #[.int .u8 0] 5)) from Fr.al HF.out)
  have s3 := F3.out.size
  clear HO HF
  go_wp2_with (at_builtin; refine wpl_append_bs (A := fun _ => False) (ys := [0]) (base := w.heap.size) Tryd.underlying22 Tryd.infoByte rfl (.tmp 42) (.tmp 43) rfl rfl rfl O3.out B3.out (by have := HN.out; simp; omega) s3 ?_)
  intro v4 w4 h5 h6
  have HO := Lib.hid (show OwnB 5 w.heap.size w4 v4 (xs ++ List.replicate 4 0) by simpa using h5)
  have HF := Lib.hid (show Fr [] w w4 from OwnB.fr O3.out F3.out h6 (Nat.le_refl _))
  clear h5 h6 O3 F3 B3 s3
  have B4 := Lib.hid (bs_lit (A := fun _ => False) w4 #[.int .u8 0] 5 [0] (by simp) rfl (by simp))
  have O4 := Lib.hid (HO.out.keep (Fr.alloc (S := []) w4 (.cells #[.int .u8 0] 5)) (by simp))
  have F4 := Lib.hid (show Fr [] w (w4.alloc (.cells #[.int .u8 0] 5)) from Fr.al HF.out)
  have s4 := F4.out.size
  clear HO HF
  go_wp2_with (at_builtin; refine wpl_append_bs (A := fun _ => False) (ys := [0]) (base := w.heap.size) Tryd.underlying22 Tryd.infoByte rfl (.tmp 45) (.tmp 46) rfl rfl rfl O4.out B4.out (by have := HN.out; simp; omega) s4 ?_)
  intro v5 w5 h5 h6
  have HO := Lib.hid (show OwnB 5 w.heap.size w5 v5 (xs ++ List.replicate 5 0) by simpa using h5)
  have HF := Lib.hid (show Fr [] w w5 from OwnB.fr O4.out F4.out h6 (Nat.le_refl _))
  clear h5 h6 O4 F4 B4 s4
  have B5 := Lib.hid (bs_lit (A := fun _ => False) w5 #[.int .u8 0] 5 [0] (by simp) rfl (by simp))
  have O5 := Lib.hid (HO.out.keep (Fr.alloc (S := []) w5 (.cells #[.int .u8 0] 5)) (by simp))
  have F5 := Lib.hid (show Fr [] w (w5.alloc (.cells #[.int .u8 0] 5)) from Fr.al HF.out)
  have s5 := F5.out.size
  clear HO HF
  go_wp2_with (at_builtin; refine wpl_append_bs (A := fun _ => False) (ys := [0]) (base := w.heap.size) Tryd.underlying22 Tryd.infoByte rfl (.tmp 48) (.tmp 49) rfl rfl rfl O5.out B5.out (by have := HN.out; simp; omega) s5 ?_)
  intro v6 w6 h5 h6
  have HO := Lib.hid (show OwnB 5 w.heap.size w6 v6 (xs ++ List.replicate 6 0) by simpa using h5)
  have HF := Lib.hid (show Fr [] w w6 from OwnB.fr O5.out F5.out h6 (Nat.le_refl _))
  clear h5 h6 O5 F5 B5 s5
  have B6 := Lib.hid (bs_lit (A := fun _ => False) w6 #[.int .u8 0] 5 [0] (by simp) rfl (by simp))
  have O6 := Lib.hid (HO.out.keep (Fr.alloc (S := []) w6 (.cells #[.int .u8 0] 5)) (by simp))
  have F6 := Lib.hid (show Fr [] w (w6.alloc (.cells #[.int .u8 0] 5)) from Fr.al HF.out)
  have s6 := F6.out.size
  clear HO HF
  go_wp2_with (at_builtin; refine wpl_append_bs (A := fun _ => False) (ys := [0]) (base := w.heap.size) Tryd.underlying22 Tryd.infoByte rfl (.tmp 51) (.tmp 52) rfl rfl rfl O6.out B6.out (by have := HN.out; simp; omega) s6 ?_)
  intro v7 w7 h5 h6
  have HO := Lib.hid (show OwnB 5 w.heap.size w7 v7 (xs ++ List.replicate 7 0) by simpa using h5)
  have HF := Lib.hid (show Fr [] w w7 from OwnB.fr O6.out F6.out h6 (Nat.le_refl _))
  clear h5 h6 O6 F6 B6 s6
  go_wp2
  go_ret
  exact ⟨_, rfl, HO.out, HF.out⟩

set_option maxRecDepth 100000 in
set_option maxHeartbeats 2000000 in
theorem pad_2 (A : Nat → Prop) (w : World) (v : Value) (xs : List UInt8) (hb : Bs A w v xs) (hl : xs.length ≤ 100000) (hr : xs.length % 8 = 2) (hp : 0 < xs.length) :
    Calls Tryd.prog 75 #[v] w fun e w' => ∃ u, e = .returned u ∧ OwnB 5 w.heap.size w' u (xs ++ List.replicate 6 0) ∧ Fr [] w w' := by
  have HB := Lib.hid hb
  obtain ⟨a, cap, rfl, -, -, -⟩ := hb
  obtain ⟨N, hN⟩ : ∃ N, xs.length = N := ⟨_, rfl⟩
  rw [hN] at HB hl hr hp ⊢
  have HN := Lib.hid hN
  clear hN
  have hm : (N : Int) % 8 = 2 := by omega
  have hz : ((N : Int) == 0) = false := by rw [beq_eq_false_iff_ne]; omega
  go_enter Tryd.func75, Tryd.ntmps75
  go_wp2_with fail
  refine (clone_any A _ _ xs HB.out (by have := HN.out; omega)).mono ?_
  rintro e w0 ⟨v0, rfl, ho, hf⟩
  have HO := Lib.hid (show OwnB 5 w.heap.size w0 v0 (xs ++ List.replicate 0 0) by simpa using ho)
  have HF := Lib.hid hf
  obtain ⟨o0, n0, c0, rfl⟩ := bs_shp (ho.bs (A := fun _ => False) (by simp))
  obtain rfl : n0 = N := by
    obtain ⟨a', c', e, -⟩ := ho.bs (A := fun _ => False) (by simp)
    cases e
    exact HN.out
  clear ho hf
  have B0 := Lib.hid (bs_lit (A := fun _ => False) w0 #[.int .u8 0] 5 [0] (by simp) rfl (by simp))
  have O0 := Lib.hid (HO.out.keep (Fr.alloc (S := []) w0 (.cells #[.int .u8 0] 5)) (by simp))
  have F0 := Lib.hid (show Fr [] w (w0.alloc (.cells #[.int .u8 0] 5)) from Fr.al HF.out)
  have s0 := F0.out.size
  clear HO HF
  go_wp2_with (at_builtin; refine wpl_append_bs (A := fun _ => False) (ys := [0]) (base := w.heap.size) Tryd.underlying22 Tryd.infoByte rfl (.tmp 36) (.tmp 37) rfl rfl rfl O0.out B0.out (by have := HN.out; simp; omega) s0 ?_)
  intro v1 w1 h5 h6
  have HO := Lib.hid (show OwnB 5 w.heap.size w1 v1 (xs ++ List.replicate 1 0) by simpa using h5)
  have HF := Lib.hid (show Fr [] w w1 from OwnB.fr O0.out F0.out h6 (Nat.le_refl _))
  clear h5 h6 O0 F0 B0 s0
  have B1 := Lib.hid (bs_lit (A := fun _ => False) w1 #[.int .u8 0] 5 [0] (by simp) rfl (by simp))
  have O1 := Lib.hid (HO.out.keep (Fr.alloc (S := []) w1 (.cells #[.int .u8 0] 5)) (by simp))
  have F1 := Lib.hid (show Fr [] w (w1.alloc (.cells #[.int .u8 0] 5)) from Fr.al HF.out)
  have s1 := F1.out.size
  clear HO HF
  go_wp2_with (at_builtin; refine wpl_append_bs (A := fun _ => False) (ys := [0]) (base := w.heap.size) Tryd.underlying22 Tryd.infoByte rfl (.tmp 39) (.tmp 40) rfl rfl rfl O1.out B1.out (by have := HN.out; simp; omega) s1 ?_)
  intro v2 w2 h5 h6
  have HO := Lib.hid (show OwnB 5 w.heap.size w2 v2 (xs ++ List.replicate 2 0) by simpa using h5)
  have HF := Lib.hid (show Fr [] w w2 from OwnB.fr O1.out F1.out h6 (Nat.le_refl _))
  clear h5 h6 O1 F1 B1 s1
  have B2 := Lib.hid (bs_lit (A := fun _ => False) w2 #[.int .u8 0] 5 [0] (by simp) rfl (by simp))
  have O2 := Lib.hid (HO.out.keep (Fr.alloc (S := []) w2 (.cells #[.int .u8 0] 5)) (by simp))
  have F2 := Lib.hid (show Fr [] w (w2.alloc (.cells #[.int .u8 0] 5)) from Fr.al HF.out)
  have s2 := F2.out.size
  clear HO HF
  go_wp2_with (at_builtin; refine wpl_append_bs (A := fun _ => False) (ys := [0]) (base := w.heap.size) Tryd.underlying22 Tryd.infoByte rfl (.tmp 42) (.tmp 43) rfl rfl rfl O2.out B2.out (by have := HN.out; simp; omega) s2 ?_)
  intro v3 w3 h5 h6
  have HO := Lib.hid (show OwnB 5 w.heap.size w3 v3 (xs ++ List.replicate 3 0) by simpa using h5)
  have HF := Lib.hid (show Fr [] w w3 from OwnB.fr O2.out F2.out h6 (Nat.le_refl _))
  clear h5 h6 O2 F2 B2 s2
  have B3 := Lib.hid (bs_lit (A := fun _ => False) w3 #[.int .u8 0] 5 [0] (by simp) rfl (by simp))
  have O3 := Lib.hid (HO.out.keep (Fr.alloc (S := []) w3 (.cells #[.int .u8 0] 5)) (by simp))
  have F3 := Lib.hid (show Fr [] w (w3.alloc (.cells #[.int .u8 0] 5)) from Fr.al HF.out)
  have s3 := F3.out.size
  clear HO HF
  go_wp2_with (at_builtin; refine wpl_append_bs (A := fun _ => False) (ys := [0]) (base := w.heap.size) Tryd.underlying22 Tryd.infoByte rfl (.tmp 45) (.tmp 46) rfl rfl rfl O3.out B3.out (by have := HN.out; simp; omega) s3 ?_)
  intro v4 w4 h5 h6
  have HO := Lib.hid (show OwnB 5 w.heap.size w4 v4 (xs ++ List.replicate 4 0) by simpa using h5)
  have HF := Lib.hid (show Fr [] w w4 from OwnB.fr O3.out F3.out h6 (Nat.le_refl _))
  clear h5 h6 O3 F3 B3 s3
  have B4 := Lib.hid (bs_lit (A := fun _ => False) w4 #[.int .u8 0] 5 [0] (by simp) rfl (by simp))
  have O4 := Lib.hid (HO.out.keep (Fr.alloc (S := []) w4 (.cells #[.int .u8 0] 5)) (by simp))
  have F4 := Lib.hid (show Fr [] w (w4.alloc (.cells #[.int .u8 0] 5)) from Fr.al HF.out)
  have s4 := F4.out.size
  clear HO HF
  go_wp2_with (at_builtin; refine wpl_append_bs (A := fun _ => False) (ys := [0]) (base := w.heap.size) Tryd.underlying22 Tryd.infoByte rfl (.tmp 48) (.tmp 49) rfl rfl rfl O4.out B4.out (by have := HN.out; simp; omega) s4 ?_)
  intro v5 w5 h5 h6
  have HO := Lib.hid (show OwnB 5 w.heap.size w5 v5 (xs ++ List.replicate 5 0) by simpa using h5)
  have HF := Lib.hid (show Fr [] w w5 from OwnB.fr O4.out F4.out h6 (Nat.le_refl _))
  clear h5 h6 O4 F4 B4 s4
  have B5 := Lib.hid (bs_lit (A := fun _ => False) w5 #[.int .u8 0] 5 [0] (by simp) rfl (by simp))
  have O5 := Lib.hid (HO.out.keep (Fr.alloc (S := []) w5 (.cells #[.int .u8 0] 5)) (by simp))
  have F5 := Lib.hid (show Fr [] w (w5.alloc (.cells #[.int .u8 0] 5)) from Fr.al HF.out)
  have s5 := F5.out.size
  clear HO HF
  go_wp2_with (at_builtin; refine wpl_append_bs (A := fun _ => False) (ys := [0]) (base := w.heap.size) Tryd.underlying22 Tryd.infoByte rfl (.tmp 51) (.tmp 52) rfl rfl rfl O5.out B5.out (by have := HN.out; simp; omega) s5 ?_)
  intro v6 w6 h5 h6
  have HO := Lib.hid (show OwnB 5 w.heap.size w6 v6 (xs ++ List.replicate 6 0) by simpa using h5)
  have HF := Lib.hid (show Fr [] w w6 from OwnB.fr O5.out F5.out h6 (Nat.le_refl _))
  clear h5 h6 O5 F5 B5 s5
  go_wp2
  go_ret
  exact ⟨_, rfl, HO.out, HF.out⟩

set_option maxRecDepth 100000 in
set_option maxHeartbeats 2000000 in
theorem pad_3 (A : Nat → Prop) (w : World) (v : Value) (xs : List UInt8) (hb : Bs A w v xs) (hl : xs.length ≤ 100000) (hr : xs.length % 8 = 3) (hp : 0 < xs.length) :
    Calls Tryd.prog 75 #[v] w fun e w' => ∃ u, e = .returned u ∧ OwnB 5 w.heap.size w' u (xs ++ List.replicate 5 0) ∧ Fr [] w w' := by
  have HB := Lib.hid hb
  obtain ⟨a, cap, rfl, -, -, -⟩ := hb
  obtain ⟨N, hN⟩ : ∃ N, xs.length = N := ⟨_, rfl⟩
  rw [hN] at HB hl hr hp ⊢
  have HN := Lib.hid hN
  clear hN
  have hm : (N : Int) % 8 = 3 := by omega
  have hz : ((N : Int) == 0) = false := by rw [beq_eq_false_iff_ne]; omega
  go_enter Tryd.func75, Tryd.ntmps75
  go_wp2_with fail
  refine (clone_any A _ _ xs HB.out (by have := HN.out; omega)).mono ?_
  rintro e w0 ⟨v0, rfl, ho, hf⟩
  have HO := Lib.hid (show OwnB 5 w.heap.size w0 v0 (xs ++ List.replicate 0 0) by simpa using ho)
  have HF := Lib.hid hf
  obtain ⟨o0, n0, c0, rfl⟩ := bs_shp (ho.bs (A := fun _ => False) (by simp))
  obtain rfl : n0 = N := by
    obtain ⟨a', c', e, -⟩ := ho.bs (A := fun _ => False) (by simp)
    cases e
    exact HN.out
  clear ho hf
  have B0 := Lib.hid (bs_lit (A := fun _ => False) w0 #[.int .u8 0] 5 [0] (by simp) rfl (by simp))
  have O0 := Lib.hid (HO.out.keep (Fr.alloc (S := []) w0 (.cells #[.int .u8 0] 5)) (by simp))
  have F0 := Lib.hid (show Fr [] w (w0.alloc (.cells #[.int .u8 0] 5)) from Fr.al HF.out)
  have s0 := F0.out.size
  clear HO HF
  go_wp2_with (at_builtin; refine wpl_append_bs (A := fun _ => False) (ys := [0]) (base := w.heap.size) Tryd.underlying22 Tryd.infoByte rfl (.tmp 39) (.tmp 40) rfl rfl rfl O0.out B0.out (by have := HN.out; simp; omega) s0 ?_)
  intro v1 w1 h5 h6
  have HO := Lib.hid (show OwnB 5 w.heap.size w1 v1 (xs ++ List.replicate 1 0) by simpa using h5)
  have HF := Lib.hid (show Fr [] w w1 from OwnB.fr O0.out F0.out h6 (Nat.le_refl _))
  clear h5 h6 O0 F0 B0 s0
  have B1 := Lib.hid (bs_lit (A := fun _ => False) w1 #[.int .u8 0] 5 [0] (by simp) rfl (by simp))
  have O1 := Lib.hid (HO.out.keep (Fr.alloc (S := []) w1 (.cells #[.int .u8 0] 5)) (by simp))
  have F1 := Lib.hid (show Fr [] w (w1.alloc (.cells #[.int .u8 0] 5)) from Fr.al HF.out)
  have s1 := F1.out.size
  clear HO HF
  go_wp2_with (at_builtin; refine wpl_append_bs (A := fun _ => False) (ys := [0]) (base := w.heap.size) Tryd.underlying22 Tryd.infoByte rfl (.tmp 42) (.tmp 43) rfl rfl rfl O1.out B1.out (by have := HN.out; simp; omega) s1 ?_)
  intro v2 w2 h5 h6
  have HO := Lib.hid (show OwnB 5 w.heap.size w2 v2 (xs ++ List.replicate 2 0) by simpa using h5)
  have HF := Lib.hid (show Fr [] w w2 from OwnB.fr O1.out F1.out h6 (Nat.le_refl _))
  clear h5 h6 O1 F1 B1 s1
  have B2 := Lib.hid (bs_lit (A := fun _ => False) w2 #[.int .u8 0] 5 [0] (by simp) rfl (by simp))
  have O2 := Lib.hid (HO.out.keep (Fr.alloc (S := []) w2 (.cells #[.int .u8 0] 5)) (by simp))
  have F2 := Lib.hid (show Fr [] w (w2.alloc (.cells #[.int .u8 0] 5)) from Fr.al HF.out)
  have s2 := F2.out.size
  clear HO HF
  go_wp2_with (at_builtin; refine wpl_append_bs (A := fun _ => False) (ys := [0]) (base := w.heap.size) Tryd.underlying22 Tryd.infoByte rfl (.tmp 45) (.tmp 46) rfl rfl rfl O2.out B2.out (by have := HN.out; simp; omega) s2 ?_)
  intro v3 w3 h5 h6
  have HO := Lib.hid (show OwnB 5 w.heap.size w3 v3 (xs ++ List.replicate 3 0) by simpa using h5)
  have HF := Lib.hid (show Fr [] w w3 from OwnB.fr O2.out F2.out h6 (Nat.le_refl _))
  clear h5 h6 O2 F2 B2 s2
  have B3 := Lib.hid (bs_lit (A := fun _ => False) w3 #[.int .u8 0] 5 [0] (by simp) rfl (by simp))
  have O3 := Lib.hid (HO.out.keep (Fr.alloc (S := []) w3 (.cells #[.int .u8 0] 5)) (by simp))
  have F3 := Lib.hid (show Fr [] w (w3.alloc (.cells #[.int .u8 0] 5)) from Fr.al HF.out)
  have s3 := F3.out.size
  clear HO HF
  go_wp2_with (at_builtin; refine wpl_append_bs (A := fun _ => False) (ys := [0]) (base := w.heap.size) Tryd.underlying22 Tryd.infoByte rfl (.tmp 48) (.tmp 49) rfl rfl rfl O3.out B3.out (by have := HN.out; simp; omega) s3 ?_)
  intro v4 w4 h5 h6
  have HO := Lib.hid (show OwnB 5 w.heap.size w4 v4 (xs ++ List.replicate 4 0) by simpa using h5)
  have HF := Lib.hid (show Fr [] w w4 from OwnB.fr O3.out F3.out h6 (Nat.le_refl _))
  clear h5 h6 O3 F3 B3 s3
  have B4 := Lib.hid (bs_lit (A := fun _ => False) w4 #[.int .u8 0] 5 [0] (by simp) rfl (by simp))
  have O4 := Lib.hid (HO.out.keep (Fr.alloc (S := []) w4 (.cells #[.int .u8 0] 5)) (by simp))
  have F4 := Lib.hid (show Fr [] w (w4.alloc (.cells #[.int .u8 0] 5)) from Fr.al HF.out)
  have s4 := F4.out.size
  clear HO HF
  go_wp2_with (at_builtin; refine wpl_append_bs (A := fun _ => False) (ys := [0]) (base := w.heap.size) Tryd.underlying22 Tryd.infoByte rfl (.tmp 51) (.tmp 52) rfl rfl rfl O4.out B4.out (by have := HN.out; simp; omega) s4 ?_)
  intro v5 w5 h5 h6
  have HO := Lib.hid (show OwnB 5 w.heap.size w5 v5 (xs ++ List.replicate 5 0) by simpa using h5)
  have HF := Lib.hid (show Fr [] w w5 from OwnB.fr O4.out F4.out h6 (Nat.le_refl _))
  clear h5 h6 O4 F4 B4 s4
  go_wp2
  go_ret
  exact ⟨_, rfl, HO.out, HF.out⟩

set_option maxRecDepth 100000 in
set_option maxHeartbeats 2000000 in
theorem pad_4 (A : Nat → Prop) (w : World) (v : Value) (xs : List UInt8) (hb : Bs A w v xs) (hl : xs.length ≤ 100000) (hr : xs.length % 8 = 4) (hp : 0 < xs.length) :
    Calls Tryd.prog 75 #[v] w fun e w' => ∃ u, e = .returned u ∧ OwnB 5 w.heap.size w' u (xs ++ List.replicate 4 0) ∧ Fr [] w w' := by
  have HB := Lib.hid hb
  obtain ⟨a, cap, rfl, -, -, -⟩ := hb
  obtain ⟨N, hN⟩ : ∃ N, xs.length = N := ⟨_, rfl⟩
  rw [hN] at HB hl hr hp ⊢
  have HN := Lib.hid hN
  clear hN
  have hm : (N : Int) % 8 = 4 := by omega
  have hz : ((N : Int) == 0) = false := by rw [beq_eq_false_iff_ne]; omega
  go_enter Tryd.func75, Tryd.ntmps75
  go_wp2_with fail
  refine (clone_any A _ _ xs HB.out (by have := HN.out; omega)).mono ?_
  rintro e w0 ⟨v0, rfl, ho, hf⟩
  have HO := Lib.hid (show OwnB 5 w.heap.size w0 v0 (xs ++ List.replicate 0 0) by simpa using ho)
  have HF := Lib.hid hf
  obtain ⟨o0, n0, c0, rfl⟩ := bs_shp (ho.bs (A := fun _ => False) (by simp))
  obtain rfl : n0 = N := by
    obtain ⟨a', c', e, -⟩ := ho.bs (A := fun _ => False) (by simp)
    cases e
    exact HN.out
  clear ho hf
  have B0 := Lib.hid (bs_lit (A := fun _ => False) w0 #[.int .u8 0] 5 [0] (by simp) rfl (by simp))
  have O0 := Lib.hid (HO.out.keep (Fr.alloc (S := []) w0 (.cells #[.int .u8 0] 5)) (by simp))
  have F0 := Lib.hid (show Fr [] w (w0.alloc (.cells #[.int .u8 0] 5)) from Fr.al HF.out)
  have s0 := F0.out.size
  clear HO HF
  go_wp2_with (at_builtin; refine wpl_append_bs (A := fun _ => False) (ys := [0]) (base := w.heap.size) Tryd.underlying22 Tryd.infoByte rfl (.tmp 42) (.tmp 43) rfl rfl rfl O0.out B0.out (by have := HN.out; simp; omega) s0 ?_)
  intro v1 w1 h5 h6
  have HO := Lib.hid (show OwnB 5 w.heap.size w1 v1 (xs ++ List.replicate 1 0) by simpa using h5)
  have HF := Lib.hid (show Fr [] w w1 from OwnB.fr O0.out F0.out h6 (Nat.le_refl _))
  clear h5 h6 O0 F0 B0 s0
  have B1 := Lib.hid (bs_lit (A := fun _ => False) w1 #[.int .u8 0] 5 [0] (by simp) rfl (by simp))
  have O1 := Lib.hid (HO.out.keep (Fr.alloc (S := []) w1 (.cells #[.int .u8 0] 5)) (by simp))
  have F1 := Lib.hid (show Fr [] w (w1.alloc (.cells #[.int .u8 0] 5)) from Fr.al HF.out)
  have s1 := F1.out.size
  clear HO HF
  go_wp2_with (at_builtin; refine wpl_append_bs (A := fun _ => False) (ys := [0]) (base := w.heap.size) Tryd.underlying22 Tryd.infoByte rfl (.tmp 45) (.tmp 46) rfl rfl rfl O1.out B1.out (by have := HN.out; simp; omega) s1 ?_)
  intro v2 w2 h5 h6
  have HO := Lib.hid (show OwnB 5 w.heap.size w2 v2 (xs ++ List.replicate 2 0) by simpa using h5)
  have HF := Lib.hid (show Fr [] w w2 from OwnB.fr O1.out F1.out h6 (Nat.le_refl _))
  clear h5 h6 O1 F1 B1 s1
  have B2 := Lib.hid (bs_lit (A := fun _ => False) w2 #[.int .u8 0] 5 [0] (by simp) rfl (by simp))
  have O2 := Lib.hid (HO.out.keep (Fr.alloc (S := []) w2 (.cells #[.int .u8 0] 5)) (by simp))
  have F2 := Lib.hid (show Fr [] w (w2.alloc (.cells #[.int .u8 0] 5)) from Fr.al HF.out)
  have s2 := F2.out.size
  clear HO HF
  go_wp2_with (at_builtin; refine wpl_append_bs (A := fun _ => False) (ys := [0]) (base := w.heap.size) Tryd.underlying22 Tryd.infoByte rfl (.tmp 48) (.tmp 49) rfl rfl rfl O2.out B2.out (by have := HN.out; simp; omega) s2 ?_)
  intro v3 w3 h5 h6
  have HO := Lib.hid (show OwnB 5 w.heap.size w3 v3 (xs ++ List.replicate 3 0) by simpa using h5)
  have HF := Lib.hid (show Fr [] w w3 from OwnB.fr O2.out F2.out h6 (Nat.le_refl _))
  clear h5 h6 O2 F2 B2 s2
  have B3 := Lib.hid (bs_lit (A := fun _ => False) w3 #[.int .u8 0] 5 [0] (by simp) rfl (by simp))
  have O3 := Lib.hid (HO.out.keep (Fr.alloc (S := []) w3 (.cells #[.int .u8 0] 5)) (by simp))
  have F3 := Lib.hid (show Fr [] w (w3.alloc (.cells #[.int .u8 0] 5)) from Fr.al HF.out)
  have s3 := F3.out.size
  clear HO HF
  go_wp2_with (at_builtin; refine wpl_append_bs (A := fun _ => False) (ys := [0]) (base := w.heap.size) Tryd.underlying22 Tryd.infoByte rfl (.tmp 51) (.tmp 52) rfl rfl rfl O3.out B3.out (by have := HN.out; simp; omega) s3 ?_)
  intro v4 w4 h5 h6
  have HO := Lib.hid (show OwnB 5 w.heap.size w4 v4 (xs ++ List.replicate 4 0) by simpa using h5)
  have HF := Lib.hid (show Fr [] w w4 from OwnB.fr O3.out F3.out h6 (Nat.le_refl _))
  clear h5 h6 O3 F3 B3 s3
  go_wp2
  go_ret
  exact ⟨_, rfl, HO.out, HF.out⟩

set_option maxRecDepth 100000 in
set_option maxHeartbeats 2000000 in
theorem pad_5 (A : Nat → Prop) (w : World) (v : Value) (xs : List UInt8) (hb : Bs A w v xs) (hl : xs.length ≤ 100000) (hr : xs.length % 8 = 5) (hp : 0 < xs.length) :
    Calls Tryd.prog 75 #[v] w fun e w' => ∃ u, e = .returned u ∧ OwnB 5 w.heap.size w' u (xs ++ List.replicate 3 0) ∧ Fr [] w w' := by
  have HB := Lib.hid hb
  obtain ⟨a, cap, rfl, -, -, -⟩ := hb
  obtain ⟨N, hN⟩ : ∃ N, xs.length = N := ⟨_, rfl⟩
  rw [hN] at HB hl hr hp ⊢
  have HN := Lib.hid hN
  clear hN
  have hm : (N : Int) % 8 = 5 := by omega
  have hz : ((N : Int) == 0) = false := by rw [beq_eq_false_iff_ne]; omega
  go_enter Tryd.func75, Tryd.ntmps75
  go_wp2_with fail
  refine (clone_any A _ _ xs HB.out (by have := HN.out; omega)).mono ?_
  rintro e w0 ⟨v0, rfl, ho, hf⟩
  have HO := Lib.hid (show OwnB 5 w.heap.size w0 v0 (xs ++ List.replicate 0 0) by simpa using ho)
  have HF := Lib.hid hf
  obtain ⟨o0, n0, c0, rfl⟩ := bs_shp (ho.bs (A := fun _ => False) (by simp))
  obtain rfl : n0 = N := by
    obtain ⟨a', c', e, -⟩ := ho.bs (A := fun _ => False) (by simp)
    cases e
    exact HN.out
  clear ho hf
  have B0 := Lib.hid (bs_lit (A := fun _ => False) w0 #[.int .u8 0] 5 [0] (by simp) rfl (by simp))
  have O0 := Lib.hid (HO.out.keep (Fr.alloc (S := []) w0 (.cells #[.int .u8 0] 5)) (by simp))
  have F0 := Lib.hid (show Fr [] w (w0.alloc (.cells #[.int .u8 0] 5)) from Fr.al HF.out)
  have s0 := F0.out.size
  clear HO HF
  go_wp2_with (at_builtin; refine wpl_append_bs (A := fun _ => False) (ys := [0]) (base := w.heap.size) Tryd.underlying22 Tryd.infoByte rfl (.tmp 45) (.tmp 46) rfl rfl rfl O0.out B0.out (by have := HN.out; simp; omega) s0 ?_)
  intro v1 w1 h5 h6
  have HO := Lib.hid (show OwnB 5 w.heap.size w1 v1 (xs ++ List.replicate 1 0) by simpa using h5)
  have HF := Lib.hid (show Fr [] w w1 from OwnB.fr O0.out F0.out h6 (Nat.le_refl _))
  clear h5 h6 O0 F0 B0 s0
  have B1 := Lib.hid (bs_lit (A := fun _ => False) w1 #[.int .u8 0] 5 [0] (by simp) rfl (by simp))
  have O1 := Lib.hid (HO.out.keep (Fr.alloc (S := []) w1 (.cells #[.int .u8 0] 5)) (by simp))
  have F1 := Lib.hid (show Fr [] w (w1.alloc (.cells #[.int .u8 0] 5)) from Fr.al HF.out)
  have s1 := F1.out.size
  clear HO HF
  go_wp2_with (at_builtin; refine wpl_append_bs (A := fun _ => False) (ys := [0]) (base := w.heap.size) Tryd.underlying22 Tryd.infoByte rfl (.tmp 48) (.tmp 49) rfl rfl rfl O1.out B1.out (by have := HN.out; simp; omega) s1 ?_)
  intro v2 w2 h5 h6
  have HO := Lib.hid (show OwnB 5 w.heap.size w2 v2 (xs ++ List.replicate 2 0) by simpa using h5)
  have HF := Lib.hid (show Fr [] w w2 from OwnB.fr O1.out F1.out h6 (Nat.le_refl _))
  clear h5 h6 O1 F1 B1 s1
  have B2 := Lib.hid (bs_lit (A := fun _ => False) w2 #[.int .u8 0] 5 [0] (by simp) rfl (by simp))
  have O2 := Lib.hid (HO.out.keep (Fr.alloc (S := []) w2 (.cells #[.int .u8 0] 5)) (by simp))
  have F2 := Lib.hid (show Fr [] w (w2.alloc (.cells #[.int .u8 0] 5)) from Fr.al HF.out)
  have s2 := F2.out.size
  clear HO HF
  go_wp2_with (at_builtin; refine wpl_append_bs (A := fun _ => False) (ys := [0]) (base := w.heap.size) Tryd.underlying22 Tryd.infoByte rfl (.tmp 51) (.tmp 52) rfl rfl rfl O2.out B2.out (by have := HN.out; simp; omega) s2 ?_)
  intro v3 w3 h5 h6
  have HO := Lib.hid (show OwnB 5 w.heap.size w3 v3 (xs ++ List.replicate 3 0) by simpa using h5)
  have HF := Lib.hid (show Fr [] w w3 from OwnB.fr O2.out F2.out h6 (Nat.le_refl _))
  clear h5 h6 O2 F2 B2 s2
  go_wp2
  go_ret
  exact ⟨_, rfl, HO.out, HF.out⟩

set_option maxRecDepth 100000 in
set_option maxHeartbeats 2000000 in
theorem pad_6 (A : Nat → Prop) (w : World) (v : Value) (xs : List UInt8) (hb : Bs A w v xs) (hl : xs.length ≤ 100000) (hr : xs.length % 8 = 6) (hp : 0 < xs.length) :
    Calls Tryd.prog 75 #[v] w fun e w' => ∃ u, e = .returned u ∧ OwnB 5 w.heap.size w' u (xs ++ List.replicate 2 0) ∧ Fr [] w w' := by
  have HB := Lib.hid hb
  obtain ⟨a, cap, rfl, -, -, -⟩ := hb
  obtain ⟨N, hN⟩ : ∃ N, xs.length = N := ⟨_, rfl⟩
  rw [hN] at HB hl hr hp ⊢
  have HN := Lib.hid hN
  clear hN
  have hm : (N : Int) % 8 = 6 := by omega
  have hz : ((N : Int) == 0) = false := by rw [beq_eq_false_iff_ne]; omega
  go_enter Tryd.func75, Tryd.ntmps75
  go_wp2_with fail
  refine (clone_any A _ _ xs HB.out (by have := HN.out; omega)).mono ?_
  rintro e w0 ⟨v0, rfl, ho, hf⟩
  have HO := Lib.hid (show OwnB 5 w.heap.size w0 v0 (xs ++ List.replicate 0 0) by simpa using ho)
  have HF := Lib.hid hf
  obtain ⟨o0, n0, c0, rfl⟩ := bs_shp (ho.bs (A := fun _ => False) (by simp))
  obtain rfl : n0 = N := by
    obtain ⟨a', c', e, -⟩ := ho.bs (A := fun _ => False) (by simp)
    cases e
    exact HN.out
  clear ho hf
  have B0 := Lib.hid (bs_lit (A := fun _ => False) w0 #[.int .u8 0] 5 [0] (by simp) rfl (by simp))
  have O0 := Lib.hid (HO.out.keep (Fr.alloc (S := []) w0 (.cells #[.int .u8 0] 5)) (by simp))
  have F0 := Lib.hid (show Fr [] w (w0.alloc (.cells #[.int .u8 0] 5)) from Fr.al HF.out)
  have s0 := F0.out.size
  clear HO HF
  go_wp2_with (at_builtin; refine wpl_append_bs (A := fun _ => False) (ys := [0]) (base := w.heap.size) Tryd.underlying22 Tryd.infoByte rfl (.tmp 48) (.tmp 49) rfl rfl rfl O0.out B0.out (by have := HN.out; simp; omega) s0 ?_)
  intro v1 w1 h5 h6
  have HO := Lib.hid (show OwnB 5 w.heap.size w1 v1 (xs ++ List.replicate 1 0) by simpa using h5)
  have HF := Lib.hid (show Fr [] w w1 from OwnB.fr O0.out F0.out h6 (Nat.le_refl _))
  clear h5 h6 O0 F0 B0 s0
  have B1 := Lib.hid (bs_lit (A := fun _ => False) w1 #[.int .u8 0] 5 [0] (by simp) rfl (by simp))
  have O1 := Lib.hid (HO.out.keep (Fr.alloc (S := []) w1 (.cells #[.int .u8 0] 5)) (by simp))
  have F1 := Lib.hid (show Fr [] w (w1.alloc (.cells #[.int .u8 0] 5)) from Fr.al HF.out)
  have s1 := F1.out.size
  clear HO HF
  go_wp2_with (at_builtin; refine wpl_append_bs (A := fun _ => False) (ys := [0]) (base := w.heap.size) Tryd.underlying22 Tryd.infoByte rfl (.tmp 51) (.tmp 52) rfl rfl rfl O1.out B1.out (by have := HN.out; simp; omega) s1 ?_)
  intro v2 w2 h5 h6
  have HO := Lib.hid (show OwnB 5 w.heap.size w2 v2 (xs ++ List.replicate 2 0) by simpa using h5)
  have HF := Lib.hid (show Fr [] w w2 from OwnB.fr O1.out F1.out h6 (Nat.le_refl _))
  clear h5 h6 O1 F1 B1 s1
  go_wp2
  go_ret
  exact ⟨_, rfl, HO.out, HF.out⟩

set_option maxRecDepth 100000 in
set_option maxHeartbeats 2000000 in
theorem pad_7 (A : Nat → Prop) (w : World) (v : Value) (xs : List UInt8) (hb : Bs A w v xs) (hl : xs.length ≤ 100000) (hr : xs.length % 8 = 7) (hp : 0 < xs.length) :
    Calls Tryd.prog 75 #[v] w fun e w' => ∃ u, e = .returned u ∧ OwnB 5 w.heap.size w' u (xs ++ List.replicate 1 0) ∧ Fr [] w w' := by
  have HB := Lib.hid hb
  obtain ⟨a, cap, rfl, -, -, -⟩ := hb
  obtain ⟨N, hN⟩ : ∃ N, xs.length = N := ⟨_, rfl⟩
  rw [hN] at HB hl hr hp ⊢
  have HN := Lib.hid hN
  clear hN
  have hm : (N : Int) % 8 = 7 := by omega
  have hz : ((N : Int) == 0) = false := by rw [beq_eq_false_iff_ne]; omega
  go_enter Tryd.func75, Tryd.ntmps75
  go_wp2_with fail
  refine (clone_any A _ _ xs HB.out (by have := HN.out; omega)).mono ?_
  rintro e w0 ⟨v0, rfl, ho, hf⟩
  have HO := Lib.hid (show OwnB 5 w.heap.size w0 v0 (xs ++ List.replicate 0 0) by simpa using ho)
  have HF := Lib.hid hf
  obtain ⟨o0, n0, c0, rfl⟩ := bs_shp (ho.bs (A := fun _ => False) (by simp))
  obtain rfl : n0 = N := by
    obtain ⟨a', c', e, -⟩ := ho.bs (A := fun _ => False) (by simp)
    cases e
    exact HN.out
  clear ho hf
  have B0 := Lib.hid (bs_lit (A := fun _ => False) w0 #[.int .u8 0] 5 [0] (by simp) rfl (by simp))
  have O0 := Lib.hid (HO.out.keep (Fr.alloc (S := []) w0 (.cells #[.int .u8 0] 5)) (by simp))
  have F0 := Lib.hid (show Fr [] w (w0.alloc (.cells #[.int .u8 0] 5)) from Fr.al HF.out)
  have s0 := F0.out.size
  clear HO HF
  go_wp2_with (at_builtin; refine wpl_append_bs (A := fun _ => False) (ys := [0]) (base := w.heap.size) Tryd.underlying22 Tryd.infoByte rfl (.tmp 51) (.tmp 52) rfl rfl rfl O0.out B0.out (by have := HN.out; simp; omega) s0 ?_)
  intro v1 w1 h5 h6
  have HO := Lib.hid (show OwnB 5 w.heap.size w1 v1 (xs ++ List.replicate 1 0) by simpa using h5)
  have HF := Lib.hid (show Fr [] w w1 from OwnB.fr O0.out F0.out h6 (Nat.le_refl _))
  clear h5 h6 O0 F0 B0 s0
  go_wp2
  go_ret
  exact ⟨_, rfl, HO.out, HF.out⟩

set_option maxRecDepth 100000 in
set_option maxHeartbeats 2000000 in
theorem pad_0 (A : Nat → Prop) (w : World) (v : Value) (xs : List UInt8) (hb : Bs A w v xs) (hl : xs.length ≤ 100000) (hr : xs.length % 8 = 0) (hp : 0 < xs.length) :
    Calls Tryd.prog 75 #[v] w fun e w' => ∃ u, e = .returned u ∧ OwnB 5 w.heap.size w' u (xs ++ List.replicate 0 0) ∧ Fr [] w w' := by
  have HB := Lib.hid hb
  obtain ⟨a, cap, rfl, -, -, -⟩ := hb
  obtain ⟨N, hN⟩ : ∃ N, xs.length = N := ⟨_, rfl⟩
  rw [hN] at HB hl hr hp ⊢
  have HN := Lib.hid hN
  clear hN
  have hm : (N : Int) % 8 = 0 := by omega
  have hz : ((N : Int) == 0) = false := by rw [beq_eq_false_iff_ne]; omega
  go_enter Tryd.func75, Tryd.ntmps75
  go_wp2_with fail
  refine (clone_any A _ _ xs HB.out (by have := HN.out; omega)).mono ?_
  rintro e w0 ⟨v0, rfl, ho, hf⟩
  have HO := Lib.hid (show OwnB 5 w.heap.size w0 v0 (xs ++ List.replicate 0 0) by simpa using ho)
  have HF := Lib.hid hf
  obtain ⟨o0, n0, c0, rfl⟩ := bs_shp (ho.bs (A := fun _ => False) (by simp))
  obtain rfl : n0 = N := by
    obtain ⟨a', c', e, -⟩ := ho.bs (A := fun _ => False) (by simp)
    cases e
    exact HN.out
  clear ho hf
  go_wp2
  go_ret
  exact ⟨_, rfl, HO.out, HF.out⟩

theorem pad_any (A : Nat → Prop) (w : World) (v : Value) (xs : List UInt8) (hb : Bs A w v xs) (hl : xs.length ≤ 100000) :
    Calls Tryd.prog 75 #[v] w fun e w' => ∃ u, e = .returned u ∧ OwnB 5 w.heap.size w' u (padL xs) ∧ Fr [] w w' := by
  by_cases h0 : xs.length = 0
  · have := pad_8 A w v xs hb hl h0
    rwa [show padL xs = xs ++ List.replicate 8 0 by unfold padL padN; rw [if_pos h0]]
  have hp : 0 < xs.length := by omega
  have hc : xs.length % 8 = 0 ∨ xs.length % 8 = 1 ∨ xs.length % 8 = 2 ∨ xs.length % 8 = 3 ∨ xs.length % 8 = 4 ∨ xs.length % 8 = 5 ∨ xs.length % 8 = 6 ∨ xs.length % 8 = 7 := by omega
  have hpad : ∀ r, xs.length % 8 = r → padL xs = xs ++ List.replicate ((8 - r) % 8) 0 := fun r h => by unfold padL padN; rw [if_neg h0, h]
  rcases hc with h | h | h | h | h | h | h | h
  · rw [hpad 0 h]; exact pad_0 A w v xs hb hl h hp
  · rw [hpad 1 h]; exact pad_1 A w v xs hb hl h hp
  · rw [hpad 2 h]; exact pad_2 A w v xs hb hl h hp
  · rw [hpad 3 h]; exact pad_3 A w v xs hb hl h hp
  · rw [hpad 4 h]; exact pad_4 A w v xs hb hl h hp
  · rw [hpad 5 h]; exact pad_5 A w v xs hb hl h hp
  · rw [hpad 6 h]; exact pad_6 A w v xs hb hl h hp
  · rw [hpad 7 h]; exact pad_7 A w v xs hb hl h hp
end Go.Proofs.YtfblhdomjnffcaaDoor
