/-
  Layer 31: the document's Encode: a round. (printed by genren.py)
-/
import Derived.Test.YtbohmnblegljkaaDoorGJ
namespace Go.Proofs.YtbohmnblegljkaaDoor
open Go.RowKit Go.Bl
set_option linter.unusedVariables false

set_option maxRecDepth 1000000 in
set_option maxHeartbeats 8000000 in
theorem renc_round_1c (w0 wr : World) (a : Go.Act) (hsz : a.tmps.size = 144) (hd : a.defers = []) (N j b off cap : Nat) (x : ActP) (bo : Option Addr) (bn bc : Nat) (v0 : Value) (xs : List UInt8)
    (h11 : slot a 11 = .slice (some ⟨b, off, none⟩) N cap) (h12 : slot a 12 = .int .i64 N) (h13 : slot a 13 = .int .i64 j) (hj : j < N) (hN : N ≤ 30) (hcell : wr.rangeAt b (off + j * 16) (avC (x, .slice bo bn bc)))
    (hbx : Bs (fun b => w0.heap.size ≤ b) wr (.slice bo bn bc) x.bytes) (h4 : slot a 4 = v0) (hown : OwnB 5 w0.heap.size wr v0 xs) (hlen : xs.length ≤ 3000000) (hnl : x.name.size ≤ 1000) (hby : x.bytes.length ≤ 70000) (hF : Fr [] w0 wr) (hg : 0 ≤ x.kind ∧ x.kind ≤ 255) (hk : x.kind = 1) (hnc : 255 < x.name.size) (Q : Exit → Go.Act → World → Prop)
    (hQ : ∀ (c : Go.Act) (p : World), c.defers = [] → c.tmps.size = 144 → slot c 11 = slot a 11 → slot c 12 = slot a 12 → slot c 13 = .int .i64 ((j : Int) + 1) → OwnB 5 w0.heap.size p (slot c 4) (xs ++ entryL (plainA x)) → Fr [] w0 p → Q .normal c p) : Code.wp Tryd.prog encBody Q a wr := by
  rw [h11, h12] at hQ
  have HA0 := Lib.hid (show At (wr.alloc (actO x (.slice bo bn bc) 99)) wr.heap.size (actO x (.slice bo bn bc) 99) from At.new rfl)
  have HF0 := Lib.hid (show Fr [] w0 (wr.alloc (actO x (.slice bo bn bc) 99)) from Fr.al hF)
  have HO0 := Lib.hid (hown.keep (Fr.alloc (S := []) wr (actO x (.slice bo bn bc) 99)) (by simp))
  have BX0 := Lib.hid (hbx.keep (Fr.alloc (S := []) wr (actO x (.slice bo bn bc) 99)) (by simp))
  have HC := Lib.hid hcell
  have HQ := Lib.hid hQ
  have HK := Lib.hid hk
  have HL := Lib.hid hlen
  have z0 : (wr.alloc (actO x (.slice bo bn bc) 99)).cell? ⟨wr.heap.size, 0, none⟩ = some (.int .i64 x.kind) := (actCells HA0.out).1
  have g0 := hg.1
  have g1 := hg.2
  rw [frame144 a hsz hd, h4, h11, h12, h13]
  clear hcell hQ hown hbx hF hk hlen h4 h11 h12 h13 hg
  unfold actO at z0
  conv => arg 2; whnf
  go_wp2_with (first | (refine wpl_load_row (.tmp 15) rfl rfl b (off + j * 16) (actC x (.slice bo bn bc)) rfl HC.out Tryd.underlying99 rfl (by kernel_rfl) ?_) | (refine wpl_store_new (.tmp 6) (.tmp 16) rfl rfl (actC x (.slice bo bn bc)) rfl rfl (by kernel_rfl) rfl (by simp [actC, Value.oneCell']) ?_))
  refine renc_7 _ _ rfl w0.heap.size v0 xs x (.slice bo bn bc) wr.heap.size rfl HO0.out (by have := HF0.out.size; exact this) (by have := HL.out; omega) rfl HA0.out (r_not HO0.out HA0.out (by decide)) _ ?_
  intro b7 p7 h1 h2 h3 ho hf
  obtain ⟨f7, e7, eb⟩ := puts_of b7 _ _ h1 h2 h3 4
  rw [← e7] at ho
  clear h1 h2 h3 e7
  subst eb
  simp only [List.foldl_cons, List.foldl_nil]
  simp only [Go.Act.put, List.setIfInBounds_toArray, List.set_cons_succ, List.set_cons_zero]
  generalize f7 4 = v7 at ho ⊢
  have HA := Lib.hid (HA0.out.keep hf (r_not HO0.out HA0.out (by decide)))
  have BX := Lib.hid (bs_step BX0.out HO0.out hf)
  have HF := Lib.hid (own_step HF0.out HO0.out hf)
  have HO := Lib.hid ho
  clear HA0 BX0 HF0 HO0 hf ho z0
  have z0 := (actCells HA.out).1
  have t10 : (x.kind == 10) = false := by have := HK.out; rw [beq_eq_false_iff_ne]; omega
  have t1 : (x.kind == 1) = true := by have := HK.out; rw [beq_iff_eq]; omega
  have t9 : (x.kind == 9) = false := by have := HK.out; rw [beq_eq_false_iff_ne]; omega
  have t13 : (x.kind == 13) = false := by have := HK.out; rw [beq_eq_false_iff_ne]; omega
  have z5 := (actCells HA.out).2.2.2.2.2.1
  go_wp2_with (first | (refine wpl_load_row (.tmp 77) rfl rfl wr.heap.size 7 #[.int .i64 x.p0, .int .i64 x.p1, .int .i64 x.p2, .int .i64 x.p3, .int .i64 x.p4, .int .i64 x.p5] rfl (range7r HA.out) Tryd.underlying40 rfl (by kernel_rfl) ?_) | (refine wpl_store_new (.tmp 8) (.tmp 78) rfl rfl #[.int .i64 x.p0, .int .i64 x.p1, .int .i64 x.p2, .int .i64 x.p3, .int .i64 x.p4, .int .i64 x.p5] rfl rfl (by kernel_rfl) rfl (by simp [Value.oneCell']) ?_))
  have HB := Lib.hid (show At (p7.alloc (.cells #[.int .i64 x.p0, .int .i64 x.p1, .int .i64 x.p2, .int .i64 x.p3, .int .i64 x.p4, .int .i64 x.p5] 40)) p7.heap.size (.cells #[.int .i64 x.p0, .int .i64 x.p1, .int .i64 x.p2, .int .i64 x.p3, .int .i64 x.p4, .int .i64 x.p5] 40) from At.new rfl)
  have hf0 : Fr [] p7 (p7.alloc (.cells #[.int .i64 x.p0, .int .i64 x.p1, .int .i64 x.p2, .int .i64 x.p3, .int .i64 x.p4, .int .i64 x.p5] 40)) := Fr.alloc _ _
  replace HA := Lib.hid (HA.out.keep0 hf0)
  replace BX := Lib.hid (BX.out.keep hf0 (by simp))
  replace HO := Lib.hid (HO.out.keep hf0 (by simp))
  replace HF := Lib.hid (HF.out.trans hf0)
  clear hf0 z0 z5
  refine renc_15 _ _ rfl w0.heap.size v7 (xs ++ entBase x) x p7.heap.size (x.name.extract 0 255) rfl HO.out (by have := HF.out.size; exact this) (by have := HL.out; simp [entBase, be2]; omega) rfl (by (simp; omega)) rfl HB.out (r_not HO.out HB.out (by decide)) _ ?_
  intro b15 p15 h1 h2 h3 ho hf
  obtain ⟨f15, e15, eb⟩ := puts_of b15 _ _ h1 h2 h3 4
  rw [← e15] at ho
  clear h1 h2 h3 e15
  subst eb
  simp only [List.foldl_cons, List.foldl_nil]
  simp only [Go.Act.put, List.setIfInBounds_toArray, List.set_cons_succ, List.set_cons_zero]
  generalize f15 4 = v15 at ho ⊢
  have HB15 := Lib.hid (HB.out.keep hf (r_not HO.out HB.out (by decide)))
  replace HA := Lib.hid (HA.out.keep hf (r_not HO.out HA.out (by decide)))
  replace BX := Lib.hid (bs_step BX.out HO.out hf)
  replace HF := Lib.hid (own_step HF.out HO.out hf)
  clear HB
  have HB := HB15
  clear HB15
  clear HO
  have HO := Lib.hid ho
  clear hf ho
  go_wp2
  refine renc_16 _ _ rfl w0.heap.size v15 ((xs ++ entBase x) ++ (b8 (x.name.extract 0 255).size :: ((x.name.extract 0 255).data.toList ++ be2 x.p0))) x p7.heap.size rfl HO.out (by have := HF.out.size; exact this) (by have := HL.out; have h9 : (x.name.extract 0 255).data.size = (x.name.extract 0 255).size := rfl; have h10 : (x.name.extract 0 255).size ≤ 1000 := (by (simp; omega)); simp [entBase, be2] at h9 h10 ⊢; omega) rfl HB.out (r_not HO.out HB.out (by decide)) _ ?_
  intro b16 p16 h1 h2 h3 ho hf
  obtain ⟨f16, e16, eb⟩ := puts_of b16 _ _ h1 h2 h3 4
  rw [← e16] at ho
  clear h1 h2 h3 e16
  subst eb
  simp only [List.foldl_cons, List.foldl_nil]
  simp only [Go.Act.put, List.setIfInBounds_toArray, List.set_cons_succ, List.set_cons_zero]
  generalize f16 4 = v16 at ho ⊢
  have HB16 := Lib.hid (HB.out.keep hf (r_not HO.out HB.out (by decide)))
  replace HA := Lib.hid (HA.out.keep hf (r_not HO.out HA.out (by decide)))
  replace BX := Lib.hid (bs_step BX.out HO.out hf)
  replace HF := Lib.hid (own_step HF.out HO.out hf)
  clear HB
  have HB := HB16
  clear HB16
  clear HO
  have HO := Lib.hid ho
  clear hf ho
  go_wp2
  refine renc_17 _ _ rfl w0.heap.size v16 (((xs ++ entBase x) ++ (b8 (x.name.extract 0 255).size :: ((x.name.extract 0 255).data.toList ++ be2 x.p0))) ++ (b8 x.p1 :: b8 x.p2 :: be2 x.p3)) x p7.heap.size rfl HO.out (by have := HF.out.size; exact this) (by have := HL.out; have h9 : (x.name.extract 0 255).data.size = (x.name.extract 0 255).size := rfl; have h10 : (x.name.extract 0 255).size ≤ 1000 := (by (simp; omega)); simp [entBase, be2] at h9 h10 ⊢; omega) rfl HB.out (r_not HO.out HB.out (by decide)) _ ?_
  intro b17 p17 h1 h2 h3 ho hf
  obtain ⟨f17, e17, eb⟩ := puts_of b17 _ _ h1 h2 h3 4
  rw [← e17] at ho
  clear h1 h2 h3 e17
  subst eb
  simp only [List.foldl_cons, List.foldl_nil]
  simp only [Go.Act.put, List.setIfInBounds_toArray, List.set_cons_succ, List.set_cons_zero]
  generalize f17 4 = v17 at ho ⊢
  have HB17 := Lib.hid (HB.out.keep hf (r_not HO.out HB.out (by decide)))
  replace HA := Lib.hid (HA.out.keep hf (r_not HO.out HA.out (by decide)))
  replace BX := Lib.hid (bs_step BX.out HO.out hf)
  replace HF := Lib.hid (own_step HF.out HO.out hf)
  clear HB
  have HB := HB17
  clear HB17
  clear HO
  have HO := Lib.hid ho
  clear hf ho
  have z0 := (actCells HA.out).1
  have LL := Lib.hid (show (((((xs ++ entBase x) ++ (b8 (x.name.extract 0 255).size :: ((x.name.extract 0 255).data.toList ++ be2 x.p0))) ++ (b8 x.p1 :: b8 x.p2 :: be2 x.p3)) ++ (be2 x.p4 ++ [b8 x.p5]))).length + 2 + x.bytes.length ≤ 100000000 by have := HL.out; have h9 : (x.name.extract 0 255).data.size = (x.name.extract 0 255).size := rfl; have h10 : (x.name.extract 0 255).size ≤ 1000 := (by (simp; omega)); simp [entBase, be2] at h9 h10 ⊢; omega)
  have hb0 : bn = x.bytes.length := by
    obtain ⟨a0, cp, h, -⟩ := BX.out
    cases h
    rfl
  have HBN := Lib.hid hb0
  have z6 := (actCells HA.out).2.2.2.2.2.2.1
  by_cases hcut : 65535 < bn
  · have BY := Lib.hid (BX.out.take 65535 (by omega))
    have hbc : 65535 ≤ bc := by
      obtain ⟨a0, cp, h, h', -⟩ := BX.out
      cases h
      omega
    clear hb0
    have hs := HF.out.size
    go_wp2_with fail
    refine (put_any _ _ 2 (by decide) (by decide)).mono ?_
    rintro e p8 ⟨u8, rfl, ho, hf⟩
    have H8 := Lib.hid (HO.out.keep hf (by simp))
    have F8 := Lib.hid (HF.out.trans hf)
    have Y8 := Lib.hid (BY.out.keep hf (by simp))
    have P8 := Lib.hid (ho.bs (A := fun b => False) (by simp))
    obtain ⟨xo, xn, xc, rfl⟩ := bs_shape P8.out
    have hs8 := F8.out.size
    clear ho hf HO HF BY HA
    go_wp2_with (at_builtin; refine wpl_append_bs (A := fun _ => False) (base := w0.heap.size) Tryd.underlying59 Tryd.infoByte rfl (.tmp 135) (.tmp 138) rfl rfl rfl H8.out P8.out (by have := LL.out; simp [beK_len] at this ⊢; omega) hs8 ?_)
    intro v9 p9 h5 h6
    have H9 := Lib.hid h5
    have F9 := Lib.hid (show Fr [] w0 p9 from OwnB.fr H8.out F8.out h6 (Nat.le_refl _))
    have Y9 := Lib.hid (Y8.out.keep (grown_fr h6) fun b hb => (H8.out.lt b (by simpa using hb)).1)
    have hs9 := F9.out.size
    clear h5 h6 H8 F8 Y8 P8
    go_wp2_with (at_builtin; refine wpl_append_bs (A := fun b => w0.heap.size ≤ b) (base := w0.heap.size) Tryd.underlying59 Tryd.infoByte rfl (.tmp 139) (.tmp 140) rfl rfl rfl H9.out Y9.out (by have := LL.out; simp [beK_len] at this ⊢; omega) hs9 ?_)
    intro v10 p10 h5 h6
    have H10 := Lib.hid h5
    have F10 := Lib.hid (show Fr [] w0 p10 from OwnB.fr H9.out F9.out h6 (Nat.le_refl _))
    clear h5 h6 H9 F9 Y9
    go_wp2
    refine HQ.out _ _ rfl rfl rfl rfl (by go_num) ?_ F10.out
    have h := H10.out
    have hbn := HBN.out
    show OwnB 5 w0.heap.size p10 v10 _
    rw [ref_1 x HK.out]
    rw [(show refCut x = (x.name.extract 0 255) by unfold refCut; rw [Nat.min_eq_right (by omega)])]
    unfold laidL
    rw [List.length_take, Nat.min_eq_left (by omega)]
    simpa [beK_two, hbn] using h
  · have BY := BX
    clear hb0
    have hs := HF.out.size
    go_wp2_with fail
    refine (put_any _ _ 2 (by decide) (by decide)).mono ?_
    rintro e p8 ⟨u8, rfl, ho, hf⟩
    have H8 := Lib.hid (HO.out.keep hf (by simp))
    have F8 := Lib.hid (HF.out.trans hf)
    have Y8 := Lib.hid (BY.out.keep hf (by simp))
    have P8 := Lib.hid (ho.bs (A := fun b => False) (by simp))
    obtain ⟨xo, xn, xc, rfl⟩ := bs_shape P8.out
    have hs8 := F8.out.size
    clear ho hf HO HF BY HA
    go_wp2_with (at_builtin; refine wpl_append_bs (A := fun _ => False) (base := w0.heap.size) Tryd.underlying59 Tryd.infoByte rfl (.tmp 135) (.tmp 138) rfl rfl rfl H8.out P8.out (by have := LL.out; simp [beK_len] at this ⊢; omega) hs8 ?_)
    intro v9 p9 h5 h6
    have H9 := Lib.hid h5
    have F9 := Lib.hid (show Fr [] w0 p9 from OwnB.fr H8.out F8.out h6 (Nat.le_refl _))
    have Y9 := Lib.hid (Y8.out.keep (grown_fr h6) fun b hb => (H8.out.lt b (by simpa using hb)).1)
    have hs9 := F9.out.size
    clear h5 h6 H8 F8 Y8 P8
    go_wp2_with (at_builtin; refine wpl_append_bs (A := fun b => w0.heap.size ≤ b) (base := w0.heap.size) Tryd.underlying59 Tryd.infoByte rfl (.tmp 139) (.tmp 140) rfl rfl rfl H9.out Y9.out (by have := LL.out; simp [beK_len] at this ⊢; omega) hs9 ?_)
    intro v10 p10 h5 h6
    have H10 := Lib.hid h5
    have F10 := Lib.hid (show Fr [] w0 p10 from OwnB.fr H9.out F9.out h6 (Nat.le_refl _))
    clear h5 h6 H9 F9 Y9
    go_wp2
    refine HQ.out _ _ rfl rfl rfl rfl (by go_num) ?_ F10.out
    have h := H10.out
    have hbn := HBN.out
    show OwnB 5 w0.heap.size p10 v10 _
    rw [ref_1 x HK.out]
    rw [(show refCut x = (x.name.extract 0 255) by unfold refCut; rw [Nat.min_eq_right (by omega)])]
    unfold laidL
    rw [List.take_of_length_le (by omega)]
    simpa [beK_two, hbn] using h
end Go.Proofs.YtbohmnblegljkaaDoor
