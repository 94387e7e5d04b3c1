/-
  The law RepairErased, walked.
-/
import Derived.Test.YtfblhdomjnffcaaDoorHC
import Derived.Test.YtfblhdomjnffcaaDoorGN
import Derived.Test.YtfblhdomjnffcaaDoorHB
import Derived.Test.YtfblhdomjnffcaaDoorStr
import Derived.Test.YtfblhdomjnffcaaDoorRer
namespace Go.Proofs.YtfblhdomjnffcaaDoor
open Go.RowKit Go.Bl
set_option linter.unusedVariables false
theorem Tryd.infoIntE : (Tryd.prog.info? 3).map (fun i => (i.zero, i.size, i.bytes)) = some (some (.int .i64 0), 1, 8) := by kernel_rfl
theorem intL_snocE (ps : List Nat) (p : Nat) : intL (ps ++ [p]) = intL ps ++ [(p : Int)] := by simp [intL]
theorem Gone.same_hit {n : Nat} {enc ws : List UInt8} {ps : List Nat} (h : Gone n enc ps ws) : Hit n enc ps [] ws := Hit.start h
theorem spare_0 (w : World) (e : Nat) (h : e ≤ 32) : Calls Tryd.prog 40 #[.int .i64 e, .int .i64 0] w fun r w' => r = .returned (.int .i64 (32 - (e : Int))) ∧ Fr [] w w' := by
  refine (spare_ok w e 0 (by omega)).mono ?_
  rintro r w' ⟨rfl, hf⟩
  exact ⟨by rw [show ((32 - e - 2 * 0 : Nat) : Int) = 32 - (e : Int) by omega], hf⟩
set_option maxRecDepth 100000 in
set_option maxHeartbeats 8000000 in
theorem rer2_any (L : List Nat) (E : Nat → Addr) (B : Nat) (w : World) (v0 v1 : Value) (ds : List UInt8) (l : List Int) (junk : UInt8) (hE : Errs L E B w) (m1 : 1 ∈ L) (m8 : 8 ∈ L) (m10 : 10 ∈ L) (m16 : 16 ∈ L) (m20 : 20 ∈ L) (hb : Bs (fun _ => False) w v0 ds) (hv : Is (fun _ => False) w v1 l) :
    Calls Tryd.prog 10 #[v0, v1, .int .u8 (junk.toNat : Int)] w fun e w' => e = .returned (.bool true) ∧ Fr [] w w' := by
  have HAL := Lib.hid (alive05_any L E B w hE m1 m8 m10 m16 m20)
  have HB := Lib.hid hb
  have HV := Lib.hid hv
  have HE := Lib.hid hE
  have HMM := Lib.hid (And.intro m1 (And.intro m8 (And.intro m10 (And.intro m16 m20))))
  obtain ⟨da, dc, e, d2, d3, -⟩ := id hb
  subst e
  obtain ⟨pa, pc, e, p2, p3, -⟩ := hv.shape
  subst e
  unfold maxLen at d3 p3
  obtain ⟨N, hN⟩ : ∃ N, ds.length = N := ⟨_, rfl⟩
  obtain ⟨M, hM⟩ : ∃ N, l.length = N := ⟨_, rfl⟩
  have HN := Lib.hid hN
  have HM := Lib.hid hM
  rw [hN] at HB d2 ⊢
  rw [hM] at HV p2 ⊢
  clear hb hv hE m1 m8 m10 m16 m20 hN hM
  by_cases hn : N ≤ 223
  · have hni : ¬ (223 : Int) < N := by omega
    by_cases hm : M ≤ 32
    · have hmi : ¬ (32 : Int) < M := by omega
      by_cases h0 : N < 1
      · have HEB := Lib.hid (fun w' (h : Fr [] w w') => enc_bad L E B w' (.slice da N dc) ds (HE.out.keep0 h) HMM.out.2.1 (HB.out.keep h (by simp)) (.inl (by rw [HN.out]; exact h0)))
        have x8 : errv E 8 = .iface 189 (.pointer (some (E 8))) := errv_pos E 8 (by decide)
        rw [x8] at HEB
        clear x8
        go_enter Tryd.func10, Tryd.ntmps10
        go_wp2_with (go_at_call 37; fail)
        refine HAL.out.mono ?_
        rintro e w1 ⟨rfl, hf⟩
        have HF1 := Lib.hid hf
        clear hf HAL
        go_wp2_with (go_at_call 29; fail)
        refine (HEB.out w1 HF1.out).mono ?_
        rintro e w2 ⟨rfl, hf⟩
        have HF2 := Lib.hid (HF1.out.trans hf)
        clear hf HEB
        go_wp2
        go_ret
        exact ⟨rfl, HF2.out⟩
      · have HLE := Lib.hid (encL_len ds)
        rw [HN.out] at HLE
        have HEN := Lib.hid (fun w' (h : Fr [] w w') => enc_any w' (.slice da N dc) ds (HB.out.keep h (by simp)) (by rw [HN.out]; omega) (by rw [HN.out]; exact hn))
        obtain ⟨NN, hNN⟩ : ∃ x, N + 32 = x := ⟨_, rfl⟩
        rw [hNN] at HLE
        have HGOOD := Lib.hid (fun (ps : List Nat) (ws : List UInt8) (h : Gone NN (encL ds) ps ws) (hl : ps.length ≤ 32) => back_good (n := NN) (by rw [HN.out]; omega) (by rw [HN.out]; exact hn) (by rw [HN.out]; exact hNN.symm) (Hit.start h) h.nd h.lt (by simp; omega))
        obtain ⟨enc, henc⟩ : ∃ x, encL ds = x := ⟨_, rfl⟩
        rw [henc] at HLE HEN HGOOD
        have hnn : (N : Int) + 32 = NN := by omega
        have h255 : NN ≤ 255 := by omega
        have h33 : 33 ≤ NN := by omega
        obtain ⟨i0, hi, hz, hsz, hby⟩ := info_bytes Tryd.infoBool
        clear henc hNN
        go_enter Tryd.func10, Tryd.ntmps10
        go_wp2_with (go_at_call 37; fail)
        refine HAL.out.mono ?_
        rintro e w1 ⟨rfl, hf⟩
        have HF1 := Lib.hid hf
        clear hf HAL
        go_wp2_with (go_at_call 29; fail)
        refine (HEN.out w1 HF1.out).mono ?_
        rintro e w2 ⟨u, rfl, ho, hf⟩
        obtain ⟨g, cp, e, hg, g1, g2, -⟩ := ho.shape (by rw [HLE.out]; omega)
        subst e
        rw [HLE.out] at ho g1 ⊢
        have HF2 := Lib.hid (HF1.out.trans hf)
        have hs1 := HF1.out.size
        have HO2 := Lib.hid (ho.base hs1)
        have hgw : w.heap.size ≤ g := by omega
        have hgl := (ho.lt g rfl).2
        unfold maxLen at g2
        have HE2 := Lib.hid (OwnB.empty 5 w2.heap.size w2 (Nat.le_refl _))
        have HWB2 := Lib.hid ((HO2.out.keep (Fr.alloc (S := []) w2 (.cells #[] 5)) (by simp)).bs (A := fun _ => False) (by simp))
        clear hf ho hg hs1 HF1 HEN
        go_wp2_with (at_builtin; refine wpl_append_bs (A := fun _ => False) (ys := enc) (base := w2.heap.size) Tryd.underlying22 Tryd.infoByte rfl (.tmp 48) (.tmp 49) rfl rfl rfl HE2.out HWB2.out (by simp [HLE.out]; omega) (by simp) ?_)
        intro vb w3 hb3 hg3
        have hf3 : Fr [] w2 w3 := HE2.out.fr (Fr.alloc _ _) hg3 (Nat.le_refl _)
        obtain ⟨gb, cb, e, hgb, b1, b2, -⟩ := hb3.shape (by rw [HLE.out]; omega)
        subst e
        rw [HLE.out] at hb3 b1 ⊢
        unfold maxLen at b2
        have hs2 := HF2.out.size
        have HF3 := Lib.hid (HF2.out.trans hf3)
        have HO3 := Lib.hid (HO2.out.keep hf3 (by simp))
        have HB3 := Lib.hid (hb3.base (base' := w.heap.size) hs2)
        have hgbl := (hb3.lt gb rfl).2
        have hggb : g ≠ gb := by omega
        have hwgb : w.heap.size ≤ gb := by omega
        have hg3l := hf3.size
        clear hf3 hb3 hg3 hgb b1 HE2 HWB2 HO2 HF2
        go_wp2_with (refine wpList_make_row _ rfl (.tmp 52) (.tmp 52) 55 rfl 4 i0 (.bool false) Tryd.underlying55 hi hz hsz rfl .i64 .i64 NN rfl rfl (by rw [hby]; omega) (by omega) ?_)
        have hmb := made_bools NN
        have fm : Fr [] w3 (w3.alloc (.cells (madeCells #[.bool false] NN) 4)) := Fr.alloc _ _
        have HA4 := Lib.hid (show At (w3.alloc (.cells (madeCells #[.bool false] NN) 4)) w3.heap.size (.cells (boolC (inL NN [])) 4) by rw [hmb]; exact At.new rfl)
        have HO4 := Lib.hid (HO3.out.keep fm (by simp))
        have HB4 := Lib.hid (HB3.out.keep fm (by simp))
        have HF4 := Lib.hid (HF3.out.trans fm)
        have hs4 : (w3.alloc (.cells (madeCells #[.bool false] NN) 4)).heap.size = w3.heap.size + 1 := by simp
        obtain ⟨w4, hw4⟩ : ∃ x, w3.alloc (.cells (madeCells #[.bool false] NN) 4) = x := ⟨_, rfl⟩
        rw [hw4] at HA4 HO4 HB4 HF4 hs4 ⊢
        obtain ⟨hbb, hhb⟩ : ∃ x, w3.heap.size = x := ⟨_, rfl⟩
        rw [hhb] at HA4 hgbl hg3l hs4 ⊢
        have hghb : g ≠ hbb := by omega
        have hgbhb : gb ≠ hbb := by omega
        have hwhb : w.heap.size ≤ hbb := by omega
        clear hmb hw4 hhb hi hz hsz hby fm HO3 HB3 HF3
        have fa : Fr [] w4 (w4.alloc (.cells #[] 3)) := Fr.alloc _ _
        have HI5 := Lib.hid (show OwnI 3 w4.heap.size (w4.alloc (.cells #[] 3)) (.slice (some ⟨w4.heap.size, 0, none⟩) 0 0) (intL []) from OwnV.lit 3 w4.heap.size w4 #[] (Nat.le_refl _) (by simp [maxLen]))
        have HA5 := Lib.hid (HA4.out.keep0 fa)
        have HO5 := Lib.hid (HO4.out.keep fa (by simp))
        have HB5 := Lib.hid (HB4.out.keep fa (by simp))
        have HF5 := Lib.hid (HF4.out.trans fa)
        have HZ := Lib.hid (show w4.heap.size ≤ (w4.alloc (.cells #[] 3)).heap.size by simp)
        obtain ⟨Z, hZ⟩ : ∃ Z, w4.heap.size = Z := ⟨_, rfl⟩
        rw [hZ] at HI5 hs4 HZ
        have hzz := Lib.hid hZ
        have la : hbb < Z := by omega
        have hgZ : g < Z := by omega
        have hgbZ : gb < Z := by omega
        have hwZ : w.heap.size ≤ Z := by omega
        try rw [← hs4]
        clear fa HA4 HO4 HB4 HF4 hs2 hgl hs4 hgbl hg3l
        go_wp2
        go_loopw [11, 57] (fun pv i wr => ∃ (k : Nat) (ps : List Nat) (ws : List UInt8), k ≤ M ∧ i = .int .i64 k ∧ ps.length ≤ k ∧ Hid (Gone NN enc ps ws) ∧ Hid (OwnI 3 Z wr pv (intL ps)) ∧ Hid (OwnB 5 w.heap.size wr (.slice (some ⟨gb, 0, none⟩) NN cb) ws) ∧ Hid (OwnB 5 w.heap.size wr (.slice (some ⟨g, 0, none⟩) NN cp) enc) ∧ Hid (At wr hbb (.cells (boolC (inL NN ps)) 4)) ∧ Hid (Fr [] w wr) ∧ Z ≤ wr.heap.size) (fun _ i _ => M - (intOf i).toNat)
        case atStart => exact ⟨0, [], enc, by omega, rfl, Nat.le_refl _, Gone.start HLE.out, HI5, HB5, HO5, HA5, HF5, HZ.out⟩
        case round =>
          clear HI5 HO5 HB5 HA5 HF5 HZ
          obtain ⟨k, ps, ws, hk, rfl, hps, HG, HI, HW, HO, HA, HF, hzs⟩ := hrel
          obtain ⟨wl, rfl⟩ : ∃ wl, wl = wr := ⟨wr, rfl⟩
          by_cases hkm : k < M
          · have hki : (k : Int) < M := by omega
            obtain ⟨pl, hx⟩ : ∃ x, l[k]? = some x := ⟨_, List.getElem?_eq_getElem (by have := HM.out; omega)⟩
            obtain ⟨xb, xo, rfl, hx0⟩ := is_cell (HV.out.keep HF.out (by simp)) k pl hx
            obtain ⟨p, hp, hpp⟩ := pl_at pl NN (by omega) h255
            have hcb := bool_cell HA.out hp
            clear hx
            by_cases hpp2 : p ∈ ps
            · rw [decide_eq_true hpp2] at hcb
              clear hpp2
              go_wp2
              go_roundw
              case rel => exact ⟨k + 1, ps, ws, by omega, by go_num, by omega, HG, HI, HW, HO, HA, HF, hzs⟩
              case measure => simp [intOf]; omega
            · rw [decide_eq_false hpp2] at hcb
              have HPH := Lib.hid hpp2
              have HSZ1 := Lib.hid (show p < (boolC (inL NN ps)).size by rw [boolC_len, inL_len]; exact hp)
              clear hpp2
              go_wp2_with (refine wpl_store_one (.tmp 76) (.const (.bool true)) rfl rfl (.bool true) rfl rfl HA.out HSZ1.out (by kernel_rfl) rfl ?_)
              intro w6 f6 a6 s6
              have HA6 := Lib.hid (bool_set a6 hp)
              have HO6 := Lib.hid (OwnB_keep_at HO.out f6 (by simpa using hghb))
              have HW6 := Lib.hid (OwnB_keep_at HW.out f6 (by simpa using hgbhb))
              have HI6 := Lib.hid (HI.out.keepS f6 (by simpa using la))
              have HF6 := Lib.hid (HF.out.then f6 (by intro b hb; simp at hb; subst hb; exact .inr hwhb))
              have hz6 : Z ≤ w6.heap.size := by omega
              clear f6 a6 s6 HA HO HW HI HF hcb HSZ1 hx0
              have fb : Fr [] w6 (w6.alloc (.cells #[.int .i64 (p : Int)] 3)) := Fr.alloc _ _
              have HA7 := Lib.hid (HA6.out.keep0 fb)
              have HO7 := Lib.hid (HO6.out.keep fb (by simp))
              have HW7 := Lib.hid (HW6.out.keep fb (by simp))
              have HI7 := Lib.hid (HI6.out.keep0 fb)
              have HF7 := Lib.hid (HF6.out.trans fb)
              have hil : (intL ps).length ≤ 17592186044414 := by rw [intL_len]; omega
              have HIL := Lib.hid hil
              have HG7 := Lib.hid (HG.out.step hp HPH.out (junk ^^^ UInt8.ofNat k))
              have HSN := Lib.hid (intL_snocE ps p)
              have HWL := Lib.hid HG.out.wl
              clear fb hil HA6 HO6 HW6 HI6 HF6
              go_wp2_with (at_builtin; refine wpl_append_n Tryd.underlying31 Tryd.infoIntE rfl (.tmp 77) (.tmp 79) rfl rfl rfl (At.new rfl) HI7.out HIL.out (by simp; omega) ?_)
              intro pv8 w8 h8 g8
              rw [← HSN.out] at h8
              have HI8 := Lib.hid h8
              have HF8 := Lib.hid (show Fr [] w w8 from OwnI.fr HI7.out HF7.out g8 hwZ)
              have fr8 := grown_fr g8
              have HA8 := Lib.hid (HA7.out.grown g8 (HI7.out.ne la))
              have HO8 := Lib.hid (OwnB_keep_at HO7.out fr8 (by intro hm; exact HI7.out.ne hgZ (by simpa using hm)))
              have HW8 := Lib.hid (OwnB_keep_at HW7.out fr8 (by intro hm; exact HI7.out.ne hgbZ (by simpa using hm)))
              have hz8 : Z ≤ w8.heap.size := by have := fr8.size; simp at this; omega
              obtain ⟨y, hy⟩ : ∃ y, UInt8.ofNat k = y := ⟨_, rfl⟩
              have hyj : y.toNat = k := by rw [← hy, UInt8.toNat_ofNat']; omega
              rw [hy] at HG7
              have hw8 : IntKind.u8.wrap (k : Int) = (k : Int) := by
                simp [IntKind.wrap, IntKind.bits, IntKind.signed]; omega
              have hxx := u8_xor_u junk y
              rw [hyj] at hxx
              obtain ⟨cu, k1, k2, k3, k4⟩ := own_blk HW8.out
              have HK1 := Lib.hid k1
              have HK4 := Lib.hid k4
              have HSZ2 := Lib.hid (show p < cu.size by rw [HWL.out] at k2; omega)
              clear h8 g8 fr8 HA7 HO7 HW7 HI7 HF7 hy hyj k1 k2 k3 k4
              go_wp2_with (refine wpl_store_one (.tmp 87) (.tmp 86) rfl rfl (.int .u8 ((junk ^^^ y).toNat : Int)) rfl rfl HK1.out HSZ2.out (by kernel_rfl) rfl ?_)
              intro w9 f9 a9 s9
              have HW9 := Lib.hid (show OwnB 5 w.heap.size w9 (.slice (some ⟨gb, 0, none⟩) NN cb) (ws.set p (junk ^^^ y)) from HK4.out w9 p _ (by simpa [u8v] using a9))
              have HA9 := Lib.hid (HA8.out.keep f9 (by simpa using hgbhb.symm))
              have HO9 := Lib.hid (OwnB_keep_at HO8.out f9 (by simpa using hggb))
              have HI9 := Lib.hid (HI8.out.keepS f9 (by simpa using hgbZ))
              have HF9 := Lib.hid (HF8.out.then f9 (by intro b hb; simp at hb; subst hb; exact .inr hwgb))
              have hz9 : Z ≤ w9.heap.size := by omega
              clear f9 a9 s9 HW8 HA8 HO8 HI8 HF8 HK1 HK4 hxx hw8
              go_wp2
              go_roundw
              case rel => exact ⟨k + 1, ps ++ [p], ws.set p (junk ^^^ y), by omega, by go_num, by rw [List.length_append]; simp; omega, HG7, HI9, HW9, HO9, HA9, HF9, hz9⟩
              case measure => simp [intOf]; omega
          · have hki : ¬ (k : Int) < M := by omega
            obtain ⟨lpa, lpc, e, -⟩ := (HI.out.is (A := fun _ => False) (by simp)).shape
            subst e
            rw [intL_len] at HI ⊢
            have hpl32 : ps.length ≤ 32 := by omega
            obtain ⟨q0, q1, q2, q3⟩ := HGOOD.out ps ws HG.out hpl32
            have HON := Lib.hid (fun w' (h : Fr [] wl w') => only_good w' (.slice (some ⟨gb, 0, none⟩) NN cb) (.slice lpa ps.length lpc) enc (intL (dfrK ws enc ws.length)) (by
              have h2 := fix_good L E B w' (.slice (some ⟨gb, 0, none⟩) NN cb) (.slice lpa ps.length lpc) ws (intL ps) (HE.out.keep0 (HF.out.trans h)) HMM.out.1 HMM.out.2.1 HMM.out.2.2.1 HMM.out.2.2.2.1 HMM.out.2.2.2.2 ((HW.out.keep h (by simp)).bs (by simp)) ((HI.out.keep0 h).is (by simp)) q0 q1
              rw [q2, q3] at h2
              exact h2))
            obtain ⟨PL, hPL⟩ : ∃ x, ps.length = x := ⟨_, rfl⟩
            rw [hPL] at hpl32 HON ⊢
            clear q0 q1 q2 q3 hPL HG HI HW HA hps
            go_wp2_with (go_at_call 41; fail)
            refine (HON.out wl (Fr.refl _ _)).mono ?_
            rintro e wz ⟨u, rfl, ho, hf⟩
            obtain ⟨ka, kc, e, -⟩ := ho.bs (A := fun _ => False) (by simp)
            subst e
            have HBo := Lib.hid (ho.bs (A := fun _ => False) (by simp))
            have HBe := Lib.hid ((HO.out.keep hf (by simp)).bs (A := fun _ => False) (by simp))
            rw [HLE.out] at HBo ⊢
            have HFz := Lib.hid (HF.out.trans hf)
            have hc1 := run_strS (P := Tryd.prog) (src := 22) (dst := 9) Tryd.underlying22 Tryd.underlying5 Tryd.underlying9 HBo.out
            have hc2 := run_strS (P := Tryd.prog) (src := 22) (dst := 9) Tryd.underlying22 Tryd.underlying5 Tryd.underlying9 HBe.out
            obtain ⟨S, hS⟩ : ∃ S, (⟨enc.toArray⟩ : ByteArray) = S := ⟨_, rfl⟩
            rw [hS] at hc1 hc2
            clear hf ho hS HF HO HON
            go_wp2_with (go_at_call 40; fail)
            refine (spare_0 wz PL hpl32).mono ?_
            rintro e wy ⟨rfl, hf⟩
            have HFy := Lib.hid (HFz.out.trans hf)
            clear hf hc1 hc2
            go_wp2
            go_ret
            exact ⟨rfl, HFy.out⟩
    · have hmi : (32 : Int) < M := by omega
      go_enter Tryd.func10, Tryd.ntmps10
      go_wp2_with (go_at_call 37; fail)
      refine HAL.out.mono ?_
      rintro e w1 ⟨rfl, hf⟩
      have HF1 := Lib.hid hf
      clear hf
      go_wp2
      go_ret
      exact ⟨rfl, HF1.out⟩
  · have hni : (223 : Int) < N := by omega
    go_enter Tryd.func10, Tryd.ntmps10
    go_wp2_with (go_at_call 37; fail)
    refine HAL.out.mono ?_
    rintro e w1 ⟨rfl, hf⟩
    have HF1 := Lib.hid hf
    clear hf
    go_wp2
    go_ret
    exact ⟨rfl, HF1.out⟩
end Go.Proofs.YtfblhdomjnffcaaDoor
