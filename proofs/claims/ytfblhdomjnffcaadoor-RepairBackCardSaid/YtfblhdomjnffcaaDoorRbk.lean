/-
  The law RepairBack, walked.
-/
import Derived.Test.YtfblhdomjnffcaaDoorRbkX
import Derived.Test.YtfblhdomjnffcaaDoorHC
import Derived.Test.YtfblhdomjnffcaaDoorGN
import Derived.Test.YtfblhdomjnffcaaDoorHB
import Derived.Test.YtfblhdomjnffcaaDoorStr
import Derived.Test.YtfblhdomjnffcaaDoorGB
namespace Go.Proofs.YtfblhdomjnffcaaDoor
open Go.RowKit Go.Bl
set_option linter.unusedVariables false
theorem Tryd.infoIntK : (Tryd.prog.info? 3).map (fun i => (i.zero, i.size, i.bytes)) = some (some (.int .i64 0), 1, 8) := by kernel_rfl
theorem intL_snocK (ps : List Nat) (p : Nat) : intL (ps ++ [p]) = intL ps ++ [(p : Int)] := by simp [intL]
theorem spare_t (w : World) (e t : Nat) (h : e + 2 * t ≤ 32) : Calls Tryd.prog 40 #[.int .i64 e, .int .i64 t] w fun r w' => r = .returned (.int .i64 (32 - (e : Int) - 2 * (t : Int))) ∧ Fr [] w w' := by
  refine (spare_ok w e t h).mono ?_
  rintro r w' ⟨rfl, hf⟩
  exact ⟨by rw [show ((32 - e - 2 * t : Nat) : Int) = 32 - (e : Int) - 2 * (t : Int) by omega], hf⟩
set_option maxRecDepth 100000 in
set_option maxHeartbeats 16000000 in
theorem rbk_any (L : List Nat) (E : Nat → Addr) (B : Nat) (w : World) (v0 v1 v2 : Value) (ds : List UInt8) (el cl : List (Int × UInt8)) (hE : Errs L E B w) (m1 : 1 ∈ L) (m8 : 8 ∈ L) (m10 : 10 ∈ L) (m16 : 16 ∈ L) (m20 : 20 ∈ L) (hb : Bs (fun _ => False) w v0 ds) (he : RdC w v1 el) (hc : RdC w v2 cl) (hcl : cl.length ≤ 8796093022208) :
    Calls Tryd.prog 9 #[v0, v1, v2] w fun e w' => e = .returned (.bool true) ∧ Fr [] w w' := by
  have HAL := Lib.hid (alive05_any L E B w hE m1 m8 m10 m16 m20)
  have HB := Lib.hid hb
  have HC := Lib.hid hc
  have HEL := Lib.hid he
  have HE := Lib.hid hE
  have HM := Lib.hid (And.intro m1 (And.intro m8 (And.intro m10 (And.intro m16 m20))))
  obtain ⟨da, dc, e, d2, d3, -⟩ := id hb
  subst e
  obtain ⟨ea, ec, e, e2, e3, -⟩ := id he
  subst e
  obtain ⟨ca, cc, e, c2, c3, -⟩ := id hc
  subst e
  unfold maxLen at d3 c3 e3
  obtain ⟨N, hN⟩ : ∃ N, ds.length = N := ⟨_, rfl⟩
  obtain ⟨ME, hME⟩ : ∃ M, el.length = M := ⟨_, rfl⟩
  obtain ⟨M, hM⟩ : ∃ M, cl.length = M := ⟨_, rfl⟩
  have HN := Lib.hid hN
  have HMM := Lib.hid hM
  have HME := Lib.hid hME
  rw [hN] at HB d2 ⊢
  rw [hME] at HEL e2 ⊢
  rw [hM] at HC c2 hcl ⊢
  clear hb hc he hE m1 m8 m10 m16 m20 hN hM hME
  by_cases hd : N ≤ 223
  · have hdi : ¬ (223 : Int) < N := by omega
    by_cases hme : ME ≤ 32
    · have hei : ¬ (32 : Int) < ME := by omega
      by_cases hmc : 2 * M + ME ≤ 32
      · have hci : ¬ (32 : Int) < 2 * M + ME := by omega
        by_cases h0 : N < 1
        · have HEB := Lib.hid (fun w' (h : Fr [] w w') => enc_bad L E B w' (.slice da N dc) ds (HE.out.keep0 h) HM.out.2.1 (HB.out.keep h (by simp)) (.inl (by rw [HN.out]; exact h0)))
          have x8 : errv E 8 = .iface 189 (.pointer (some (E 8))) := errv_pos E 8 (by decide)
          rw [x8] at HEB
          clear x8
          go_enter Tryd.func9, Tryd.ntmps9
          go_wp2_with (go_at_call 37; fail)
          refine HAL.out.mono ?_
          rintro e w1 ⟨rfl, hf⟩
          have HF1 := Lib.hid hf
          clear hf
          go_wp2_with (go_at_call 29; fail)
          refine (HEB.out w1 HF1.out).mono ?_
          rintro e w2 ⟨rfl, hf⟩
          have HF2 := Lib.hid (HF1.out.trans hf)
          clear hf HEB
          go_wp2
          go_ret
          exact ⟨rfl, HF2.out⟩
        · have HLE := Lib.hid (encL_len ds)
          rw [HN.out] at HLE
          have HEN := Lib.hid (fun w' (h : Fr [] w w') => enc_any w' (.slice da N dc) ds (HB.out.keep h (by simp)) (by rw [HN.out]; omega) (by rw [HN.out]; exact hd))
          obtain ⟨NN, hNN⟩ : ∃ x, N + 32 = x := ⟨_, rfl⟩
          rw [hNN] at HLE
          have HGOOD := Lib.hid (fun (ps hs : List Nat) (ws : List UInt8) (h : Hit NN (encL ds) ps hs ws) (hg : ps.Nodup) (hp : ∀ p ∈ ps, p < NN) (hl : 2 * hs.length + ps.length ≤ 32) => back_good (n := NN) (by rw [HN.out]; omega) (by rw [HN.out]; exact hd) (by rw [HN.out]; exact hNN.symm) h hg hp hl)
          obtain ⟨enc, henc⟩ : ∃ x, encL ds = x := ⟨_, rfl⟩
          rw [henc] at HLE HEN HGOOD
          have hnn : (N : Int) + 32 = NN := by omega
          have h33 : 33 ≤ NN := by omega
          have h255 : NN ≤ 255 := by omega
          obtain ⟨i0, hi, hz, hsz, hby⟩ := info_bytes Tryd.infoBool
          clear henc hNN
          go_enter Tryd.func9, Tryd.ntmps9
          go_wp2_with (go_at_call 37; fail)
          refine HAL.out.mono ?_
          rintro e w1 ⟨rfl, hf⟩
          have HF1 := Lib.hid hf
          clear hf HAL
          go_wp2_with (go_at_call 29; fail)
          refine (HEN.out w1 HF1.out).mono ?_
          rintro e w2 ⟨u, rfl, ho, hf⟩
          obtain ⟨g, cp, e, hg, g1, g2, -⟩ := ho.shape (by rw [HLE.out]; omega)
          subst e
          rw [HLE.out] at ho g1 ⊢
          have HF2 := Lib.hid (HF1.out.trans hf)
          have hs1 := HF1.out.size
          have HO2 := Lib.hid (ho.base hs1)
          have hgw : w.heap.size ≤ g := by omega
          have hgl := (ho.lt g rfl).2
          unfold maxLen at g2
          have HE2 := Lib.hid (OwnB.empty 5 w2.heap.size w2 (Nat.le_refl _))
          have HWB2 := Lib.hid ((HO2.out.keep (Fr.alloc (S := []) w2 (.cells #[] 5)) (by simp)).bs (A := fun _ => False) (by simp))
          clear hf ho hg hs1 HF1 HEN
          go_wp2_with (at_builtin; refine wpl_append_bs (A := fun _ => False) (ys := enc) (base := w2.heap.size) Tryd.underlying22 Tryd.infoByte rfl (.tmp 57) (.tmp 58) rfl rfl rfl HE2.out HWB2.out (by simp [HLE.out]; omega) (by simp) ?_)
          intro vb w3 hb3 hg3
          have hf3 : Fr [] w2 w3 := HE2.out.fr (Fr.alloc _ _) hg3 (Nat.le_refl _)
          obtain ⟨gb, cb, e, hgb, b1, b2, -⟩ := hb3.shape (by rw [HLE.out]; omega)
          subst e
          rw [HLE.out] at hb3 b1 ⊢
          unfold maxLen at b2
          have hs2 := HF2.out.size
          have HF3 := Lib.hid (HF2.out.trans hf3)
          have HO3 := Lib.hid (HO2.out.keep hf3 (by simp))
          have HB3 := Lib.hid (hb3.base (base' := w.heap.size) hs2)
          have hgbl := (hb3.lt gb rfl).2
          have hggb : g ≠ gb := by omega
          have hwgb : w.heap.size ≤ gb := by omega
          have hg3l := hf3.size
          clear hf3 hb3 hg3 hgb b1 HE2 HWB2 HO2 HF2
          go_wp2_with (refine wpList_make_row _ rfl (.tmp 60) (.tmp 60) 55 rfl 4 i0 (.bool false) Tryd.underlying55 hi hz hsz rfl .i64 .i64 NN rfl rfl (by rw [hby]; omega) (by omega) ?_)
          have hmb := made_bools NN
          have fm : Fr [] w3 (w3.alloc (.cells (madeCells #[.bool false] NN) 4)) := Fr.alloc _ _
          have HA4 := Lib.hid (show At (w3.alloc (.cells (madeCells #[.bool false] NN) 4)) w3.heap.size (.cells (boolC (inL NN [])) 4) by rw [hmb]; exact At.new rfl)
          have HO4 := Lib.hid (HO3.out.keep fm (by simp))
          have HB4 := Lib.hid (HB3.out.keep fm (by simp))
          have HF4 := Lib.hid (HF3.out.trans fm)
          have hs4 : (w3.alloc (.cells (madeCells #[.bool false] NN) 4)).heap.size = w3.heap.size + 1 := by simp
          obtain ⟨w4, hw4⟩ : ∃ x, w3.alloc (.cells (madeCells #[.bool false] NN) 4) = x := ⟨_, rfl⟩
          rw [hw4] at HA4 HO4 HB4 HF4 hs4 ⊢
          obtain ⟨sb, hhb⟩ : ∃ x, w3.heap.size = x := ⟨_, rfl⟩
          rw [hhb] at HA4 hgbl hg3l hs4 ⊢
          have hgsb : g ≠ sb := by omega
          have hgbsb : gb ≠ sb := by omega
          have hwsb : w.heap.size ≤ sb := by omega
          clear hmb hw4 hhb hi hz hsz hby fm HO3 HB3 HF3
          have fa : Fr [] w4 (w4.alloc (.cells #[] 3)) := Fr.alloc _ _
          have HI5 := Lib.hid (show OwnI 3 w4.heap.size (w4.alloc (.cells #[] 3)) (.slice (some ⟨w4.heap.size, 0, none⟩) 0 0) (intL []) from OwnV.lit 3 w4.heap.size w4 #[] (Nat.le_refl _) (by simp [maxLen]))
          have HA5 := Lib.hid (HA4.out.keep0 fa)
          have HO5 := Lib.hid (HO4.out.keep fa (by simp))
          have HB5 := Lib.hid (HB4.out.keep fa (by simp))
          have HF5 := Lib.hid (HF4.out.trans fa)
          have HZ := Lib.hid (show w4.heap.size ≤ (w4.alloc (.cells #[] 3)).heap.size by simp)
          obtain ⟨Z, hZ⟩ : ∃ Z, w4.heap.size = Z := ⟨_, rfl⟩
          rw [hZ] at HI5 hs4 HZ
          have hzz := Lib.hid hZ
          have la : sb < Z := by omega
          have hgZ : g < Z := by omega
          have hgbZ : gb < Z := by omega
          have hwZ : w.heap.size ≤ Z := by omega
          try rw [← hs4]
          clear fa HA4 HO4 HB4 HF4 hs2 hgl hs4 hgbl hg3l
          go_wp2
          go_loopw [12, 65] (fun pv i wr => ∃ (k : Nat) (ps : List Nat) (ws : List UInt8), k ≤ ME ∧ i = .int .i64 k ∧ ps.length ≤ k ∧ Hid (Gone NN enc ps ws) ∧ Hid (OwnI 3 Z wr pv (intL ps)) ∧ Hid (OwnB 5 w.heap.size wr (.slice (some ⟨gb, 0, none⟩) NN cb) ws) ∧ Hid (OwnB 5 w.heap.size wr (.slice (some ⟨g, 0, none⟩) NN cp) enc) ∧ Hid (At wr sb (.cells (boolC (inL NN ps)) 4)) ∧ Hid (Fr [] w wr) ∧ Z ≤ wr.heap.size) (fun _ i _ => ME - (intOf i).toNat)
          case atStart => exact ⟨0, [], enc, by omega, rfl, Nat.le_refl _, Gone.start HLE.out, HI5, HB5, HO5, HA5, HF5, HZ.out⟩
          case round =>
            clear HI5 HO5 HB5 HA5 HF5 HZ
            obtain ⟨k, ps, ws, hk, rfl, hps, HG, HI, HW, HO, HA, HF, hzs⟩ := hrel
            obtain ⟨wl, rfl⟩ : ∃ wl, wl = wr := ⟨wr, rfl⟩
            by_cases hkm : k < ME
            · have hki : (k : Int) < ME := by omega
              obtain ⟨x, hx⟩ : ∃ x, el[k]? = some x := ⟨_, List.getElem?_eq_getElem (by have := HME.out; omega)⟩
              obtain ⟨xb, xo, rfl, hx0, hx1⟩ := (HEL.out.keep HF.out).cell k x hx
              obtain ⟨pl, by_⟩ := x
              dsimp only at hx0 hx1
              clear hx
              obtain ⟨p, hp, hpp⟩ := pl_at pl NN (by omega) h255
              have fa : Fr [] wl (wl.alloc (.cells #[.int .i64 pl, .int .u8 (by_.toNat : Int)] 57)) := Fr.alloc _ _
              have HA2 := Lib.hid (HA.out.keep0 fa)
              have HO2 := Lib.hid (HO.out.keep fa (by simp))
              have HW2 := Lib.hid (HW.out.keep fa (by simp))
              have HF2 := Lib.hid (HF.out.trans fa)
              have HI2 := Lib.hid (HI.out.keep0 fa)
              have hcb := bool_cell HA2.out hp
              have HBX := Lib.hid (show At (wl.alloc (.cells #[.int .i64 pl, .int .u8 (by_.toNat : Int)] 57)) wl.heap.size (.cells #[.int .i64 pl, .int .u8 (by_.toNat : Int)] 57) from At.new rfl)
              have hz2 : Z ≤ (wl.alloc (.cells #[.int .i64 pl, .int .u8 (by_.toNat : Int)] 57)).heap.size := by simp; omega
              clear fa HA HO HW HF HI
              by_cases hpp2 : p ∈ ps
              · rw [decide_eq_true hpp2] at hcb
                clear hpp2
                go_wp2
                go_roundw
                case rel => exact ⟨k + 1, ps, ws, by omega, by go_num, by omega, HG, HI2, HW2, HO2, HA2, HF2, hz2⟩
                case measure => simp [intOf]; omega
              · rw [decide_eq_false hpp2] at hcb
                have HPH := Lib.hid hpp2
                have HSZ1 := Lib.hid (show p < (boolC (inL NN ps)).size by rw [boolC_len, inL_len]; exact hp)
                clear hpp2
                go_wp2_with (refine wpl_store_one (.tmp 83) (.const (.bool true)) rfl rfl (.bool true) rfl rfl HA2.out HSZ1.out (by kernel_rfl) rfl ?_)
                intro w6 f6 a6 s6
                have HA6 := Lib.hid (bool_set a6 hp)
                have HO6 := Lib.hid (OwnB_keep_at HO2.out f6 (by simpa using hgsb))
                have HW6 := Lib.hid (OwnB_keep_at HW2.out f6 (by simpa using hgbsb))
                have HI6 := Lib.hid (HI2.out.keepS f6 (by simpa using la))
                have HF6 := Lib.hid (HF2.out.then f6 (by intro b hb; simp at hb; subst hb; exact .inr hwsb))
                have HBX6 := Lib.hid (HBX.out.keep f6 (by simp; omega))
                have hz6 : Z ≤ w6.heap.size := by omega
                clear f6 a6 s6 HA2 HO2 HW2 HI2 HF2 hcb HBX HSZ1
                have fb : Fr [] w6 (w6.alloc (.cells #[.int .i64 (p : Int)] 3)) := Fr.alloc _ _
                have HA7 := Lib.hid (HA6.out.keep0 fb)
                have HO7 := Lib.hid (HO6.out.keep fb (by simp))
                have HW7 := Lib.hid (HW6.out.keep fb (by simp))
                have HI7 := Lib.hid (HI6.out.keep0 fb)
                have HF7 := Lib.hid (HF6.out.trans fb)
                have HBX7 := Lib.hid (HBX6.out.keep0 fb)
                have hil : (intL ps).length ≤ 17592186044414 := by rw [intL_len]; omega
                have HIL := Lib.hid hil
                have HG7 := Lib.hid (HG.out.step hp HPH.out (ws.getD p 0 ^^^ by_))
                have HSN := Lib.hid (intL_snocK ps p)
                have HWL := Lib.hid HG.out.wl
                clear fb HBX6 hil HA6 HO6 HW6 HI6 HF6
                go_wp2_with (at_builtin; refine wpl_append_n Tryd.underlying31 Tryd.infoIntK rfl (.tmp 84) (.tmp 86) rfl rfl rfl (At.new rfl) HI7.out HIL.out (by simp; omega) ?_)
                intro pv8 w8 h8 g8
                rw [← HSN.out] at h8
                have HI8 := Lib.hid h8
                have HF8 := Lib.hid (show Fr [] w w8 from OwnI.fr HI7.out HF7.out g8 hwZ)
                have fr8 := grown_fr g8
                have HA8 := Lib.hid (HA7.out.grown g8 (HI7.out.ne la))
                have HO8 := Lib.hid (OwnB_keep_at HO7.out fr8 (by intro hm; exact HI7.out.ne hgZ (by simpa using hm)))
                have HW8 := Lib.hid (OwnB_keep_at HW7.out fr8 (by intro hm; exact HI7.out.ne hgbZ (by simpa using hm)))
                have hbc8 := (HBX7.out.grown g8 (own_ne_tyB HI7.out HBX7.out (by decide))).cell 1
                have hz8 : Z ≤ w8.heap.size := by have := fr8.size; simp at this; omega
                have hcg : wl.heap.size ≠ gb := by omega
                clear h8 g8 fr8 HA7 HO7 HW7 HI7 HF7 HBX7
                go_wp2_with fail
                refine rbk_xor1 w8 _ rfl gb NN cb p wl.heap.size w.heap.size by_ ws hp (by omega) HWL.out hcg rfl rfl rfl HW8.out hbc8 _ ?_
                intro b p1 q1 q2 q3 hf ho
                obtain ⟨f, hb2⟩ := putsX b _ _ q1 q2 q3
                have HW9 := Lib.hid ho
                have HA9 := Lib.hid (HA8.out.keep hf (by simpa using hgbsb.symm))
                have HO9 := Lib.hid (OwnB_keep_at HO8.out hf (by simpa using hggb))
                have HI9 := Lib.hid (HI8.out.keepS hf (by simpa using hgbZ))
                have HF9 := Lib.hid (HF8.out.then hf (by intro b hb; simp at hb; subst hb; exact .inr hwgb))
                have hz9 : Z ≤ p1.heap.size := by have := hf.size; omega
                clear q1 q2 q3 hf ho HO8 HW8 HA8 HI8 HF8 hbc8
                subst hb2
                simp only [List.foldl_cons, List.foldl_nil, Go.Act.put, List.setIfInBounds_toArray, List.set_cons_succ, List.set_cons_zero]
                go_wp2
                go_roundw
                case rel => exact ⟨k + 1, ps ++ [p], ws.set p (ws.getD p 0 ^^^ by_), by omega, by go_num, by rw [List.length_append]; simp; omega, HG7, HI9, HW9, HO9, HA9, HF9, hz9⟩
                case measure => simp [intOf]; omega
            · have hki : ¬ (k : Int) < ME := by omega
              obtain ⟨pa, pc, e, -⟩ := (HI.out.is (A := fun _ => False) (by simp)).shape
              subst e
              rw [intL_len] at HI ⊢
              have HND := Lib.hid HG.out.nd
              have HLT := Lib.hid HG.out.lt
              have HH0 := Lib.hid (Hit.start HG.out)
              have HA0 := Lib.hid (show At wl sb (.cells (boolC (inL NN (ps ++ []))) 4) by rw [List.append_nil]; exact HA.out)
              obtain ⟨PL, hPL⟩ : ∃ x, ps.length = x := ⟨_, rfl⟩
              have HPL := Lib.hid hPL
              rw [hPL] at HI hps ⊢
              have hPM : PL ≤ ME := by omega
              clear HG hPL HA
              go_wp2
              go_loopw [16, 101] (fun m i wr => ∃ (k : Nat) (hs : List Nat) (ws2 : List UInt8), k ≤ M ∧ i = .int .i64 k ∧ m = .int .i64 (hs.length : Nat) ∧ hs.length ≤ k ∧ Hid (Hit NN enc ps hs ws2) ∧ Hid (OwnI 3 Z wr (.slice pa PL pc) (intL ps)) ∧ Hid (OwnB 5 w.heap.size wr (.slice (some ⟨gb, 0, none⟩) NN cb) ws2) ∧ Hid (OwnB 5 w.heap.size wr (.slice (some ⟨g, 0, none⟩) NN cp) enc) ∧ Hid (At wr sb (.cells (boolC (inL NN (ps ++ hs))) 4)) ∧ Hid (Fr [] w wr) ∧ Z ≤ wr.heap.size) (fun _ i _ => M - (intOf i).toNat)
              case atStart => exact ⟨0, [], ws, by omega, rfl, rfl, Nat.le_refl _, HH0, HI, HW, HO, HA0, HF, hzs⟩
              case round =>
                clear HI HO HW HA0 HF HH0 hzs hki hk
                obtain ⟨k, hs, ws2, hk, rfl, rfl, hhs, HH, HI, HW, HO, HA, HF, hzs⟩ := hrel
                obtain ⟨wl, rfl⟩ : ∃ wl, wl = wr := ⟨wr, rfl⟩
                obtain ⟨m, hm⟩ : ∃ m, hs.length = m := ⟨_, rfl⟩
                have HML := Lib.hid hm
                rw [hm] at hhs ⊢
                clear hm
                by_cases hkm : k < M
                · have hki : (k : Int) < M := by omega
                  obtain ⟨x, hx⟩ : ∃ x, cl[k]? = some x := ⟨_, List.getElem?_eq_getElem (by have := HMM.out; omega)⟩
                  obtain ⟨xb, xo, rfl, hx0, hx1⟩ := (HC.out.keep HF.out).cell k x hx
                  obtain ⟨pl, by_⟩ := x
                  dsimp only at hx0 hx1
                  clear hx
                  obtain ⟨p, hp, hpp⟩ := pl_at pl NN (by omega) h255
                  have fa : Fr [] wl (wl.alloc (.cells #[.int .i64 pl, .int .u8 (by_.toNat : Int)] 57)) := Fr.alloc _ _
                  have HA2 := Lib.hid (HA.out.keep0 fa)
                  have HO2 := Lib.hid (HO.out.keep fa (by simp))
                  have HW2 := Lib.hid (HW.out.keep fa (by simp))
                  have HF2 := Lib.hid (HF.out.trans fa)
                  have HI2 := Lib.hid (HI.out.keep0 fa)
                  have hcb := bool_cell HA2.out hp
                  have HBX := Lib.hid (show At (wl.alloc (.cells #[.int .i64 pl, .int .u8 (by_.toNat : Int)] 57)) wl.heap.size (.cells #[.int .i64 pl, .int .u8 (by_.toNat : Int)] 57) from At.new rfl)
                  have hz2 : Z ≤ (wl.alloc (.cells #[.int .i64 pl, .int .u8 (by_.toNat : Int)] 57)).heap.size := by simp; omega
                  clear fa HA HO HW HF HI
                  by_cases hpp2 : p ∈ ps ++ hs
                  · rw [decide_eq_true hpp2] at hcb
                    clear hpp2
                    go_wp2
                    go_roundw
                    case rel => exact ⟨k + 1, hs, ws2, by omega, by go_num, by rw [HML.out], by rw [HML.out]; omega, HH, HI2, HW2, HO2, HA2, HF2, hz2⟩
                    case measure => simp [intOf]; omega
                  · rw [decide_eq_false hpp2] at hcb
                    have HPP := Lib.hid (show p ∉ ps from fun h => hpp2 (List.mem_append.2 (.inl h)))
                    have HPH := Lib.hid (show p ∉ hs from fun h => hpp2 (List.mem_append.2 (.inr h)))
                    clear hpp2
                    by_cases hb0 : by_ = 0
                    · subst hb0
                      have hcb2 : (wl.alloc (.cells #[.int .i64 pl, .int .u8 0] 57)).cell? ⟨sb, p, none⟩ = some (.bool false) := hcb
                      clear hcb
                      go_wp2
                      go_roundw
                      case rel => exact ⟨k + 1, hs, ws2, by omega, by go_num, by rw [HML.out], by rw [HML.out]; omega, HH, HI2, HW2, HO2, HA2, HF2, hz2⟩
                      case measure => simp [intOf]; omega
                    · have hbn : by_.toNat ≠ 0 := fun e => hb0 (UInt8.toNat_inj.1 e)
                      have HB0 := Lib.hid hb0
                      have HSZ1 := Lib.hid (show p < (boolC (inL NN (ps ++ hs))).size by rw [boolC_len, inL_len]; exact hp)
                      clear hb0
                      go_wp2_with (refine wpl_store_one (.tmp 124) (.const (.bool true)) rfl rfl (.bool true) rfl rfl HA2.out HSZ1.out (by kernel_rfl) rfl ?_)
                      intro w6 f6 a6 s6
                      have HA6 := Lib.hid (show At w6 sb (.cells (boolC (inL NN (ps ++ (hs ++ [p])))) 4) by rw [← List.append_assoc]; exact bool_set a6 hp)
                      have HO6 := Lib.hid (OwnB_keep_at HO2.out f6 (by simpa using hgsb))
                      have HW6 := Lib.hid (OwnB_keep_at HW2.out f6 (by simpa using hgbsb))
                      have HI6 := Lib.hid (HI2.out.keepS f6 (by simpa using la))
                      have HF6 := Lib.hid (HF2.out.then f6 (by intro b hb; simp at hb; subst hb; exact .inr hwsb))
                      have hbc6 := (HBX.out.keep f6 (by simp; omega)).cell 1
                      have hz6 : Z ≤ w6.heap.size := by omega
                      have hll := Lib.hid HH.out.wl
                      have hcg : wl.heap.size ≠ gb := by omega
                      clear f6 a6 s6 HA2 HO2 HW2 HI2 HF2 hcb HBX HSZ1
                      go_wp2_with fail
                      refine rbk_xor2 w6 _ rfl gb NN cb p wl.heap.size w.heap.size by_ ws2 hp (by omega) hll.out hcg rfl rfl rfl HW6.out hbc6 _ ?_
                      intro b p1 q1 q2 q3 hf ho
                      obtain ⟨f, hb2⟩ := putsX b _ _ q1 q2 q3
                      have HW9 := Lib.hid ho
                      have HA9 := Lib.hid (HA6.out.keep hf (by simpa using hgbsb.symm))
                      have HO9 := Lib.hid (OwnB_keep_at HO6.out hf (by simpa using hggb))
                      have HI9 := Lib.hid (HI6.out.keepS hf (by simpa using hgbZ))
                      have HF9 := Lib.hid (HF6.out.then hf (by intro b hb; simp at hb; subst hb; exact .inr hwgb))
                      have hz9 : Z ≤ p1.heap.size := by have := hf.size; omega
                      have HH9 := Lib.hid (HH.out.step hp HPP.out HPH.out by_ HB0.out)
                      clear q1 q2 q3 hf ho HO6 HW6 HA6 HI6 HF6 hbc6 hll
                      subst hb2
                      simp only [List.foldl_cons, List.foldl_nil, Go.Act.put, List.setIfInBounds_toArray, List.set_cons_succ, List.set_cons_zero]
                      go_wp2
                      go_roundw
                      case rel => exact ⟨k + 1, hs ++ [p], ws2.set p (ws2.getD p 0 ^^^ by_), by omega, by go_num, by rw [List.length_append, HML.out]; go_num, by rw [List.length_append, HML.out]; simp; omega, HH9, HI9, HW9, HO9, HA9, HF9, hz9⟩
                      case measure => simp [intOf]; omega
                · have hki : ¬ (k : Int) < M := by omega
                  have hsum : 2 * m + PL ≤ 32 := by omega
                  obtain ⟨q0, q1, q2, q3⟩ := HGOOD.out ps hs ws2 HH.out HND.out HLT.out (by rw [HML.out, HPL.out]; exact hsum)
                  have HFX := Lib.hid (fix_good L E B wl (.slice (some ⟨gb, 0, none⟩) NN cb) (.slice pa PL pc) ws2 (intL ps) (HE.out.keep0 HF.out) HM.out.1 HM.out.2.1 HM.out.2.2.1 HM.out.2.2.2.1 HM.out.2.2.2.2 (HW.out.bs (by simp)) (HI.out.is (by simp)) q0 q1)
                  rw [q2, q3, HML.out] at HFX
                  obtain ⟨dl, hdl⟩ : ∃ x, intL (dfrK ws2 enc ws2.length) = x := ⟨_, rfl⟩
                  rw [hdl] at HFX
                  clear q0 q1 q2 q3 hdl HH HI HW HA hhs
                  go_wp2_with (go_at_call 38; fail)
                  refine HFX.out.mono ?_
                  rintro e wy ⟨u, r, rfl, ho, hi2, hf⟩
                  obtain ⟨ka, kc, e, -⟩ := ho.bs (A := fun _ => False) (by simp)
                  subst e
                  obtain ⟨ra, rc, e, -⟩ := (hi2.is (A := fun _ => False) (by simp)).shape
                  subst e
                  obtain ⟨rn, hrn⟩ : ∃ x, dl.length = x := ⟨_, rfl⟩
                  rw [HLE.out] at ho ⊢
                  rw [hrn]
                  have fb : Fr [] wy (wy.alloc (.cells #[.slice ka NN kc, .slice ra rn rc, .int .i64 (m : Int)] 68)) := Fr.alloc _ _
                  have HBo := Lib.hid ((ho.keep fb (by simp)).bs (A := fun _ => False) (by simp))
                  have HBe := Lib.hid (((HO.out.keep hf (by simp)).keep fb (by simp)).bs (A := fun _ => False) (by simp))
                  have HFz := Lib.hid ((HF.out.trans hf).trans fb)
                  have hc1 := run_strS (P := Tryd.prog) (src := 22) (dst := 9) Tryd.underlying22 Tryd.underlying5 Tryd.underlying9 HBo.out
                  have hc2 := run_strS (P := Tryd.prog) (src := 22) (dst := 9) Tryd.underlying22 Tryd.underlying5 Tryd.underlying9 HBe.out
                  obtain ⟨S, hS⟩ : ∃ S, (⟨enc.toArray⟩ : ByteArray) = S := ⟨_, rfl⟩
                  rw [hS] at hc1 hc2
                  clear fb hf ho hi2 hS HF HO HFX hrn HBo HBe
                  go_wp2_with (first | (refine wpl_store_new (.tmp 20) (.tmp 142) rfl rfl #[.slice ka NN kc, .slice ra rn rc, .int .i64 (m : Int)] rfl rfl (by kernel_rfl) rfl (by rfl) ?_) | (go_at_call 40; fail))
                  refine (spare_t _ PL m (by omega)).mono ?_
                  rintro e wx ⟨rfl, hf⟩
                  have HFy := Lib.hid (HFz.out.trans hf)
                  clear hf hc1 hc2
                  go_wp2
                  go_ret
                  exact ⟨rfl, HFy.out⟩
      · have hci : (32 : Int) < 2 * M + ME := by omega
        go_enter Tryd.func9, Tryd.ntmps9
        go_wp2_with (go_at_call 37; fail)
        refine HAL.out.mono ?_
        rintro e w1 ⟨rfl, hf⟩
        have HF1 := Lib.hid hf
        clear hf
        go_wp2
        go_ret
        exact ⟨rfl, HF1.out⟩
    · have hei : (32 : Int) < ME := by omega
      go_enter Tryd.func9, Tryd.ntmps9
      go_wp2_with (go_at_call 37; fail)
      refine HAL.out.mono ?_
      rintro e w1 ⟨rfl, hf⟩
      have HF1 := Lib.hid hf
      clear hf
      go_wp2
      go_ret
      exact ⟨rfl, HF1.out⟩
  · have hdi : (223 : Int) < N := by omega
    go_enter Tryd.func9, Tryd.ntmps9
    go_wp2_with (go_at_call 37; fail)
    refine HAL.out.mono ?_
    rintro e w1 ⟨rfl, hf⟩
    have HF1 := Lib.hid hf
    clear hf
    go_wp2
    go_ret
    exact ⟨rfl, HF1.out⟩
end Go.Proofs.YtfblhdomjnffcaaDoor
