/-
  The law LocateEquation, walked.
-/
import Derived.Test.YtfblhdomjnffcaaDoorLeqX
import Derived.Test.YtfblhdomjnffcaaDoorLeqR
import Derived.Test.YtfblhdomjnffcaaDoorGM
import Derived.Test.YtfblhdomjnffcaaDoorGN
import Derived.Test.YtfblhdomjnffcaaDoorGQ
import Derived.Test.YtfblhdomjnffcaaDoorAl4
namespace Go.Proofs.YtfblhdomjnffcaaDoor
open Go.RowKit Go.Bl
set_option linter.unusedVariables false
set_option maxRecDepth 100000 in
set_option maxHeartbeats 4000000 in
theorem leq_any (L : List Nat) (E : Nat → Addr) (B : Nat) (w : World) (v0 v1 : Value) (ds : List UInt8) (cl : List (Int × UInt8)) (hE : Errs L E B w) (m1 : 1 ∈ L) (m8 : 8 ∈ L) (m10 : 10 ∈ L) (m16 : 16 ∈ L) (hb : Bs (fun _ => False) w v0 ds) (hc : RdC w v1 cl) :
    Calls Tryd.prog 7 #[v0, v1] w fun e w' => e = .returned (.bool true) ∧ Fr [] w w' := by
  have HB := Lib.hid hb
  have HC := Lib.hid hc
  have HE := Lib.hid hE
  have HM := Lib.hid (And.intro m1 (And.intro m8 (And.intro m10 m16)))
  obtain ⟨da, dc, e, d2, d3, -⟩ := id hb
  subst e
  obtain ⟨ca, cc, e, c2, c3, -⟩ := id hc
  subst e
  unfold maxLen at d3 c3
  obtain ⟨N, hN⟩ : ∃ N, ds.length = N := ⟨_, rfl⟩
  obtain ⟨M, hM⟩ : ∃ M, cl.length = M := ⟨_, rfl⟩
  have HN := Lib.hid hN
  have HMM := Lib.hid hM
  rw [hN] at HB d2 ⊢
  rw [hM] at HC c2 ⊢
  clear hb hc hE m1 m8 m10 m16 hN hM
  by_cases hd : N ≤ 223
  · have hdi : ¬ (223 : Int) < N := by omega
    by_cases hc16 : M ≤ 16
    · have hci : ¬ (16 : Int) < M := by omega
      by_cases h0 : N < 1
      · have HEB := Lib.hid (fun w' (h : Fr [] w w') => enc_bad L E B w' (.slice da N dc) ds (HE.out.keep0 h) HM.out.2.1 (HB.out.keep h (by simp)) (.inl (by rw [HN.out]; exact h0)))
        have x8 : errv E 8 = .iface 189 (.pointer (some (E 8))) := errv_pos E 8 (by decide)
        rw [x8] at HEB
        clear x8
        go_enter Tryd.func7, Tryd.ntmps7
        go_wp2_with (go_at_call 12; fail)
        refine (alive04_any w).mono ?_
        rintro e w1 ⟨rfl, hf⟩
        have HF1 := Lib.hid hf
        clear hf
        go_wp2_with (go_at_call 29; fail)
        refine (HEB.out w1 HF1.out).mono ?_
        rintro e w2 ⟨rfl, hf⟩
        have HF2 := Lib.hid (HF1.out.trans hf)
        clear hf HEB
        go_wp2
        go_ret
        exact ⟨rfl, HF2.out⟩
      · have HLE := Lib.hid (encL_len ds)
        rw [HN.out] at HLE
        have HEN := Lib.hid (fun w' (h : Fr [] w w') => enc_any w' (.slice da N dc) ds (HB.out.keep h (by simp)) (by rw [HN.out]; omega) (by rw [HN.out]; exact hd))
        have HES := Lib.hid (enc_synd ds)
        obtain ⟨enc, henc⟩ : ∃ x, encL ds = x := ⟨_, rfl⟩
        rw [henc] at HLE HEN HES
        obtain ⟨NN, hNN⟩ : ∃ x, N + 32 = x := ⟨_, rfl⟩
        rw [hNN] at HLE
        have hnn : (N : Int) + 32 = NN := by omega
        have h33 : 33 ≤ NN := by omega
        have h255 : NN ≤ 255 := by omega
        obtain ⟨i0, hi, hz, hsz, hby⟩ := info_bytes Tryd.infoBool
        clear henc hNN
        go_enter Tryd.func7, Tryd.ntmps7
        go_wp2_with (go_at_call 12; fail)
        refine (alive04_any w).mono ?_
        rintro e w1 ⟨rfl, hf⟩
        have HF1 := Lib.hid hf
        clear hf
        go_wp2_with (go_at_call 29; fail)
        refine (HEN.out w1 HF1.out).mono ?_
        rintro e w2 ⟨u, rfl, ho, hf⟩
        obtain ⟨g, cp, e, hg, g1, g2, -⟩ := ho.shape (by rw [HLE.out]; omega)
        subst e
        rw [HLE.out] at ho g1 ⊢
        have HF2 := Lib.hid (HF1.out.trans hf)
        have hs1 := HF1.out.size
        have HO2 := Lib.hid (ho.base hs1)
        have hgw : w.heap.size ≤ g := by omega
        unfold maxLen at g2
        have hgl := (ho.lt g rfl).2
        clear hf ho hg hs1
        go_wp2_with (refine wpList_make_row _ rfl (.tmp 48) (.tmp 48) 55 rfl 4 i0 (.bool false) Tryd.underlying55 hi hz hsz rfl .i64 .i64 NN rfl rfl (by rw [hby]; omega) (by omega) ?_)
        have hmb := made_bools NN
        have HA := Lib.hid (show At (w2.alloc (.cells (madeCells #[.bool false] NN) 4)) w2.heap.size (.cells (boolC (inL NN [])) 4) by rw [hmb]; exact At.new rfl)
        have HO3 := Lib.hid (HO2.out.keep (Fr.alloc (S := []) w2 (.cells (madeCells #[.bool false] NN) 4)) (by simp))
        have HF3 := Lib.hid (show Fr [] w (w2.alloc (.cells (madeCells #[.bool false] NN) 4)) from Fr.al HF2.out)
        obtain ⟨w3, hw3⟩ : ∃ x, w2.alloc (.cells (madeCells #[.bool false] NN) 4) = x := ⟨_, rfl⟩
        rw [hw3] at HA HO3 HF3 ⊢
        obtain ⟨hb, hhb⟩ : ∃ x, w2.heap.size = x := ⟨_, rfl⟩
        have hs2 := HF2.out.size
        rw [hhb] at HA hgl hs2 ⊢
        have hgh : g ≠ hb := by omega
        clear hmb hw3 hhb hi hz hsz hby HF2 HO2 HF1
        go_wp2
        go_loopw [8, 52] (fun m i wr => ∃ (k : Nat) (hs : List Nat) (ws : List UInt8), k ≤ M ∧ i = .int .i64 k ∧ m = .int .i64 (hs.length : Nat) ∧ hs.length ≤ k ∧ Hid (Hit NN enc [] hs ws) ∧ Hid (OwnB 5 w.heap.size wr (.slice (some ⟨g, 0, none⟩) NN cp) ws) ∧ Hid (At wr hb (.cells (boolC (inL NN hs)) 4)) ∧ Hid (Fr [] w wr)) (fun _ i _ => M - (intOf i).toNat)
        case atStart => exact ⟨0, [], enc, by omega, rfl, rfl, Nat.le_refl _, Hit.start (Gone.start HLE.out), HO3, HA, HF3⟩
        case round =>
          clear HA HO3 HF3
          obtain ⟨k, hs, ws, hk, rfl, rfl, hhs, HH, HO, HA, HF⟩ := hrel
          obtain ⟨wl, rfl⟩ : ∃ wl, wl = wr := ⟨wr, rfl⟩
          by_cases hkm : k < M
          · have hki : (k : Int) < M := by omega
            obtain ⟨x, hx⟩ : ∃ x, cl[k]? = some x := ⟨_, List.getElem?_eq_getElem (by have := HMM.out; omega)⟩
            obtain ⟨xb, xo, rfl, hx0, hx1⟩ := (HC.out.keep HF.out).cell k x hx
            obtain ⟨pl, by_⟩ := x
            dsimp only at hx0 hx1
            clear hx
            obtain ⟨p, hp, hpp⟩ := pl_at pl NN (by omega) h255
            have fa : Fr [] wl (wl.alloc (.cells #[.int .i64 pl, .int .u8 (by_.toNat : Int)] 57)) := Fr.alloc _ _
            have HA2 := Lib.hid (HA.out.keep0 fa)
            have HO2 := Lib.hid (HO.out.keep fa (by simp))
            have HF2 := Lib.hid (HF.out.trans fa)
            have hcb := bool_cell HA2.out hp
            have hwl := HA.out.lt
            have hwg := (HO.out.lt g rfl).2
            obtain ⟨m, hm⟩ : ∃ m, hs.length = m := ⟨_, rfl⟩
            have HML := Lib.hid hm
            rw [hm] at hhs ⊢
            clear hm fa HA HO HF
            by_cases hph : p ∈ hs
            · rw [decide_eq_true hph] at hcb
              clear hph
              go_wp2
              go_roundw
              case rel => exact ⟨k + 1, hs, ws, by omega, by go_num, by rw [HML.out], by rw [HML.out]; omega, HH, HO2, HA2, HF2⟩
              case measure => simp [intOf]; omega
            · rw [decide_eq_false hph] at hcb
              have HPH := Lib.hid hph
              clear hph
              by_cases hb0 : by_ = 0
              · subst hb0
                have hcb2 : (wl.alloc (.cells #[.int .i64 pl, .int .u8 0] 57)).cell? ⟨hb, p, none⟩ = some (.bool false) := hcb
                clear hcb
                go_wp2
                go_roundw
                case rel => exact ⟨k + 1, hs, ws, by omega, by go_num, by rw [HML.out], by rw [HML.out]; omega, HH, HO2, HA2, HF2⟩
                case measure => simp [intOf]; omega
              · have hbn : by_.toNat ≠ 0 := fun e => hb0 (UInt8.toNat_inj.1 e)
                have HB0 := Lib.hid hb0
                have hsz1 : p < (boolC (inL NN hs)).size := by rw [boolC_len, inL_len]; exact hp
                have HSZ1 := Lib.hid hsz1
                have hby := (show (wl.alloc (.cells #[.int .i64 pl, .int .u8 (by_.toNat : Int)] 57)).cell? ⟨wl.heap.size, 1, none⟩ = some (.int .u8 (by_.toNat : Int)) from (show At _ wl.heap.size (.cells #[.int .i64 pl, .int .u8 (by_.toNat : Int)] 57) from At.new rfl).cell 1)
                have HBY := Lib.hid hby
                clear hb0 hsz1 hby
                go_wp2_with (refine wpl_store_one (.tmp 76) (.const (.bool true)) rfl rfl (.bool true) rfl rfl HA2.out HSZ1.out (by kernel_rfl) rfl ?_)
                intro w6 f6 a6 _
                have HA6 := Lib.hid (bool_set a6 hp)
                have HO6 := Lib.hid (OwnB_keep_at HO2.out f6 (by simpa using hgh))
                have HF6 := Lib.hid (HF2.out.then f6 (by intro b hb; simp at hb; subst hb; exact .inr hs2))
                have hbc6 := cell_keep f6 (by simp; omega) HBY.out
                have hcg : wl.heap.size ≠ g := by omega
                have hll := Lib.hid HH.out.wl
                clear f6 a6 HA2 HO2 HF2 hcb
                go_wp2_with fail
                refine leq_xor w6 _ rfl g NN cp p wl.heap.size w.heap.size by_ ws hp (by omega) hll.out hcg rfl rfl rfl HO6.out hbc6 _ ?_
                intro b p1 q1 q2 q3 hf ho
                obtain ⟨f, hb2⟩ := putsX b _ _ q1 q2 q3
                have HO7 := Lib.hid ho
                have HA7 := Lib.hid (HA6.out.keep hf (by simp; omega))
                have HF7 := Lib.hid (HF6.out.then hf (by intro b hb; simp at hb; subst hb; exact .inr hgw))
                have HH7 := Lib.hid (HH.out.step hp (by simp) HPH.out by_ HB0.out)
                clear q1 q2 q3 hf ho HO6 HA6 HF6 hbc6 hll HBY
                subst hb2
                simp only [List.foldl_cons, List.foldl_nil, Go.Act.put, List.setIfInBounds_toArray, List.set_cons_succ, List.set_cons_zero]
                go_wp2
                go_roundw
                case rel => exact ⟨k + 1, hs ++ [p], ws.set p (ws.getD p 0 ^^^ by_), by omega, by go_num, by rw [List.length_append, HML.out]; go_num, by rw [List.length_append, HML.out]; simp; omega, HH7, HO7, HA7, HF7⟩
                case measure => simp [intOf]; omega
          · have hki : ¬ (k : Int) < M := by omega
            have hwl := HH.out.wl
            have hB := HH.out.bent List.nodup_nil (fun p hp => (by cases hp)) h255 HLE.out HES.out
            have hhl := hits_len HH.out
            have hF := finds hB h33 (by rw [hhl]; simp only [List.length_nil]; omega)
            have hal : (allP NN (errW enc ws) []).length = hs.length := by unfold allP; rw [List.append_nil, hhl]
            have hlong := hF.long
            rw [hhl] at hlong
            have hpl := hF.er.plen
            rw [hal] at hpl
            have hel := hF.ev_len hB
            rw [hal] at hel
            have hep := hF.ev_plen
            have hpos := hF.ev_pos hB
            rw [hhl] at hpos
            have hsl := synL_len ws
            have HOF := Lib.hid (of_any wl (.slice (some ⟨g, 0, none⟩) NN cp) ws (HO.out.bs (by simp)) (by omega) (by omega))
            obtain ⟨m, hm⟩ : ∃ m, hs.length = m := ⟨_, rfl⟩
            rw [hm] at hhs hlong hpl hel hpos ⊢
            obtain ⟨s, hss⟩ : ∃ s, synL ws = s := ⟨_, rfl⟩
            rw [hss] at hF hlong hpl hel hep hpos hsl HOF
            have HPO := Lib.hid (fun p => poly_any p s hsl)
            have HFI := Lib.hid (fun w' (h : Fr [] w w') => find_good L E B w' s (.slice none 0 0) (NN : Int) (intL []) hsl (HE.out.keep0 h) HM.out.1 HM.out.2.1 HM.out.2.2.1 HM.out.2.2.2 (Vs.nil _ _ _ _ (Nat.zero_le _)) (by omega) hF.bad hF.lost)
            rw [hlong] at HFI
            have hevd : ∀ z, z = 32 → ptrim ((pmul (ptrim s) (fLoc s (NN : Int) (intL []))).take z) = fEv s (NN : Int) (intL []) := fun z hz => by subst hz; rfl
            have hll : (fLoc s (NN : Int) (intL [])).length = m + 1 := by
              rw [← hpl]; unfold fLoc pmul; rw [plen_trim, ptrim_length]
            obtain ⟨loc, hloc⟩ : ∃ x, fLoc s (NN : Int) (intL []) = x := ⟨_, rfl⟩
            obtain ⟨ev, hev⟩ : ∃ x, fEv s (NN : Int) (intL []) = x := ⟨_, rfl⟩
            rw [hloc] at HFI hpl hevd hll
            rw [hev] at HFI hel hep hpos hevd
            obtain ⟨EN, hEN⟩ : ∃ x, ev.length = x := ⟨_, rfl⟩
            rw [hEN] at hel hep hpos
            have HSN := Lib.hid hsl
            have HLL := Lib.hid hll
            have HPL := Lib.hid hpl
            have HEP := Lib.hid hep
            have HENL := Lib.hid hEN
            have HEM := Lib.hid hel
            have HPOS := Lib.hid hpos
            have HEVD := Lib.hid hevd
            have hsz : (s.map u8v).toArray.size = 32 := by simp [hsl]
            have HONE := Lib.hid (cells_one s)
            obtain ⟨SC, hSC⟩ : ∃ c, (s.map u8v).toArray = c := ⟨_, rfl⟩
            rw [hSC] at HOF HPO HFI hsz HONE
            have HSZ := Lib.hid hsz
            have hm16 : m ≤ 16 := by omega
            have HDL := Lib.hid (show ∀ w' v, Bs (fun _ => False) w' v loc → Calls Tryd.prog 33 #[v] w' fun e w'' => e = .returned (.int .i64 (m : Int)) ∧ Fr [] w' w'' from fun w' v hb => by
              have h := degree_any (fun _ => False) w' v loc hb (by intro e; rw [e] at hll; simp at hll) (by rw [hll]; omega)
              rw [hpl, show ((m + 1 : Nat) : Int) - 1 = m by omega] at h
              exact h)
            clear hwl hB hhl hF hal hlong hpl hel hep hpos hsl hm hss hevd hll hloc hev hEN hsz hSC HH HO HA
            go_wp2_with (go_at_call 30; fail)
            refine HOF.out.mono ?_
            rintro e w8 ⟨rfl, hf⟩
            have HF8 := Lib.hid (HF.out.trans hf)
            clear hf HOF
            go_wp2_with (first | (refine wpl_store_new (.tmp 12) (.tmp 93) rfl rfl SC rfl rfl (by rw [HSZ.out]; kernel_rfl) (by rw [HSZ.out]; rfl) HONE.out ?_) | (refine wpl_load_rowG (.tmp 12) rfl rfl w8.heap.size SC rfl (At.new rfl) Tryd.underlying42 rfl (by rw [HSZ.out]; kernel_rfl) ?_) | (go_at_call 25; fail))
            have fa : Fr [] w8 (w8.alloc (.cells SC 42)) := Fr.alloc _ _
            have HSA := Lib.hid (show At (w8.alloc (.cells SC 42)) w8.heap.size (.cells SC 42) from At.new rfl)
            have HF8a := Lib.hid (HF8.out.trans fa)
            clear fa
            refine (HFI.out _ HF8a.out).mono ?_
            rintro e w9 ⟨lu, le, rfl, hlu, hle, hf⟩
            obtain ⟨ua, uc, e, -⟩ := hlu.bs (A := fun _ => False) (by simp)
            subst e
            obtain ⟨ea, ec, e, -⟩ := hle.bs (A := fun _ => False) (by simp)
            subst e
            rw [HLL.out] at hlu ⊢
            rw [HENL.out] at hle ⊢
            have HLU := Lib.hid hlu
            have HLE2 := Lib.hid hle
            have HSA9 := Lib.hid (HSA.out.keep0 hf)
            have HF9 := Lib.hid (HF8a.out.trans hf)
            clear hf hlu hle HSA HF8a HF8 HFI
            have fb : Fr [] w9 (w9.alloc (.cells #[.int .i64 (m : Int), .slice ua (m + 1) uc, .slice ea EN ec] 46)) := Fr.alloc _ _
            have HBF := Lib.hid (show At (w9.alloc (.cells #[.int .i64 (m : Int), .slice ua (m + 1) uc, .slice ea EN ec] 46)) w9.heap.size (.cells #[.int .i64 (m : Int), .slice ua (m + 1) uc, .slice ea EN ec] 46) from At.new rfl)
            have HLUa := Lib.hid (HLU.out.keep fb (by simp))
            have HLEa := Lib.hid (HLE2.out.keep fb (by simp))
            have HSAa := Lib.hid (HSA9.out.keep0 fb)
            have HFa := Lib.hid (HF9.out.trans fb)
            clear fb HLU HLE2 HSA9 HF9
            go_wp2_with (first | (refine wpl_store_new (.tmp 13) (.tmp 102) rfl rfl #[.int .i64 (m : Int), .slice ua (m + 1) uc, .slice ea EN ec] rfl rfl (by kernel_rfl) rfl (by rfl) ?_) | (go_at_call 33; fail))
            refine (HDL.out _ _ (HLUa.out.bs (by simp))).mono ?_
            rintro e w10 ⟨rfl, hf⟩
            have HB10 := Lib.hid (HBF.out.keep0 hf)
            have HLU10 := Lib.hid (HLUa.out.keep hf (by simp))
            have HLE10 := Lib.hid (HLEa.out.keep hf (by simp))
            have HSA10 := Lib.hid (HSAa.out.keep0 hf)
            have HF10 := Lib.hid (HFa.out.trans hf)
            clear hf HBF HLUa HLEa HSAa HFa
            have HMU := Lib.hid (show ∀ p v, Fr [] w10 p → OwnB 5 w10.heap.size p v (ptrim s) → Calls Tryd.prog 35 #[v, .slice ua (m + 1) uc] p fun e w' => ∃ u, e = .returned u ∧ OwnB 5 p.heap.size w' u (pmul (ptrim s) loc) ∧ Fr [] p w' from fun p v hp hv =>
              pmul_any (fun _ => False) p v _ (ptrim s) loc (hv.bs (by simp)) ((HLU10.out.keep hp (by simp)).bs (by simp)) (by rw [HLL.out]; omega) (by rw [ptrim_length, HLL.out]; have := plen_le s; have := HSN.out; omega))
            have HLO := Lib.hid (show ∀ p v, Fr [] w10 p → OwnB 5 w10.heap.size p v (pmul (ptrim s) loc) → Calls Tryd.prog 34 #[v, .int .i64 32] p fun e w' => ∃ u, e = .returned u ∧ OwnB 5 p.heap.size w' u ev ∧ Fr [] p w' from fun p v hp hv => by
              have h := plow_any (fun _ => False) p v (pmul (ptrim s) loc) 32 (hv.bs (by simp)) (bwI_own hv) (by have h1 := pmul_len (ptrim s) loc; rw [ptrim_length, HLL.out] at h1; have := plen_le s; have := HSN.out; omega) (by omega)
              rwa [HEVD.out 32 rfl] at h)
            clear HEVD
            go_wp2_with fail
            refine leq_all w10 _ rfl w8.heap.size w9.heap.size (m + 1) uc ua SC (ptrim s) (pmul (ptrim s) loc) ev HSA10.out HSZ.out (HB10.out.cell 1) (fun p hp => HPO.out p) HMU.out HLO.out rfl rfl _ ?_
            intro bz pz q1 q2 q3 q14 hf
            have HLV := Lib.hid q14
            have HBz := Lib.hid (HB10.out.keep0 hf)
            have HLEz := Lib.hid (HLE10.out.keep hf (by simp))
            have HLUz := Lib.hid (HLU10.out.keep hf (by simp))
            have HFz := Lib.hid (HF10.out.trans hf)
            have HDE := Lib.hid (show ∀ p, Fr [] pz p → Calls Tryd.prog 33 #[.slice ea EN ec] p fun e w' => e = .returned (.int .i64 ((EN : Int) - 1)) ∧ Fr [] p w' from fun p hp => by
              have h := degree_z p _ ev (bwI_own (HLEz.out.keep hp (by simp))) (by rw [HENL.out]; have := HEM.out; omega)
              rwa [HEP.out] at h)
            have HDLz := Lib.hid (show ∀ p, Fr [] pz p → Calls Tryd.prog 33 #[.slice ua (m + 1) uc] p fun e w' => e = .returned (.int .i64 (m : Int)) ∧ Fr [] p w' from fun p hp => HDL.out p _ ((HLUz.out.keep hp (by simp)).bs (by simp)))
            clear q14 hf HMU HLO HPO HB10 HLE10 HLU10 HSA10 HF10 HDL
            have hpos := HPOS.out
            have hel := HEM.out
            by_cases hm0 : m = 0
            · obtain rfl : EN = 0 := by omega
              subst hm0
              clear hpos hel
              go_wp2_with fail
              refine leq_fin0 pz bz q2 w9.heap.size (0 + 1) uc ec ua ea (slot bz 14) ev _ (((0 : Nat) : Int) - 1) ((0 : Nat) : Int) rfl (by omega) (HBz.out.cell 1) (HBz.out.cell 2) (HLV.out.bs (by simp)) (HLEz.out.bs (by simp)) HDE.out HDLz.out rfl (q3 13 (by decide)) (q3 8 (by decide)) _ ?_
              intro b2 p2 s1 s2 s3 s4 s5
              have HF12 := Lib.hid (HFz.out.trans s5)
              rw [frame149 b2 s2 (s1.trans q1), s4]
              clear s5 HDE HDLz
              go_wp2
              go_ret
              exact ⟨rfl, HF12.out⟩
            · have hen : 0 < EN := hpos (by omega)
              clear hpos
              go_wp2_with fail
              refine leq_fin1 pz bz q2 EN m (by omega) (by omega) w9.heap.size (m + 1) uc ec ua ea (slot bz 14) ev _ ((EN : Int) - 1) (m : Int) rfl (by have := HEM.out; omega) (HBz.out.cell 1) (HBz.out.cell 2) (HLV.out.bs (by simp)) (HLEz.out.bs (by simp)) HDE.out HDLz.out rfl (q3 13 (by decide)) (q3 8 (by decide)) _ ?_
              intro b2 p2 s1 s2 s3 s4 s5
              have HF12 := Lib.hid (HFz.out.trans s5)
              rw [frame149 b2 s2 (s1.trans q1), s4]
              clear s5 HDE HDLz
              go_wp2
              go_ret
              exact ⟨rfl, HF12.out⟩
    · have hci : (16 : Int) < M := by omega
      go_enter Tryd.func7, Tryd.ntmps7
      go_wp2_with (go_at_call 12; fail)
      refine (alive04_any w).mono ?_
      rintro e w1 ⟨rfl, hf⟩
      have HF1 := Lib.hid hf
      clear hf
      go_wp2
      go_ret
      exact ⟨rfl, HF1.out⟩
  · have hdi : (223 : Int) < N := by omega
    go_enter Tryd.func7, Tryd.ntmps7
    go_wp2_with (go_at_call 12; fail)
    refine (alive04_any w).mono ?_
    rintro e w1 ⟨rfl, hf⟩
    have HF1 := Lib.hid hf
    clear hf
    go_wp2
    go_ret
    exact ⟨rfl, HF1.out⟩
end Go.Proofs.YtfblhdomjnffcaaDoor
