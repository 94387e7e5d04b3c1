/-
  The law LocatePlaces, walked. (printed by genlpl.py)
-/
import Derived.Test.YtfblhdomjnffcaaDoorLplX
import Derived.Test.YtfblhdomjnffcaaDoorLplM
import Derived.Test.YtfblhdomjnffcaaDoorGM
import Derived.Test.YtfblhdomjnffcaaDoorGN
import Derived.Test.YtfblhdomjnffcaaDoorGQ
import Derived.Test.YtfblhdomjnffcaaDoorGB
import Derived.Test.YtfblhdomjnffcaaDoorAl4
namespace Go.Proofs.YtfblhdomjnffcaaDoor
open Go.RowKit Go.Bl
set_option linter.unusedVariables false
theorem Tryd.infoIntL : (Tryd.prog.info? 3).map (fun i => (i.zero, i.size, i.bytes)) = some (some (.int .i64 0), 1, 8) := by kernel_rfl
theorem intL_snoc (ps : List Nat) (p : Nat) : intL (ps ++ [p]) = intL ps ++ [(p : Int)] := by simp [intL]
/-- is there a root below j? -/
def rootB (x : UInt8) (loc : List UInt8) (j : Nat) : Bool := (List.range j).any fun t => decide (1 ≤ t) && (decide (pev [1, x] (UInt8.ofNat t) = 0) && decide (pev loc (UInt8.ofNat t) = 0))
theorem rootB_succ (x : UInt8) (loc : List UInt8) (j : Nat) (h : 1 ≤ j) : rootB x loc (j + 1) = (rootB x loc j || (decide (pev [1, x] (UInt8.ofNat j) = 0) && decide (pev loc (UInt8.ofNat j) = 0))) := by
  unfold rootB
  rw [List.range_succ, List.any_append]
  simp [h]
theorem rootB_one (x : UInt8) (loc : List UInt8) : rootB x loc 1 = false := by simp [rootB]
theorem rootB_end (x : UInt8) (loc : List UInt8) (hx : x ≠ 0) : rootB x loc 256 = decide (pev loc (ginv x) = 0) := by
  rw [Bool.eq_iff_iff]
  unfold rootB
  rw [List.any_eq_true, decide_eq_true_eq]
  constructor
  · rintro ⟨t, ht, h⟩
    simp only [Bool.and_eq_true, decide_eq_true_eq] at h
    obtain ⟨h1, h2, h3⟩ := h
    rw [pev_lin] at h2
    have e : gmul (UInt8.ofNat t) x = 1 := (xor_eq_zero.1 h2).symm
    have e2 : UInt8.ofNat t = ginv x := by
      have : gmul (gmul (UInt8.ofNat t) x) (ginv x) = gmul 1 (ginv x) := by rw [e]
      rwa [gmul_assoc, gmul_ginv hx, gmul_one, one_gmul] at this
    rwa [e2] at h3
  · intro h
    have hn := ginv_ne hx
    have h0 : (ginv x).toNat ≠ 0 := fun e => hn (UInt8.toNat_inj.1 e)
    have hl := (ginv x).toNat_lt
    refine ⟨(ginv x).toNat, List.mem_range.2 hl, ?_⟩
    simp only [UInt8.ofNat_toNat, Bool.and_eq_true, decide_eq_true_eq]
    exact ⟨by omega, by rw [pev_lin, gmul_comm, gmul_ginv hx, UInt8.xor_self], h⟩
set_option maxRecDepth 100000 in
set_option maxHeartbeats 16000000 in
theorem lpl_any (L : List Nat) (E : Nat → Addr) (B : Nat) (w : World) (v0 v1 v2 : Value) (ds : List UInt8) (el cl : List (Int × UInt8)) (hE : Errs L E B w) (m1 : 1 ∈ L) (m8 : 8 ∈ L) (m10 : 10 ∈ L) (m16 : 16 ∈ L) (hb : Bs (fun _ => False) w v0 ds) (he : RdC w v1 el) (hc : RdC w v2 cl) (hcl : cl.length ≤ 8796093022208) :
    Calls Tryd.prog 6 #[v0, v1, v2] w fun e w' => e = .returned (.bool true) ∧ Fr [] w w' := by
  have HB := Lib.hid hb
  have HC := Lib.hid hc
  have HEL := Lib.hid he
  have HE := Lib.hid hE
  have HM := Lib.hid (And.intro m1 (And.intro m8 (And.intro m10 m16)))
  obtain ⟨da, dc, e, d2, d3, -⟩ := id hb
  subst e
  obtain ⟨ea, ec, e, e2, e3, -⟩ := id he
  subst e
  obtain ⟨ca, cc, e, c2, c3, -⟩ := id hc
  subst e
  unfold maxLen at d3 c3 e3
  obtain ⟨N, hN⟩ : ∃ N, ds.length = N := ⟨_, rfl⟩
  obtain ⟨ME, hME⟩ : ∃ M, el.length = M := ⟨_, rfl⟩
  obtain ⟨M, hM⟩ : ∃ M, cl.length = M := ⟨_, rfl⟩
  have HN := Lib.hid hN
  have HMM := Lib.hid hM
  have HME := Lib.hid hME
  rw [hN] at HB d2 ⊢
  rw [hME] at HEL e2 ⊢
  rw [hM] at HC c2 hcl ⊢
  clear hb hc he hE m1 m8 m10 m16 hN hM hME
  by_cases hd : N ≤ 223
  · have hdi : ¬ (223 : Int) < N := by omega
    by_cases hme : ME ≤ 32
    · have hei : ¬ (32 : Int) < ME := by omega
      by_cases hmc : 2 * M + ME ≤ 32
      · have hci : ¬ (32 : Int) < 2 * M + ME := by omega
        by_cases h0 : N < 1
        · have HEB := Lib.hid (fun w' (h : Fr [] w w') => enc_bad L E B w' (.slice da N dc) ds (HE.out.keep0 h) HM.out.2.1 (HB.out.keep h (by simp)) (.inl (by rw [HN.out]; exact h0)))
          have x8 : errv E 8 = .iface 189 (.pointer (some (E 8))) := errv_pos E 8 (by decide)
          rw [x8] at HEB
          clear x8
          go_enter Tryd.func6, Tryd.ntmps6
          go_wp2_with (go_at_call 12; fail)
          refine (alive04_any w).mono ?_
          rintro e w1 ⟨rfl, hf⟩
          have HF1 := Lib.hid hf
          clear hf
          go_wp2_with (go_at_call 29; fail)
          refine (HEB.out w1 HF1.out).mono ?_
          rintro e w2 ⟨rfl, hf⟩
          have HF2 := Lib.hid (HF1.out.trans hf)
          clear hf HEB
          go_wp2
          go_ret
          exact ⟨rfl, HF2.out⟩
        · have HLE := Lib.hid (encL_len ds)
          rw [HN.out] at HLE
          have HEN := Lib.hid (fun w' (h : Fr [] w w') => enc_any w' (.slice da N dc) ds (HB.out.keep h (by simp)) (by rw [HN.out]; omega) (by rw [HN.out]; exact hd))
          have HES := Lib.hid (enc_synd ds)
          obtain ⟨enc, henc⟩ : ∃ x, encL ds = x := ⟨_, rfl⟩
          rw [henc] at HLE HEN HES
          obtain ⟨NN, hNN⟩ : ∃ x, N + 32 = x := ⟨_, rfl⟩
          rw [hNN] at HLE
          have hnn : (N : Int) + 32 = NN := by omega
          have h33 : 33 ≤ NN := by omega
          have h255 : NN ≤ 255 := by omega
          clear henc hNN
          go_enter Tryd.func6, Tryd.ntmps6
          go_wp2_with (go_at_call 12; fail)
          refine (alive04_any w).mono ?_
          rintro e w1 ⟨rfl, hf⟩
          have HF1 := Lib.hid hf
          clear hf
          go_wp2_with (go_at_call 29; fail)
          refine (HEN.out w1 HF1.out).mono ?_
          rintro e w2 ⟨u, rfl, ho, hf⟩
          obtain ⟨g, cp, e, hg, g1, g2, -⟩ := ho.shape (by rw [HLE.out]; omega)
          subst e
          rw [HLE.out] at ho g1 ⊢
          have HF2 := Lib.hid (HF1.out.trans hf)
          have hs1 := HF1.out.size
          have HO2 := Lib.hid (ho.base hs1)
          have hgw : w.heap.size ≤ g := by omega
          unfold maxLen at g2
          have hgl := (ho.lt g rfl).2
          have hs2 := HF2.out.size
          clear hf ho hg hs1 HF1
          go_wp2_with fail
          refine mk2_reg w2 _ NN rfl (by omega) rfl _ ?_
          intro b p gb hb q1 q2 q3 q10 q11 hf a1 a2 l1 l2 hne
          have hb2 := old_puts b _ [62, 63, 64, 65, 10, 11] q1 q2 q3
          simp only [List.foldl_cons, List.foldl_nil] at hb2
          rw [q10, q11] at hb2
          have HA := Lib.hid a1
          have HAh := Lib.hid a2
          have HO3 := Lib.hid (HO2.out.keep hf (by simp))
          have HF3 := Lib.hid (HF2.out.trans hf)
          have hs3 := hf.size
          have la := a1.lt
          have lb := a2.lt
          clear q1 q2 q3 q10 q11 hf a1 a2 HO2 HF2
          generalize slot b 62 = u62 at hb2
          generalize slot b 63 = u63 at hb2
          generalize slot b 64 = u64 at hb2
          generalize slot b 65 = u65 at hb2
          subst hb2
          simp only [Go.Act.put, List.setIfInBounds_toArray, List.set_cons_succ, List.set_cons_zero]
          have hwgb : w.heap.size ≤ gb := by omega
          have hwhb : w.heap.size ≤ hb := by omega
          have hggb : g ≠ gb := by omega
          have hghb : g ≠ hb := by omega
          have fa : Fr [] p (p.alloc (.cells #[] 3)) := Fr.alloc _ _
          have HI := Lib.hid (show OwnI 3 p.heap.size (p.alloc (.cells #[] 3)) (.slice (some ⟨p.heap.size, 0, none⟩) 0 0) (intL []) from OwnV.lit 3 p.heap.size p #[] (Nat.le_refl _) (by simp [maxLen]))
          have HA2 := Lib.hid (HA.out.keep0 fa)
          have HAh2 := Lib.hid (HAh.out.keep0 fa)
          have HO4 := Lib.hid (HO3.out.keep fa (by simp))
          have HF4 := Lib.hid (HF3.out.trans fa)
          have HZ := Lib.hid (show p.heap.size ≤ (p.alloc (.cells #[] 3)).heap.size by simp)
          obtain ⟨Z, hZ⟩ : ∃ Z, p.heap.size = Z := ⟨_, rfl⟩
          rw [hZ] at HI hs3 la lb HZ
          have hzz := Lib.hid hZ
          have hgZ : g < Z := by omega
          have hwZ : w.heap.size ≤ Z := by omega
          clear fa HA HAh HO3 HF3 l1 l2 hs2 hgl hs3
          go_wp2
          go_loopw [12, 69] (fun pv i wr => ∃ (k : Nat) (ps : List Nat) (ws : List UInt8), k ≤ ME ∧ i = .int .i64 k ∧ ps.length ≤ k ∧ Hid (Gone NN enc ps ws) ∧ Hid (OwnI 3 Z wr pv (intL ps)) ∧ Hid (OwnB 5 w.heap.size wr (.slice (some ⟨g, 0, none⟩) NN cp) ws) ∧ Hid (At wr gb (.cells (boolC (inL NN ps)) 4)) ∧ Hid (At wr hb (.cells (boolC (inL NN [])) 4)) ∧ Hid (Fr [] w wr) ∧ Z ≤ wr.heap.size) (fun _ i _ => ME - (intOf i).toNat)
          case atStart => exact ⟨0, [], enc, by omega, rfl, Nat.le_refl _, Gone.start HLE.out, HI, HO4, HA2, HAh2, HF4, HZ.out⟩
          case round =>
            clear HI HO4 HA2 HAh2 HF4 HZ
            obtain ⟨k, ps, ws, hk, rfl, hps, HG, HI, HO, HA, HAh, HF, hzs⟩ := hrel
            obtain ⟨wl, rfl⟩ : ∃ wl, wl = wr := ⟨wr, rfl⟩
            by_cases hkm : k < ME
            · have hki : (k : Int) < ME := by omega
              obtain ⟨x, hx⟩ : ∃ x, el[k]? = some x := ⟨_, List.getElem?_eq_getElem (by have := HME.out; omega)⟩
              obtain ⟨xb, xo, rfl, hx0, hx1⟩ := (HEL.out.keep HF.out).cell k x hx
              obtain ⟨pl, by_⟩ := x
              dsimp only at hx0 hx1
              clear hx
              obtain ⟨p, hp, hpp⟩ := pl_at pl NN (by omega) h255
              have fa : Fr [] wl (wl.alloc (.cells #[.int .i64 pl, .int .u8 (by_.toNat : Int)] 57)) := Fr.alloc _ _
              have HA2 := Lib.hid (HA.out.keep0 fa)
              have HAh2 := Lib.hid (HAh.out.keep0 fa)
              have HO2 := Lib.hid (HO.out.keep fa (by simp))
              have HF2 := Lib.hid (HF.out.trans fa)
              have HI2 := Lib.hid (HI.out.keep0 fa)
              have hcb := bool_cell HA2.out hp
              have hch := bool_cell HAh2.out hp
              have HBX := Lib.hid (show At (wl.alloc (.cells #[.int .i64 pl, .int .u8 (by_.toNat : Int)] 57)) wl.heap.size (.cells #[.int .i64 pl, .int .u8 (by_.toNat : Int)] 57) from At.new rfl)
              have hz2 : Z ≤ (wl.alloc (.cells #[.int .i64 pl, .int .u8 (by_.toNat : Int)] 57)).heap.size := by simp; omega
              clear fa HA HAh HO HF HI
              by_cases hpp2 : p ∈ ps
              · rw [decide_eq_true hpp2] at hcb
                clear hpp2 hch
                go_wp2
                go_roundw
                case rel => exact ⟨k + 1, ps, ws, by omega, by go_num, by omega, HG, HI2, HO2, HA2, HAh2, HF2, hz2⟩
                case measure => simp [intOf]; omega
              · rw [decide_eq_false hpp2] at hcb
                have HPH := Lib.hid hpp2
                have HSZ1 := Lib.hid (show p < (boolC (inL NN ps)).size by rw [boolC_len, inL_len]; exact hp)
                clear hpp2 hch
                go_wp2_with (refine wpl_store_one (.tmp 87) (.const (.bool true)) rfl rfl (.bool true) rfl rfl HA2.out HSZ1.out (by kernel_rfl) rfl ?_)
                intro w6 f6 a6 s6
                have HA6 := Lib.hid (bool_set a6 hp)
                have HAh6 := Lib.hid (HAh2.out.keep f6 (by simpa using hne.symm))
                have HO6 := Lib.hid (OwnB_keep_at HO2.out f6 (by simpa using hggb))
                have HI6 := Lib.hid (HI2.out.keepS f6 (by simpa using la))
                have HF6 := Lib.hid (HF2.out.then f6 (by intro b hb; simp at hb; subst hb; exact .inr hwgb))
                have HBX6 := Lib.hid (HBX.out.keep f6 (by simp; omega))
                have hz6 : Z ≤ w6.heap.size := by omega
                clear f6 a6 s6 HA2 HAh2 HO2 HI2 HF2 hcb HBX HSZ1
                have fb : Fr [] w6 (w6.alloc (.cells #[.int .i64 (p : Int)] 3)) := Fr.alloc _ _
                have HA7 := Lib.hid (HA6.out.keep0 fb)
                have HAh7 := Lib.hid (HAh6.out.keep0 fb)
                have HO7 := Lib.hid (HO6.out.keep fb (by simp))
                have HI7 := Lib.hid (HI6.out.keep0 fb)
                have HF7 := Lib.hid (HF6.out.trans fb)
                have HBX7 := Lib.hid (HBX6.out.keep0 fb)
                have hil : (intL ps).length ≤ 17592186044414 := by rw [intL_len]; omega
                have HIL := Lib.hid hil
                have HG7 := Lib.hid (HG.out.step hp HPH.out (ws.getD p 0 ^^^ by_))
                have HSN := Lib.hid (intL_snoc ps p)
                have HWL := Lib.hid HG.out.wl
                clear fb HBX6 hil HA6 HAh6 HO6 HI6 HF6
                go_wp2_with (at_builtin; refine wpl_append_n Tryd.underlying31 Tryd.infoIntL rfl (.tmp 88) (.tmp 90) rfl rfl rfl (At.new rfl) HI7.out HIL.out (by simp; omega) ?_)
                intro pv8 w8 h8 g8
                rw [← HSN.out] at h8
                have HI8 := Lib.hid h8
                have hF8 : Fr [] w w8 := OwnI.fr HI7.out HF7.out g8 hwZ
                have HF8 := Lib.hid hF8
                have fr8 := grown_fr g8
                have HA8 := Lib.hid (HA7.out.grown g8 (HI7.out.ne la))
                have HAh8 := Lib.hid (HAh7.out.grown g8 (HI7.out.ne lb))
                have HO8 := Lib.hid (OwnB_keep_at HO7.out fr8 (by intro hm; exact HI7.out.ne hgZ (by simpa using hm)))
                have hbc8 := (HBX7.out.grown g8 (own_ne_tyB HI7.out HBX7.out (by decide))).cell 1
                have hz8 : Z ≤ w8.heap.size := by have := fr8.size; simp at this; omega
                have hll := Lib.hid HWL.out
                have hcg : wl.heap.size ≠ g := by omega
                clear h8 g8 hF8 fr8 HA7 HAh7 HO7 HI7 HF7 HBX7
                go_wp2_with fail
                refine lpl_xor1 w8 _ rfl g NN cp p wl.heap.size w.heap.size by_ ws hp (by omega) hll.out hcg rfl rfl rfl HO8.out hbc8 _ ?_
                intro b p1 q1 q2 q3 hf ho
                obtain ⟨f, hb2⟩ := putsX b _ _ q1 q2 q3
                have HO9 := Lib.hid ho
                have HA9 := Lib.hid (HA8.out.keep hf (by simpa using hggb.symm))
                have HAh9 := Lib.hid (HAh8.out.keep hf (by simpa using hghb.symm))
                have HI9 := Lib.hid (HI8.out.keepS hf (by simpa using hgZ))
                have HF9 := Lib.hid (HF8.out.then hf (by intro b hb; simp at hb; subst hb; exact .inr hgw))
                have hz9 : Z ≤ p1.heap.size := by have := hf.size; omega
                clear q1 q2 q3 hf ho HO8 HA8 HAh8 HI8 HF8 hbc8 hll
                subst hb2
                simp only [List.foldl_cons, List.foldl_nil, Go.Act.put, List.setIfInBounds_toArray, List.set_cons_succ, List.set_cons_zero]
                go_wp2
                go_roundw
                case rel => exact ⟨k + 1, ps ++ [p], ws.set p (ws.getD p 0 ^^^ by_), by omega, by go_num, by rw [List.length_append]; simp; omega, HG7, HI9, HO9, HA9, HAh9, HF9, hz9⟩
                case measure => simp [intOf]; omega
            · have hki : ¬ (k : Int) < ME := by omega
              obtain ⟨pa, pc, e, -⟩ := (HI.out.is (A := fun _ => False) (by simp)).shape
              subst e
              rw [intL_len] at HI ⊢
              have HND := Lib.hid HG.out.nd
              have HLT := Lib.hid HG.out.lt
              have HH0 := Lib.hid (Hit.start HG.out)
              obtain ⟨PL, hPL⟩ : ∃ x, ps.length = x := ⟨_, rfl⟩
              have HPL := Lib.hid hPL
              rw [hPL] at HI hps ⊢
              have hPM : PL ≤ ME := by omega
              clear HG hPL
              go_wp2
              go_loopw [105] (fun i wr => ∃ (k : Nat) (hs : List Nat) (ws2 : List UInt8), k ≤ M ∧ i = .int .i64 k ∧ hs.length ≤ k ∧ Hid (Hit NN enc ps hs ws2) ∧ Hid (OwnI 3 Z wr (.slice pa PL pc) (intL ps)) ∧ Hid (OwnB 5 w.heap.size wr (.slice (some ⟨g, 0, none⟩) NN cp) ws2) ∧ Hid (At wr gb (.cells (boolC (inL NN ps)) 4)) ∧ Hid (At wr hb (.cells (boolC (inL NN hs)) 4)) ∧ Hid (Fr [] w wr) ∧ Z ≤ wr.heap.size) (fun i _ => M - (intOf i).toNat)
              case atStart => exact ⟨0, [], ws, by omega, rfl, Nat.le_refl _, HH0, HI, HO, HA, HAh, HF, hzs⟩
              case round =>
                clear HI HO HA HAh HF HH0 hzs hki hk
                obtain ⟨k, hs, ws2, hk, rfl, hhs, HH, HI, HO, HA, HAh, HF, hzs⟩ := hrel
                obtain ⟨wl, rfl⟩ : ∃ wl, wl = wr := ⟨wr, rfl⟩
                by_cases hkm : k < M
                · have hki : (k : Int) < M := by omega
                  obtain ⟨x, hx⟩ : ∃ x, cl[k]? = some x := ⟨_, List.getElem?_eq_getElem (by have := HMM.out; omega)⟩
                  obtain ⟨xb, xo, rfl, hx0, hx1⟩ := (HC.out.keep HF.out).cell k x hx
                  obtain ⟨pl, by_⟩ := x
                  dsimp only at hx0 hx1
                  clear hx
                  obtain ⟨p, hp, hpp⟩ := pl_at pl NN (by omega) h255
                  have fa : Fr [] wl (wl.alloc (.cells #[.int .i64 pl, .int .u8 (by_.toNat : Int)] 57)) := Fr.alloc _ _
                  have HA2 := Lib.hid (HA.out.keep0 fa)
                  have HAh2 := Lib.hid (HAh.out.keep0 fa)
                  have HO2 := Lib.hid (HO.out.keep fa (by simp))
                  have HF2 := Lib.hid (HF.out.trans fa)
                  have HI2 := Lib.hid (HI.out.keep0 fa)
                  have hcb := bool_cell HA2.out hp
                  have hch := bool_cell HAh2.out hp
                  have HBX := Lib.hid (show At (wl.alloc (.cells #[.int .i64 pl, .int .u8 (by_.toNat : Int)] 57)) wl.heap.size (.cells #[.int .i64 pl, .int .u8 (by_.toNat : Int)] 57) from At.new rfl)
                  have hz2 : Z ≤ (wl.alloc (.cells #[.int .i64 pl, .int .u8 (by_.toNat : Int)] 57)).heap.size := by simp; omega
                  clear fa HA HAh HO HF HI
                  by_cases hpp2 : p ∈ ps
                  · rw [decide_eq_true hpp2] at hcb
                    clear hpp2 hch
                    go_wp2
                    go_roundw
                    case rel => exact ⟨k + 1, hs, ws2, by omega, by go_num, by omega, HH, HI2, HO2, HA2, HAh2, HF2, hz2⟩
                    case measure => simp [intOf]; omega
                  · rw [decide_eq_false hpp2] at hcb
                    have HPP := Lib.hid hpp2
                    clear hpp2
                    by_cases hph : p ∈ hs
                    · rw [decide_eq_true hph] at hch
                      clear hph
                      go_wp2
                      go_roundw
                      case rel => exact ⟨k + 1, hs, ws2, by omega, by go_num, by omega, HH, HI2, HO2, HA2, HAh2, HF2, hz2⟩
                      case measure => simp [intOf]; omega
                    · rw [decide_eq_false hph] at hch
                      have HPH := Lib.hid hph
                      clear hph
                      by_cases hb0 : by_ = 0
                      · subst hb0
                        have hcb2 : (wl.alloc (.cells #[.int .i64 pl, .int .u8 0] 57)).cell? ⟨gb, p, none⟩ = some (.bool false) := hcb
                        have hch2 : (wl.alloc (.cells #[.int .i64 pl, .int .u8 0] 57)).cell? ⟨hb, p, none⟩ = some (.bool false) := hch
                        clear hcb hch
                        go_wp2
                        go_roundw
                        case rel => exact ⟨k + 1, hs, ws2, by omega, by go_num, by omega, HH, HI2, HO2, HA2, HAh2, HF2, hz2⟩
                        case measure => simp [intOf]; omega
                      · have hbn : by_.toNat ≠ 0 := fun e => hb0 (UInt8.toNat_inj.1 e)
                        have HB0 := Lib.hid hb0
                        have HSZ1 := Lib.hid (show p < (boolC (inL NN hs)).size by rw [boolC_len, inL_len]; exact hp)
                        clear hb0
                        go_wp2_with (refine wpl_store_one (.tmp 135) (.const (.bool true)) rfl rfl (.bool true) rfl rfl HAh2.out HSZ1.out (by kernel_rfl) rfl ?_)
                        intro w6 f6 a6 s6
                        have HAh6 := Lib.hid (bool_set a6 hp)
                        have HA6 := Lib.hid (HA2.out.keep f6 (by simpa using hne))
                        have HO6 := Lib.hid (OwnB_keep_at HO2.out f6 (by simpa using hghb))
                        have HI6 := Lib.hid (HI2.out.keepS f6 (by simpa using lb))
                        have HF6 := Lib.hid (HF2.out.then f6 (by intro b hb; simp at hb; subst hb; exact .inr hwhb))
                        have hbc6 := (HBX.out.keep f6 (by simp; omega)).cell 1
                        have hz6 : Z ≤ w6.heap.size := by omega
                        have hll := Lib.hid HH.out.wl
                        have hcg : wl.heap.size ≠ g := by omega
                        clear f6 a6 s6 HA2 HAh2 HO2 HI2 HF2 hcb hch HBX HSZ1
                        go_wp2_with fail
                        refine lpl_xor2 w6 _ rfl g NN cp p wl.heap.size w.heap.size by_ ws2 hp (by omega) hll.out hcg rfl rfl rfl HO6.out hbc6 _ ?_
                        intro b p1 q1 q2 q3 hf ho
                        obtain ⟨f, hb2⟩ := putsX b _ _ q1 q2 q3
                        have HO9 := Lib.hid ho
                        have HA9 := Lib.hid (HA6.out.keep hf (by simpa using hggb.symm))
                        have HAh9 := Lib.hid (HAh6.out.keep hf (by simpa using hghb.symm))
                        have HI9 := Lib.hid (HI6.out.keepS hf (by simpa using hgZ))
                        have HF9 := Lib.hid (HF6.out.then hf (by intro b hb; simp at hb; subst hb; exact .inr hgw))
                        have hz9 : Z ≤ p1.heap.size := by have := hf.size; omega
                        have HH9 := Lib.hid (HH.out.step hp HPP.out HPH.out by_ HB0.out)
                        clear q1 q2 q3 hf ho HO6 HA6 HAh6 HI6 HF6 hbc6 hll
                        subst hb2
                        simp only [List.foldl_cons, List.foldl_nil, Go.Act.put, List.setIfInBounds_toArray, List.set_cons_succ, List.set_cons_zero]
                        go_wp2
                        go_roundw
                        case rel => exact ⟨k + 1, hs ++ [p], ws2.set p (ws2.getD p 0 ^^^ by_), by omega, by go_num, by rw [List.length_append]; simp; omega, HH9, HI9, HO9, HA9, HAh9, HF9, hz9⟩
                        case measure => simp [intOf]; omega
                · have hki : ¬ (k : Int) < M := by omega
                  have hwl := HH.out.wl
                  have hB := HH.out.bent HND.out HLT.out h255 HLE.out HES.out
                  have hhl := hits_len HH.out
                  have hF := finds hB h33 (by rw [hhl, HPL.out]; omega)
                  have hroot : ∀ p, p < NN → (pev (fLoc (synL ws2) (NN : Int) (intL ps)) (ginv (plX NN p)) = 0 ↔ (p ∈ ps ∨ p ∈ hs)) := fun p hp => by
                    rw [hF.er.root hB p hp, mem_allP, ← mem_hits, hits_hit HH.out]
                    exact Or.comm
                  have hsl := synL_len ws2
                  have HOF := Lib.hid (of_any wl (.slice (some ⟨g, 0, none⟩) NN cp) ws2 (HO.out.bs (by simp)) (by omega) (by omega))
                  obtain ⟨s, hss⟩ : ∃ s, synL ws2 = s := ⟨_, rfl⟩
                  rw [hss] at hF hroot hsl HOF
                  have HFI := Lib.hid (fun w' (h : Fr [] wl w') => find_good L E B w' s (.slice pa PL pc) (NN : Int) (intL ps) hsl (HE.out.keep0 (HF.out.trans h)) HM.out.1 HM.out.2.1 HM.out.2.2.1 HM.out.2.2.2 ((HI.out.keep0 h).is (by simp)) (by omega) hF.bad hF.lost)
                  obtain ⟨LG, hLG⟩ : ∃ x : Int, (regL (fRow s (NN : Int) (intL ps)) : Int) = x := ⟨_, rfl⟩
                  rw [hLG] at HFI
                  obtain ⟨loc, hloc⟩ : ∃ x, fLoc s (NN : Int) (intL ps) = x := ⟨_, rfl⟩
                  rw [hloc] at HFI hroot
                  have HRT := Lib.hid hroot
                  have hsz : (s.map u8v).toArray.size = 32 := by simp [hsl]
                  have HONE := Lib.hid (cells_one s)
                  obtain ⟨SC, hSC⟩ : ∃ c, (s.map u8v).toArray = c := ⟨_, rfl⟩
                  rw [hSC] at HOF HFI hsz HONE
                  have HSZ := Lib.hid hsz
                  clear hwl hB hhl hF hroot hsl hss hLG hloc hsz hSC HH HO HI
                  go_wp2_with (go_at_call 30; fail)
                  refine HOF.out.mono ?_
                  rintro e w8 ⟨rfl, hf⟩
                  have HF8 := Lib.hid hf
                  clear hf HOF
                  go_wp2_with (first | (refine wpl_store_new (.tmp 19) (.tmp 150) rfl rfl SC rfl rfl (by rw [HSZ.out]; kernel_rfl) (by rw [HSZ.out]; rfl) HONE.out ?_) | (refine wpl_load_rowG (.tmp 19) rfl rfl w8.heap.size SC rfl (At.new rfl) Tryd.underlying42 rfl (by rw [HSZ.out]; kernel_rfl) ?_) | (go_at_call 25; fail))
                  have fa : Fr [] w8 (w8.alloc (.cells SC 42)) := Fr.alloc _ _
                  have HF8a := Lib.hid (HF8.out.trans fa)
                  clear fa
                  refine (HFI.out _ HF8a.out).mono ?_
                  rintro e w9 ⟨lu, ev, rfl, hlu, hle, hf⟩
                  obtain ⟨ua, uc, e, -⟩ := hlu.bs (A := fun _ => False) (by simp)
                  subst e
                  obtain ⟨ea2, ec2, e, -⟩ := hle.bs (A := fun _ => False) (by simp)
                  obtain ⟨EN, hEN⟩ : ∃ x, (fEv s (NN : Int) (intL ps)).length = x := ⟨_, rfl⟩
                  rw [hEN] at e
                  have HEV := Lib.hid e
                  obtain ⟨UN, hUN⟩ : ∃ x, loc.length = x := ⟨_, rfl⟩
                  rw [hUN] at hlu ⊢
                  subst e
                  have fb : Fr [] w9 (w9.alloc (.cells #[.int .i64 LG, .slice ua UN uc, .slice ea2 EN ec2] 46)) := Fr.alloc _ _
                  have HBF := Lib.hid (show At (w9.alloc (.cells #[.int .i64 LG, .slice ua UN uc, .slice ea2 EN ec2] 46)) w9.heap.size (.cells #[.int .i64 LG, .slice ua UN uc, .slice ea2 EN ec2] 46) from At.new rfl)
                  have HLU := Lib.hid (((hlu.keep fb (by simp)).bs (A := fun _ => False) (by simp)))
                  have HFz := Lib.hid ((HF8a.out.trans hf).trans fb)
                  have HAz := Lib.hid (HA.out.keep0 HFz.out)
                  have HAhz := Lib.hid (HAh.out.keep0 HFz.out)
                  have HFw := Lib.hid (HF.out.trans HFz.out)
                  clear hf hlu hle hEN hUN HEV fb HF8a HF8 HFI HF HA HAh HFz
                  go_wp2_with (refine wpl_store_new (.tmp 20) (.tmp 159) rfl rfl #[.int .i64 LG, .slice ua UN uc, .slice ea2 EN ec2] rfl rfl (by kernel_rfl) rfl (by rfl) ?_)
                  obtain ⟨wz, hwz⟩ : ∃ x, w9.alloc (.cells #[.int .i64 LG, .slice ua UN uc, .slice ea2 EN ec2] 46) = x := ⟨_, rfl⟩
                  rw [hwz] at HBF HLU HAz HAhz HFw ⊢
                  obtain ⟨fbk, hfb⟩ : ∃ x, w9.heap.size = x := ⟨_, rfl⟩
                  rw [hfb] at HBF ⊢
                  clear hwz hfb
                  go_loopw [21] (fun x wr => ∃ k : Nat, k ≤ NN ∧ x = .int .i64 k ∧ Hid (Fr [] wz wr)) (fun x _ => NN - (intOf x).toNat)
                  case atStart => exact ⟨0, by omega, rfl, Fr.refl _ _⟩
                  case round =>
                    clear hki hk hhs hzs hkm
                    obtain ⟨k, hk, rfl, HF⟩ := hrel
                    obtain ⟨wl, rfl⟩ : ∃ wl, wl = wr := ⟨wr, rfl⟩
                    by_cases hkn : k < NN
                    · have hki : (k : Int) < NN := by omega
                      have HPW := Lib.hid (r3power_any wl NN k h255 hkn)
                      have HRK := Lib.hid (HRT.out k hkn)
                      have hx0 := plX_ne NN k
                      obtain ⟨x, hx⟩ : ∃ x, plX NN k = x := ⟨_, rfl⟩
                      rw [hx] at HPW HRK hx0
                      have HR1 := Lib.hid (rootB_one x loc)
                      have HRS := Lib.hid (rootB_succ x loc)
                      have HRE := Lib.hid (rootB_end x loc hx0)
                      obtain ⟨RB, hRB⟩ : ∃ f, rootB x loc = f := ⟨_, rfl⟩
                      rw [hRB] at HR1 HRS HRE
                      have HKN := Lib.hid hkn
                      clear hx hx0 hRB
                      go_wp2_with (go_at_call 31; fail)
                      refine HPW.out.mono ?_
                      rintro e w4 ⟨rfl, hf⟩
                      have HF4 := Lib.hid (HF.out.trans hf)
                      clear hf HF HPW
                      go_wp2
                      go_loopw [23, 24] (fun r y wr => ∃ j : Nat, 1 ≤ j ∧ j ≤ 256 ∧ y = .int .i64 j ∧ r = .bool (RB j) ∧ Hid (Fr [] wz wr)) (fun _ y _ => 256 - (intOf y).toNat)
                      case atStart => exact ⟨1, Nat.le_refl _, by omega, rfl, by rw [HR1.out], HF4⟩
                      case round =>
                        clear HF4
                        obtain ⟨j, hj1, hj, rfl, rfl, HF⟩ := hrel
                        obtain ⟨wm, rfl⟩ : ∃ wm, wm = wr := ⟨wr, rfl⟩
                        by_cases hjn : j < 256
                        · have hji : (j : Int) < 256 := by omega
                          obtain ⟨y, hy⟩ : ∃ y, UInt8.ofNat j = y := ⟨_, rfl⟩
                          have hyj : y.toNat = j := by rw [← hy, UInt8.toNat_ofNat']; omega
                          have hw8 : IntKind.u8.wrap (j : Int) = (j : Int) := by
                            simp [IntKind.wrap, IntKind.bits, IntKind.signed]; omega
                          have HS := Lib.hid (HRS.out j hj1)
                          rw [hy] at HS
                          have fa : Fr [] wm (wm.alloc (.cells #[.int .u8 1, .int .u8 (x.toNat : Int)] 5)) := Fr.alloc _ _
                          have HFa := Lib.hid (HF.out.trans fa)
                          have hpb : Bs (fun _ => False) (wm.alloc (.cells #[.int .u8 1, .int .u8 (x.toNat : Int)] 5)) (.slice (some ⟨wm.heap.size, 0, none⟩) 2 2) [1, x] := by
                            have h : Row (fun _ => False) (wm.alloc (.cells #[.int .u8 1, .int .u8 (x.toNat : Int)] 5)) (some ⟨wm.heap.size, 0, none⟩) (#[.int .u8 1, .int .u8 (x.toNat : Int)] : Array Value).toList := Row.of_block (At.new rfl) (by simp)
                            exact ⟨_, 2, rfl, by simp, by simp [maxLen], h⟩
                          have HV1 := Lib.hid (reval_any (fun _ => False) _ _ [1, x] y hpb)
                          have HV2 := Lib.hid (fun w' (h : Fr [] wz w') => reval_any (fun _ => False) w' _ loc y (HLU.out.keep h (by simp)))
                          rw [hyj] at HV1 HV2
                          obtain ⟨e1, he1⟩ : ∃ e, pev [1, x] y = e := ⟨_, rfl⟩
                          obtain ⟨e2, he2⟩ : ∃ e, pev loc y = e := ⟨_, rfl⟩
                          rw [he1] at HV1 HS
                          rw [he2] at HV2 HS
                          obtain ⟨rb, hrb⟩ : ∃ b, RB j = b := ⟨_, rfl⟩
                          rw [hrb] at HS ⊢
                          clear hy hyj fa hpb he1 he2 hrb HF
                          go_wp2_with (go_at_call 32; fail)
                          refine HV1.out.mono ?_
                          rintro e w5 ⟨rfl, hf⟩
                          have HF5 := Lib.hid (HFa.out.trans hf)
                          clear hf HFa HV1
                          by_cases h1 : e1 = 0
                          · subst h1
                            cases rb with
                            | true =>
                              go_wp2
                              go_roundw
                              case rel => exact ⟨j + 1, by omega, by omega, by go_num, by rw [HS.out]; simp, HF5⟩
                              case measure => simp [intOf]; omega
                            | false =>
                              have hc1 := (HBF.out.keep0 HF5.out).cell 1
                              simp only [List.getElem?_toArray, List.getElem?_cons_zero, List.getElem?_cons_succ] at hc1
                              go_wp2_with (go_at_call 32; fail)
                              refine (HV2.out w5 HF5.out).mono ?_
                              rintro e w6 ⟨rfl, hf⟩
                              have HF6 := Lib.hid (HF5.out.trans hf)
                              clear hf HF5 HV2 hc1
                              by_cases h2 : e2 = 0
                              · subst h2
                                go_wp2
                                go_roundw
                                case rel => exact ⟨j + 1, by omega, by omega, by go_num, by rw [HS.out]; simp, HF6⟩
                                case measure => simp [intOf]; omega
                              · have h2n : e2.toNat ≠ 0 := fun e => h2 (UInt8.toNat_inj.1 e)
                                have HS2 := Lib.hid (show RB (j + 1) = false by rw [HS.out]; simp [h2])
                                clear h2
                                go_wp2
                                go_roundw
                                case rel => exact ⟨j + 1, by omega, by omega, by go_num, by rw [HS2.out]; simp [h2n], HF6⟩
                                case measure => simp [intOf]; omega
                          · have h1n : e1.toNat ≠ 0 := fun e => h1 (UInt8.toNat_inj.1 e)
                            have HS2 := Lib.hid (show RB (j + 1) = rb by rw [HS.out]; simp [h1])
                            clear h1
                            cases rb with
                            | true =>
                              go_wp2
                              go_roundw
                              case rel => exact ⟨j + 1, by omega, by omega, by go_num, by rw [HS2.out], HF5⟩
                              case measure => simp [intOf]; omega
                            | false =>
                              go_wp2
                              go_roundw
                              case rel => exact ⟨j + 1, by omega, by omega, by go_num, by rw [HS2.out], HF5⟩
                              case measure => simp [intOf]; omega
                        · have hji : ¬ (j : Int) < 256 := by omega
                          obtain rfl : j = 256 := by omega
                          have hcb := bool_cell (HAz.out.keep0 HF.out) HKN.out
                          have hch := bool_cell (HAhz.out.keep0 HF.out) HKN.out
                          by_cases hg : k ∈ ps
                          · rw [decide_eq_true hg] at hcb
                            have hr : RB 256 = true := by rw [HRE.out]; exact decide_eq_true (HRK.out.2 (.inl hg))
                            rw [hr]
                            clear hg hr hch
                            go_wp2
                            go_roundw
                            case rel => exact ⟨k + 1, by omega, by go_num, HF⟩
                            case measure => simp [intOf]; omega
                          · rw [decide_eq_false hg] at hcb
                            by_cases hh : k ∈ hs
                            · rw [decide_eq_true hh] at hch
                              have hr : RB 256 = true := by rw [HRE.out]; exact decide_eq_true (HRK.out.2 (.inr hh))
                              rw [hr]
                              clear hg hh hr
                              go_wp2
                              go_roundw
                              case rel => exact ⟨k + 1, by omega, by go_num, HF⟩
                              case measure => simp [intOf]; omega
                            · rw [decide_eq_false hh] at hch
                              have hr : RB 256 = false := by rw [HRE.out]; exact decide_eq_false (fun h => (HRK.out.1 h).elim hg hh)
                              rw [hr]
                              clear hg hh hr
                              go_wp2
                              go_roundw
                              case rel => exact ⟨k + 1, by omega, by go_num, HF⟩
                              case measure => simp [intOf]; omega
                    · have hki : ¬ (k : Int) < NN := by omega
                      have HFE := Lib.hid (HFw.out.trans HF.out)
                      clear HF
                      go_wp2
                      go_ret
                      exact ⟨rfl, HFE.out⟩
      · have hci : (32 : Int) < 2 * M + ME := by omega
        go_enter Tryd.func6, Tryd.ntmps6
        go_wp2_with (go_at_call 12; fail)
        refine (alive04_any w).mono ?_
        rintro e w1 ⟨rfl, hf⟩
        have HF1 := Lib.hid hf
        clear hf
        go_wp2
        go_ret
        exact ⟨rfl, HF1.out⟩
    · have hei : (32 : Int) < ME := by omega
      go_enter Tryd.func6, Tryd.ntmps6
      go_wp2_with (go_at_call 12; fail)
      refine (alive04_any w).mono ?_
      rintro e w1 ⟨rfl, hf⟩
      have HF1 := Lib.hid hf
      clear hf
      go_wp2
      go_ret
      exact ⟨rfl, HF1.out⟩
  · have hdi : (223 : Int) < N := by omega
    go_enter Tryd.func6, Tryd.ntmps6
    go_wp2_with (go_at_call 12; fail)
    refine (alive04_any w).mono ?_
    rintro e w1 ⟨rfl, hf⟩
    have HF1 := Lib.hid hf
    clear hf
    go_wp2
    go_ret
    exact ⟨rfl, HF1.out⟩
end Go.Proofs.YtfblhdomjnffcaaDoor
