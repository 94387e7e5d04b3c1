/-
  Layer 5: repair.Amount: what is added at a place.
  Layers 3 and 5: code.Differ.
  Layer 5: repair.mended: a word with what is added at the places that were found.
-/
import Derived.Test.YtmohiblgfmdkjaaDoorAmR
import Derived.Test.YtmohiblgfmdkjaaDoorHA
import Derived.ChangeKeysEq
import Derived.Test.YtmohiblgfmdkjaaDoorQui
import Derived.Test.YtmohiblgfmdkjaaDoorJO
import Derived.Test.YtmohiblgfmdkjaaDoorHW
import Derived.Test.YtmohiblgfmdkjaaDoorGN
namespace Go.Proofs.YtmohiblgfmdkjaaDoor
open Go.RowKit Go.Bl
set_option linter.unusedVariables false
/-- the slope at a place, and what is added there -/
def slpV (loc : List UInt8) (n p : Nat) : UInt8 := pev (slp loc) (ginv (plX n p))
def amtV (loc ev : List UInt8) (n p : Nat) : UInt8 := gmul (plX n p) (gmul (pev ev (ginv (plX n p))) (ginv (slpV loc n p)))
set_option maxRecDepth 100000 in
set_option maxHeartbeats 2000000 in
theorem amount_any (L : List Nat) (E : Nat → Addr) (B : Nat) (w : World) (lg : Int) (U V : Value) (loc ev : List UInt8) (n p : Nat) (hE : Errs L E B w) (m20 : 20 ∈ L) (h1 : 33 ≤ n) (h2 : n ≤ 255) (hp : p < n) (hU : BwI w.heap.size w U loc) (hUb : Bs (fun _ => False) w U loc) (hV : BwI w.heap.size w V ev) (hl1 : loc.length ≤ 1000) (hl2 : ev.length ≤ 1000) :
    Calls Tryd.prog 91 #[.agg #[.int .i64 lg, U, V], .int .i64 n, .int .i64 p] w fun e w' => e = .returned (if slpV loc n p = 0 then .tuple #[.int .u8 0, errv E 20] else .tuple #[.int .u8 ((amtV loc ev n p).toNat : Int), .nilIface]) ∧ Fr [] w w' := by
  obtain ⟨ua, uc, rfl⟩ := hU.bs
  obtain ⟨ea, ec, rfl⟩ := hV.bs
  have HPS := Lib.hid (fun w => psized_any w n)
  rw [decide_eq_true (show 33 ≤ (n : Int) ∧ (n : Int) ≤ 255 by omega)] at HPS
  have HIN := Lib.hid (fun w => inverse_any w n p h1 h2 hp)
  have HPW := Lib.hid (fun w => cpower_any w n p h1 h2 hp)
  have HEV := Lib.hid (fun w' (h : Fr [] w w') y => eval_z w' _ ev y (hV.fr h) (by omega))
  have HSL := Lib.hid (fun w' (h : Fr [] w w') => slope_any (fun _ => False) w' _ loc (hUb.keep h (by simp)) hl1)
  have HES := Lib.hid (show ∀ w' v (base : Nat) y, OwnB 5 base w' v (ptrim (slp loc)) → Calls Tryd.prog 111 #[v, .int .u8 (y.toNat : Int)] w' fun e w'' => e = .returned (.int .u8 ((pev (slp loc) y).toNat : Int)) ∧ Fr [] w' w'' from fun w' v base y ho => by
    have h := eval_z w' v (ptrim (slp loc)) y (bwI_own ho) (by rw [ptrim_length]; have := plen_le (slp loc); have e : (slp loc).length = loc.length := by simp [slp]
                                                               omega)
    rwa [pev_ext (cf_trim (slp loc))] at h)
  have HZ := Lib.hid (fun w' (h : Fr [] w w') a => fdiv_zero L E B w' a (hE.keep0 h) m20)
  unfold amtV
  obtain ⟨sv, hsv⟩ : ∃ x, slpV loc n p = x := ⟨_, rfl⟩
  have HSV := Lib.hid hsv
  rw [hsv]
  unfold slpV at hsv
  obtain ⟨x, hx⟩ : ∃ x, plX n p = x := ⟨_, rfl⟩
  rw [hx] at HIN HPW hsv ⊢
  obtain ⟨y, hy⟩ : ∃ y, ginv x = y := ⟨_, rfl⟩
  rw [hy] at HIN hsv ⊢
  have HES2 := Lib.hid (fun w' v base h => HES.out w' v base y h)
  rw [hsv] at HES2
  have HEV2 := Lib.hid (fun w' h => HEV.out w' h y)
  obtain ⟨av, hav⟩ : ∃ x, pev ev y = x := ⟨_, rfl⟩
  rw [hav] at HEV2 ⊢
  obtain ⟨sl, hsl⟩ : ∃ x, ptrim (slp loc) = x := ⟨_, rfl⟩
  rw [hsl] at HSL HES2
  obtain ⟨UN, hUN⟩ : ∃ x, loc.length = x := ⟨_, rfl⟩
  obtain ⟨EN, hEN⟩ : ∃ x, ev.length = x := ⟨_, rfl⟩
  rw [hUN] at HSL hl1 ⊢
  rw [hEN] at HEV2 hl2 ⊢
  have hpn : ¬ (n : Int) ≤ p := by omega
  have hp0 : ¬ (p : Int) < 0 := by omega
  have fa : Fr [] w (w.alloc (.cells #[.int .i64 lg, .slice ua UN uc, .slice ea EN ec] 152)) := Fr.alloc _ _
  have HFa := Lib.hid fa
  have HBa := Lib.hid (show At (w.alloc (.cells #[.int .i64 lg, .slice ua UN uc, .slice ea EN ec] 152)) w.heap.size (.cells #[.int .i64 lg, .slice ua UN uc, .slice ea EN ec] 152) from At.new rfl)
  clear hE hU hUb hV HEV HES hsv hx hy hav hsl hUN hEN fa
  by_cases hs0 : sv = 0
  · subst hs0
    rw [if_pos rfl]
    have x20 : errv E 20 = .iface 261 (.pointer (some (E 20))) := errv_pos E 20 (by decide)
    rw [x20] at HZ ⊢
    clear x20
    go_enter Tryd.func91, Tryd.ntmps91
    go_wp2_with (go_at_call 110; fail)
    refine (HPS.out _).mono ?_
    rintro e w1 ⟨rfl, rfl⟩
    go_wp2_with (go_at_call 112; fail)
    refine (HIN.out _).mono ?_
    rintro e w2 ⟨rfl, hf⟩
    have HF2 := Lib.hid (HFa.out.trans hf)
    have HB2 := Lib.hid (HBa.out.keep0 hf)
    clear hf HBa HFa HIN HPS
    go_wp2_with fail
    refine amo_reg w2 _ rfl w.heap.size UN uc EN ec ua ea y av 0 (.int .u8 0) (.iface 261 (.pointer (some (E 20)))) sl (HB2.out.cell 1) (HB2.out.cell 2) (fun p hp => HEV2.out p (HF2.out.trans hp)) (fun p hp => HSL.out p (HF2.out.trans hp)) (fun p v hp ho => HES2.out p v _ ho) (fun p hp => HZ.out p (HF2.out.trans hp) av) rfl rfl _ ?_
    intro b p3 q1 q2 q3 q4 q5 hf
    have HF3 := Lib.hid (HF2.out.trans hf)
    rw [frame49 b q2 q1, q4, q5]
    clear hf
    go_wp2
    go_ret2
    exact ⟨rfl, HF3.out⟩
  · have hdv := fun w => fdiv_any w av sv hs0
    rw [if_neg hs0]
    have HDV := Lib.hid hdv
    clear hs0 hdv
    obtain ⟨q, hq⟩ : ∃ q, gmul av (ginv sv) = q := ⟨_, rfl⟩
    have HMU := Lib.hid (fun w => fmul_any w x q)
    rw [hq] at HDV ⊢
    clear hq
    obtain ⟨r, hr⟩ : ∃ r, gmul x q = r := ⟨_, rfl⟩
    rw [hr] at HMU ⊢
    clear hr
    go_enter Tryd.func91, Tryd.ntmps91
    go_wp2_with (go_at_call 110; fail)
    refine (HPS.out _).mono ?_
    rintro e w1 ⟨rfl, rfl⟩
    go_wp2_with (go_at_call 112; fail)
    refine (HIN.out _).mono ?_
    rintro e w2 ⟨rfl, hf⟩
    have HF2 := Lib.hid (HFa.out.trans hf)
    have HB2 := Lib.hid (HBa.out.keep0 hf)
    clear hf HBa HFa HIN HPS
    go_wp2_with fail
    refine amo_reg w2 _ rfl w.heap.size UN uc EN ec ua ea y av sv (.int .u8 (q.toNat : Int)) .nilIface sl (HB2.out.cell 1) (HB2.out.cell 2) (fun p hp => HEV2.out p (HF2.out.trans hp)) (fun p hp => HSL.out p (HF2.out.trans hp)) (fun p v hp ho => HES2.out p v _ ho) (fun p hp => HDV.out p) rfl rfl _ ?_
    intro b p3 q1 q2 q3 q4 q5 hf
    have HF3 := Lib.hid (HF2.out.trans hf)
    have t1 : slot b 1 = .int .i64 n := q3 1 (by decide)
    have t2 : slot b 2 = .int .i64 p := q3 2 (by decide)
    rw [frame49 b q2 q1, q4, q5, t1, t2]
    clear hf t1 t2
    go_wp2_with (go_at_call 105; fail)
    refine (HPW.out p3).mono ?_
    rintro e w4 ⟨rfl, hf⟩
    have HF4 := Lib.hid (HF3.out.trans hf)
    clear hf
    go_wp2_with (go_at_call 115; fail)
    refine (HMU.out w4).mono ?_
    rintro e w5 ⟨rfl, hf⟩
    have HF5 := Lib.hid (HF4.out.trans hf)
    clear hf
    go_wp2
    go_ret2
    exact ⟨rfl, HF5.out⟩
end Go.Proofs.YtmohiblgfmdkjaaDoor
namespace Go.Proofs.YtmohiblgfmdkjaaDoor
open Go.RowKit Go.Bl
set_option linter.unusedVariables false
/-- the places at which two words differ, below k -/
def dfrK (xs ys : List UInt8) (k : Nat) : List Nat := (List.range k).filter fun p => decide (cf xs p ≠ cf ys p)
theorem dfrK_up (xs ys : List UInt8) (k : Nat) : dfrK xs ys (k + 1) = dfrK xs ys k ++ (if cf xs k = cf ys k then [] else [k]) := by
  unfold dfrK
  rw [List.range_succ, List.filter_append]
  congr 1
  by_cases h : cf xs k = cf ys k
  · simp [h]
  · simp [h]
theorem dfrK_le (xs ys : List UInt8) (k : Nat) : (dfrK xs ys k).length ≤ k := by
  have := List.length_filter_le (fun p => decide (cf xs p ≠ cf ys p)) (List.range k)
  rwa [List.length_range] at this
set_option maxRecDepth 100000 in
set_option maxHeartbeats 2000000 in
theorem differ_any (w : World) (v u : Value) (xs ys : List UInt8) (hx : Bs (fun _ => False) w v xs) (hy : Bs (fun _ => False) w u ys) (hl : ys.length = xs.length) (hn : xs.length ≤ 1000000) :
    Calls Tryd.prog 70 #[v, u] w fun e w' => ∃ r, e = .returned r ∧ OwnI 3 w.heap.size w' r (intL (dfrK xs ys xs.length)) ∧ Fr [] w w' := by
  have HX := Lib.hid hx
  have HY := Lib.hid hy
  obtain ⟨xa, xc, rfl, x2, x3, -⟩ := id hx
  obtain ⟨ya, yc, rfl, y2, y3, -⟩ := id hy
  unfold maxLen at x3 y3
  have HUP := Lib.hid (dfrK_up xs ys)
  have HLE := Lib.hid (dfrK_le xs ys)
  obtain ⟨D, hD⟩ : ∃ f, dfrK xs ys = f := ⟨_, rfl⟩
  have HD0 := Lib.hid (show D 0 = [] by rw [← hD]; rfl)
  rw [hD] at HUP HLE ⊢
  rw [hl] at HY y2 ⊢
  have HLY := Lib.hid hl
  obtain ⟨N, hN⟩ : ∃ N, xs.length = N := ⟨_, rfl⟩
  have HN := Lib.hid hN
  rw [hN] at HX HY x2 y2 hn HLY ⊢
  clear hx hy hD hl hN
  go_enter Tryd.func70, Tryd.ntmps70
  go_wp2
  go_loopw [5, 15] (fun o i wr => ∃ k : Nat, k ≤ N ∧ i = .int .i64 k ∧ Hid (OwnI 3 w.heap.size wr o (intL (D k))) ∧ Hid (Fr [] w wr)) (fun _ i _ => N - (intOf i).toNat)
  case atStart => exact ⟨0, by omega, rfl, by rw [HD0.out]; exact OwnI.nil _ _ _, Fr.refl _ _⟩
  case round =>
    obtain ⟨k, hk, rfl, HO, HF⟩ := hrel
    obtain ⟨wl, rfl⟩ : ∃ wl, wl = wr := ⟨wr, rfl⟩
    by_cases hkn : k < N
    · have hki : (k : Int) < N := by omega
      obtain ⟨x, hx⟩ : ∃ x, xs[k]? = some x := ⟨_, List.getElem?_eq_getElem (by have := HN.out; omega)⟩
      obtain ⟨y, hy⟩ : ∃ y, ys[k]? = some y := ⟨_, List.getElem?_eq_getElem (by have := HLY.out; omega)⟩
      obtain ⟨xb, xo, rfl, hxc⟩ := bs_cell HX.out k x hx
      obtain ⟨yb, yo, rfl, hyc⟩ := bs_cell HY.out k y hy
      have hxc2 := cell_mono HF.out hxc
      have hyc2 := cell_mono HF.out hyc
      have HS := Lib.hid (HUP.out k)
      rw [cf_get hx, cf_get hy] at HS
      have hlk := HLE.out k
      clear hx hy hxc hyc
      by_cases hxy : x = y
      · rw [if_pos hxy, List.append_nil] at HS
        subst hxy
        go_wp2
        go_roundw
        case rel => exact ⟨k + 1, by omega, by go_num, by rw [HS.out]; exact HO, HF⟩
        case measure => simp [intOf]; omega
      · rw [if_neg hxy] at HS
        have hne : ¬ (x.toNat = y.toNat) := fun e => hxy (UInt8.toNat_inj.1 e)
        have fa : Fr [] wl (wl.alloc (.cells #[.int .i64 (k : Int)] 3)) := Fr.alloc _ _
        have HO4 := Lib.hid (HO.out.keep0 fa)
        have HF4 := Lib.hid (HF.out.trans fa)
        have hil : (intL (D k)).length ≤ 17592186044414 := by rw [intL_len]; omega
        have HIL := Lib.hid hil
        have HSB := Lib.hid HF4.out.size
        clear fa HO HF hil hlk hxy
        go_wp2_with (at_builtin; refine wpl_append_n Tryd.underlying32 Tryd.infoIntR rfl (.tmp 26) (.tmp 28) rfl rfl rfl (At.new rfl) HO4.out HIL.out HSB.out ?_)
        intro v5 w5 h5 g5
        have HO5 := Lib.hid (show OwnI 3 w.heap.size w5 v5 (intL (D (k + 1))) by
          rw [HS.out]
          unfold intL at h5 ⊢
          rw [List.map_append]
          exact h5)
        have HF5 := Lib.hid (OwnI.fr HO4.out HF4.out g5 (Nat.le_refl _))
        clear h5 g5 HO4 HF4 HSB HIL
        go_wp2
        go_roundw
        case rel => exact ⟨k + 1, by omega, by go_num, HO5, HF5⟩
        case measure => simp [intOf]; omega
    · have hki : ¬ (k : Int) < N := by omega
      obtain rfl : k = N := by omega
      go_wp2
      go_ret
      exact ⟨_, rfl, HO.out, HF.out⟩
end Go.Proofs.YtmohiblgfmdkjaaDoor
namespace Go.Proofs.YtmohiblgfmdkjaaDoor
open Go.RowKit Go.Bl
set_option linter.unusedVariables false
/-- the word with what is added at the places of a list -/
def mendL (loc ev : List UInt8) (n : Nat) (ps : List Nat) (ws : List UInt8) : List UInt8 := ps.foldl (fun o p => o.set p (cf o p ^^^ amtV loc ev n p)) ws
theorem mendL_len (loc ev : List UInt8) (n : Nat) : ∀ (ps : List Nat) (ws : List UInt8), (mendL loc ev n ps ws).length = ws.length
  | [], ws => rfl
  | p :: ps, ws => by
    show (mendL loc ev n ps (ws.set p (cf ws p ^^^ amtV loc ev n p))).length = ws.length
    rw [mendL_len loc ev n ps, List.length_set]
theorem mendL_take (loc ev : List UInt8) (n : Nat) (ps : List Nat) (ws : List UInt8) (k p : Nat) (h : ps[k]? = some p) :
    mendL loc ev n (ps.take (k + 1)) ws = (mendL loc ev n (ps.take k) ws).set p (cf (mendL loc ev n (ps.take k) ws) p ^^^ amtV loc ev n p) := by
  unfold mendL
  rw [List.take_add_one, h]
  simp [List.foldl_append]
/-- is the word mended, and right? -/
def mendOk (loc ev ws : List UInt8) : Bool := decide ((srch loc ws.length).length + 1 = plen loc) && (srch loc ws.length).all (fun p => decide (slpV loc ws.length p ≠ 0)) && decide (synL (mendL loc ev ws.length (srch loc ws.length) ws) = zero32)
theorem mend_no1 {loc ev ws : List UInt8} (h : (srch loc ws.length).length + 1 ≠ plen loc) : mendOk loc ev ws = false := by
  unfold mendOk; rw [decide_eq_false h]; rfl
theorem mend_no2 {loc ev ws : List UInt8} {p : Nat} (hp : p ∈ srch loc ws.length) (h : slpV loc ws.length p = 0) : mendOk loc ev ws = false := by
  unfold mendOk
  have : (srch loc ws.length).all (fun p => decide (slpV loc ws.length p ≠ 0)) = false := by
    rw [List.all_eq_false]
    exact ⟨p, hp, by simp [h]⟩
  rw [this]; simp
theorem mend_yes {loc ev ws : List UInt8} (h1 : (srch loc ws.length).length + 1 = plen loc) (h2 : ∀ p ∈ srch loc ws.length, slpV loc ws.length p ≠ 0) : mendOk loc ev ws = decide (synL (mendL loc ev ws.length (srch loc ws.length) ws) = zero32) := by
  unfold mendOk
  have : (srch loc ws.length).all (fun p => decide (slpV loc ws.length p ≠ 0)) = true := by
    rw [List.all_eq_true]
    intro p hp
    simpa using h2 p hp
  rw [decide_eq_true h1, this]; simp
theorem srch_lt {loc : List UInt8} {n p : Nat} (h : p ∈ srch loc n) : p < n := by
  unfold srch at h
  exact List.mem_range.1 (List.mem_filter.1 h).1
set_option maxRecDepth 100000 in
set_option maxHeartbeats 4000000 in
theorem mended_any (L : List Nat) (E : Nat → Addr) (B : Nat) (w : World) (lg : Int) (W U V : Value) (ws loc ev : List UInt8) (hE : Errs L E B w) (m20 : 20 ∈ L) (hW : Bs (fun _ => False) w W ws) (hUb : Bs (fun _ => False) w U loc) (hU : BwI w.heap.size w U loc) (hV : BwI w.heap.size w V ev)
    (h1 : 33 ≤ ws.length) (h2 : ws.length ≤ 255) (hl1 : loc.length ≤ 1000) (hl2 : ev.length ≤ 1000) :
    Calls Tryd.prog 69 #[W, .agg #[.int .i64 lg, U, V]] w fun e w' => ∃ u b, e = .returned (.tuple #[u, .bool b]) ∧ b = mendOk loc ev ws ∧ (b = true → OwnB 5 w.heap.size w' u (mendL loc ev ws.length (srch loc ws.length) ws)) ∧ Fr [] w w' := by
  have HW := Lib.hid hW
  have HU := Lib.hid hU
  have HUB := Lib.hid hUb
  have HV := Lib.hid hV
  have HE := Lib.hid hE
  obtain ⟨wa, wc, e, w2, w3, -⟩ := id hW
  subst e
  obtain ⟨ua, uc, e, -⟩ := id hUb
  subst e
  obtain ⟨ea, ec, e⟩ := hV.bs
  subst e
  have HNO1 := Lib.hid (fun h => @mend_no1 loc ev ws h)
  have HNO2 := Lib.hid (fun p hp h => @mend_no2 loc ev ws p hp h)
  have HYES := Lib.hid (fun h1 h2 => @mend_yes loc ev ws h1 h2)
  have HMT := Lib.hid (fun k p hp => mendL_take loc ev ws.length (srch loc ws.length) ws k p hp)
  have HML := Lib.hid (fun ps => mendL_len loc ev ws.length ps ws)
  have HLT := Lib.hid (fun p hp => @srch_lt loc ws.length p hp)
  have HAM := Lib.hid (fun w' (h : Fr [] w w') p hp => amount_any L E B w' lg _ _ loc ev ws.length p (hE.keep0 h) m20 h1 h2 hp (hU.fr h) (hUb.keep h (by simp)) (hV.fr h) hl1 hl2)
  have HSE := Lib.hid (fun w' (h : Fr [] w w') => search_any w' _ loc ws.length h1 h2 (hU.fr h) (by omega))
  have HDG := Lib.hid (fun w' (h : Fr [] w w') => degree_z w' _ loc (hU.fr h) (by omega))
  obtain ⟨OK, hOK⟩ : ∃ b, mendOk loc ev ws = b := ⟨_, rfl⟩
  rw [hOK] at HNO1 HNO2 HYES ⊢
  obtain ⟨UN, hUN⟩ : ∃ x, loc.length = x := ⟨_, rfl⟩
  obtain ⟨EN, hEN⟩ : ∃ x, ev.length = x := ⟨_, rfl⟩
  rw [hUN] at HAM HSE HDG ⊢
  rw [hEN] at HAM ⊢
  obtain ⟨D, hD⟩ : ∃ x, plen loc = x := ⟨_, rfl⟩
  rw [hD] at HNO1 HYES HDG
  have hsl : (srch loc ws.length).length ≤ ws.length := by
    have := List.length_filter_le (fun p => decide (pev loc (ginv (plX ws.length p)) = 0)) (List.range ws.length)
    rwa [List.length_range] at this
  obtain ⟨SR, hSR⟩ : ∃ x, srch loc ws.length = x := ⟨_, rfl⟩
  rw [hSR] at HNO1 HNO2 HYES HMT HLT HSE hsl ⊢
  obtain ⟨ML, hML⟩ : ∃ f, (fun ps => mendL loc ev ws.length ps ws) = f := ⟨_, rfl⟩
  have HMT2 := Lib.hid (show ∀ k p, SR[k]? = some p → ML (SR.take (k + 1)) = (ML (SR.take k)).set p (cf (ML (SR.take k)) p ^^^ amtV loc ev ws.length p) from fun k p hp => by rw [← hML]; exact HMT.out k p hp)
  have HML2 := Lib.hid (show ∀ ps, (ML ps).length = ws.length from fun ps => by rw [← hML]; exact HML.out ps)
  have HM0 := Lib.hid (show ML (SR.take 0) = ws by rw [← hML]; rfl)
  have HMN := Lib.hid (show mendL loc ev ws.length SR ws = ML SR by rw [← hML])
  rw [HMN.out] at HYES ⊢
  obtain ⟨N, hN⟩ : ∃ x, ws.length = x := ⟨_, rfl⟩
  have HN := Lib.hid hN
  rw [hN] at HNO2 HYES HMT2 HML2 HLT HAM HSE HW h1 h2 hsl w2 ⊢
  obtain ⟨K, hK⟩ : ∃ x, SR.length = x := ⟨_, rfl⟩
  have HK := Lib.hid hK
  rw [hK] at HNO1 HYES hsl
  unfold maxLen at w3
  have fa : Fr [] w (w.alloc (.cells #[.int .i64 lg, .slice ua UN uc, .slice ea EN ec] 152)) := Fr.alloc _ _
  have HFa := Lib.hid fa
  have HBa := Lib.hid (show At (w.alloc (.cells #[.int .i64 lg, .slice ua UN uc, .slice ea EN ec] 152)) w.heap.size (.cells #[.int .i64 lg, .slice ua UN uc, .slice ea EN ec] 152) from At.new rfl)
  have HWB := Lib.hid (show OK = OK from rfl)
  clear hE hW hUb hU hV hOK hUN hEN hD hSR hML hN hK fa HMT HML HMN HU HUB HV
  go_enter Tryd.func69, Tryd.ntmps69
  go_wp2_with (go_at_call 90; fail)
  refine (HSE.out _ HFa.out).mono ?_
  rintro e w1 ⟨pv, rfl, hp, hf⟩
  obtain ⟨pa, pc, e, -⟩ := (hp.is (A := fun _ => False) (by simp)).shape
  subst e
  rw [intL_len, HK.out] at hp ⊢
  have hs0 := HFa.out.size
  have HP1 := Lib.hid (show OwnI 3 w.heap.size w1 (.slice pa K pc) (intL SR) from OwnV.base hp hs0)
  have HF1 := Lib.hid (HFa.out.trans hf)
  have HB1 := Lib.hid (HBa.out.keep0 hf)
  have hb1 := HB1.out.cell 1
  simp only [List.getElem?_toArray, List.getElem?_cons_zero, List.getElem?_cons_succ] at hb1
  clear hp hf hs0 HFa HBa HSE
  go_wp2_with (go_at_call 86; fail)
  refine (HDG.out _ HF1.out).mono ?_
  rintro e w2 ⟨rfl, hf⟩
  have HP2 := Lib.hid (HP1.out.keep0 hf)
  have HF2 := Lib.hid (HF1.out.trans hf)
  have HB2 := Lib.hid (HB1.out.keep0 hf)
  clear hf HP1 HF1 HB1 HDG hb1
  by_cases hkd : K + 1 = D
  · have hki : (K : Int) = (D : Int) - 1 := by omega
    have HKD := Lib.hid hkd
    have hkd2 : (D : Int) - 1 = K := by omega
    rw [hkd2]
    clear hki hkd hkd2
    go_wp2_with (go_at_call 50; fail)
    refine (clone_any (fun _ => False) w2 _ ws (HW.out.keep HF2.out (by simp)) (by rw [HN.out]; omega)).mono ?_
    rintro e w3 ⟨u, rfl, ho, hf⟩
    obtain ⟨g, cp, e, hg, g1, g2, -⟩ := ho.shape (by rw [HN.out]; omega)
    subst e
    rw [HN.out] at ho g1 ⊢
    unfold maxLen at g2
    have hs2 := HF2.out.size
    have hgw : w.heap.size ≤ g := by omega
    have hgb : g ≠ w.heap.size := by have := HB2.out.lt; omega
    have HO3 := Lib.hid (ho.base hs2)
    have HP3 := Lib.hid (HP2.out.keep0 hf)
    have HF3 := Lib.hid (HF2.out.trans hf)
    have HB3 := Lib.hid (HB2.out.keep0 hf)
    clear hf ho hg hs2 HP2 HF2 HB2
    go_wp2
    go_loopw [27] (fun i wr => ∃ k : Nat, k ≤ K ∧ i = .int .i64 k ∧ Hid (∀ j, j < k → ∀ p, SR[j]? = some p → slpV loc N p ≠ 0) ∧ Hid (OwnB 5 w.heap.size wr (.slice (some ⟨g, 0, none⟩) N cp) (ML (SR.take k))) ∧ Hid (OwnI 3 w.heap.size wr (.slice pa K pc) (intL SR)) ∧ Hid (At wr w.heap.size (.cells #[.int .i64 lg, .slice ua UN uc, .slice ea EN ec] 152)) ∧ Hid (Fr [] w wr)) (fun i _ => K - (intOf i).toNat)
    case atStart => exact ⟨0, by omega, rfl, Lib.hid (fun j hj => absurd hj (by omega)), by rw [HM0.out]; exact HO3, HP3, HB3, HF3⟩
    case round =>
      clear HO3 HP3 HB3 HF3
      obtain ⟨k, hk, rfl, HS, HO, HP, HB, HF⟩ := hrel
      obtain ⟨wl, rfl⟩ : ∃ wl, wl = wr := ⟨wr, rfl⟩
      by_cases hkn : k < K
      · have hki : (k : Int) < K := by omega
        obtain ⟨p, hp⟩ : ∃ p, SR[k]? = some p := ⟨_, List.getElem?_eq_getElem (by have := HK.out; omega)⟩
        have hpm := List.mem_of_getElem? hp
        have hpn := HLT.out p hpm
        have hpi : (intL SR)[k]? = some (p : Int) := by unfold intL; rw [List.getElem?_map, hp]; rfl
        obtain ⟨pb, po, rfl, hpc⟩ := is_cell (HP.out.is (A := fun _ => False) (by simp)) k p hpi
        have hc0 := HB.out.cell 0
        have hc1 := HB.out.cell 1
        have hc2 := HB.out.cell 2
        simp only [List.getElem?_toArray, List.getElem?_cons_zero, List.getElem?_cons_succ] at hc0 hc1 hc2
        have HA2 := Lib.hid (HAM.out wl HF.out p hpn)
        have HN2 := Lib.hid (HNO2.out p hpm)
        have HT2 := Lib.hid (HMT2.out k p hp)
        have hll := HML2.out (SR.take k)
        have HPK := Lib.hid hp
        obtain ⟨cur, hcur⟩ : ∃ x, ML (SR.take k) = x := ⟨_, rfl⟩
        rw [hcur] at HO HT2 hll
        have HLL := Lib.hid hll
        clear hp hpm hpi hcur hll
        by_cases hs0 : slpV loc N p = 0
        · rw [if_pos hs0] at HA2
          have HOK := Lib.hid (HN2.out hs0)
          have x20 : errv E 20 = .iface 261 (.pointer (some (E 20))) := errv_pos E 20 (by decide)
          rw [x20] at HA2
          clear hs0 x20
          go_wp2_with (go_at_call 91; fail)
          refine HA2.out.mono ?_
          rintro e w4 ⟨rfl, hf⟩
          have HF4 := Lib.hid (HF.out.trans hf)
          clear hf hc0 hc1 hc2 hpc
          go_wp2
          go_ret2
          exact ⟨_, false, rfl, HOK.out.symm, by simp, HF4.out⟩
        · rw [if_neg hs0] at HA2
          have HS0 := Lib.hid hs0
          obtain ⟨am, ham⟩ : ∃ x, amtV loc ev N p = x := ⟨_, rfl⟩
          rw [ham] at HA2 HT2
          clear hs0 ham
          go_wp2_with (go_at_call 91; fail)
          refine HA2.out.mono ?_
          rintro e w4 ⟨rfl, hf⟩
          have HF4 := Lib.hid (HF.out.trans hf)
          have HO4 := Lib.hid (HO.out.keep hf (by simp))
          have HP4 := Lib.hid (HP.out.keep0 hf)
          have HB4 := Lib.hid (HB.out.keep0 hf)
          obtain ⟨cu, k1, k2, k3, k4⟩ := own_blk HO4.out
          have hcw := own_cellB HO4.out (i := p) (by rw [HLL.out]; exact hpn)
          obtain ⟨cv, hcv⟩ : ∃ x, cur.getD p 0 = x := ⟨_, rfl⟩
          have HT3 := Lib.hid (HT2.out.trans (show cur.set p (cf cur p ^^^ am) = cur.set p (cv ^^^ am) by rw [← hcv]; rfl))
          rw [hcv] at hcw
          have hxx := u8_xor_u cv am
          clear hcv
          have hne := own_ne_tyB HP4.out k1 (by decide)
          have HSZ := Lib.hid (show p < cu.size by rw [HLL.out] at k2; omega)
          clear hf hc0 hc1 hc2 hpc HF HO HP HB k2 k3
          have K1 := Lib.hid k1
          have K4 := Lib.hid k4
          have HNE := Lib.hid hne
          clear k1 k4 hne
          go_wp2_with (refine wpl_store_one (.tmp 47) (.tmp 46) rfl rfl (.int .u8 ((cv ^^^ am).toNat : Int)) rfl rfl K1.out HSZ.out (by kernel_rfl) rfl ?_)
          intro w6 f6 a6 _
          have HO6 := Lib.hid (show OwnB 5 w.heap.size w6 (.slice (some ⟨g, 0, none⟩) N cp) (ML (SR.take (k + 1))) by
            rw [HT3.out]
            refine K4.out w6 p _ ?_
            simpa [u8v] using a6)
          have HP6 := Lib.hid (show OwnI 3 w.heap.size w6 (.slice (some ⟨pb, po, none⟩) K pc) (intL SR) from own_keep HP4.out f6 (fun b hb hm => by simp at hm; subst hm; exact HNE.out hb))
          have HB6 := Lib.hid (HB4.out.keep f6 (by simpa using hgb.symm))
          have HF6 := Lib.hid (HF4.out.then f6 (by intro b hb; simp at hb; subst hb; exact .inr hgw))
          have HS6 := Lib.hid (show ∀ j, j < k + 1 → ∀ p, SR[j]? = some p → slpV loc N p ≠ 0 from fun j hj q hq => by
            rcases Nat.lt_or_ge j k with h | h
            · exact HS.out j h q hq
            · obtain rfl : j = k := by omega
              rw [HPK.out] at hq
              cases hq
              exact HS0.out)
          clear f6 a6 HO4 HP4 HB4 HF4 hcw hxx K1 K4
          go_wp2
          go_roundw
          case rel => exact ⟨k + 1, by omega, by go_num, HS6, HO6, HP6, HB6, HF6⟩
          case measure => simp [intOf]; omega
      · have hki : ¬ (k : Int) < K := by omega
        have HOE := Lib.hid (show OwnB 5 w.heap.size wl (.slice (some ⟨g, 0, none⟩) N cp) (ML SR) by
          have h := HO.out
          rwa [show k = K by omega, List.take_of_length_le (by have := HK.out; omega)] at h)
        have HOK := Lib.hid (HYES.out HKD.out (fun q hq => by
          obtain ⟨j, hj⟩ := List.mem_iff_getElem?.1 hq
          exact HS.out j (by have := (List.getElem?_eq_some_iff.1 hj).1; have := HK.out; omega) q hj))
        have HRI := Lib.hid (right_any wl _ (ML SR) (HOE.out.bs (by simp)) (by rw [HML2.out]; omega) (by rw [HML2.out]; omega))
        rw [← HOK.out] at HRI
        clear HO HOK
        go_wp2_with (go_at_call 92; fail)
        refine HRI.out.mono ?_
        rintro e w6 ⟨rfl, hf⟩
        have HO6 := Lib.hid (HOE.out.keep hf (by simp))
        have HF6 := Lib.hid (HF.out.trans hf)
        clear hf HRI HOE
        go_wp2
        go_ret2
        exact ⟨_, OK, rfl, rfl, fun _ => HO6.out, HF6.out⟩
  · have hki : ¬ (K : Int) = (D : Int) - 1 := by omega
    have HOK := Lib.hid (HNO1.out hkd)
    clear hkd
    go_wp2
    go_ret2
    exact ⟨_, false, rfl, HOK.out.symm, by simp, HF2.out⟩
end Go.Proofs.YtmohiblgfmdkjaaDoor
