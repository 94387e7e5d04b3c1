/-
  Layer 6, stripe.rebuilt: the loop over the columns. (printed by genrb.py)
  Layer 6: stripe.rebuilt, walked. (printed by genrb.py)
-/
import Derived.Test.YtmohiblgfmdkjaaDoorJA
import Derived.Test.YtmohiblgfmdkjaaDoorHC
import Derived.Test.YtmohiblgfmdkjaaDoorJD
import Derived.Test.YtmohiblgfmdkjaaDoorJP
import Derived.BigQuiet
import Derived.Test.YtmohiblgfmdkjaaDoorJM
import Derived.OwnWalk
namespace Go.Proofs.YtmohiblgfmdkjaaDoor
open Go.RowKit Go.Bl
set_option linter.unusedVariables false
/-- both ends of repair.Fix -/
theorem fix_two (E : Nat → Addr) (B : Nat) (w : World) (v pv : Value) (ws : List UInt8) (l : List Int) (hE : Errs all20 E B w) (hb : Bs (fun _ => False) w v ws) (hv : Is (fun _ => False) w pv l) (hl : l.length ≤ 1000) :
    Calls Tryd.prog 55 #[v, pv] w fun e w' => ((∃ u r t, e = .returned (.tuple #[.agg #[u, r, .int .i64 t], .nilIface]) ∧ (eraBad (ws.length : Int) l = 0 ∧ mGood ws l) ∧ OwnB 5 w.heap.size w' u (mOut ws l) ∧ OwnI 3 w.heap.size w' r (intL (dfrK ws (mOut ws l) ws.length))) ∨
      (∃ K, e = .returned (.tuple #[noFix, .iface 261 (.pointer (some (E K)))]) ∧ ¬ (eraBad (ws.length : Int) l = 0 ∧ mGood ws l))) ∧ Fr [] w w' := by
  have m1 : 1 ∈ all20 := by decide
  have m8 : 8 ∈ all20 := by decide
  have m10 : 10 ∈ all20 := by decide
  have m16 : 16 ∈ all20 := by decide
  have m17 : 17 ∈ all20 := by decide
  have m20 : 20 ∈ all20 := by decide
  by_cases h0 : eraBad (ws.length : Int) l = 0
  · by_cases hg : mGood ws l
    · refine (fix_good all20 E B w v pv ws l hE m1 m8 m10 m16 m20 hb hv h0 hg).mono ?_
      rintro e w' ⟨u, r, h1, h2, h3, h4⟩
      exact ⟨.inl ⟨u, r, _, h1, ⟨h0, hg⟩, h2, h3⟩, h4⟩
    · refine (fix_fail all20 E B w v pv ws l hE m1 m8 m10 m16 m17 m20 hb hv hl 17 (.inr ⟨h0, rfl, hg⟩)).mono ?_
      rintro e w' ⟨h1, h2⟩
      rw [errv_pos E 17 (by decide)] at h1
      exact ⟨.inr ⟨17, h1, fun h => hg h.2⟩, h2⟩
  · refine (fix_fail all20 E B w v pv ws l hE m1 m8 m10 m16 m17 m20 hb hv hl _ (.inl ⟨h0, rfl⟩)).mono ?_
    rintro e w' ⟨h1, h2⟩
    rw [errv_pos E _ h0] at h1
    exact ⟨.inr ⟨_, h1, fun h => h0 h.1⟩, h2⟩
noncomputable def rbB2 : Code := ((Tryd.f35.body.bind (findLoop 11)).getD .skip)
set_option maxRecDepth 1000000 in
set_option maxHeartbeats 8000000 in
theorem rb2_round (wr : World) (a : Go.Act) (hsz : a.tmps.size = 112) (hd : a.defers = []) (ba ea : Option Addr) (n bc EL ec g cb : Nat) (j : Nat) (E : Nat → Addr) (B : Nat) (w : World) (bk hs ps : List Nat) (gn : List Int) (cw xs : List UInt8) (PP : Nat → Nat → UInt8) (OK : Prop) (h0 : slot a 0 = .slice ba n bc) (h6 : slot a 6 = .slice ea EL ec) (h9 : slot a 9 = .slice (some ⟨g, 0, none⟩) n n) (h10 : slot a 10 = .slice (some ⟨cb, 0, none⟩) n n) (h42 : slot a 42 = .int .i64 (j : Int)) (hj : j < 8) (hn : n ≤ 1000) (hEr : Errs all20 E B w) (hF : Fr [] w wr) (hcl : cw.length = n) (hxl : xs.length = n) (hpl : ps.length ≤ 1000) (hps : ∀ p ∈ ps, p < n) (hP : ∀ i, i < n → PP j i = cf xs i)
    (hcol : Calls Tryd.prog 53 #[.slice ba n bc, .int .i64 (j : Int)] wr fun e w' => ∃ u, e = .returned u ∧ OwnB 5 wr.heap.size w' u cw ∧ Fr [] wr w')
    (hfix : ∀ p u, Fr [] w p → Bs (fun _ => False) p u cw → Is (fun _ => False) p (.slice ea EL ec) gn → Calls Tryd.prog 55 #[u, .slice ea EL ec] p fun e w' => ((∃ u r t, e = .returned (.tuple #[.agg #[u, r, .int .i64 t], .nilIface]) ∧ OK ∧ OwnB 5 p.heap.size w' u xs ∧ OwnI 3 p.heap.size w' r (intL ps)) ∨ (∃ K, e = .returned (.tuple #[noFix, .iface 261 (.pointer (some (E K)))]) ∧ ¬ OK)) ∧ Fr [] p w')
    (hI : Is (fun b => b = cb ∨ b ∈ bk) wr (.slice ea EL ec) gn) (hG : At wr g (.cells (bk.map sl8).toArray 22)) (hR : Rws w.heap.size wr bk (rwN n PP j 0)) (hA : At wr cb (.cells (boolC (inL n hs)) 4)) (hgb : g ∉ bk) (hgc : g ≠ cb) (hcb : cb ∉ bk) (hcw : w.heap.size ≤ cb) (Q : Exit → Go.Act → World → Prop)
    (hq : ∀ (c : Go.Act) (w' : World), c.defers = [] → c.tmps.size = 112 → slot c 0 = .slice ba n bc → slot c 6 = .slice ea EL ec → slot c 9 = .slice (some ⟨g, 0, none⟩) n n → slot c 10 = .slice (some ⟨cb, 0, none⟩) n n → slot c 42 = .int .i64 ((j : Int) + 1) → OK → Fr [] w w' → Is (fun b => b = cb ∨ b ∈ bk) w' (.slice ea EL ec) gn → At w' g (.cells (bk.map sl8).toArray 22) → Rws w.heap.size w' bk (rwN n PP (j + 1) 0) → At w' cb (.cells (boolC (inL n (hs ++ ps))) 4) → Q .normal c w') (hr : ∀ (c : Go.Act) (w' : World), c.defers = [] → c.tmps.size = 112 → slot c 2 = .slice none 0 0 → slot c 3 = .int .i64 0 → slot c 4 = .int .i64 0 → slot c 5 = .iface 261 (.pointer (some (E 17))) → ¬ OK → Fr [] w w' → Q .ret c w') : Code.wp Tryd.prog rbB2 Q a wr := by
  have HQ := Lib.hid hq
  have HR := Lib.hid hr
  rw [frame112 a hsz hd, h0, h6, h9, h10, h42]
  clear hq hr h0 h6 h9 h10 h42 hsz hd
  conv => arg 2; whnf
  have hji : (j : Int) < 8 := by omega
  have HER := Lib.hid hEr
  have HF := Lib.hid hF
  have HCL := Lib.hid hcl
  have HXL := Lib.hid hxl
  have HPL := Lib.hid hpl
  have HPS := Lib.hid hps
  have HP := Lib.hid hP
  have HCO := Lib.hid hcol
  have HFX := Lib.hid hfix
  have HI := Lib.hid hI
  have HG := Lib.hid hG
  have HR2 := Lib.hid hR
  have HA := Lib.hid hA
  have HGB := Lib.hid hgb
  have HCB := Lib.hid hcb
  clear hEr hF hcl hxl hpl hps hP hcol hfix hI hG hR hA hgb hcb
  go_wp2_with (go_at_call 53; fail)
  refine HCO.out.mono ?_
  rintro e w1 ⟨u, rfl, ho, hf⟩
  have HU1 := Lib.hid (ho.bs (A := fun _ => False) (by simp))
  obtain ⟨ua, uc, e, -⟩ := id HU1.out
  subst e
  rw [HCL.out] at HU1 ⊢
  have HI1 := Lib.hid (HI.out.keep0 hf)
  have HG1 := Lib.hid (HG.out.keep0 hf)
  have HR1 := Lib.hid (HR2.out.keep hf (by simp))
  have HA1 := Lib.hid (HA.out.keep0 hf)
  have HF1 := Lib.hid (HF.out.trans hf)
  clear ho hf HI HG HR2 HA HF HCO
  go_wp2_with (go_at_call 55; fail)
  refine (HFX.out w1 _ HF1.out HU1.out (Vs.mono HI1.out (S := []) (Fr.refl _ _) (by simp) (fun b h => h.elim))).mono ?_
  rintro e w2 ⟨⟨x, r, t, rfl, hok, ho, hi⟩ | ⟨K, rfl, hno⟩, hf⟩
  · have hxlt := HXL.out
    have HX2 := Lib.hid (ho.bs (A := fun b => b ∈ bk) (fun b hb => HR1.out.lt b hb))
    have HP2 := Lib.hid (hi.is (A := fun b => b = cb ∨ b ∈ bk) (fun b hb => hb.elim (fun h => by rw [h]; exact HA1.out.lt) (HR1.out.lt b)))
    obtain ⟨xa, xc, e, -⟩ := id HX2.out
    subst e
    obtain ⟨ra, rc, e, -⟩ := HP2.out.shape
    subst e
    rw [intL_len] at HP2 ⊢
    rw [hxlt] at HX2 ⊢
    obtain ⟨RN, hRN⟩ : ∃ x, ps.length = x := ⟨_, rfl⟩
    have HRN := Lib.hid hRN
    rw [hRN] at HP2 ⊢
    have fa : Fr [] w2 (w2.alloc (.cells #[.slice xa n xc, .slice ra RN rc, .int .i64 t] 133)) := Fr.alloc _ _
    have HB2 := Lib.hid (show At (w2.alloc (.cells #[.slice xa n xc, .slice ra RN rc, .int .i64 t] 133)) w2.heap.size (.cells #[.slice xa n xc, .slice ra RN rc, .int .i64 t] 133) from At.new rfl)
    have hfa := hf.trans fa
    have HOK := Lib.hid hok
    have HX3 := Lib.hid (HX2.out.keep fa (by simp))
    have HP3 := Lib.hid (HP2.out.keep0 fa)
    have HI3 := Lib.hid (HI1.out.keep0 hfa)
    have HG3 := Lib.hid (HG1.out.keep0 hfa)
    have HR3 := Lib.hid (HR1.out.keep hfa (by simp))
    have HA3 := Lib.hid (HA1.out.keep0 hfa)
    have HF3 := Lib.hid (HF1.out.trans hfa)
    have HBN := Lib.hid (show w2.heap.size ∉ bk from fun h => by have := HR1.out.lt _ h; have := hf.size; omega)
    have HBC := Lib.hid (show w2.heap.size ≠ cb from fun h => by have := HA1.out.lt; have := hf.size; omega)
    obtain ⟨w3, hw3⟩ : ∃ x, w2.alloc (.cells #[.slice xa n xc, .slice ra RN rc, .int .i64 t] 133) = x := ⟨_, rfl⟩
    have HW3 := Lib.hid hw3
    obtain ⟨fb, hfb⟩ : ∃ x, w2.heap.size = x := ⟨_, rfl⟩
    have HFB := Lib.hid hfb
    rw [hw3] at HB2 HX3 HP3 HI3 HG3 HR3 HA3 HF3
    rw [hfb] at HB2 HBN HBC
    have hc0 := HB2.out.cell 0
    have hc1 := HB2.out.cell 1
    simp only [List.getElem?_toArray, List.getElem?_cons_zero, List.getElem?_cons_succ] at hc0 hc1
    clear ho hi hf fa hfa hok hxlt HX2 HP2 HI1 HG1 HR1 HA1 HF1 HU1 HFX hRN hfb hw3
    go_wp2_with (refine wpl_store_new (.tmp 12) (.tmp 51) rfl rfl #[.slice xa n xc, .slice ra RN rc, .int .i64 t] rfl rfl (by kernel_rfl) rfl (by rfl) ?_; try rw [HW3.out])
    try rw [HW3.out]
    rw [HFB.out]
    refine rb3_loop w3 _ rfl rfl ba ea xa n bc EL ec g cb fb j xc w.heap.size bk xs PP rfl rfl rfl rfl rfl rfl rfl rfl rfl rfl hn hj HXL.out HP.out HGB.out (by have := HR3.out.len; rw [rwN_len] at this; exact this) HX3.out HG3.out HR3.out _ ?_
    intro c w4 kd ks q0 q6 q9 q10 q11 q12 q42 hR hf
    rw [rwN_next] at hR
    have HR4 := Lib.hid hR
    have HP4 := Lib.hid (Is.keep HP3.out hf (fun b hb => .inr hb))
    have HI4 := Lib.hid (Is.keep HI3.out hf (fun b hb => .inr hb))
    have HG4 := Lib.hid (HG3.out.keep hf HGB.out)
    have HA4 := Lib.hid (HA3.out.keep hf HCB.out)
    have HF4 := Lib.hid (HF3.out.then hf (fun b hb => .inr (HR3.out.lo b hb)))
    have hc1 := (HB2.out.keep hf HBN.out).cell 1
    simp only [List.getElem?_toArray, List.getElem?_cons_zero, List.getElem?_cons_succ] at hc1
    rw [frame112 c ks kd, q0, q6, q9, q10, q11, q12, q42]
    clear ks kd q0 q6 q9 q10 q11 q12 q42 hR hf hc0 HX3 HP3 HI3 HG3 HR3 HA3 HF3 HB2 HW3 HFB
    go_wp2_with fail
    refine rb4_loop w4 _ rfl rfl ba ea ra n bc EL ec g cb j RN rc hs ps rfl rfl rfl rfl rfl rfl rfl rfl HRN.out (by have := HPL.out; have := HRN.out; omega) hn HPS.out (Vs.mono HP4.out (S := []) (Fr.refl _ _) (by simp) (fun b h => .inl (.inl h))) HA4.out _ ?_
    intro c w5 kd ks q0 q6 q9 q10 q42 hA hf
    have HA5 := Lib.hid hA
    have HI5 := Lib.hid (Is.keep HI4.out hf (fun b hb => by simp at hb; exact .inl hb))
    have HG5 := Lib.hid (HG4.out.keep hf (by simpa using hgc))
    have HR5 := Lib.hid (HR4.out.keep hf (fun b hb hm => by simp at hm; subst hm; exact HCB.out hb))
    have HF5 := Lib.hid (HF4.out.then hf (by intro b hb; simp at hb; subst hb; exact .inr hcw))
    rw [frame112 c ks kd, q0, q6, q9, q10, q42]
    clear ks kd q0 q6 q9 q10 q42 hA hf HP4 HI4 HG4 HR4 HA4 HF4 hc1
    go_wp2
    exact HQ.out _ _ rfl rfl rfl rfl rfl rfl (by go_num) HOK.out HF5.out HI5.out HG5.out HR5.out HA5.out
  · have HNO := Lib.hid hno
    have fa : Fr [] w2 (w2.alloc (.cells #[.slice none 0 0, .slice none 0 0, .int .i64 0] 133)) := Fr.alloc _ _
    have HF2 := Lib.hid ((HF1.out.trans hf).trans fa)
    have hcc := (HER.out.keep0 HF2.out).cell 17 (by decide)
    simp only [gOf, List.getD_eq_getElem?_getD, List.getElem?_cons_zero, List.getElem?_cons_succ, Option.getD_some] at hcc
    unfold noFix
    clear hno hf fa HF1 HI1 HG1 HR1 HA1 HU1 HFX
    go_wp2_with (refine wpl_store_new (.tmp 12) (.tmp 51) rfl rfl #[.slice none 0 0, .slice none 0 0, .int .i64 0] rfl rfl (by kernel_rfl) rfl (by rfl) ?_)
    go_quiet (fail)
    go_wp2
    exact HR.out _ _ rfl rfl rfl rfl rfl rfl HNO.out (HF2.out.trans (Fr.of_heap rfl rfl rfl rfl))
set_option maxRecDepth 1000000 in
set_option maxHeartbeats 8000000 in
theorem rb2_exit (wr : World) (a : Go.Act) (hsz : a.tmps.size = 112) (hd : a.defers = []) (ba ea : Option Addr) (n bc EL ec g cb : Nat) (h0 : slot a 0 = .slice ba n bc) (h6 : slot a 6 = .slice ea EL ec) (h9 : slot a 9 = .slice (some ⟨g, 0, none⟩) n n) (h10 : slot a 10 = .slice (some ⟨cb, 0, none⟩) n n) (h42 : slot a 42 = .int .i64 8)  (Q : Exit → Go.Act → World → Prop)
    (hq : ∀ c : Go.Act, c.defers = [] → c.tmps.size = 112 → slot c 0 = .slice ba n bc → slot c 6 = .slice ea EL ec → slot c 9 = .slice (some ⟨g, 0, none⟩) n n → slot c 10 = .slice (some ⟨cb, 0, none⟩) n n → Q (.exit 2) c wr) : Code.wp Tryd.prog rbB2 Q a wr := by
  have HQ := Lib.hid hq
  rw [frame112 a hsz hd, h0, h6, h9, h10, h42]
  clear hq h0 h6 h9 h10 h42 hsz hd
  conv => arg 2; whnf
  go_wp2
  apply HQ.out <;> rfl
set_option maxRecDepth 1000000 in
set_option maxHeartbeats 8000000 in
theorem rb2_loop (w wa : World) (a : Go.Act) (hsz : a.tmps.size = 112) (hd : a.defers = []) (ba ea : Option Addr) (n bc EL ec g cb : Nat) (E : Nat → Addr) (B : Nat) (ls : List (Value × List UInt8)) (bs : List (List UInt8)) (bk : List Nat) (h0 : slot a 0 = .slice ba n bc) (h6 : slot a 6 = .slice ea EL ec) (h9 : slot a 9 = .slice (some ⟨g, 0, none⟩) n n) (h10 : slot a 10 = .slice (some ⟨cb, 0, none⟩) n n) (h42 : slot a 42 = .int .i64 0) (hn : n ≤ 1000) (hln : ls.length = n) (hls : ls.map (·.2) = bs) (hr : RdB (fun _ => False) w (.slice ba n bc) ls) (hEr : Errs all20 E B w) (hF : Fr [] w wa)
    (hI : Is (fun b => b = cb ∨ b ∈ bk) wa (.slice ea EL ec) (intL (gon bs))) (hG : At wa g (.cells (bk.map sl8).toArray 22)) (hR : Rws w.heap.size wa bk (rwN n (fixB bs) 0 0)) (hA : At wa cb (.cells (boolC (inL n [])) 4)) (hgb : g ∉ bk) (hgc : g ≠ cb) (hcb : cb ∉ bk) (hcw : w.heap.size ≤ cb) (Q : Exit → Go.Act → World → Prop)
    (hq : ∀ (c : Go.Act) (w' : World), c.defers = [] → c.tmps.size = 112 → slot c 0 = .slice ba n bc → slot c 6 = .slice ea EL ec → slot c 9 = .slice (some ⟨g, 0, none⟩) n n → slot c 10 = .slice (some ⟨cb, 0, none⟩) n n → (∀ j, j < 8 → fixOk bs j) → Fr [] w w' → At w' g (.cells (bk.map sl8).toArray 22) → Rws w.heap.size w' bk (rwN n (fixB bs) 8 0) → At w' cb (.cells (boolC (inL n (hitK bs 8))) 4) → Q (.exit 2) c w')
    (hret : ∀ (c : Go.Act) (w' : World), c.defers = [] → c.tmps.size = 112 → slot c 2 = .slice none 0 0 → slot c 3 = .int .i64 0 → slot c 4 = .int .i64 0 → slot c 5 = .iface 261 (.pointer (some (E 17))) → (∃ j, j < 8 ∧ ¬ fixOk bs j) → Fr [] w w' → Q .ret c w') : Code.wp Tryd.prog (Code.loop rbB2) Q a wa := by
  have hbl : bs.length = n := by rw [← hls, List.length_map, hln]
  refine wp_loop (fun a wr => a.tmps.size = 112 ∧ a.defers = [] ∧ slot a 0 = .slice ba n bc ∧ slot a 6 = .slice ea EL ec ∧ slot a 9 = .slice (some ⟨g, 0, none⟩) n n ∧ slot a 10 = .slice (some ⟨cb, 0, none⟩) n n ∧ ∃ j : Nat, j ≤ 8 ∧ slot a 42 = .int .i64 (j : Int) ∧ (∀ i, i < j → fixOk bs i) ∧ Fr [] w wr ∧ Is (fun b => b = cb ∨ b ∈ bk) wr (.slice ea EL ec) (intL (gon bs)) ∧ At wr g (.cells (bk.map sl8).toArray 22) ∧ Rws w.heap.size wr bk (rwN n (fixB bs) j 0) ∧ At wr cb (.cells (boolC (inL n (hitK bs j))) 4)) (fun a _ => 8 - kN (slot a 42)) ⟨hsz, hd, h0, h6, h9, h10, 0, by omega, h42, (fun i h => absurd h (by omega)), hF, hI, hG, hR, hA⟩ ?_
  clear h0 h6 h9 h10 h42 hI hG hR hA hF hsz hd
  rintro a wr ⟨hsz, hd, h0, h6, h9, h10, j, hj, h42, hok, hF, hI, hG, hR, hA⟩
  by_cases hj8 : j < 8
  · have hcol : Calls Tryd.prog 53 #[.slice ba n bc, .int .i64 (j : Int)] wr fun e w' => ∃ u, e = .returned u ∧ OwnB 5 wr.heap.size w' u (colW bs j) ∧ Fr [] wr w' := by
      have h := column_gen (fun _ => False) wr _ ls (j : Int) j (hr.keep hF (by simp)) hj8 (by rw [show Int.tmod (j : Int) 8 = j by rw [Int.tmod_eq_emod_of_nonneg (by omega)]; omega, Int.tmod_eq_emod_of_nonneg (by omega)]; omega) (by omega)
      have e : (ls.map fun x => col8 j x.2) = colW bs j := by unfold colW; rw [← hls, List.map_map]; rfl
      rwa [e] at h
    refine rb2_round wr a hsz hd ba ea n bc EL ec g cb j E B w bk (hitK bs j) (dfrK (colW bs j) (fixW bs j) n) (intL (gon bs)) (colW bs j) (fixW bs j) (fixB bs) (fixOk bs j) h0 h6 h9 h10 h42 hj8 hn hEr hF (by rw [colW_len, hbl]) (by rw [fixW_len, hbl]) (by have := dfrK_le (colW bs j) (fixW bs j) n; omega) (fun p hp => dfrK_lt hp) (fun i _ => rfl) hcol (fun p u hp hu hi => ?_) hI hG hR hA hgb hgc hcb hcw _ ?_ ?_
    · have h := fix_two E B p u _ (colW bs j) (intL (gon bs)) (hEr.keep0 hp) hu hi (by rw [intL_len]; have := gonK_le bs bs.length; unfold gon; omega)
      refine h.mono ?_
      rintro e w' ⟨⟨u, r, t, h1, h2, h3, h4⟩ | ⟨K, h1, h2⟩, hf⟩
      · rw [colW_len, hbl] at h4
        exact ⟨.inl ⟨u, r, t, h1, by unfold fixOk; rw [← colW_len bs j]; exact h2, h3, h4⟩, hf⟩
      · exact ⟨.inr ⟨K, h1, by unfold fixOk; rw [← colW_len bs j]; exact h2⟩, hf⟩
    · intro c w' kd ks q0 q6 q9 q10 q42 ok hF' hI' hG' hR' hA'
      refine ⟨⟨ks, kd, q0, q6, q9, q10, j + 1, by omega, by rw [q42]; rfl, fun i hi => ?_, hF', hI', hG', hR', by rw [hitK_up, hbl]; exact hA'⟩, ?_⟩
      · rcases Nat.lt_or_ge i j with h | h
        · exact hok i h
        · obtain rfl : i = j := by omega
          exact ok
      · rw [q42, h42]
        simp [kN]; omega
    · intro c w' kd ks q2 q3 q4 q5 hno hF'
      exact hret c w' kd ks q2 q3 q4 q5 ⟨j, hj8, hno⟩ hF'
  · obtain rfl : j = 8 := by omega
    refine rb2_exit wr a hsz hd ba ea n bc EL ec g cb h0 h6 h9 h10 h42 _ ?_
    intro c kd ks q0 q6 q9 q10
    exact hq c wr kd ks q0 q6 q9 q10 hok hF hG hR hA
end Go.Proofs.YtmohiblgfmdkjaaDoor
namespace Go.Proofs.YtmohiblgfmdkjaaDoor
open Go.RowKit Go.Bl
set_option linter.unusedVariables false
/-- rows, each with its block -/
def zipR (bk : List Nat) (rows : List (List UInt8)) : List (Value × List UInt8) := List.zipWith (fun b r => (sl8 b, r)) bk rows
theorem zipR_fst : ∀ (bk : List Nat) (rows : List (List UInt8)), bk.length = rows.length → (zipR bk rows).map (·.1) = bk.map sl8
  | [], _, _ => rfl
  | b :: bk, [], h => by simp at h
  | b :: bk, r :: rows, h => by
    simp only [List.length_cons, Nat.add_right_cancel_iff] at h
    have ih := zipR_fst bk rows h
    unfold zipR at ih ⊢
    simp [ih]
theorem zipR_snd : ∀ (bk : List Nat) (rows : List (List UInt8)), bk.length = rows.length → (zipR bk rows).map (·.2) = rows
  | [], [], _ => rfl
  | [], _ :: _, h => by simp at h
  | b :: bk, [], h => by simp at h
  | b :: bk, r :: rows, h => by
    simp only [List.length_cons, Nat.add_right_cancel_iff] at h
    have ih := zipR_snd bk rows h
    unfold zipR at ih ⊢
    simp [ih]
theorem zipR_get (bk : List Nat) (rows : List (List UInt8)) (x : Value × List UInt8) (h : x ∈ zipR bk rows) : ∃ (i b : Nat) (r : List UInt8), bk[i]? = some b ∧ rows[i]? = some r ∧ x = (sl8 b, r) := by
  obtain ⟨i, hi⟩ := List.mem_iff_getElem?.1 h
  unfold zipR at hi
  rw [List.getElem?_zipWith] at hi
  cases hb : bk[i]? with
  | none => simp [hb] at hi
  | some b =>
    cases hr : rows[i]? with
    | none => simp [hb, hr] at hi
    | some r =>
      simp [hb, hr] at hi
      exact ⟨i, b, r, hb, hr, hi.symm⟩
theorem rows_rd {Z g n m : Nat} {w : World} {bk : List Nat} {rows : List (List UInt8)} (hR : Rws Z w bk rows) (h8 : ∀ r ∈ rows, r.length = 8) (hG : At w g (.cells (bk.map sl8).toArray 22)) (hn : bk.length = n) (hm : m ≤ n) (hn2 : n ≤ 100000) :
    RdL (fun _ => False) w (.slice (some ⟨g, 0, none⟩) m n) ((zipR bk rows).take m) ∧ cat ((zipR bk rows).take m) = (rows.take m).flatten := by
  have hl := hR.len
  refine ⟨⟨?_, fun x hx => ?_⟩, ?_⟩
  · rw [List.map_take, zipR_fst bk rows hl]
    refine ⟨some ⟨g, 0, none⟩, n, by rw [List.length_take, List.length_map, Nat.min_eq_left (by omega)], by rw [List.length_take, List.length_map]; omega, by simp [maxLen]; omega, ?_⟩
    have h := Row.of_block (A := fun _ => False) hG (by simp)
    have h2 := Row.take h m
    simpa using h2
  · obtain ⟨i, b, r, hb, hr, rfl⟩ := zipR_get bk rows x (List.mem_of_mem_take hx)
    have h8r := h8 r (List.mem_of_getElem? hr)
    have hA := hR.at_ i b r hb hr
    refine ⟨some ⟨b, 0, none⟩, 8, by rw [h8r]; rfl, by rw [h8r]; exact Nat.le_refl _, by decide, ?_⟩
    have h := Row.of_block (A := fun _ => False) hA (by simp)
    simpa using h
  · unfold cat
    rw [List.flatMap_def, List.map_take, zipR_snd bk rows hl]
theorem rwN_eight (n : Nat) (PP : Nat → Nat → UInt8) (j i : Nat) : ∀ r ∈ rwN n PP j i, r.length = 8 := fun r hr => by
  unfold rwN at hr
  obtain ⟨k, -, rfl⟩ := List.mem_map.1 hr
  simp
/-- what a group is rebuilt to -/
def rebP (E : Nat → Addr) (w : World) (bs : List (List UInt8)) (e : Ending) (w' : World) : Prop :=
  ((∃ u, e = .returned (.tuple #[u, .int .i64 ((gon bs).length : Int), .int .i64 (nHit bs bs.length : Int), .nilIface]) ∧ (∀ j, j < 8 → fixOk bs j) ∧ OwnB 5 w.heap.size w' u (gPart bs (bs.length - 32))) ∨
   (e = .returned (.tuple #[.slice none 0 0, .int .i64 0, .int .i64 0, .iface 261 (.pointer (some (E 17)))]) ∧ ∃ j, j < 8 ∧ ¬ fixOk bs j)) ∧ Fr [] w w'
set_option maxRecDepth 1000000 in
set_option maxHeartbeats 8000000 in
theorem rebuilt_any (E : Nat → Addr) (B : Nat) (w : World) (v : Value) (ls : List (Value × List UInt8)) (bs : List (List UInt8)) (hE : Errs all20 E B w) (hr : RdB (fun _ => False) w v ls) (hls : ls.map (·.2) = bs) (hn : 33 ≤ ls.length ∧ ls.length ≤ 255) : Calls Tryd.prog 35 #[v] w (rebP E w bs) := by
  suffices H : ∀ Q : Ending → World → Prop, (∀ e w', rebP E w bs e w' → Q e w') → Calls Tryd.prog 35 #[v] w Q from H _ fun _ _ h => h
  intro Q hQ
  have HQ := Lib.hid hQ
  have HR := Lib.hid hr
  have HER := Lib.hid hE
  have HLS := Lib.hid hls
  obtain ⟨ba, bc, e, c2, c3⟩ := rdb_shape hr
  subst e
  unfold maxLen at c3
  obtain ⟨n, hnn⟩ : ∃ n, ls.length = n := ⟨_, rfl⟩
  have HN := Lib.hid hnn
  have HBL := Lib.hid (show bs.length = n by rw [← hls, List.length_map, hnn])
  rw [hnn] at HR c2 hn ⊢
  obtain ⟨h33, h255⟩ := hn
  obtain ⟨i0, hi, hz, hsz1, hby⟩ := info_bytes Tryd.infoBool
  clear hQ hr hE hls hnn
  go_enter Tryd.func35, Tryd.ntmps35
  go_wp2_with fail
  refine rb1_loop w _ rfl rfl ba n bc ls bs rfl rfl rfl rfl rfl (by omega) HN.out HLS.out HR.out _ ?_
  intro c w1 ov kd ks q0 q6 hI hf
  have hI2 := hI.is (A := fun _ => False) (by simp)
  obtain ⟨ea, ec, e, -⟩ := hI2.shape
  subst e
  rw [intL_len] at hI2 q6
  have HI1 := Lib.hid (show Is (fun b => w1.heap.size ≤ b) w1 (.slice ea (gon bs).length ec) (intL (gon bs)) from Vs.mono hI2 (S := []) (Fr.refl _ _) (by simp) (fun b h => .inr h))
  obtain ⟨EL, hEL⟩ : ∃ x, (gon bs).length = x := ⟨_, rfl⟩
  have HEL := Lib.hid hEL
  rw [hEL] at HI1 q6
  have HF1 := Lib.hid hf
  rw [frame112 c ks kd, q0, q6]
  clear ks kd q0 q6 hI hI2 hf hEL
  go_wp2_with (go_at_call 51; fail)
  refine (blank_any w1 n (by omega)).mono ?_
  rintro e w2 ⟨g, bk, rfl, hg, hgb, hG, hRw, hf⟩
  have HG2 := Lib.hid hG
  have HR2 := Lib.hid hRw
  have HGB := Lib.hid hgb
  have HI2 := Lib.hid (HI1.out.keep0 hf)
  have HF2 := Lib.hid (HF1.out.trans hf)
  have hw1 := HF1.out.size
  have hw2 := hf.size
  have hgl := HG2.out.lt
  clear hG hRw hgb hf HI1 HF1
  go_wp2_with (refine wpList_make_row _ rfl (.tmp 40) (.tmp 40) 103 rfl 4 i0 (.bool false) Tryd.underlying103 hi hz hsz1 rfl .i64 .i64 n rfl rfl (by rw [hby]; omega) (by omega) ?_)
  have hmb := made_bools n
  have fm : Fr [] w2 (w2.alloc (.cells (madeCells #[.bool false] n) 4)) := Fr.alloc _ _
  have HA3 := Lib.hid (show At (w2.alloc (.cells (madeCells #[.bool false] n) 4)) w2.heap.size (.cells (boolC (inL n [])) 4) by rw [hmb]; exact At.new rfl)
  have HG3 := Lib.hid (HG2.out.keep0 fm)
  have HR3 := Lib.hid (HR2.out.keep fm (by simp))
  have HI3 := Lib.hid (HI2.out.keep0 fm)
  have HF3 := Lib.hid (HF2.out.trans fm)
  have HCB := Lib.hid (show w2.heap.size ∉ bk from fun h => by have := HR2.out.lt _ h; omega)
  obtain ⟨w3, hw3⟩ : ∃ x, w2.alloc (.cells (madeCells #[.bool false] n) 4) = x := ⟨_, rfl⟩
  rw [hw3] at HA3 HG3 HR3 HI3 HF3 ⊢
  obtain ⟨cb, hcb⟩ : ∃ x, w2.heap.size = x := ⟨_, rfl⟩
  rw [hcb] at HA3 HCB hgl hw2 ⊢
  have HR3b := Lib.hid (show Rws w.heap.size w3 bk (rwN n (fixB bs) 0 0) by
    rw [rwN_zero]
    exact ⟨HR3.out.len, HR3.out.nd, fun b hb => Nat.le_trans hw1 (HR3.out.lo b hb), HR3.out.at_⟩)
  have HI3b := Lib.hid (show Is (fun b => b = cb ∨ b ∈ bk) w3 (.slice ea EL ec) (intL (gon bs)) from Vs.mono HI3.out (S := []) (Fr.refl _ _) (by simp) (fun b h => .inl (h.elim (fun h => by subst h; exact hw2) (fun h => HR3.out.lo b h))))
  clear hmb fm hw3 hcb hi hz hsz1 hby HG2 HR2 HI2 HF2 HR3 HI3
  go_wp2_with fail
  refine rb2_loop w w3 _ rfl rfl ba ea n bc EL ec g cb E B ls bs bk rfl rfl rfl rfl rfl (by omega) HN.out HLS.out HR.out HER.out HF3.out HI3b.out HG3.out HR3b.out HA3.out HGB.out (by omega) HCB.out (by omega) _ ?_ ?_
  · intro c w4 kd ks q0 q6 q9 q10 hok hf hG hRw hA
    have HOK := Lib.hid hok
    have HF4 := Lib.hid hf
    have HG4 := Lib.hid hG
    have HR4 := Lib.hid hRw
    have HA4 := Lib.hid hA
    rw [frame112 c ks kd, q0, q6, q9, q10]
    clear ks kd q0 q6 q9 q10 hok hf hG hRw hA HA3 HG3 HF3 HR3b HI3b
    go_wp2_with fail
    refine rb5_loop w4 _ rfl rfl ba ea n bc EL ec g cb ls bs rfl rfl rfl rfl rfl rfl rfl (by omega) HN.out HLS.out (HR.out.keep HF4.out (by simp)) HA4.out _ ?_
    intro c kd ks q6 q9 q18
    rw [frame112 c ks kd, q6, q9, q18]
    clear ks kd q6 q9 q18
    obtain ⟨HIT, hHIT⟩ : ∃ x, nHit bs n = x := ⟨_, rfl⟩
    have HHIT := Lib.hid hHIT
    rw [hHIT]
    clear hHIT
    obtain ⟨m, hm⟩ : ∃ m, n = m + 32 := ⟨n - 32, by omega⟩
    subst hm
    have hbk : bk.length = m + 32 := by rw [HR4.out.len, rwN_len]
    obtain ⟨x1, x2⟩ := rows_rd (n := m + 32) (m := m) HR4.out (rwN_eight _ _ _ _) HG4.out hbk (by omega) (by omega)
    clear hbk
    rw [gPart_rows bs (m + 32) m (by omega)] at x2
    have HX2 := Lib.hid x2
    have HCC := Lib.hid (concat_any (fun _ => False) w4 _ _ x1 (by rw [List.length_take]; omega) (by rw [x2, gPart_len]; omega))
    rw [x2] at HCC
    have hmi : ((m + 32 : Nat) : Int) - 32 = m := by omega
    have hm2 : (0 : Int) ≤ m := by omega
    have hm3 : (m : Int) ≤ ((m + 32 : Nat) : Int) := by omega
    clear x1 x2
    go_wp2_with (go_at_call 56; fail)
    refine HCC.out.mono ?_
    rintro e w5 ⟨u, rfl, ho, hf⟩
    have HO := Lib.hid (ho.base HF4.out.size)
    have HF5 := Lib.hid (HF4.out.trans hf)
    clear ho hf HCC
    go_wp2
    refine bodyPost_ret (results_tmp4 rfl _ _ _) rfl ?_
    refine HQ.out _ _ ⟨.inl ⟨u, by rw [HBL.out, HEL.out, HHIT.out]; rfl, HOK.out, by rw [HBL.out]; exact HO.out⟩, HF5.out⟩
  · intro c w4 kd ks q2 q3 q4 q5 hno hf
    have HNO := Lib.hid hno
    have HF4 := Lib.hid hf
    rw [frame112 c ks kd, q2, q3, q4, q5]
    clear ks kd q2 q3 q4 q5 hno hf
    go_wp2
    refine bodyPost_ret (results_tmp4 rfl _ _ _) rfl ?_
    exact HQ.out _ _ ⟨.inr ⟨rfl, HNO.out⟩, HF4.out⟩
end Go.Proofs.YtmohiblgfmdkjaaDoor
