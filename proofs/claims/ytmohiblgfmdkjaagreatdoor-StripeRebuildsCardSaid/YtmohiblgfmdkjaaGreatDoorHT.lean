import Derived.Test.YtmohiblgfmdkjaaGreatDoorHJ
import Derived.Test.YtmohiblgfmdkjaaGreatDoorHS
import Derived.OwnWalk
import Derived.Test.YtmohiblgfmdkjaaGreatDoorHK
import Derived.Test.YtmohiblgfmdkjaaGreatDoorRer
import Derived.Test.YtmohiblgfmdkjaaGreatDoorHQ
import Derived.Test.YtmohiblgfmdkjaaGreatDoorJQ
namespace Go.Proofs.YtmohiblgfmdkjaaGreatDoor
open Go.RowKit Go.Bl
set_option linter.unusedVariables false
set_option maxRecDepth 1000000 in
set_option maxHeartbeats 8000000 in
theorem tried_any (w : World) (v0 v2 v3 : Value) (ws reg : List UInt8) (ps : List Nat) (t : Nat) (s : List UInt8) (hs : s.length = 32) (hb : Bs (fun _ => False) w v0 ws) (hr : Bs (fun _ => False) w v2 reg) (hv : Is (fun _ => False) w v3 (intL ps)) (h33 : 33 ≤ ws.length) (h255 : ws.length ≤ 255) (hp : ∀ p ∈ ps, p < ws.length) (hnd : ps.Nodup) (hpl : ps.length ≤ 32) (ht : t ≤ 16) :
    Calls Tryz.prog 28 #[v0, .agg (s.map u8v).toArray, v2, v3, .int .i64 t] w fun e w' => ((e = .returned (.tuple #[.slice none 0 0, .slice none 0 0, .bool false]) ∧ trNo ws.length reg ps t s) ∨
      ∃ u v x, e = .returned (.tuple #[u, v, .bool true]) ∧ trYes ws.length ws reg ps t s x ∧ OwnB 5 w.heap.size w' u (trO ws (ps ++ fndL ws.length reg ps) x (ps ++ fndL ws.length reg ps).length) ∧
        OwnI 3 w.heap.size w' v (intL (dfrK (trO ws (ps ++ fndL ws.length reg ps) x (ps ++ fndL ws.length reg ps).length) ws ws.length))) ∧ Fr [] w w' := by
  suffices H : ∀ Q : Ending → World → Prop, (∀ e w', ((e = .returned (.tuple #[.slice none 0 0, .slice none 0 0, .bool false]) ∧ trNo ws.length reg ps t s) ∨
      ∃ u v x, e = .returned (.tuple #[u, v, .bool true]) ∧ trYes ws.length ws reg ps t s x ∧ OwnB 5 w.heap.size w' u (trO ws (ps ++ fndL ws.length reg ps) x (ps ++ fndL ws.length reg ps).length) ∧
        OwnI 3 w.heap.size w' v (intL (dfrK (trO ws (ps ++ fndL ws.length reg ps) x (ps ++ fndL ws.length reg ps).length) ws ws.length))) ∧ Fr [] w w' → Q e w') →
      Calls Tryz.prog 28 #[v0, .agg (s.map u8v).toArray, v2, v3, .int .i64 t] w Q from H _ fun _ _ h => h
  intro Q hQ
  have HQ := Lib.hid hQ
  have HND := Lib.hid hnd
  have HB := Lib.hid hb
  have HRG := Lib.hid hr
  have HV := Lib.hid hv
  obtain ⟨da, dc, e, d2, d3, -⟩ := id hb
  subst e
  obtain ⟨ra, rc, e, -, r3, -⟩ := id hr
  subst e
  obtain ⟨pa, pc, e, p2, p3, -⟩ := hv.shape
  subst e
  unfold maxLen at d3 r3 p3
  rw [intL_len] at HV p2 ⊢
  obtain ⟨N, hN⟩ : ∃ N, ws.length = N := ⟨_, rfl⟩
  obtain ⟨RN, hRN⟩ : ∃ N, reg.length = N := ⟨_, rfl⟩
  obtain ⟨PL, hPL⟩ : ∃ N, ps.length = N := ⟨_, rfl⟩
  have HN := Lib.hid hN
  have HPL := Lib.hid hPL
  rw [hN] at HB HQ d2 h33 h255 hp ⊢
  rw [hRN] at HRG ⊢
  rw [hPL] at HV p2 hpl ⊢
  have HP := Lib.hid hp
  obtain ⟨SC, hSC⟩ : ∃ c, (s.map u8v).toArray = c := ⟨_, rfl⟩
  have hsz : SC.size = 32 := by rw [← hSC]; simp [hs]
  have HSC := Lib.hid (show ∀ j, j < 32 → SC[j]? = some (.int .u8 ((cf s j).toNat : Int)) from fun j hj => by
    rw [← hSC, List.getElem?_toArray, List.getElem?_map, List.getElem?_eq_getElem (by omega)]
    unfold cf
    rw [List.getD_eq_getElem?_getD, List.getElem?_eq_getElem (by omega)]; rfl)
  have HSS := Lib.hid hsz
  rw [hSC]
  obtain ⟨i0, hi, hz, hsz1, hby⟩ := info_bytes Tryz.infoBool
  have fa : Fr [] w (w.alloc (.cells SC 51)) := Fr.alloc _ _
  have HX0 := Lib.hid (show At (w.alloc (.cells SC 51)) w.heap.size (.cells SC 51) from At.new rfl)
  obtain ⟨w0, hw0⟩ : ∃ w0, w.alloc (.cells SC 51) = w0 := ⟨_, rfl⟩
  rw [hw0] at fa HX0
  have HF0 := Lib.hid fa
  clear hb hr hv hN hRN hPL hSC fa hp hnd hs hQ
  go_enter Tryz.func28, Tryz.ntmps28
  go_wp2_with (refine wpList_make_row _ rfl (.tmp 34) (.tmp 34) 83 rfl 4 i0 (.bool false) Tryz.underlying83 hi hz hsz1 rfl .i64 .i64 N rfl rfl (by rw [hby]; omega) (by omega) ?_)
  try rw [hw0]
  have hmb := made_bools N
  have fm : Fr [] w0 (w0.alloc (.cells (madeCells #[.bool false] N) 4)) := Fr.alloc _ _
  have HA1 := Lib.hid (show At (w0.alloc (.cells (madeCells #[.bool false] N) 4)) w0.heap.size (.cells (boolC (inL N [])) 4) by rw [hmb]; exact At.new rfl)
  have HF1 := Lib.hid fm
  have hs1 : (w0.alloc (.cells (madeCells #[.bool false] N) 4)).heap.size = w0.heap.size + 1 := by simp
  obtain ⟨w1, hw1⟩ : ∃ x, w0.alloc (.cells (madeCells #[.bool false] N) 4) = x := ⟨_, rfl⟩
  rw [hw1] at HA1 HF1 hs1 ⊢
  obtain ⟨gb, hgb⟩ : ∃ x, w0.heap.size = x := ⟨_, rfl⟩
  have HGB := Lib.hid hgb
  rw [hgb] at HA1 hs1 ⊢
  have hxb := HX0.out.lt
  rw [hgb] at hxb
  obtain ⟨xb, hxe⟩ : ∃ x, w.heap.size = x := ⟨_, rfl⟩
  have HXE := Lib.hid hxe
  rw [hxe] at HX0 hxb ⊢
  have HV1 := Lib.hid (show Is (fun b => b = gb) w1 (.slice pa PL pc) (intL ps) from Vs.mono HV.out (HF0.out.trans HF1.out) (by simp) (fun b h => .inr (by omega)))
  clear hmb hw1 hi hz hsz1 hby fm hw0 hgb hxe
  go_wp2_with fail
  refine trd1_loop w1 _ rfl rfl da ra pa dc rc RN pc PL t xb N gb ps rfl rfl rfl rfl rfl rfl rfl rfl rfl rfl HPL.out (by omega) (by omega) HP.out HV1.out HA1.out _ ?_
  intro c w2 kd ks q0 q2 q3 q4 q6 q13 q14 hA hf
  have HF2 := Lib.hid (HF1.out.then hf (by intro b hb; simp at hb; subst hb; exact .inr (by rw [HGB.out]; exact Nat.le_refl _)))
  have hz2 : gb + 1 ≤ w2.heap.size := by have := hf.size; omega
  rw [frame172 c ks kd, q0, q2, q3, q4, q6, q13, q14]
  clear ks kd q0 q2 q3 q4 q6 q13 q14
  have fa : Fr [] w2 (w2.alloc (.cells #[] 3)) := Fr.alloc _ _
  have HI := Lib.hid (show OwnI 3 w2.heap.size (w2.alloc (.cells #[] 3)) (.slice (some ⟨w2.heap.size, 0, none⟩) 0 0) [] from OwnV.lit 3 w2.heap.size w2 #[] (Nat.le_refl _) (by simp [maxLen]))
  have HA2 := Lib.hid (hA.keep0 fa)
  have HFa := Lib.hid (HF2.out.trans fa)
  have HV2 := Lib.hid (HV.out.keep (HF0.out.trans HFa.out) (by simp))
  have hwZ : w0.heap.size ≤ w2.heap.size := HF2.out.size
  clear fa hA hf HF1 HA1 HV1 HF2
  go_wp2_with (at_builtin; refine wpl_append_isI (A := fun _ => False) (ys := intL ps) (base := w2.heap.size) Tryz.underlying23 Tryz.infoIntT rfl (.tmp 46) (.tmp 47) rfl rfl rfl HI.out HV2.out (by rw [intL_len, HPL.out]; simp; omega) (by simp) ?_)
  intro pv w3 h3 g3
  have HI3 := Lib.hid (show OwnI 3 w2.heap.size w3 pv (intL ps) from h3)
  have HF3 := Lib.hid (show Fr [] w0 w3 from OwnI.fr HI.out HFa.out g3 hwZ)
  have HA3 := Lib.hid (HA2.out.grown g3 (HI.out.ne (show gb < w2.heap.size by omega)))
  have hz3 : w2.heap.size ≤ w3.heap.size := by have := (grown_fr g3).size; simp at this; omega
  clear h3 g3 HI HA2 HFa HV2
  go_wp2_with fail
  refine trd2_loop w0 w3 _ rfl rfl da ra dc rc RN t xb N gb w2.heap.size pv ps reg rfl rfl rfl rfl rfl rfl rfl rfl rfl h255 (by rw [HPL.out]; omega) HA3.out HF3.out hwZ hz3 (by omega) (HRG.out.keep HF0.out (by simp)) HI3.out _ ?_
  intro c wm lv kd ks q0 q4 q6 q13 q14 q17 q18 hI hA hf
  have HFm := Lib.hid hf
  have HA := Lib.hid hA
  have HX := Lib.hid (HX0.out.keep0 hf)
  have hall : ∀ q ∈ ps ++ fndL N reg ps, q < N := fun q hq => (List.mem_append.1 hq).elim (HP.out q) (fun h => (mem_fndL.1 h).1)
  have hnda : (ps ++ fndL N reg ps).Nodup := fall_nodup HND.out
  obtain ⟨la, lc, e, -⟩ := (hI.is (A := fun _ => False) (by simp)).shape
  subst e
  rw [intL_len] at hI q17
  have hl := hI.is (A := fun _ => False) (by simp)
  have hfl : (fndL N reg ps).length ≤ N := by
    have := List.length_filter_le (fun p => decide (p ∉ ps) && decide (pev reg (ginv (plX N p)) = 0)) (List.range N)
    rw [List.length_range] at this
    exact this
  have hal300 : (ps ++ fndL N reg ps).length ≤ 300 := by rw [List.length_append, HPL.out]; omega
  have hall2 : (ps ++ fndL N reg ps).length = PL + (fndL N reg ps).length := by rw [List.length_append, HPL.out]
  have HNO1 := Lib.hid (show ¬ (fndL N reg ps).length = t → trNo N reg ps t s from fun h => .inl h)
  have HNO2 := Lib.hid (show (∀ x, ¬ solA N (ps ++ fndL N reg ps) s x) → trNo N reg ps t s from fun h => .inr (.inl h))
  have HNO3 := Lib.hid (show ∀ x, (fndL N reg ps).length = t → solA N (ps ++ fndL N reg ps) s x → (∃ q, q ∉ ps ∧ q ∈ ps ++ fndL N reg ps ∧ errOf (ps ++ fndL N reg ps) x q = 0) → trNo N reg ps t s from fun x h1 h2 ⟨q, h3, h4, h5⟩ => .inr (.inr ⟨x, h1, h2, q, (List.mem_append.1 h4).resolve_left h3, h5⟩))
  have HYES := Lib.hid (show ∀ x, (fndL N reg ps).length = t → solA N (ps ++ fndL N reg ps) s (cf x) → trYes N ws reg ps t s x from fun x h1 h2 => ⟨h1, h2⟩)
  have HSOL := Lib.hid (fun x => trRows_sol N (ps ++ fndL N reg ps) s x)
  obtain ⟨SA, hSA⟩ : ∃ S, solA N (ps ++ fndL N reg ps) s = S := ⟨_, rfl⟩
  rw [hSA] at HNO2 HNO3 HYES HSOL
  obtain ⟨FD, hFD⟩ : ∃ l, fndL N reg ps = l := ⟨_, rfl⟩
  rw [hFD] at hI hl hall hal300 hall2 hnda HNO1 HNO3 HSOL HYES HQ q17 q18
  obtain ⟨all, hal⟩ : ∃ l, ps ++ FD = l := ⟨_, rfl⟩
  rw [hal] at hI hl hall hal300 hall2 hnda HNO3 HSOL HQ q17
  obtain ⟨AN, hAN⟩ : ∃ x, all.length = x := ⟨_, rfl⟩
  have HAN := Lib.hid hAN
  rw [hAN] at hl hal300 hall2 HQ HSOL q17
  have HALL := Lib.hid hall
  have HNDA := Lib.hid hnda
  have HL := Lib.hid hl
  clear hI hA hf hal hAN hall hnda hSA hl hFD HI3 HF3 HA3 HRG HV HP HND hfl
  have hAN60 : FD.length = t → AN ≤ 60 := by omega
  clear hall2
  by_cases hft : FD.length = t
  · replace hAN60 := hAN60 hft
    have HFT := Lib.hid hft
    rw [hft] at q18
    rw [frame172 c ks kd, q0, q4, q6, q13, q14, q17, q18]
    clear ks kd q0 q4 q6 q13 q14 q17 q18
    clear hft
    have HO0 := Lib.hid (show OwnV 22 wm.heap.size (wm.alloc (.cells #[] 22)) (.slice (some ⟨wm.heap.size, 0, none⟩) 0 0) [] from OwnV.lit 22 wm.heap.size wm #[] (Nat.le_refl _) (by simp [maxLen]))
    have HG0 := Lib.hid (show Fr [] wm (wm.alloc (.cells #[] 22)) from Fr.alloc _ _)
    have hb0 : wm.heap.size ≤ (wm.alloc (.cells #[] 22)).heap.size := by simp
    go_wp2_with fail
    refine trd3_loop wm _ _ rfl rfl da la dc lc AN xb N gb wm.heap.size _ all s SC rfl rfl rfl rfl rfl rfl rfl HAN.out hal300 h255 HALL.out HL.out HX.out HSC.out HSS.out HO0.out HG0.out (Nat.le_refl _) hb0 _ ?_
    intro c wl rv ls kd ks q0 q6 q13 q14 q17 q20 hO hOB hOS hf
    have hlen : ls.length = 32 := by have h := congrArg List.length hOS; simpa using h
    have HRD := Lib.hid (show RdB (fun _ => False) wl rv ls from ⟨hO.vs (by simp), fun x hx => (hOB x hx).bs (by simp)⟩)
    have HW := Lib.hid (show ∀ x ∈ ls, x.2.length = AN + 1 from fun x hx => by
      have h : x.2 ∈ ls.map (·.2) := List.mem_map.2 ⟨x, hx, rfl⟩
      rw [hOS] at h
      obtain ⟨k', -, e⟩ := List.mem_map.1 h
      rw [← e]
      unfold trRows
      rw [List.length_append, List.length_map, HAN.out]; rfl)
    have HSV := Lib.hid (show Calls Tryz.prog 60 #[rv, .int .i64 AN] wl fun e w' => ((e = .returned (.tuple #[.slice none 0 0, .bool false]) ∧ ∀ x, ¬ SA x) ∨ ∃ u x, e = .returned (.tuple #[u, .bool true]) ∧ OwnB 5 wl.heap.size w' u x ∧ x.length = AN ∧ SA (cf x)) ∧ Fr [] wl w' from by
      refine (solve_any wl rv ls AN HRD.out HW.out hAN60 (by omega)).mono ?_
      rw [hOS]
      rintro e w' ⟨⟨h1, h2⟩ | ⟨u, x, h1, h2, h3, h4⟩, hf⟩
      · exact ⟨.inl ⟨h1, fun x hx => h2 x ((HSOL.out x).2 hx)⟩, hf⟩
      · exact ⟨.inr ⟨u, x, h1, h2, h3, (HSOL.out _).1 h4⟩, hf⟩)
    have HGW := Lib.hid ((HF0.out.trans HFm.out).trans hf)
    have HL1 := Lib.hid (HL.out.keep hf (by simp))
    have HA1 := Lib.hid (HA.out.keep0 hf)
    clear HRD HW hO hOB hOS HSOL HL HA hf hlen HO0 HG0 hb0 HX HFm
    rw [frame172 c ks kd, q0, q6, q13, q14, q17, q20]
    clear ks kd q0 q6 q13 q14 q17 q20
    go_wp2_with (go_at_call 60; fail)
    refine HSV.out.mono ?_
    rintro e w5 ⟨⟨rfl, hno⟩ | ⟨u, x, rfl, ho, hxl, hsa⟩, hf⟩
    · have HNO := Lib.hid (HNO2.out hno)
      have HF5 := Lib.hid (HGW.out.trans hf)
      clear hf hno HSV
      go_wp2
      go_ret3
      exact HQ.out _ _ ⟨.inl ⟨rfl, HNO.out⟩, HF5.out⟩
    · obtain ⟨ya, yc, rfl, -⟩ := ho.bs (A := fun _ => False) (by simp)
      rw [hxl]
      have HXL := Lib.hid hxl
      have HSA := Lib.hid hsa
      have HF5 := Lib.hid (HGW.out.trans hf)
      have HY5 := Lib.hid (show Bs (fun b => w5.heap.size ≤ b) w5 (.slice ya AN yc) x by
        have h := ho.bs (A := fun _ => False) (by simp)
        rw [hxl] at h
        exact h.mono (S := []) (Fr.refl _ _) (by simp) fun b h => .inr h)
      have HL5 := Lib.hid (show Is (fun b => w5.heap.size ≤ b) w5 (.slice la AN lc) (intL all) from Vs.mono (HL1.out.keep0 hf) (S := []) (Fr.refl _ _) (by simp) fun b h => .inr h)
      have HA5 := Lib.hid (HA1.out.keep0 hf)
      have hg5 := HA5.out.lt
      have hw5 := HF5.out.size
      have HE5 := Lib.hid (OwnB.empty 5 w5.heap.size w5 (Nat.le_refl _))
      have HWB5 := Lib.hid ((HB.out.keep (HF5.out.trans (Fr.alloc (S := []) w5 (.cells #[] 5))) (by simp)))
      clear ho hxl hsa hf HSV HGW HL1 HA1
      go_wp2_with (at_builtin; refine wpl_append_bs (A := fun _ => False) (ys := ws) (base := w5.heap.size) Tryz.underlying22 Tryz.infoByte rfl (.tmp 116) (.tmp 117) rfl rfl rfl HE5.out HWB5.out (by simp [HN.out]; omega) (by simp) ?_)
      intro vb w6 hb6 hg6
      have hf6 : Fr [] w5 w6 := HE5.out.fr (Fr.alloc _ _) hg6 (Nat.le_refl _)
      obtain ⟨g, cb, e, hgb6, b1, b2, -⟩ := hb6.shape (by simp [HN.out]; omega)
      subst e
      try simp only [List.nil_append] at hb6
      have hbl : ([] ++ ws).length = N := by simp [HN.out]
      try rw [hbl]
      try rw [HN.out]
      have HY6 := Lib.hid (HY5.out.keep hf6 (by simp))
      have HL6 := Lib.hid (HL5.out.keep hf6 (by simp))
      have HA6 := Lib.hid (HA5.out.keep0 hf6)
      have HF6 := Lib.hid (HF5.out.trans hf6)
      have HO6 := Lib.hid (show OwnB 5 w5.heap.size w6 (.slice (some ⟨g, 0, none⟩) N cb) ws by rw [HN.out] at hb6; exact hb6)
      have hz5 := (hb6.lt g rfl).1
      have hgg : gb ≠ g := by omega
      have hs6 := hf6.size
      clear hb6 hg6 hf6 hgb6 b1 b2 HE5 HWB5 HY5 HL5 HA5 HF5 hbl hg5
      go_wp2_with fail
      refine trd5_loop w6 _ rfl rfl da la ya dc N g cb gb AN yc lc w5.heap.size all ps ws x rfl rfl rfl rfl rfl rfl rfl rfl HAN.out HXL.out HN.out hal300 h255 HALL.out hz5 hgg HL6.out HY6.out HA6.out HO6.out _ ?_ ?_
      · intro c w7 kd ks q0 q13 q27 hO hf
        have HYS := Lib.hid (HYES.out x HFT.out HSA.out)
        have HTL := Lib.hid (show (trO ws all x AN).length = N by rw [trO_len, HN.out])
        have HQ2 := Lib.hid (fun (u v : Value) (w' : World) => fun (h1 : OwnB 5 w.heap.size w' u (trO ws all x AN)) (h2 : OwnI 3 w.heap.size w' v (intL (dfrK (trO ws all x AN) ws N))) (h3 : Fr [] w w') => HQ.out (.returned (.tuple #[u, v, .bool true])) w' ⟨.inr ⟨u, v, x, rfl, HYS.out, h1, h2⟩, h3⟩)
        obtain ⟨out, hout⟩ : ∃ o, trO ws all x AN = o := ⟨_, rfl⟩
        rw [hout] at hO HQ2 HTL
        have HF7 := Lib.hid (HF6.out.then hf (by intro b hb; simp at hb; subst hb; exact .inr (by omega)))
        have HO7 := Lib.hid hO
        have hs7 := HF7.out.size
        rw [frame172 c ks kd, q0, q13, q27]
        clear ks kd q0 q13 q27
        clear hout hO hf HSA HYS HY6 HL6 HA6 HF6 HO6
        have HI7 := Lib.hid (show OwnI 3 w7.heap.size (w7.alloc (.cells #[] 3)) (.slice (some ⟨w7.heap.size, 0, none⟩) 0 0) [] from OwnV.lit 3 w7.heap.size w7 #[] (Nat.le_refl _) (by simp [maxLen]))
        have HG7 := Lib.hid (show Fr [] w7 (w7.alloc (.cells #[] 3)) from Fr.alloc _ _)
        have hb7 : w7.heap.size ≤ (w7.alloc (.cells #[] 3)).heap.size := by simp
        go_wp2_with fail
        refine trd6_loop _ w7 _ rfl rfl da dc N g cb w7.heap.size w5.heap.size (.slice (some ⟨w7.heap.size, 0, none⟩) 0 0) ws out rfl rfl rfl rfl rfl HN.out HTL.out h255 (HB.out.keep HF7.out (by simp)) HO7.out HG7.out (Nat.le_refl _) hb7 HI7.out _ ?_
        intro c w9 ov kd ks q27 q30 hI hf9
        have HI9 := Lib.hid hI
        have HF9 := Lib.hid (HF7.out.trans hf9)
        have HO9 := Lib.hid (HO7.out.keep hf9 (by simp))
        obtain ⟨oa, oc, e, -⟩ := (hI.is (A := fun _ => False) (by simp)).shape
        subst e
        rw [frame172 c ks kd, q27, q30]
        clear ks kd q27 q30
        clear hI hf9 HI7 HG7 hb7 HO7
        go_wp2
        go_ret3
        exact HQ2.out _ _ _ (HO9.out.base (by omega)) (OwnV.base HI9.out hs7) HF9.out
      · intro c w7 kd ks q10 q11 q12 hx hf
        obtain ⟨k, q, h1, h2, h3⟩ := hx
        have HNO := Lib.hid (HNO3.out (cf x) HFT.out HSA.out ⟨q, h3, List.mem_of_getElem? h1, by rw [errOf_at _ _ _ _ HNDA.out h1]; exact cf_get h2⟩)
        have HF7 := Lib.hid (HF6.out.then hf (by intro b hb; simp at hb; subst hb; exact .inr (by omega)))
        rw [frame172 c ks kd, q10, q11, q12]
        clear ks kd q10 q11 q12 h1 h2 h3 hf HSA HY6 HL6 HA6 HF6 HO6
        go_wp2
        go_ret3
        exact HQ.out _ _ ⟨.inl ⟨rfl, HNO.out⟩, HF7.out⟩
  · have hfti : ¬ ((FD.length : Int) = t) := by omega
    have HNO := Lib.hid (HNO1.out hft)
    have HFE9 := Lib.hid (HF0.out.trans HFm.out)
    rw [frame172 c ks kd, q0, q4, q6, q13, q14, q17, q18]
    clear ks kd q0 q4 q6 q13 q14 q17 q18
    clear hft
    go_wp2
    go_ret3
    exact HQ.out _ _ ⟨.inl ⟨rfl, HNO.out⟩, HFE9.out⟩
def rfixP (w : World) (ws : List UInt8) (l : List Int) (e : Ending) (w' : World) : Prop :=
  ((eraBad (ws.length : Int) l ≠ 0 ∧ e = .returned (.tuple #[.slice none 0 0, .slice none 0 0, .int .i64 0, .int .i64 (eraBad (ws.length : Int) l : Int)])) ∨
   (eraBad (ws.length : Int) l = 0 ∧ ¬ mGood ws l ∧ e = .returned (.tuple #[.slice none 0 0, .slice none 0 0, .int .i64 0, .int .i64 17])) ∨
   (eraBad (ws.length : Int) l = 0 ∧ mGood ws l ∧ ∃ u v, e = .returned (.tuple #[u, v, .int .i64 (regL (fRow (synL ws) (ws.length : Int) l) : Int), .int .i64 0]) ∧ OwnB 5 w.heap.size w' u (mOut ws l) ∧ OwnI 3 w.heap.size w' v (intL (dfrK ws (mOut ws l) ws.length)))) ∧ Fr [] w w'
set_option maxRecDepth 1000000 in
set_option maxHeartbeats 8000000 in
theorem rfix_any (w : World) (v0 v1 : Value) (ws : List UInt8) (l : List Int) (hb : Bs (fun _ => False) w v0 ws) (hv : Is (fun _ => False) w v1 l) (hl : l.length ≤ 1000) : Calls Tryz.prog 9 #[v0, v1] w (rfixP w ws l) := by
  suffices H : ∀ Q : Ending → World → Prop, (∀ e w', rfixP w ws l e w' → Q e w') → Calls Tryz.prog 9 #[v0, v1] w Q from H _ fun _ _ h => h
  intro Q hQ
  have HQ := Lib.hid hQ
  have HB := Lib.hid hb
  have HV := Lib.hid hv
  obtain ⟨wa, wc, e, d2, d3, -⟩ := id hb
  subst e
  obtain ⟨pa, pc, e, p2, p3, -⟩ := hv.shape
  subst e
  unfold maxLen at d3 p3
  obtain ⟨N, hN⟩ : ∃ N, ws.length = N := ⟨_, rfl⟩
  obtain ⟨PL, hPL⟩ : ∃ N, l.length = N := ⟨_, rfl⟩
  have HN := Lib.hid hN
  have HPL := Lib.hid hPL
  have HER := Lib.hid (rera_any w (.slice pa l.length pc) (N : Int) l hv hl)
  have HSY := Lib.hid (fun w' (h : Fr [] w w') => rsynd_any w' (.slice wa ws.length wc) ws (hb.keep h (by simp)))
  rw [hN] at HB d2 HSY ⊢
  rw [hPL] at HV p2 HER ⊢
  have hK : ∃ K, eraBad (N : Int) l = K := ⟨_, rfl⟩
  obtain ⟨K, hK⟩ := hK
  rw [hK] at HER
  have HK := Lib.hid hK
  clear hb hv hN hPL hQ hK
  go_enter Tryz.func9, Tryz.ntmps9
  go_wp2_with (go_at_call 24; fail)
  refine HER.out.mono ?_
  rintro e w1 ⟨gv, k, rfl, rfl, hg, hf⟩
  have HF1 := Lib.hid hf
  by_cases hk : k = 0
  · subst hk
    rw [if_pos rfl] at hg
    have h0 : eraBad (N : Int) l = 0 := HK.out
    obtain ⟨ps, rfl, hnd, hpn, hpl, h33, h255⟩ := era_ps h0
    have HND := Lib.hid hnd
    have HPN := Lib.hid hpn
    have H0 := Lib.hid h0
    have HPL2 := Lib.hid (show ps.length = PL by rw [← HPL.out, intL_len])
    have hpl2 : PL ≤ 32 := by have := HPL2.out; omega
    have HG := Lib.hid (hg.bs (A := fun _ => False) (by simp))
    obtain ⟨ga, gc, e, -⟩ := hg.bs (A := fun _ => False) (by simp)
    subst e
    have HEG := Lib.hid (era_g h0 (by rw [intL_len]; omega))
    obtain ⟨gg, hgg⟩ : ∃ x, pinvs (eraV (N : Int) (intL ps)) = x := ⟨_, rfl⟩
    have HROW := Lib.hid (show fRow (synL ws) (N : Int) (intL ps) = fornL (synL ws) gg PL by unfold fRow; rw [hgg, HPL.out])
    rw [hgg] at HG HEG ⊢
    obtain ⟨gn, hgn⟩ : ∃ x, gg.length = x := ⟨_, rfl⟩
    rw [hgn] at HG ⊢
    obtain ⟨SC, hSC⟩ : ∃ c, ((synL ws).map u8v).toArray = c := ⟨_, rfl⟩
    have HSC := Lib.hid hSC
    have HS2 := Lib.hid (show SC.size = 32 by rw [← hSC]; simp [synL_len])
    have HZ := Lib.hid (show (#[.int .u8 0, .int .u8 0, .int .u8 0, .int .u8 0, .int .u8 0, .int .u8 0, .int .u8 0, .int .u8 0, .int .u8 0, .int .u8 0, .int .u8 0, .int .u8 0, .int .u8 0, .int .u8 0, .int .u8 0, .int .u8 0, .int .u8 0, .int .u8 0, .int .u8 0, .int .u8 0, .int .u8 0, .int .u8 0, .int .u8 0, .int .u8 0, .int .u8 0, .int .u8 0, .int .u8 0, .int .u8 0, .int .u8 0, .int .u8 0, .int .u8 0, .int .u8 0] : Array Value).size = SC.size by rw [HS2.out]; rfl)
    have HS1 := Lib.hid (show SC.all (·.oneCell') = true by rw [← hSC]; exact cells_one _)
    rw [hSC] at HSY
    have HFO := Lib.hid (fun w' (h : Fr [] w1 w') => rforney_any w' (synL ws) gg (.slice ga gn gc) PL (synL_len _) (HG.out.keep h (by simp)) (by have := HEG.out.1; rw [HPL.out] at this; exact this) hpl2 HEG.out.2)
    rw [hSC] at HFO
    clear hg hf HER hgn hgg h0 hnd hpn hpl hSC
    go_wp2_with (go_at_call 25; fail)
    refine (HSY.out w1 HF1.out).mono ?_
    rintro e w2 ⟨rfl, hf⟩
    have hf2 : Fr [] w2 (w2.alloc (.cells SC 51)) := Fr.alloc _ _
    have HX2 := Lib.hid (show At (w2.alloc (.cells SC 51)) w2.heap.size (.cells SC 51) from At.new rfl)
    have HF12 := Lib.hid (hf.trans hf2)
    clear hf hf2
    go_wp2_with (first | (refine wpl_store_new (.tmp 10) (.tmp 28) rfl rfl SC rfl rfl (by rw [HS2.out]; kernel_rfl) HZ.out HS1.out ?_) | (refine wpl_load_rowG (.tmp 10) rfl rfl w2.heap.size SC rfl HX2.out Tryz.underlying51 rfl (by rw [HS2.out]; kernel_rfl) ?_) | (go_at_call 26; fail))
    refine (HFO.out _ HF12.out).mono ?_
    rintro e w3 ⟨u, rfl, ho, hf⟩
    have HX3 := Lib.hid (HX2.out.keep0 hf)
    have HF3 := Lib.hid (HF1.out.trans (HF12.out.trans hf))
    rw [← HROW.out] at ho
    obtain ⟨row, hrow⟩ : ∃ r, fRow (synL ws) (N : Int) (intL ps) = r := ⟨_, rfl⟩
    have HRE := Lib.hid hrow
    have hrl : row.length = 32 - PL := by rw [← hrow, HROW.out, fornL_len]
    rw [hrow] at ho
    have HR3 := Lib.hid (ho.bs (A := fun _ => False) (by simp))
    obtain ⟨ra, rc, e, -⟩ := ho.bs (A := fun _ => False) (by simp)
    subst e
    have HRL := Lib.hid hrl
    rw [hrl] at HR3 ⊢
    obtain ⟨RL, hRL⟩ : ∃ x, 32 - PL = x := ⟨_, rfl⟩
    have HRLE := Lib.hid hRL
    rw [hRL] at HR3 HRL ⊢
    obtain ⟨sb, hsb⟩ : ∃ x, w2.heap.size = x := ⟨_, rfl⟩
    rw [hsb] at HX3 ⊢
    have hrl60 : RL ≤ 32 := by omega
    have hml : regL row ≤ RL := by have := reg_le row; have := HRL.out; omega
    clear ho hf hrow hrl hRL HX2 HF12 HFO HSY HG hsb HROW
    go_wp2_with fail
    refine rfx_loop w3 w3 _ rfl rfl wa pa ra N wc PL pc RL rc sb SC (regL row) (fun t => ∀ x, ¬ sol t (regRows row t) x) (fun t x => x.length = t ∧ sol t (regRows row t) (cf x)) (fun t u v f w' => (f = true ∧ t = regL row ∧ mGood ws (intL ps) ∧ OwnB 5 w.heap.size w' u (mOut ws (intL ps)) ∧ OwnI 3 w.heap.size w' v (intL (dfrK ws (mOut ws (intL ps)) N))) ∨ (f = false ∧ ¬ mGood ws (intL ps))) rfl rfl rfl rfl rfl (by omega) (by omega) (Fr.refl _ _) HX3.out HS2.out ?_ ?_ ?_ _ ?_ ?_
    · intro t h1 h2 h3
      rcases Nat.lt_or_ge t (regL row) with h | h
      · exact h
      · exfalso
        obtain rfl : t = regL row := by omega
        exact h3 _ (reg_solved row)
    · intro t wr hf h1 h2
      have hb := HR3.out.keep hf (by simp)
      refine (rregister_any wr _ row t hb (by rw [HRL.out]; omega) (by omega)).mono ?_
      rintro e w' ⟨⟨h3, h4⟩ | ⟨u, x, h3, h4, h5, h6⟩, hf2⟩
      · exact ⟨.inl ⟨h3, h4⟩, hf2⟩
      · exact ⟨.inr ⟨u, x, h3, h4, by omega, h5, h6⟩, hf2⟩
    · intro t x h1 h2 ⟨h3, h4⟩ p rv base hp ho
      have htm : t = regL row := Nat.le_antisymm h1 (reg_short row t _ h4)
      subst htm
      have hwp := HF3.out.trans hp
      have hlen : 2 * regL row + ps.length ≤ 32 := by have := HRLE.out; have := HPL2.out; omega
      have hreg := reg_only row x h3 h4 (by rw [HRL.out]; exact h2)
      have := tried_any p (.slice wa N wc) rv (.slice pa PL pc) ws (1 :: x) ps (regL row) (synL ws) (synL_len _) (HB.out.keep hwp (by simp)) (ho.bs (by simp)) (HV.out.keep hwp (by simp)) (by rw [HN.out]; exact h33) (by rw [HN.out]; exact h255) (fun q hq => by rw [HN.out]; exact HPN.out q hq) HND.out (by rw [HPL2.out]; exact hpl2) (by omega)
      rw [HSC.out, HN.out] at this
      refine this.mono ?_
      have hrt : regL (fRow (synL ws) (N : Int) (intL ps)) = regL row := by rw [HRE.out]
      rintro e w' ⟨⟨k1, k2⟩ | ⟨u, v, y, k1, k2, k3, k4⟩, hf⟩
      · exact ⟨_, _, false, k1, .inr ⟨rfl, trNo_bad h33 h255 HN.out HND.out HPN.out (by rw [HRE.out]; exact hreg) H0.out hrt hlen k2⟩, hf⟩
      · obtain ⟨g1, g2⟩ := trO_good h33 h255 HN.out HND.out HPN.out hrt hlen k2
        rw [g2] at k3 k4
        rw [dfrK_comm] at k4
        exact ⟨u, v, true, k1, .inl ⟨rfl, rfl, g1, k3.base hwp.size, OwnV.base k4 hwp.size⟩, hf⟩
    · intro c w' t kd ks h1 h2 hf
      have HNG := Lib.hid (show ¬ mGood ws (intL ps) from fun hg => by
        have h3 := hg.1
        unfold fLost at h3
        rw [HN.out, HRE.out, intL_len, HPL2.out] at h3
        have := HRLE.out
        omega)
      have HFE := Lib.hid (HF3.out.trans hf)
      rw [frame64 c ks kd]
      clear ks kd h1 h2 hf
      go_wp2
      refine bodyPost_ret (results_tmp4 rfl _ _ _) rfl ?_
      exact HQ.out _ _ ⟨.inr (.inl ⟨by rw [HN.out]; exact H0.out, HNG.out, rfl⟩), HFE.out⟩
    · intro c w' t x u v f kd ks q4 q5 q6 q7 h1 h2 hy hR hf
      have HFE := Lib.hid (HF3.out.trans hf)
      rw [frame64 c ks kd, q4, q5, q6, q7]
      clear ks kd q4 q5 q6 q7 hf hy
      rcases hR with ⟨rfl, rfl, hg, h3, h4⟩ | ⟨rfl, hg⟩
      · have HGD := Lib.hid hg
        have H3 := Lib.hid h3
        have H4 := Lib.hid h4
        obtain ⟨t, ht⟩ : ∃ t, regL row = t := ⟨_, rfl⟩
        have HT := Lib.hid ht
        rw [ht]
        clear hg h3 h4 ht
        go_wp2
        refine bodyPost_ret (results_tmp4 rfl _ _ _) rfl ?_
        exact HQ.out _ _ ⟨.inr (.inr ⟨by rw [HN.out]; exact H0.out, HGD.out, u, v, by rw [HN.out, HRE.out, HT.out]; rfl, H3.out, by rw [HN.out]; exact H4.out⟩), HFE.out⟩
      · have HGD := Lib.hid hg
        clear hg
        go_wp2
        refine bodyPost_ret (results_tmp4 rfl _ _ _) rfl ?_
        exact HQ.out _ _ ⟨.inr (.inl ⟨by rw [HN.out]; exact H0.out, HGD.out, rfl⟩), HFE.out⟩
  · have HKN := Lib.hid hk
    clear hg hf HER HSY
    have hki : ((k : Int) != 0) = true := by simp; omega
    have hki2 : ¬ ((k : Int) = 0) := by omega
    clear hk
    go_wp2
    refine bodyPost_ret (results_tmp4 rfl _ _ _) rfl ?_
    refine HQ.out _ _ ⟨.inl ⟨by rw [HN.out, HK.out]; exact HKN.out, by rw [HN.out, HK.out]; rfl⟩, HF1.out⟩
end Go.Proofs.YtmohiblgfmdkjaaGreatDoor
