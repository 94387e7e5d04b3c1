/-
  The law StripeSystematic: its drawn region. (printed by gensyr.py)
-/
import Derived.Test.YtenjpnhccnmnpaaDoorPad
import Derived.Test.YtenjpnhccnmnpaaDoorStr
import Derived.Test.YtenjpnhccnmnpaaDoorFrm
import Derived.Test.YtenjpnhccnmnpaaDoorTab2
import Derived.Test.YtenjpnhccnmnpaaDoorSyL
namespace Go.Proofs.YtenjpnhccnmnpaaDoor
open Go.RowKit Go.Bl
set_option linter.unusedVariables false

noncomputable def sysReg : Code := ((Tryd.f3.body.bind (findRegionC 22)).getD .skip)
set_option maxRecDepth 100000 in
theorem frame105 (a : Go.Act) (hs : a.tmps.size = 105) (hd : a.defers = []) : a = ⟨(slot a 0 :: slot a 1 :: slot a 2 :: slot a 3 :: slot a 4 :: slot a 5 :: slot a 6 :: slot a 7 :: slot a 8 :: slot a 9 :: slot a 10 :: slot a 11 :: slot a 12 :: slot a 13 :: slot a 14 :: slot a 15 :: slot a 16 :: slot a 17 :: slot a 18 :: slot a 19 :: slot a 20 :: slot a 21 :: slot a 22 :: slot a 23 :: slot a 24 :: slot a 25 :: slot a 26 :: slot a 27 :: slot a 28 :: slot a 29 :: slot a 30 :: slot a 31 :: slot a 32 :: slot a 33 :: slot a 34 :: slot a 35 :: slot a 36 :: slot a 37 :: slot a 38 :: slot a 39 :: slot a 40 :: slot a 41 :: slot a 42 :: slot a 43 :: slot a 44 :: slot a 45 :: slot a 46 :: slot a 47 :: slot a 48 :: slot a 49 :: slot a 50 :: slot a 51 :: slot a 52 :: slot a 53 :: slot a 54 :: slot a 55 :: slot a 56 :: slot a 57 :: slot a 58 :: slot a 59 :: slot a 60 :: slot a 61 :: slot a 62 :: slot a 63 :: slot a 64 :: slot a 65 :: slot a 66 :: slot a 67 :: slot a 68 :: slot a 69 :: slot a 70 :: slot a 71 :: slot a 72 :: slot a 73 :: slot a 74 :: slot a 75 :: slot a 76 :: slot a 77 :: slot a 78 :: slot a 79 :: slot a 80 :: slot a 81 :: slot a 82 :: slot a 83 :: slot a 84 :: slot a 85 :: slot a 86 :: slot a 87 :: slot a 88 :: slot a 89 :: slot a 90 :: slot a 91 :: slot a 92 :: slot a 93 :: slot a 94 :: slot a 95 :: slot a 96 :: slot a 97 :: slot a 98 :: slot a 99 :: slot a 100 :: slot a 101 :: slot a 102 :: slot a 103 :: slot a 104 :: []).toArray, []⟩ := frameX a 105 hs hd

set_option maxRecDepth 1000000 in
set_option maxHeartbeats 8000000 in
theorem sys_reg (w : World) (a : Go.Act) (hsz : a.tmps.size = 105) (hd : a.defers = []) (xs : List UInt8) (N L : Nat) (fo ao bo : Option Addr) (fc ac bc : Nat)
    (h0 : slot a 0 = .slice fo N fc) (h5 : slot a 5 = .slice bo 0 bc) (h7 : slot a 7 = .slice ao L ac)
    (hf : Bs (fun _ => False) w (.slice fo N fc) xs) (ha : Bs (fun _ => False) w (.slice ao L ac) (padL xs)) (hN : xs.length = N) (hN2 : N ≤ 2000) (hL : (padL xs).length = L) (Q : Exit → Go.Act → World → Prop)
    (hQ : ∀ (c : Go.Act) (w' : World), c.defers = [] → c.tmps.size = 105 → slot c 2 = .bool true → Fr [] w w' → Q .normal c w') :
    Code.wp Tryd.prog sysReg Q a w := by
  have HQ := Lib.hid hQ
  have BF := Lib.hid hf
  have BA := Lib.hid ha
  have hNL : N ≤ L := by have := pad_le xs; omega
  have hL8 : L % 8 = 0 := by rw [← hL]; exact pad_eight xs
  have hLb : L ≤ 2010 := by
    have h := padL_len xs
    omega
  have hac : L ≤ ac ∧ ac ≤ maxLen := by
    obtain ⟨a', c', e, h1, h2, -⟩ := ha
    cases e
    omega
  unfold maxLen at hac
  have HN := Lib.hid hN
  have BT := Lib.hid (show Bs (fun _ => False) w (.slice ao N ac) xs by
    have h := ha.take N hNL
    rwa [← hN, pad_take, hN] at h)
  obtain ⟨S, hS⟩ : ∃ S, (⟨xs.toArray⟩ : ByteArray) = S := ⟨_, rfl⟩
  obtain ⟨R, hR⟩ : ∃ R, (⟨(padL xs).toArray⟩ : ByteArray) = R := ⟨_, rfl⟩
  have HS := Lib.hid hS
  have HR := Lib.hid hR
  have q1 : (S.toList == S.toList) = true := by simp
  have q2 : (R.toList == R.toList) = true := by simp
  have hrem : ((L : Int).tmod 8) = 0 := by rw [Int.tmod_eq_emod_of_nonneg (by omega)]; omega
  have HF := Lib.hid (Fr.refl [] w)
  rw [frame105 a hsz hd, h0, h5, h7]
  clear hQ hf ha hS hR hN hL h0 h5 h7
  conv => arg 2; whnf
  refine wp_region_pf [(.val, 0), (.val, 1), (.val, 2), (.val, 3), (.val, 4), (.val, 5), (.val, 6), (.val, 7), (.val, 8), (.val, 9), (.val, 10), (.val, 11), (.val, 12), (.val, 13), (.val, 14), (.val, 15), (.val, 16), (.val, 17), (.val, 18), (.val, 19), (.val, 20), (.val, 21), (.val, 22), (.val, 23), (.val, 24), (.val, 25), (.val, 26), (.val, 29), (.call, 30), (.call, 31), (.val, 27), (.val, 28), (.val, 32), (.val, 33), (.val, 34)] (by kernel_rfl) (by kernel_rfl) ?_
  intro wa hfa
  replace BF := Lib.hid (BF.out.keep hfa (by simp))
  replace BA := Lib.hid (BA.out.keep hfa (by simp))
  replace BT := Lib.hid (BT.out.keep hfa (by simp))
  replace HF := Lib.hid (HF.out.trans hfa)
  clear hfa
  have G := Lib.hid (Fr.refl [] wa)
  skip
  refine poF_valsL 28 _ _ _ (by kernel_rfl) ?_
  simp only [opersOf, List.take_succ_cons, List.take_zero, List.filterMap_cons, List.filterMap_nil, List.getElem?_toArray, List.getElem?_cons_succ, List.getElem?_cons_zero, List.drop_succ_cons, List.drop_zero]
  show wpQuiet _ _ _ _ [_, _, _, _, _, _, _, _, _, _, _, _, _, _, _, _, _, _, _, _, _, _, _, _, _, _, _, _] _
  iterate 21 go_big_quiet_step (fail)
  refine BigFrame.wpQuiet_want rfl fun K hK => ?_
  refine quietRun (.string S) ?_ (hK _ ?_)
  · rintro _ ⟨z, rfl⟩
    exact run_strO (src := 22) (dst := 9) Tryd.underlying22 Tryd.underlying5 Tryd.underlying9 (.tmp 91) rfl rfl ((BT.out).keep z.fr (by simp)) S HS.out
  simp only [Act.put, List.setIfInBounds_toArray, List.set_cons_succ, List.set_cons_zero]
  iterate 1 go_big_quiet_step (fail)
  refine BigFrame.wpQuiet_want rfl fun K hK => ?_
  refine quietRun (.string S) ?_ (hK _ ?_)
  · rintro _ ⟨z, rfl⟩
    exact run_strO (src := 22) (dst := 9) Tryd.underlying22 Tryd.underlying5 Tryd.underlying9 (.tmp 93) rfl rfl ((BF.out).keep z.fr (by simp)) S HS.out
  simp only [Act.put, List.setIfInBounds_toArray, List.set_cons_succ, List.set_cons_zero]
  iterate 4 go_big_quiet_step (fail)
  refine wpQuiet_nil ?_
  refine poF_call _ (by simp only [List.getElem?_toArray, List.getElem?_cons_succ, List.getElem?_cons_zero]; rfl) ?_
  intro u hu
  go_wp2_with fail
  refine (pad_any (fun _ => False) _ _ xs (BF.out.keep (G.out.trans hu) (by simp)) (by have := HN.out; omega)).mono ?_
  rintro e u2 ⟨qv, rfl, ho, hf⟩
  rename_i K hK
  refine hK _ _ ?_
  refine ⟨rfl, rfl, hf, ?_⟩
  clear hK K
  have BQ := Lib.hid (show Bs (fun _ => False) u2 qv (padL xs) from ho.bs (A := fun _ => False) (by simp))
  replace G := Lib.hid ((G.out.trans hu).trans hf)
  clear hu hf ho
  refine poF_call _ (by simp only [List.getElem?_toArray, List.getElem?_cons_succ, List.getElem?_cons_zero]; rfl) ?_
  intro u hu
  refine wpl_strH (src := 22) (dst := 9) Tryd.underlying22 Tryd.underlying5 Tryd.underlying9 (.tmp 101) rfl rfl rfl (BQ.out.keep hu (by simp)) R HR.out ?_
  refine wpList_nil ⟨rfl, rfl, Fr.refl [] u, ?_⟩
  simp only [Act.put, List.setIfInBounds_toArray, List.set_cons_succ, List.set_cons_zero]
  replace G := Lib.hid (G.out.trans hu)
  clear hu
  skip
  refine poF_valsL 5 _ _ _ (by kernel_rfl) ?_
  simp only [opersOf, List.take_succ_cons, List.take_zero, List.filterMap_cons, List.filterMap_nil, List.getElem?_toArray, List.getElem?_cons_succ, List.getElem?_cons_zero, List.drop_succ_cons, List.drop_zero]
  show wpQuiet _ _ _ _ [_, _, _, _, _] _
  iterate 1 go_big_quiet_step (fail)
  refine BigFrame.wpQuiet_want rfl fun K hK => ?_
  refine quietRun (.string R) ?_ (hK _ ?_)
  · rintro _ ⟨z, rfl⟩
    exact run_strO (src := 22) (dst := 9) Tryd.underlying22 Tryd.underlying5 Tryd.underlying9 (.tmp 98) rfl rfl ((BA.out).keep z.fr (by simp)) R HR.out
  simp only [Act.put, List.setIfInBounds_toArray, List.set_cons_succ, List.set_cons_zero]
  iterate 3 go_big_quiet_step (fail)
  refine wpQuiet_nil ?_
  refine poF_end ?_
  intro wz hz
  have HZ := Lib.hid ((HF.out.trans G.out).trans hz)
  clear hz
  exact HQ.out _ _ rfl rfl rfl HZ.out
end Go.Proofs.YtenjpnhccnmnpaaDoor
