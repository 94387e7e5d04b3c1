/-
  Layer 35: what the line of an entry is. (printed by genlin.py)
  Layer 35: lines.Entry. (printed by genlin.py)
  Layer 35: the example; lines.Result. (printed by genlin.py)
-/
import Derived.Test.YtdkhgpnidamalaaDoorLin
import Derived.Test.YtdkhgpnidamalaaDoorGB
import Derived.Maps.RangeWalk
namespace Go.Proofs.YtdkhgpnidamalaaDoor
open Go.RowKit Go.Bl
set_option linter.unusedVariables false
structure EntP where
  id : Int
  obj : Int
  way : Int
  idx : Int
  tick : Int
  verd : Int
  at_ : Int
def entC (e : EntP) : Array Value := #[.int .i64 e.id, .int .i64 e.obj, .int .i64 e.way, .int .i64 e.idx, .int .i64 e.tick, .int .i64 e.verd, .int .i64 e.at_]
def inI (n : Int) : Prop := -9223372036854775808 ≤ n ∧ n ≤ 9223372036854775807
def EntP.ok (e : EntP) : Prop := inI e.id ∧ inI e.obj ∧ inI e.way ∧ inI e.idx ∧ inI e.verd ∧ inI e.at_
def entH (e : EntP) : List LP := [.txt [101, 110, 116, 114, 121], .num e.id, .txt [111, 98, 106, 101, 99, 116], .num e.obj, .txt (atL rWays e.way), .num e.idx]
def entL (e : EntP) : List UInt8 := if e.verd = 0 then lineL [.txt (lineL (entH e)), .txt [111, 112, 101, 110]] else lineL [.txt (lineL (entH e)), .txt (atL rWords e.verd), .txt [97, 116], .num e.at_]
theorem rWays_len (n : Int) : (atL rWays n).length ≤ 20 := atL_len (by decide) n
theorem rWords_len (n : Int) : (atL rWords n).length ≤ 20 := atL_len (by decide) n
theorem lWords_len (n : Int) : (atL lWords n).length ≤ 20 := atL_len (by decide) n
theorem wWords_len (n : Int) : (atL wWords n).length ≤ 20 := atL_len (by decide) n
theorem lineL_len {ps : List LP} {K : Nat} (h : ∀ p ∈ ps, (lpT p).length ≤ K) : (lineL ps).length ≤ ps.length * (K + 1) := by
  have := join_len [32] K (ps.map lpT) (fun x hx => by
    obtain ⟨p, hp, rfl⟩ := List.mem_map.1 hx
    exact h p hp)
  rw [List.length_map] at this
  exact this
set_option maxRecDepth 100000 in
set_option maxHeartbeats 8000000 in
theorem entH_ok {e : EntP} (h : e.ok) : ∀ p ∈ entH e, lpOk p ∧ (lpT p).length ≤ 100 := by
  obtain ⟨h1, h2, h3, h4, h5, h6⟩ := h
  have k1 := itoa_len e.id h1.1 h1.2
  have k2 := itoa_len e.obj h2.1 h2.2
  have k4 := itoa_len e.idx h4.1 h4.2
  have k3 := rWays_len e.way
  have k5 : (qwd (atL rWays e.way)).length ≤ 20 := qwd_len k3 (by omega)
  intro p hp
  simp only [entH, List.mem_cons, List.not_mem_nil, or_false] at hp
  rcases hp with rfl | rfl | rfl | rfl | rfl | rfl
  · exact ⟨by decide, by decide⟩
  · exact ⟨h1, by simp only [lpT]; omega⟩
  · exact ⟨by decide, by decide⟩
  · exact ⟨h2, by simp only [lpT]; omega⟩
  · exact ⟨by simp only [lpOk]; omega, by simp only [lpT]; omega⟩
  · exact ⟨h4, by simp only [lpT]; omega⟩
theorem entH_len {e : EntP} (h : e.ok) : (lineL (entH e)).length ≤ 606 := by
  have h1 := lineL_len (K := 100) (fun p hp => (entH_ok h p hp).2)
  have h2 : (entH e).length = 6 := rfl
  rw [h2] at h1
  omega
theorem vs_anys {u : World} {b k : Nat} {c : Array Value} {ps : List LP} (h : At u b (.cells c 20)) (hc : c.toList = ps.map lpV) (hk : ps.length = k) (hm : k ≤ 1000) : Vs (fun _ => False) u (.slice (some ⟨b, 0, none⟩) k k) (ps.map lpV) :=
  ⟨some ⟨b, 0, none⟩, k, by rw [List.length_map, hk], by rw [List.length_map, hk]; exact Nat.le_refl _, by unfold maxLen; omega, by rw [← hc]; exact Row.of_block h (by simp)⟩
end Go.Proofs.YtdkhgpnidamalaaDoor
namespace Go.Proofs.YtdkhgpnidamalaaDoor
open Go.RowKit Go.Bl
set_option linter.unusedVariables false
set_option maxRecDepth 100000 in
set_option maxHeartbeats 8000000 in
theorem entry_line (w : World) (e : EntP) (hT : Tab10 w) (hok : e.ok) : Calls Tryd.prog 8 #[.agg (entC e)] w fun r w' => r = .returned (.string (bA (entL e))) ∧ Fr [] w w' := by
  have HA := Lib.hid (show At (w.alloc (.cells (entC e) 40)) w.heap.size (.cells (entC e) 40) from At.new rfl)
  have HF := Lib.hid (show Fr [] w (w.alloc (.cells (entC e) 40)) from Fr.alloc _ _)
  have HT := Lib.hid (hT.keep HF.out)
  have HOK := Lib.hid hok
  have HEO := Lib.hid (entH_ok hok)
  have HEL := Lib.hid (entH_len hok)
  have HWD := Lib.hid (rWords_len e.verd)
  have hver := hok.2.2.2.2.1
  clear hT hok
  go_enter Tryd.func8, Tryd.ntmps8
  go_wp2_with fail
  refine wp_region_pf [(.val, 8), (.val, 9), (.call, 10), (.val, 0), (.val, 1), (.val, 2), (.val, 3), (.val, 4), (.val, 5), (.val, 6), (.val, 7), (.val, 11), (.val, 12), (.val, 13), (.val, 14), (.mem, 15), (.call, 16), (.val, 17)] (by kernel_rfl) (by kernel_rfl) ?_
  intro wa ha
  replace HA := Lib.hid (HA.out.keep0 ha)
  replace HF := Lib.hid (HF.out.trans ha)
  replace HT := Lib.hid (HT.out.keep ha)
  clear ha
  have e0 : ∀ z : Kin wa, z.w.cell? ⟨w.heap.size, 0, none⟩ = some (.int .i64 e.id) := fun z => (HA.out.keep0 z.fr).cell 0
  have e1 : ∀ z : Kin wa, z.w.cell? ⟨w.heap.size, 1, none⟩ = some (.int .i64 e.obj) := fun z => (HA.out.keep0 z.fr).cell 1
  have e2 : ∀ z : Kin wa, z.w.cell? ⟨w.heap.size, 2, none⟩ = some (.int .i64 e.way) := fun z => (HA.out.keep0 z.fr).cell 2
  have e3 : ∀ z : Kin wa, z.w.cell? ⟨w.heap.size, 3, none⟩ = some (.int .i64 e.idx) := fun z => (HA.out.keep0 z.fr).cell 3
  have G := Lib.hid (Fr.refl [] wa)
  refine poF_vals 2 _ _ _ (by kernel_rfl) ?_
  simp only [opersOf, List.take_succ_cons, List.take_zero, List.filterMap_cons, List.filterMap_nil, List.getElem?_toArray, List.getElem?_cons_succ, List.getElem?_cons_zero, List.drop_succ_cons, List.drop_zero]
  show wpQuiet _ _ _ _ [_, _] _
  iterate 2 go_big_quiet_step (fail)
  refine wpQuiet_nil ?_
  refine poF_call _ (by simp only [List.getElem?_toArray, List.getElem?_cons_succ, List.getElem?_cons_zero]; rfl) ?_
  intro u hu
  go_wp2_with fail
  refine (rway_any _ _).mono ?_
  rintro r u0 ⟨rfl, rfl⟩
  rename_i K hK
  refine hK _ _ ?_
  refine ⟨rfl, rfl, (Fr.refl [] _), ?_⟩
  clear hK K
  replace G := Lib.hid (G.out.trans hu)
  clear hu
  refine poF_vals 12 _ _ _ (by kernel_rfl) ?_
  simp only [opersOf, List.take_succ_cons, List.take_zero, List.filterMap_cons, List.filterMap_nil, List.getElem?_toArray, List.getElem?_cons_succ, List.getElem?_cons_zero, List.drop_succ_cons, List.drop_zero]
  show wpQuiet _ _ _ _ [_, _, _, _, _, _, _, _, _, _, _, _] _
  iterate 12 go_big_quiet_step (fail)
  refine wpQuiet_nil ?_
  refine poF_new _ (by simp only [List.getElem?_toArray, List.getElem?_cons_succ, List.getElem?_cons_zero]; rfl) rfl (.cells #[.iface 9 (.string ⟨#[101, 110, 116, 114, 121]⟩), .iface 3 (.int .i64 e.id), .iface 9 (.string ⟨#[111, 98, 106, 101, 99, 116]⟩), .iface 3 (.int .i64 e.obj), .iface 9 (.string (bA (atL rWays e.way))), .iface 3 (.int .i64 e.idx)] 20) (fun b => .slice (some ⟨b, 0, none⟩) 6 6) (fun _ => by kernel_rfl) ?_
  intro b1 wb _ hwb hAt1
  go_frame
  replace G := Lib.hid (G.out.trans hwb)
  have H1 := Lib.hid hAt1
  clear hwb hAt1
  refine poF_call _ (by simp only [List.getElem?_toArray, List.getElem?_cons_succ, List.getElem?_cons_zero]; rfl) ?_
  intro u hu
  replace G := Lib.hid (G.out.trans hu)
  have HV := Lib.hid (vs_anys (ps := entH e) (k := 6) (H1.out.keep0 hu) rfl rfl (by omega))
  clear hu
  go_wp2_with fail
  refine (line_any u _ (entH e) (HT.out.keep G.out) HV.out (by simp [entH]) (by simp [entH]) (fun p hp => (HEO.out p hp).1)).mono ?_
  rintro r u1 ⟨rfl, hf⟩
  rename_i K hK
  refine hK _ _ ?_
  refine ⟨rfl, rfl, hf, ?_⟩
  clear hK K
  replace G := Lib.hid (G.out.trans hf)
  clear hf HV H1 e0 e1 e2 e3
  refine poF_vals 1 _ _ _ (by kernel_rfl) ?_
  simp only [opersOf, List.take_succ_cons, List.take_zero, List.filterMap_cons, List.filterMap_nil, List.getElem?_toArray, List.getElem?_cons_succ, List.getElem?_cons_zero, List.drop_succ_cons, List.drop_zero]
  show wpQuiet _ _ _ _ [_] _
  iterate 1 go_big_quiet_step (fail)
  refine wpQuiet_nil ?_
  refine poF_end ?_
  intro wz hz
  replace G := Lib.hid (G.out.trans hz)
  replace HA := Lib.hid (HA.out.keep0 G.out)
  replace HF := Lib.hid (HF.out.trans G.out)
  replace HT := Lib.hid (HT.out.keep G.out)
  clear hz G
  have c5 : wz.cell? ⟨w.heap.size, 5, none⟩ = some (.int .i64 e.verd) := HA.out.cell 5
  obtain ⟨H0, hH0⟩ : ∃ l, lineL (entH e) = l := ⟨_, rfl⟩
  rw [hH0] at HEL ⊢
  have HH0 := Lib.hid hH0
  clear hH0
  by_cases hv : e.verd = 0
  · have HQ := Lib.hid (show entL e = lineL [.txt H0, .txt [111, 112, 101, 110]] by unfold entL; rw [if_pos hv, HH0.out])
    rw [hv] at c5
    clear hv
    have HV := Lib.hid (vs_anys (u := wz.alloc (.cells #[.iface 9 (.string (bA H0)), .iface 9 (.string ⟨#[111, 112, 101, 110]⟩)] 20)) (b := wz.heap.size) (ps := [.txt H0, .txt [111, 112, 101, 110]]) (k := 2) (At.new rfl) rfl rfl (by omega))
    have HF2 := Lib.hid (show Fr [] wz (wz.alloc (.cells #[.iface 9 (.string (bA H0)), .iface 9 (.string ⟨#[111, 112, 101, 110]⟩)] 20)) from Fr.alloc _ _)
    go_wp2_with (go_at_call 16; fail)
    refine (line_any _ _ [.txt H0, .txt [111, 112, 101, 110]] (HT.out.keep HF2.out) HV.out (by simp [entH]) (by simp [entH]) (fun p hp => by
      simp only [List.mem_cons, List.not_mem_nil, or_false] at hp
      rcases hp with rfl | rfl
      · simp only [lpOk]; have := HEL.out; omega
      · decide)).mono ?_
    rintro r w9 ⟨rfl, hf⟩
    have HF9 := Lib.hid ((HF.out.trans HF2.out).trans hf)
    clear hf HV HF2 c5
    go_wp2
    go_ret
    exact ⟨by rw [HQ.out]; rfl, HF9.out⟩
  · have HQ := Lib.hid (show entL e = lineL [.txt H0, .txt (atL rWords e.verd), .txt [97, 116], .num e.at_] by unfold entL; rw [if_neg hv, HH0.out])
    go_wp2_with fail
    clear c5
    refine wp_region_pf [(.val, 2), (.val, 3), (.call, 4), (.val, 0), (.val, 1), (.val, 5), (.val, 6), (.val, 7), (.val, 8), (.val, 9), (.mem, 10), (.call, 11), (.val, 12)] (by kernel_rfl) (by kernel_rfl) ?_
    intro wa ha
    replace HA := Lib.hid (HA.out.keep0 ha)
    replace HF := Lib.hid (HF.out.trans ha)
    replace HT := Lib.hid (HT.out.keep ha)
    clear ha
    have e5 : ∀ z : Kin wa, z.w.cell? ⟨w.heap.size, 5, none⟩ = some (.int .i64 e.verd) := fun z => (HA.out.keep0 z.fr).cell 5
    have e6 : ∀ z : Kin wa, z.w.cell? ⟨w.heap.size, 6, none⟩ = some (.int .i64 e.at_) := fun z => (HA.out.keep0 z.fr).cell 6
    have G := Lib.hid (Fr.refl [] wa)
    refine poF_vals 2 _ _ _ (by kernel_rfl) ?_
    simp only [opersOf, List.take_succ_cons, List.take_zero, List.filterMap_cons, List.filterMap_nil, List.getElem?_toArray, List.getElem?_cons_succ, List.getElem?_cons_zero, List.drop_succ_cons, List.drop_zero]
    show wpQuiet _ _ _ _ [_, _] _
    iterate 2 go_big_quiet_step (fail)
    refine wpQuiet_nil ?_
    refine poF_call _ (by simp only [List.getElem?_toArray, List.getElem?_cons_succ, List.getElem?_cons_zero]; rfl) ?_
    intro u hu
    go_wp2_with fail
    refine (rword_any _ _).mono ?_
    rintro r u0 ⟨rfl, rfl⟩
    rename_i K hK
    refine hK _ _ ?_
    refine ⟨rfl, rfl, (Fr.refl [] _), ?_⟩
    clear hK K
    replace G := Lib.hid (G.out.trans hu)
    clear hu
    refine poF_vals 7 _ _ _ (by kernel_rfl) ?_
    simp only [opersOf, List.take_succ_cons, List.take_zero, List.filterMap_cons, List.filterMap_nil, List.getElem?_toArray, List.getElem?_cons_succ, List.getElem?_cons_zero, List.drop_succ_cons, List.drop_zero]
    show wpQuiet _ _ _ _ [_, _, _, _, _, _, _] _
    iterate 7 go_big_quiet_step (fail)
    refine wpQuiet_nil ?_
    refine poF_new _ (by simp only [List.getElem?_toArray, List.getElem?_cons_succ, List.getElem?_cons_zero]; rfl) rfl (.cells #[.iface 9 (.string (bA H0)), .iface 9 (.string (bA (atL rWords e.verd))), .iface 9 (.string ⟨#[97, 116]⟩), .iface 3 (.int .i64 e.at_)] 20) (fun b => .slice (some ⟨b, 0, none⟩) 4 4) (fun _ => by kernel_rfl) ?_
    intro b1 wb _ hwb hAt1
    go_frame
    replace G := Lib.hid (G.out.trans hwb)
    have H1 := Lib.hid hAt1
    clear hwb hAt1
    refine poF_call _ (by simp only [List.getElem?_toArray, List.getElem?_cons_succ, List.getElem?_cons_zero]; rfl) ?_
    intro u hu
    replace G := Lib.hid (G.out.trans hu)
    have HV := Lib.hid (vs_anys (ps := [.txt H0, .txt (atL rWords e.verd), .txt [97, 116], .num e.at_]) (k := 4) (H1.out.keep0 hu) rfl rfl (by omega))
    clear hu
    go_wp2_with fail
    refine (line_any u _ [.txt H0, .txt (atL rWords e.verd), .txt [97, 116], .num e.at_] (HT.out.keep G.out) HV.out (by simp) (by simp) (fun p hp => by
      simp only [List.mem_cons, List.not_mem_nil, or_false] at hp
      rcases hp with rfl | rfl | rfl | rfl
      · simp only [lpOk]; have := HEL.out; omega
      · simp only [lpOk]; have := HWD.out; omega
      · decide
      · exact HOK.out.2.2.2.2.2)).mono ?_
    rintro r u1 ⟨rfl, hf⟩
    rename_i K hK
    refine hK _ _ ?_
    refine ⟨rfl, rfl, hf, ?_⟩
    clear hK K
    replace G := Lib.hid (G.out.trans hf)
    clear hf HV H1 e5 e6
    refine poF_vals 1 _ _ _ (by kernel_rfl) ?_
    simp only [opersOf, List.take_succ_cons, List.take_zero, List.filterMap_cons, List.filterMap_nil, List.getElem?_toArray, List.getElem?_cons_succ, List.getElem?_cons_zero, List.drop_succ_cons, List.drop_zero]
    show wpQuiet _ _ _ _ [_] _
    iterate 1 go_big_quiet_step (fail)
    refine wpQuiet_nil ?_
    refine poF_end ?_
    intro wz2 hz
    replace HF := Lib.hid (HF.out.trans (G.out.trans hz))
    clear hz G
    go_wp2
    go_ret
    exact ⟨by rw [HQ.out]; rfl, HF.out⟩
end Go.Proofs.YtdkhgpnidamalaaDoor
namespace Go.Proofs.YtdkhgpnidamalaaDoor
open Go.RowKit Go.Bl
set_option linter.unusedVariables false
theorem WordsAt.keep {g : Nat} {ls : List (List UInt8)} {w w' : World} (h : WordsAt g ls w) (hf : Fr [] w w') : WordsAt g ls w' := fun i l hx => by
  have h1 := h i l hx
  unfold World.cell? at h1 ⊢
  rcases Nat.lt_or_ge g w.heap.size with hl | hl
  · rw [hf.block g hl (by simp)]; exact h1
  · rw [Array.getElem?_eq_none hl] at h1; simp at h1
def ent0 : EntP := ⟨0, 0, 1, 0, 0, 0, 0⟩
theorem itoa_zero : Lib.itoa 0 = [48] := by
  unfold Lib.itoa
  rw [if_neg (by decide), show (0 : Int).toNat = 0 from rfl, Lib.decDigits_one (by decide)]
  rfl
theorem ent0_line : entL ent0 = [101, 110, 116, 114, 121, 32, 48, 32, 111, 98, 106, 101, 99, 116, 32, 48, 32, 115, 112, 111, 116, 32, 48, 32, 111, 112, 101, 110] := by
  unfold entL
  rw [if_pos (by rfl)]
  simp [lineL, entH, lpT, Lib.join_cons, Lib.joinTail, qwd, ent0, itoa_zero, atL, rWays]
set_option maxRecDepth 100000 in
set_option maxHeartbeats 8000000 in
theorem alive35_any (w : World) (hT : Tab10 w) : Calls Tryd.prog 4 #[] w fun r w' => r = .returned (.bool true) ∧ Fr [] w w' := by
  have hE := entry_line w ent0 hT (by unfold EntP.ok inI ent0; decide)
  rw [ent0_line] at hE
  have HE := Lib.hid hE
  clear hE hT
  go_enter Tryd.func4, Tryd.ntmps4
  go_wp2_with (go_at_call 8; fail)
  refine HE.out.mono ?_
  rintro r w' ⟨rfl, hf⟩
  have HF := Lib.hid hf
  clear hf HE
  have hx : bA [101, 110, 116, 114, 121, 32, 48, 32, 111, 98, 106, 101, 99, 116, 32, 48, 32, 115, 112, 111, 116, 32, 48, 32, 111, 112, 101, 110] = ⟨#[101, 110, 116, 114, 121, 32, 48, 32, 111, 98, 106, 101, 99, 116, 32, 48, 32, 115, 112, 111, 116, 32, 48, 32, 111, 112, 101, 110]⟩ := rfl
  rw [hx]
  clear hx
  go_wp2
  go_ret
  exact ⟨by simp, HF.out⟩
def resL (kind er n : Int) : List UInt8 := if er ≠ 0 then lineL [.txt (atL wWords kind), .txt [101, 114, 114, 111, 114], .num er] else if kind = 1 then lineL [.txt (atL wWords kind), .txt [111, 107], .num n] else lineL [.txt (atL wWords kind), .txt [111, 107]]
end Go.Proofs.YtdkhgpnidamalaaDoor
