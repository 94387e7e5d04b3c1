/-
  Layer 40: one tick of a run.
-/
import Derived.Test.YtbohmnblegljkaaDoorClk
import Derived.Test.YtbohmnblegljkaaDoorPo2
import Derived.Maps.RangeWalk
namespace Go.Proofs.YtbohmnblegljkaaDoor
open Go.RowKit Go.Bl
set_option linter.unusedVariables false

def runO (p : Par) (t : Tsk) (n : Int) : Obj := .cells #[.int .i64 p.size, .int .i64 p.sent, .int .i64 p.spots, .int .i64 p.per, .int .i64 p.pat, .int .i64 p.ret, .int .i64 t.due, .int .i64 t.opn, .int .i64 t.tries, .int .i64 t.til, .int .i64 n] 114
theorem runCells {w : World} {b : Nat} {p : Par} {t : Tsk} {n : Int} (h : At w b (runO p t n)) :
    (w.cell? ⟨b, 0, none⟩ = some (.int .i64 p.size) ∧ w.cell? ⟨b, 1, none⟩ = some (.int .i64 p.sent) ∧ w.cell? ⟨b, 2, none⟩ = some (.int .i64 p.spots) ∧ w.cell? ⟨b, 3, none⟩ = some (.int .i64 p.per) ∧ w.cell? ⟨b, 4, none⟩ = some (.int .i64 p.pat) ∧ w.cell? ⟨b, 5, none⟩ = some (.int .i64 p.ret)) ∧
    w.cell? ⟨b, 6, none⟩ = some (.int .i64 t.due) ∧ w.cell? ⟨b, 7, none⟩ = some (.int .i64 t.opn) ∧ w.cell? ⟨b, 8, none⟩ = some (.int .i64 t.tries) ∧ w.cell? ⟨b, 9, none⟩ = some (.int .i64 t.til) ∧ w.cell? ⟨b, 10, none⟩ = some (.int .i64 n) :=
  ⟨⟨by rw [cell_of h]; rfl, by rw [cell_of h]; rfl, by rw [cell_of h]; rfl, by rw [cell_of h]; rfl, by rw [cell_of h]; rfl, by rw [cell_of h]; rfl⟩, by rw [cell_of h]; rfl, by rw [cell_of h]; rfl, by rw [cell_of h]; rfl, by rw [cell_of h]; rfl, by rw [cell_of h]; rfl⟩

set_option maxRecDepth 100000 in
set_option maxHeartbeats 4000000 in
theorem tick_0 (L : List Nat) (E : Nat → Addr) (B : Nat) (w : World) (hE : Errs L E B w) (h1 : 1 ∈ L) (h8 : 8 ∈ L) (h18 : 18 ∈ L) (t : Tsk) (ht : TskB t 4000000000000) (p : Par) (hc : chk p = 0) (now : Int) (hbig : Big now) (n : Int) (hn : 0 ≤ n ∧ n ≤ 4000000000000) (rb : Nat) (hb : At w rb (runO p t n))
    (hw : wantsF p t now = 0) :
    Calls Tryd.prog 67 #[.pointer (some ⟨rb, 0, none⟩), .int .i64 now] w fun e w' => e = .returned (.tuple #[.agg #[.int .i64 0, .int .i64 0, .int .i64 0], .bool false]) ∧ At w' rb (runO p (t) (n)) ∧ Fr [rb] w w' := by
  have HW := Lib.hid fun w hE => wants_ok L E B w hE h1 h8 h18 t p hc now
  have HB := Lib.hid hb
  have HE := Lib.hid hE
  have hrb := hb.lt
  rw [hw] at HW
  clear hE hc hb hw ht hbig
  unfold pv tv at *
  go_enter Tryd.func67, Tryd.ntmps67
  go_wp2
  refine wp_region_pf [(.val, 1), (.val, 2), (.val, 3), (.val, 4), (.val, 5), (.val, 6), (.val, 7), (.val, 8), (.val, 9), (.call, 10), (.val, 0), (.val, 11), (.val, 12), (.val, 13), (.val, 14), (.val, 15), (.val, 16), (.mem, 17), (.tail, 18)] (by kernel_rfl) (by kernel_rfl) ?_
  intro wa ha
  have HBa := Lib.hid (HB.out.keep0 (Fr.trans (Fr.al (Fr.refl _ _)) ha))
  have HEa := Lib.hid (HE.out.keep0 (Fr.trans (Fr.al (Fr.refl _ _)) ha))
  have HRa := Lib.hid (show At wa w.heap.size (.cells #[.int .i64 0, .int .i64 0, .int .i64 0] 52) from At.keep0 (At.new rfl) ha)
  have G := Lib.hid (Fr.trans (Fr.al (Fr.refl [] w)) ha)
  have hkin := fun x : Kin wa => runCells (HBa.out.keep0 x.fr)
  have k0 := fun x : Kin wa => (hkin x).1.1
  have k1 := fun x : Kin wa => (hkin x).1.2.1
  have k2 := fun x : Kin wa => (hkin x).1.2.2.1
  have k3 := fun x : Kin wa => (hkin x).1.2.2.2.1
  have k4 := fun x : Kin wa => (hkin x).1.2.2.2.2.1
  have k5 := fun x : Kin wa => (hkin x).1.2.2.2.2.2
  have k6 := fun x : Kin wa => (hkin x).2.1
  have k7 := fun x : Kin wa => (hkin x).2.2.1
  have k8 := fun x : Kin wa => (hkin x).2.2.2.1
  have k9 := fun x : Kin wa => (hkin x).2.2.2.2.1
  clear hkin ha
  refine poF_vals 9 _ _ _ (by kernel_rfl) ?_
  simp only [opersOf, List.take_succ_cons, List.take_zero, List.filterMap_cons, List.filterMap_nil, List.getElem?_toArray, List.getElem?_cons_succ, List.getElem?_cons_zero, List.drop_succ_cons, List.drop_zero]
  show wpQuiet _ _ _ _ [_, _, _, _, _, _, _, _, _] _
  iterate 9 go_big_quiet_step (fail)
  refine wpQuiet_nil ?_
  refine poF_call _ (by simp only [List.getElem?_toArray, List.getElem?_cons_succ, List.getElem?_cons_zero]; rfl) ?_
  intro u hu
  go_wp2_with fail
  refine (HW.out _ (HEa.out.keep0 hu)).mono ?_
  rintro e ub ⟨rfl, hf⟩
  rename_i K hK
  refine hK _ _ ?_
  refine ⟨rfl, rfl, hf, ?_⟩
  clear hK K
  refine poF_vals 7 _ _ _ (by kernel_rfl) ?_
  simp only [opersOf, List.take_succ_cons, List.take_zero, List.filterMap_cons, List.filterMap_nil, List.getElem?_toArray, List.getElem?_cons_succ, List.getElem?_cons_zero, List.drop_succ_cons, List.drop_zero]
  show wpQuiet _ _ _ _ [_, _, _, _, _, _, _] _
  iterate 7 go_big_quiet_step (fail)
  refine wpQuiet_nil ?_
  refine poF_new _ (by simp only [List.getElem?_toArray, List.getElem?_cons_succ, List.getElem?_cons_zero]; rfl) rfl (.cells #[.int .i64 0, .int .i64 0, .int .i64 0] 52) (fun b => .pointer (some ⟨b, 0, none⟩)) (fun _ => by kernel_rfl) ?_
  intro b wb hbs hwb hAt
  go_frame
  refine poF_tail _ (by simp only [List.getElem?_toArray, List.getElem?_cons_succ, List.getElem?_cons_zero]; rfl) ?_
  intro uc huc
  refine wpl_store_at (.tmp 6) (.tmp 23) rfl rfl #[.int .i64 now, .int .i64 0, .int .i64 t.opn] rfl rfl (by kernel_rfl) (hAt.keep0 huc) (by simp) (by simp [Value.oneCell']) ?_
  intro wd hfd hAd hszd
  refine ⟨rfl, rfl, ?_⟩
  refine poF_end ?_
  intro we hwe
  have hsa := HRa.out.lt
  have hfa : Fr [] wa uc := ((hu.trans hf).trans hwb).trans huc
  have hrb2 : rb ≠ b := by have := G.out.size; omega
  have hrr2 : w.heap.size ≠ b := by omega
  have HBe := Lib.hid (((HBa.out.keep0 hfa).keep hfd (by simpa using hrb2)).keep0 hwe)
  have HEv := Lib.hid (show At we b (.cells #[.int .i64 now, .int .i64 0, .int .i64 t.opn] 52) from At.keep0 hAd hwe)
  have HRe := Lib.hid (((HRa.out.keep0 hfa).keep hfd (by simpa using hrr2)).keep0 hwe)
  have G := Lib.hid (show Fr [rb] w we from ((Fr.weak (G.out.trans hfa)).then hfd (fun x hx => .inr (by have := G.out.size; simp at hx; omega))).trans hwe.weak)
  have hbl := HEv.out.lt
  clear hu hf hwb hAt huc hfd hAd hszd hwe hfa HBa HRa HEa k0 k1 k2 k3 k4 k5 k6 k7 k8 k9 HW HB
  have e0 := HEv.out.cell 0
  have e1 := HEv.out.cell 1
  have e2 := HEv.out.cell 2
  have ef := HEv.out.free 2
  simp only [List.getElem?_toArray, List.getElem?_cons_zero, List.getElem?_cons_succ] at e0 e1 e2
  go_wp2_with (refine wpl_store_at (.tmp 4) (.tmp 26) rfl rfl #[.int .i64 0, .int .i64 0, .int .i64 0] rfl rfl (by kernel_rfl) HRe.out (by simp) (by simp [Value.oneCell']) ?_)
  intro wg hfg hAg hszg
  have HG := Lib.hid (show At wg w.heap.size (.cells #[.int .i64 0, .int .i64 0, .int .i64 0] 52) from hAg)
  have HBg := Lib.hid (HBe.out.keep hfg (by simp; omega))
  have G := Lib.hid (show Fr [rb] w wg from G.out.then hfg (fun x hx => .inr (by simp at hx; omega)))
  clear hfg hAg hszg e0 e1 e2 ef
  have e0 := HG.out.cell 0
  have e1 := HG.out.cell 1
  have e2 := HG.out.cell 2
  simp only [List.getElem?_toArray, List.getElem?_cons_zero, List.getElem?_cons_succ] at e0 e1 e2
  go_wp2
  exact bodyPost_ret (v := .tuple #[.agg #[.int .i64 0, .int .i64 0, .int .i64 0], .bool false]) (by simp [results, Tryd.results67, go_sem, e0, e1, e2]) rfl ⟨rfl, HBg.out, G.out⟩

set_option maxRecDepth 100000 in
set_option maxHeartbeats 4000000 in
theorem tick_1 (L : List Nat) (E : Nat → Addr) (B : Nat) (w : World) (hE : Errs L E B w) (h1 : 1 ∈ L) (h8 : 8 ∈ L) (h18 : 18 ∈ L) (t : Tsk) (ht : TskB t 4000000000000) (p : Par) (hc : chk p = 0) (now : Int) (hbig : Big now) (n : Int) (hn : 0 ≤ n ∧ n ≤ 4000000000000) (rb : Nat) (hb : At w rb (runO p t n))
    (hw : wantsF p t now = 1) :
    Calls Tryd.prog 67 #[.pointer (some ⟨rb, 0, none⟩), .int .i64 now] w fun e w' => e = .returned (.tuple #[.agg #[.int .i64 now, .int .i64 1, .int .i64 n], .bool true]) ∧ At w' rb (runO p (askedT p n now) (n + 1)) ∧ Fr [rb] w w' := by
  have HW := Lib.hid fun w hE => wants_ok L E B w hE h1 h8 h18 t p hc now
  have HN := Lib.hid fun w => asked_ok w t p hc n now hbig

  have HB := Lib.hid hb
  have HE := Lib.hid hE
  have hrb := hb.lt
  rw [hw] at HW
  clear hE hc hb hw ht hbig
  unfold pv tv at *
  go_enter Tryd.func67, Tryd.ntmps67
  go_wp2
  refine wp_region_pf [(.val, 1), (.val, 2), (.val, 3), (.val, 4), (.val, 5), (.val, 6), (.val, 7), (.val, 8), (.val, 9), (.call, 10), (.val, 0), (.val, 11), (.val, 12), (.val, 13), (.val, 14), (.val, 15), (.val, 16), (.mem, 17), (.tail, 18)] (by kernel_rfl) (by kernel_rfl) ?_
  intro wa ha
  have HBa := Lib.hid (HB.out.keep0 (Fr.trans (Fr.al (Fr.refl _ _)) ha))
  have HEa := Lib.hid (HE.out.keep0 (Fr.trans (Fr.al (Fr.refl _ _)) ha))
  have HRa := Lib.hid (show At wa w.heap.size (.cells #[.int .i64 0, .int .i64 0, .int .i64 0] 52) from At.keep0 (At.new rfl) ha)
  have G := Lib.hid (Fr.trans (Fr.al (Fr.refl [] w)) ha)
  have hkin := fun x : Kin wa => runCells (HBa.out.keep0 x.fr)
  have k0 := fun x : Kin wa => (hkin x).1.1
  have k1 := fun x : Kin wa => (hkin x).1.2.1
  have k2 := fun x : Kin wa => (hkin x).1.2.2.1
  have k3 := fun x : Kin wa => (hkin x).1.2.2.2.1
  have k4 := fun x : Kin wa => (hkin x).1.2.2.2.2.1
  have k5 := fun x : Kin wa => (hkin x).1.2.2.2.2.2
  have k6 := fun x : Kin wa => (hkin x).2.1
  have k7 := fun x : Kin wa => (hkin x).2.2.1
  have k8 := fun x : Kin wa => (hkin x).2.2.2.1
  have k9 := fun x : Kin wa => (hkin x).2.2.2.2.1
  clear hkin ha
  refine poF_vals 9 _ _ _ (by kernel_rfl) ?_
  simp only [opersOf, List.take_succ_cons, List.take_zero, List.filterMap_cons, List.filterMap_nil, List.getElem?_toArray, List.getElem?_cons_succ, List.getElem?_cons_zero, List.drop_succ_cons, List.drop_zero]
  show wpQuiet _ _ _ _ [_, _, _, _, _, _, _, _, _] _
  iterate 9 go_big_quiet_step (fail)
  refine wpQuiet_nil ?_
  refine poF_call _ (by simp only [List.getElem?_toArray, List.getElem?_cons_succ, List.getElem?_cons_zero]; rfl) ?_
  intro u hu
  go_wp2_with fail
  refine (HW.out _ (HEa.out.keep0 hu)).mono ?_
  rintro e ub ⟨rfl, hf⟩
  rename_i K hK
  refine hK _ _ ?_
  refine ⟨rfl, rfl, hf, ?_⟩
  clear hK K
  refine poF_vals 7 _ _ _ (by kernel_rfl) ?_
  simp only [opersOf, List.take_succ_cons, List.take_zero, List.filterMap_cons, List.filterMap_nil, List.getElem?_toArray, List.getElem?_cons_succ, List.getElem?_cons_zero, List.drop_succ_cons, List.drop_zero]
  show wpQuiet _ _ _ _ [_, _, _, _, _, _, _] _
  iterate 7 go_big_quiet_step (fail)
  refine wpQuiet_nil ?_
  refine poF_new _ (by simp only [List.getElem?_toArray, List.getElem?_cons_succ, List.getElem?_cons_zero]; rfl) rfl (.cells #[.int .i64 0, .int .i64 0, .int .i64 0] 52) (fun b => .pointer (some ⟨b, 0, none⟩)) (fun _ => by kernel_rfl) ?_
  intro b wb hbs hwb hAt
  go_frame
  refine poF_tail _ (by simp only [List.getElem?_toArray, List.getElem?_cons_succ, List.getElem?_cons_zero]; rfl) ?_
  intro uc huc
  refine wpl_store_at (.tmp 6) (.tmp 23) rfl rfl #[.int .i64 now, .int .i64 1, .int .i64 t.opn] rfl rfl (by kernel_rfl) (hAt.keep0 huc) (by simp) (by simp [Value.oneCell']) ?_
  intro wd hfd hAd hszd
  refine ⟨rfl, rfl, ?_⟩
  refine poF_end ?_
  intro we hwe
  have hsa := HRa.out.lt
  have hfa : Fr [] wa uc := ((hu.trans hf).trans hwb).trans huc
  have hrb2 : rb ≠ b := by have := G.out.size; omega
  have hrr2 : w.heap.size ≠ b := by omega
  have HBe := Lib.hid (((HBa.out.keep0 hfa).keep hfd (by simpa using hrb2)).keep0 hwe)
  have HEv := Lib.hid (show At we b (.cells #[.int .i64 now, .int .i64 1, .int .i64 t.opn] 52) from At.keep0 hAd hwe)
  have HRe := Lib.hid (((HRa.out.keep0 hfa).keep hfd (by simpa using hrr2)).keep0 hwe)
  have G := Lib.hid (show Fr [rb] w we from ((Fr.weak (G.out.trans hfa)).then hfd (fun x hx => .inr (by have := G.out.size; simp at hx; omega))).trans hwe.weak)
  have hbl := HEv.out.lt
  clear hu hf hwb hAt huc hfd hAd hszd hwe hfa HBa HRa HEa k0 k1 k2 k3 k4 k5 k6 k7 k8 k9 HW HB
  have e0 := HEv.out.cell 0
  have e1 := HEv.out.cell 1
  have e2 := HEv.out.cell 2
  have ef := HEv.out.free 2
  simp only [List.getElem?_toArray, List.getElem?_cons_zero, List.getElem?_cons_succ] at e0 e1 e2
  have r10 := HBe.out.cell 10
  have rf := HBe.out.free 10
  simp only [List.getElem?_toArray, List.getElem?_cons_zero, List.getElem?_cons_succ] at r10
  have HEx := Lib.hid (show At ((we.setCell ⟨b, 2, none⟩ (.int .i64 n)).setCell ⟨rb, 10, none⟩ (.int .i64 (n + 1))) b (.cells #[.int .i64 now, .int .i64 1, .int .i64 n] 52) from (HEv.out.set 2 _).other hrb2)
  have HBx := Lib.hid (show At ((we.setCell ⟨b, 2, none⟩ (.int .i64 n)).setCell ⟨rb, 10, none⟩ (.int .i64 (n + 1))) rb (runO p t (n + 1)) from (HBe.out.other (Ne.symm hrb2)).set 10 _)
  have HRx := Lib.hid (show At ((we.setCell ⟨b, 2, none⟩ (.int .i64 n)).setCell ⟨rb, 10, none⟩ (.int .i64 (n + 1))) w.heap.size (.cells #[.int .i64 0, .int .i64 0, .int .i64 0] 52) from (HRe.out.other (Ne.symm hrr2)).other (by simp; omega))
  have Gx := Lib.hid (show Fr [rb] w ((we.setCell ⟨b, 2, none⟩ (.int .i64 n)).setCell ⟨rb, 10, none⟩ (.int .i64 (n + 1))) from (G.out.sc (.inl (by simp; omega))).sc (.inr (by simp)))
  clear HEv HBe HRe G
  go_wp2
  generalize (we.setCell ⟨b, 2, none⟩ (.int .i64 n)).setCell ⟨rb, 10, none⟩ (.int .i64 (n + 1)) = wx at HEx HBx HRx Gx ⊢
  clear e0 e1 e2 ef r10 rf
  refine wp_region_pf [(.val, 1), (.val, 2), (.val, 3), (.val, 4), (.val, 5), (.val, 6), (.val, 7), (.val, 8), (.val, 9), (.val, 10), (.val, 11), (.call, 12), (.val, 0), (.val, 13), (.val, 14), (.tail, 15)] (by kernel_rfl) (by kernel_rfl) ?_
  intro wa2 ha
  have HBa := Lib.hid (HBx.out.keep0 ha)
  have HEa := Lib.hid (HEx.out.keep0 ha)
  have HRa := Lib.hid (HRx.out.keep0 ha)
  have G := Lib.hid (Gx.out.trans ha.weak)
  clear HBx HEx HRx Gx ha
  have hkin := fun x : Kin wa2 => runCells (HBa.out.keep0 x.fr)
  have k0 := fun x : Kin wa2 => (hkin x).1.1
  have k1 := fun x : Kin wa2 => (hkin x).1.2.1
  have k2 := fun x : Kin wa2 => (hkin x).1.2.2.1
  have k3 := fun x : Kin wa2 => (hkin x).1.2.2.2.1
  have k4 := fun x : Kin wa2 => (hkin x).1.2.2.2.2.1
  have k5 := fun x : Kin wa2 => (hkin x).1.2.2.2.2.2
  have k6 := fun x : Kin wa2 => (hkin x).2.1
  have k7 := fun x : Kin wa2 => (hkin x).2.2.1
  have k8 := fun x : Kin wa2 => (hkin x).2.2.2.1
  have k9 := fun x : Kin wa2 => (hkin x).2.2.2.2.1
  clear hkin
  have j0 := fun x : Kin wa2 => (HEa.out.keep0 x.fr).cell 2
  simp only [List.getElem?_toArray, List.getElem?_cons_zero, List.getElem?_cons_succ] at j0
  refine poF_vals 11 _ _ _ (by kernel_rfl) ?_
  simp only [opersOf, List.take_succ_cons, List.take_zero, List.filterMap_cons, List.filterMap_nil, List.getElem?_toArray, List.getElem?_cons_succ, List.getElem?_cons_zero, List.drop_succ_cons, List.drop_zero]
  show wpQuiet _ _ _ _ [_, _, _, _, _, _, _, _, _, _, _] _
  iterate 11 go_big_quiet_step (fail)
  refine wpQuiet_nil ?_
  refine poF_call _ (by simp only [List.getElem?_toArray, List.getElem?_cons_succ, List.getElem?_cons_zero]; rfl) ?_
  intro u hu
  go_wp2_with fail
  refine (HN.out _).mono ?_
  rintro e ub ⟨rfl, hf⟩
  rename_i K hK
  refine hK _ _ ?_
  refine ⟨rfl, rfl, hf, ?_⟩
  clear hK K
  refine poF_vals 3 _ _ _ (by kernel_rfl) ?_
  simp only [opersOf, List.take_succ_cons, List.take_zero, List.filterMap_cons, List.filterMap_nil, List.getElem?_toArray, List.getElem?_cons_succ, List.getElem?_cons_zero, List.drop_succ_cons, List.drop_zero]
  show wpQuiet _ _ _ _ [_, _, _] _
  iterate 3 go_big_quiet_step (fail)
  refine wpQuiet_nil ?_
  refine poF_tail _ (by simp only [List.getElem?_toArray, List.getElem?_cons_succ, List.getElem?_cons_zero]; rfl) ?_
  intro uc huc
  have hfa : Fr [] wa2 uc := (hu.trans hf).trans huc
  refine wpl_store_at (.tmp 55) (.tmp 53) rfl rfl #[.int .i64 (askedT p n now).due, .int .i64 (askedT p n now).opn, .int .i64 (askedT p n now).tries, .int .i64 (askedT p n now).til] rfl rfl (by kernel_rfl) (HBa.out.keep0 hfa) (by simp) (by simp [Value.oneCell']) ?_
  intro wd hfd hAd hszd
  refine ⟨rfl, rfl, ?_⟩
  refine poF_end ?_
  intro wf hwf
  have HBf := Lib.hid (show At wf rb (runO p (askedT p n now) (n + 1)) from At.keep0 hAd hwf)
  have HEf := Lib.hid (((HEa.out.keep0 hfa).keep hfd (by simpa using Ne.symm hrb2)).keep0 hwf)
  have HRf := Lib.hid (((HRa.out.keep0 hfa).keep hfd (by simp; omega)).keep0 hwf)
  have G := Lib.hid (show Fr [rb] w wf from ((G.out.trans hfa.weak).trans hfd).trans hwf.weak)
  clear hu hf huc hfd hAd hszd hwf hfa HBa HRa HEa k0 k1 k2 k3 k4 k5 k6 k7 k8 k9 j0
  have e0 := HEf.out.cell 0
  have e1 := HEf.out.cell 1
  have e2 := HEf.out.cell 2
  simp only [List.getElem?_toArray, List.getElem?_cons_zero, List.getElem?_cons_succ] at e0 e1 e2
  go_wp2_with (refine wpl_store_at (.tmp 4) (.tmp 81) rfl rfl #[.int .i64 now, .int .i64 1, .int .i64 n] rfl rfl (by kernel_rfl) HRf.out (by simp) (by simp [Value.oneCell']) ?_)
  intro wg hfg hAg hszg
  have HG := Lib.hid (show At wg w.heap.size (.cells #[.int .i64 now, .int .i64 1, .int .i64 n] 52) from hAg)
  have HBg := Lib.hid (HBf.out.keep hfg (by simp; omega))
  have G := Lib.hid (show Fr [rb] w wg from G.out.then hfg (fun x hx => .inr (by simp at hx; omega)))
  clear hfg hAg hszg e0 e1 e2
  have e0 := HG.out.cell 0
  have e1 := HG.out.cell 1
  have e2 := HG.out.cell 2
  simp only [List.getElem?_toArray, List.getElem?_cons_zero, List.getElem?_cons_succ] at e0 e1 e2
  go_wp2
  exact bodyPost_ret (v := .tuple #[.agg #[.int .i64 now, .int .i64 1, .int .i64 n], .bool true]) (by simp [results, Tryd.results67, go_sem, e0, e1, e2]) rfl ⟨rfl, HBg.out, G.out⟩

set_option maxRecDepth 100000 in
set_option maxHeartbeats 4000000 in
theorem tick_2 (L : List Nat) (E : Nat → Addr) (B : Nat) (w : World) (hE : Errs L E B w) (h1 : 1 ∈ L) (h8 : 8 ∈ L) (h18 : 18 ∈ L) (t : Tsk) (ht : TskB t 4000000000000) (p : Par) (hc : chk p = 0) (now : Int) (hbig : Big now) (n : Int) (hn : 0 ≤ n ∧ n ≤ 4000000000000) (rb : Nat) (hb : At w rb (runO p t n))
    (hw : wantsF p t now = 2) :
    Calls Tryd.prog 67 #[.pointer (some ⟨rb, 0, none⟩), .int .i64 now] w fun e w' => e = .returned (.tuple #[.agg #[.int .i64 now, .int .i64 2, .int .i64 t.opn], .bool true]) ∧ At w' rb (runO p (againT p t now) (n)) ∧ Fr [rb] w w' := by
  have HW := Lib.hid fun w hE => wants_ok L E B w hE h1 h8 h18 t p hc now
  have HN := Lib.hid fun w => again_ok w t ht p hc now hbig

  have HB := Lib.hid hb
  have HE := Lib.hid hE
  have hrb := hb.lt
  rw [hw] at HW
  clear hE hc hb hw ht hbig
  unfold pv tv at *
  go_enter Tryd.func67, Tryd.ntmps67
  go_wp2
  refine wp_region_pf [(.val, 1), (.val, 2), (.val, 3), (.val, 4), (.val, 5), (.val, 6), (.val, 7), (.val, 8), (.val, 9), (.call, 10), (.val, 0), (.val, 11), (.val, 12), (.val, 13), (.val, 14), (.val, 15), (.val, 16), (.mem, 17), (.tail, 18)] (by kernel_rfl) (by kernel_rfl) ?_
  intro wa ha
  have HBa := Lib.hid (HB.out.keep0 (Fr.trans (Fr.al (Fr.refl _ _)) ha))
  have HEa := Lib.hid (HE.out.keep0 (Fr.trans (Fr.al (Fr.refl _ _)) ha))
  have HRa := Lib.hid (show At wa w.heap.size (.cells #[.int .i64 0, .int .i64 0, .int .i64 0] 52) from At.keep0 (At.new rfl) ha)
  have G := Lib.hid (Fr.trans (Fr.al (Fr.refl [] w)) ha)
  have hkin := fun x : Kin wa => runCells (HBa.out.keep0 x.fr)
  have k0 := fun x : Kin wa => (hkin x).1.1
  have k1 := fun x : Kin wa => (hkin x).1.2.1
  have k2 := fun x : Kin wa => (hkin x).1.2.2.1
  have k3 := fun x : Kin wa => (hkin x).1.2.2.2.1
  have k4 := fun x : Kin wa => (hkin x).1.2.2.2.2.1
  have k5 := fun x : Kin wa => (hkin x).1.2.2.2.2.2
  have k6 := fun x : Kin wa => (hkin x).2.1
  have k7 := fun x : Kin wa => (hkin x).2.2.1
  have k8 := fun x : Kin wa => (hkin x).2.2.2.1
  have k9 := fun x : Kin wa => (hkin x).2.2.2.2.1
  clear hkin ha
  refine poF_vals 9 _ _ _ (by kernel_rfl) ?_
  simp only [opersOf, List.take_succ_cons, List.take_zero, List.filterMap_cons, List.filterMap_nil, List.getElem?_toArray, List.getElem?_cons_succ, List.getElem?_cons_zero, List.drop_succ_cons, List.drop_zero]
  show wpQuiet _ _ _ _ [_, _, _, _, _, _, _, _, _] _
  iterate 9 go_big_quiet_step (fail)
  refine wpQuiet_nil ?_
  refine poF_call _ (by simp only [List.getElem?_toArray, List.getElem?_cons_succ, List.getElem?_cons_zero]; rfl) ?_
  intro u hu
  go_wp2_with fail
  refine (HW.out _ (HEa.out.keep0 hu)).mono ?_
  rintro e ub ⟨rfl, hf⟩
  rename_i K hK
  refine hK _ _ ?_
  refine ⟨rfl, rfl, hf, ?_⟩
  clear hK K
  refine poF_vals 7 _ _ _ (by kernel_rfl) ?_
  simp only [opersOf, List.take_succ_cons, List.take_zero, List.filterMap_cons, List.filterMap_nil, List.getElem?_toArray, List.getElem?_cons_succ, List.getElem?_cons_zero, List.drop_succ_cons, List.drop_zero]
  show wpQuiet _ _ _ _ [_, _, _, _, _, _, _] _
  iterate 7 go_big_quiet_step (fail)
  refine wpQuiet_nil ?_
  refine poF_new _ (by simp only [List.getElem?_toArray, List.getElem?_cons_succ, List.getElem?_cons_zero]; rfl) rfl (.cells #[.int .i64 0, .int .i64 0, .int .i64 0] 52) (fun b => .pointer (some ⟨b, 0, none⟩)) (fun _ => by kernel_rfl) ?_
  intro b wb hbs hwb hAt
  go_frame
  refine poF_tail _ (by simp only [List.getElem?_toArray, List.getElem?_cons_succ, List.getElem?_cons_zero]; rfl) ?_
  intro uc huc
  refine wpl_store_at (.tmp 6) (.tmp 23) rfl rfl #[.int .i64 now, .int .i64 2, .int .i64 t.opn] rfl rfl (by kernel_rfl) (hAt.keep0 huc) (by simp) (by simp [Value.oneCell']) ?_
  intro wd hfd hAd hszd
  refine ⟨rfl, rfl, ?_⟩
  refine poF_end ?_
  intro we hwe
  have hsa := HRa.out.lt
  have hfa : Fr [] wa uc := ((hu.trans hf).trans hwb).trans huc
  have hrb2 : rb ≠ b := by have := G.out.size; omega
  have hrr2 : w.heap.size ≠ b := by omega
  have HBe := Lib.hid (((HBa.out.keep0 hfa).keep hfd (by simpa using hrb2)).keep0 hwe)
  have HEv := Lib.hid (show At we b (.cells #[.int .i64 now, .int .i64 2, .int .i64 t.opn] 52) from At.keep0 hAd hwe)
  have HRe := Lib.hid (((HRa.out.keep0 hfa).keep hfd (by simpa using hrr2)).keep0 hwe)
  have G := Lib.hid (show Fr [rb] w we from ((Fr.weak (G.out.trans hfa)).then hfd (fun x hx => .inr (by have := G.out.size; simp at hx; omega))).trans hwe.weak)
  have hbl := HEv.out.lt
  clear hu hf hwb hAt huc hfd hAd hszd hwe hfa HBa HRa HEa k0 k1 k2 k3 k4 k5 k6 k7 k8 k9 HW HB
  have e0 := HEv.out.cell 0
  have e1 := HEv.out.cell 1
  have e2 := HEv.out.cell 2
  have ef := HEv.out.free 2
  simp only [List.getElem?_toArray, List.getElem?_cons_zero, List.getElem?_cons_succ] at e0 e1 e2
  have HEx := HEv
  have HBx := HBe
  have HRx := HRe
  have Gx := G
  obtain ⟨wx, hwx⟩ : ∃ wx, wx = we := ⟨_, rfl⟩
  subst hwx
  clear HEv HBe HRe G
  go_wp2
  clear e0 e1 e2 ef
  refine wp_region_pf [(.val, 1), (.val, 2), (.val, 3), (.val, 4), (.val, 5), (.val, 6), (.val, 7), (.val, 8), (.val, 9), (.call, 10), (.val, 0), (.val, 11), (.val, 12), (.tail, 13)] (by kernel_rfl) (by kernel_rfl) ?_
  intro wa2 ha
  have HBa := Lib.hid (HBx.out.keep0 ha)
  have HEa := Lib.hid (HEx.out.keep0 ha)
  have HRa := Lib.hid (HRx.out.keep0 ha)
  have G := Lib.hid (Gx.out.trans ha.weak)
  clear HBx HEx HRx Gx ha
  have hkin := fun x : Kin wa2 => runCells (HBa.out.keep0 x.fr)
  have k0 := fun x : Kin wa2 => (hkin x).1.1
  have k1 := fun x : Kin wa2 => (hkin x).1.2.1
  have k2 := fun x : Kin wa2 => (hkin x).1.2.2.1
  have k3 := fun x : Kin wa2 => (hkin x).1.2.2.2.1
  have k4 := fun x : Kin wa2 => (hkin x).1.2.2.2.2.1
  have k5 := fun x : Kin wa2 => (hkin x).1.2.2.2.2.2
  have k6 := fun x : Kin wa2 => (hkin x).2.1
  have k7 := fun x : Kin wa2 => (hkin x).2.2.1
  have k8 := fun x : Kin wa2 => (hkin x).2.2.2.1
  have k9 := fun x : Kin wa2 => (hkin x).2.2.2.2.1
  clear hkin
  refine poF_vals 9 _ _ _ (by kernel_rfl) ?_
  simp only [opersOf, List.take_succ_cons, List.take_zero, List.filterMap_cons, List.filterMap_nil, List.getElem?_toArray, List.getElem?_cons_succ, List.getElem?_cons_zero, List.drop_succ_cons, List.drop_zero]
  show wpQuiet _ _ _ _ [_, _, _, _, _, _, _, _, _] _
  iterate 9 go_big_quiet_step (fail)
  refine wpQuiet_nil ?_
  refine poF_call _ (by simp only [List.getElem?_toArray, List.getElem?_cons_succ, List.getElem?_cons_zero]; rfl) ?_
  intro u hu
  go_wp2_with fail
  refine (HN.out _).mono ?_
  rintro e ub ⟨rfl, hf⟩
  rename_i K hK
  refine hK _ _ ?_
  refine ⟨rfl, rfl, hf, ?_⟩
  clear hK K
  refine poF_vals 3 _ _ _ (by kernel_rfl) ?_
  simp only [opersOf, List.take_succ_cons, List.take_zero, List.filterMap_cons, List.filterMap_nil, List.getElem?_toArray, List.getElem?_cons_succ, List.getElem?_cons_zero, List.drop_succ_cons, List.drop_zero]
  show wpQuiet _ _ _ _ [_, _, _] _
  iterate 3 go_big_quiet_step (fail)
  refine wpQuiet_nil ?_
  refine poF_tail _ (by simp only [List.getElem?_toArray, List.getElem?_cons_succ, List.getElem?_cons_zero]; rfl) ?_
  intro uc huc
  have hfa : Fr [] wa2 uc := (hu.trans hf).trans huc
  refine wpl_store_at (.tmp 70) (.tmp 68) rfl rfl #[.int .i64 (againT p t now).due, .int .i64 (againT p t now).opn, .int .i64 (againT p t now).tries, .int .i64 (againT p t now).til] rfl rfl (by kernel_rfl) (HBa.out.keep0 hfa) (by simp) (by simp [Value.oneCell']) ?_
  intro wd hfd hAd hszd
  refine ⟨rfl, rfl, ?_⟩
  refine poF_end ?_
  intro wf hwf
  have HBf := Lib.hid (show At wf rb (runO p (againT p t now) (n)) from At.keep0 hAd hwf)
  have HEf := Lib.hid (((HEa.out.keep0 hfa).keep hfd (by simpa using Ne.symm hrb2)).keep0 hwf)
  have HRf := Lib.hid (((HRa.out.keep0 hfa).keep hfd (by simp; omega)).keep0 hwf)
  have G := Lib.hid (show Fr [rb] w wf from ((G.out.trans hfa.weak).trans hfd).trans hwf.weak)
  clear hu hf huc hfd hAd hszd hwf hfa HBa HRa HEa k0 k1 k2 k3 k4 k5 k6 k7 k8 k9 
  have e0 := HEf.out.cell 0
  have e1 := HEf.out.cell 1
  have e2 := HEf.out.cell 2
  simp only [List.getElem?_toArray, List.getElem?_cons_zero, List.getElem?_cons_succ] at e0 e1 e2
  go_wp2_with (refine wpl_store_at (.tmp 4) (.tmp 81) rfl rfl #[.int .i64 now, .int .i64 2, .int .i64 t.opn] rfl rfl (by kernel_rfl) HRf.out (by simp) (by simp [Value.oneCell']) ?_)
  intro wg hfg hAg hszg
  have HG := Lib.hid (show At wg w.heap.size (.cells #[.int .i64 now, .int .i64 2, .int .i64 t.opn] 52) from hAg)
  have HBg := Lib.hid (HBf.out.keep hfg (by simp; omega))
  have G := Lib.hid (show Fr [rb] w wg from G.out.then hfg (fun x hx => .inr (by simp at hx; omega)))
  clear hfg hAg hszg e0 e1 e2
  have e0 := HG.out.cell 0
  have e1 := HG.out.cell 1
  have e2 := HG.out.cell 2
  simp only [List.getElem?_toArray, List.getElem?_cons_zero, List.getElem?_cons_succ] at e0 e1 e2
  go_wp2
  exact bodyPost_ret (v := .tuple #[.agg #[.int .i64 now, .int .i64 2, .int .i64 t.opn], .bool true]) (by simp [results, Tryd.results67, go_sem, e0, e1, e2]) rfl ⟨rfl, HBg.out, G.out⟩

set_option maxRecDepth 100000 in
set_option maxHeartbeats 4000000 in
theorem tick_3 (L : List Nat) (E : Nat → Addr) (B : Nat) (w : World) (hE : Errs L E B w) (h1 : 1 ∈ L) (h8 : 8 ∈ L) (h18 : 18 ∈ L) (t : Tsk) (ht : TskB t 4000000000000) (p : Par) (hc : chk p = 0) (now : Int) (hbig : Big now) (n : Int) (hn : 0 ≤ n ∧ n ≤ 4000000000000) (rb : Nat) (hb : At w rb (runO p t n))
    (hw : wantsF p t now = 3) :
    Calls Tryd.prog 67 #[.pointer (some ⟨rb, 0, none⟩), .int .i64 now] w fun e w' => e = .returned (.tuple #[.agg #[.int .i64 now, .int .i64 3, .int .i64 t.opn], .bool true]) ∧ At w' rb (runO p (closedT t) (n)) ∧ Fr [rb] w w' := by
  have HW := Lib.hid fun w hE => wants_ok L E B w hE h1 h8 h18 t p hc now
  have HN := Lib.hid fun w => closed_ok w t

  have HB := Lib.hid hb
  have HE := Lib.hid hE
  have hrb := hb.lt
  rw [hw] at HW
  clear hE hc hb hw ht hbig
  unfold pv tv at *
  go_enter Tryd.func67, Tryd.ntmps67
  go_wp2
  refine wp_region_pf [(.val, 1), (.val, 2), (.val, 3), (.val, 4), (.val, 5), (.val, 6), (.val, 7), (.val, 8), (.val, 9), (.call, 10), (.val, 0), (.val, 11), (.val, 12), (.val, 13), (.val, 14), (.val, 15), (.val, 16), (.mem, 17), (.tail, 18)] (by kernel_rfl) (by kernel_rfl) ?_
  intro wa ha
  have HBa := Lib.hid (HB.out.keep0 (Fr.trans (Fr.al (Fr.refl _ _)) ha))
  have HEa := Lib.hid (HE.out.keep0 (Fr.trans (Fr.al (Fr.refl _ _)) ha))
  have HRa := Lib.hid (show At wa w.heap.size (.cells #[.int .i64 0, .int .i64 0, .int .i64 0] 52) from At.keep0 (At.new rfl) ha)
  have G := Lib.hid (Fr.trans (Fr.al (Fr.refl [] w)) ha)
  have hkin := fun x : Kin wa => runCells (HBa.out.keep0 x.fr)
  have k0 := fun x : Kin wa => (hkin x).1.1
  have k1 := fun x : Kin wa => (hkin x).1.2.1
  have k2 := fun x : Kin wa => (hkin x).1.2.2.1
  have k3 := fun x : Kin wa => (hkin x).1.2.2.2.1
  have k4 := fun x : Kin wa => (hkin x).1.2.2.2.2.1
  have k5 := fun x : Kin wa => (hkin x).1.2.2.2.2.2
  have k6 := fun x : Kin wa => (hkin x).2.1
  have k7 := fun x : Kin wa => (hkin x).2.2.1
  have k8 := fun x : Kin wa => (hkin x).2.2.2.1
  have k9 := fun x : Kin wa => (hkin x).2.2.2.2.1
  clear hkin ha
  refine poF_vals 9 _ _ _ (by kernel_rfl) ?_
  simp only [opersOf, List.take_succ_cons, List.take_zero, List.filterMap_cons, List.filterMap_nil, List.getElem?_toArray, List.getElem?_cons_succ, List.getElem?_cons_zero, List.drop_succ_cons, List.drop_zero]
  show wpQuiet _ _ _ _ [_, _, _, _, _, _, _, _, _] _
  iterate 9 go_big_quiet_step (fail)
  refine wpQuiet_nil ?_
  refine poF_call _ (by simp only [List.getElem?_toArray, List.getElem?_cons_succ, List.getElem?_cons_zero]; rfl) ?_
  intro u hu
  go_wp2_with fail
  refine (HW.out _ (HEa.out.keep0 hu)).mono ?_
  rintro e ub ⟨rfl, hf⟩
  rename_i K hK
  refine hK _ _ ?_
  refine ⟨rfl, rfl, hf, ?_⟩
  clear hK K
  refine poF_vals 7 _ _ _ (by kernel_rfl) ?_
  simp only [opersOf, List.take_succ_cons, List.take_zero, List.filterMap_cons, List.filterMap_nil, List.getElem?_toArray, List.getElem?_cons_succ, List.getElem?_cons_zero, List.drop_succ_cons, List.drop_zero]
  show wpQuiet _ _ _ _ [_, _, _, _, _, _, _] _
  iterate 7 go_big_quiet_step (fail)
  refine wpQuiet_nil ?_
  refine poF_new _ (by simp only [List.getElem?_toArray, List.getElem?_cons_succ, List.getElem?_cons_zero]; rfl) rfl (.cells #[.int .i64 0, .int .i64 0, .int .i64 0] 52) (fun b => .pointer (some ⟨b, 0, none⟩)) (fun _ => by kernel_rfl) ?_
  intro b wb hbs hwb hAt
  go_frame
  refine poF_tail _ (by simp only [List.getElem?_toArray, List.getElem?_cons_succ, List.getElem?_cons_zero]; rfl) ?_
  intro uc huc
  refine wpl_store_at (.tmp 6) (.tmp 23) rfl rfl #[.int .i64 now, .int .i64 3, .int .i64 t.opn] rfl rfl (by kernel_rfl) (hAt.keep0 huc) (by simp) (by simp [Value.oneCell']) ?_
  intro wd hfd hAd hszd
  refine ⟨rfl, rfl, ?_⟩
  refine poF_end ?_
  intro we hwe
  have hsa := HRa.out.lt
  have hfa : Fr [] wa uc := ((hu.trans hf).trans hwb).trans huc
  have hrb2 : rb ≠ b := by have := G.out.size; omega
  have hrr2 : w.heap.size ≠ b := by omega
  have HBe := Lib.hid (((HBa.out.keep0 hfa).keep hfd (by simpa using hrb2)).keep0 hwe)
  have HEv := Lib.hid (show At we b (.cells #[.int .i64 now, .int .i64 3, .int .i64 t.opn] 52) from At.keep0 hAd hwe)
  have HRe := Lib.hid (((HRa.out.keep0 hfa).keep hfd (by simpa using hrr2)).keep0 hwe)
  have G := Lib.hid (show Fr [rb] w we from ((Fr.weak (G.out.trans hfa)).then hfd (fun x hx => .inr (by have := G.out.size; simp at hx; omega))).trans hwe.weak)
  have hbl := HEv.out.lt
  clear hu hf hwb hAt huc hfd hAd hszd hwe hfa HBa HRa HEa k0 k1 k2 k3 k4 k5 k6 k7 k8 k9 HW HB
  have e0 := HEv.out.cell 0
  have e1 := HEv.out.cell 1
  have e2 := HEv.out.cell 2
  have ef := HEv.out.free 2
  simp only [List.getElem?_toArray, List.getElem?_cons_zero, List.getElem?_cons_succ] at e0 e1 e2
  have hkin := runCells HBe.out
  obtain ⟨⟨k0, k1, k2, k3, k4, k5⟩, k6, k7, k8, k9, k10⟩ := hkin
  go_wp2_with fail
  refine (HN.out _).mono ?_
  rintro e ub ⟨rfl, hf⟩
  have HBa := Lib.hid (HBe.out.keep0 hf)
  have HEa := Lib.hid (HEv.out.keep0 hf)
  have HRa := Lib.hid (HRe.out.keep0 hf)
  have G := Lib.hid (G.out.trans hf.weak)
  clear HEv HBe HRe k0 k1 k2 k3 k4 k5 k6 k7 k8 k9 k10 e0 e1 e2 ef hf
  go_wp2_with (refine wpl_store_at (.tmp 80) (.tmp 78) rfl rfl #[.int .i64 (closedT t).due, .int .i64 (closedT t).opn, .int .i64 (closedT t).tries, .int .i64 (closedT t).til] rfl rfl (by kernel_rfl) HBa.out (by simp) (by simp [Value.oneCell']) ?_)
  intro wf hfd hAd hszd
  have HBf := Lib.hid (show At wf rb (runO p (closedT t) n) from hAd)
  have HEf := Lib.hid (HEa.out.keep hfd (by simpa using Ne.symm hrb2))
  have HRf := Lib.hid (HRa.out.keep hfd (by simp; omega))
  have G := Lib.hid (show Fr [rb] w wf from G.out.trans hfd)
  clear hfd hAd hszd HBa HRa HEa
  have e0 := HEf.out.cell 0
  have e1 := HEf.out.cell 1
  have e2 := HEf.out.cell 2
  simp only [List.getElem?_toArray, List.getElem?_cons_zero, List.getElem?_cons_succ] at e0 e1 e2
  go_wp2_with (refine wpl_store_at (.tmp 4) (.tmp 81) rfl rfl #[.int .i64 now, .int .i64 3, .int .i64 t.opn] rfl rfl (by kernel_rfl) HRf.out (by simp) (by simp [Value.oneCell']) ?_)
  intro wg hfg hAg hszg
  have HG := Lib.hid (show At wg w.heap.size (.cells #[.int .i64 now, .int .i64 3, .int .i64 t.opn] 52) from hAg)
  have HBg := Lib.hid (HBf.out.keep hfg (by simp; omega))
  have G := Lib.hid (show Fr [rb] w wg from G.out.then hfg (fun x hx => .inr (by simp at hx; omega)))
  clear hfg hAg hszg e0 e1 e2
  have e0 := HG.out.cell 0
  have e1 := HG.out.cell 1
  have e2 := HG.out.cell 2
  simp only [List.getElem?_toArray, List.getElem?_cons_zero, List.getElem?_cons_succ] at e0 e1 e2
  go_wp2
  exact bodyPost_ret (v := .tuple #[.agg #[.int .i64 now, .int .i64 3, .int .i64 t.opn], .bool true]) (by simp [results, Tryd.results67, go_sem, e0, e1, e2]) rfl ⟨rfl, HBg.out, G.out⟩

end Go.Proofs.YtbohmnblegljkaaDoor
