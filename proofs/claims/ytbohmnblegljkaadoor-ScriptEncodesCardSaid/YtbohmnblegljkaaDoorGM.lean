/-
  The law ScriptEncodes: its drawn region. (printed by gensel.py)
  The law ScriptEncodes: the walk.
-/
import Derived.Test.YtbohmnblegljkaaDoorGK
import Derived.Test.YtbohmnblegljkaaDoorGH
import Derived.Test.YtbohmnblegljkaaDoorGJ
import Derived.Test.YtbohmnblegljkaaDoorRen
import Derived.Test.YtbohmnblegljkaaDoorGL
namespace Go.Proofs.YtbohmnblegljkaaDoor
open Go.RowKit Go.Bl
set_option linter.unusedVariables false

def kAct : ActP := ⟨300, 0, 0, 0, 0, ⟨#[]⟩, [], 0, 0, 0, 0, 0, 0, 0, 0, 0⟩
noncomputable def sencReg : Code := ((Tryd.f7.body.bind (findRegion 18)).getD .skip)
noncomputable def sencBody : Code := ((Tryd.f7.body.bind firstLoopE).getD .skip)
set_option maxRecDepth 100000 in
theorem frame81 (a : Go.Act) (hs : a.tmps.size = 81) (hd : a.defers = []) : a = ⟨(slot a 0 :: slot a 1 :: slot a 2 :: slot a 3 :: slot a 4 :: slot a 5 :: slot a 6 :: slot a 7 :: slot a 8 :: slot a 9 :: slot a 10 :: slot a 11 :: slot a 12 :: slot a 13 :: slot a 14 :: slot a 15 :: slot a 16 :: slot a 17 :: slot a 18 :: slot a 19 :: slot a 20 :: slot a 21 :: slot a 22 :: slot a 23 :: slot a 24 :: slot a 25 :: slot a 26 :: slot a 27 :: slot a 28 :: slot a 29 :: slot a 30 :: slot a 31 :: slot a 32 :: slot a 33 :: slot a 34 :: slot a 35 :: slot a 36 :: slot a 37 :: slot a 38 :: slot a 39 :: slot a 40 :: slot a 41 :: slot a 42 :: slot a 43 :: slot a 44 :: slot a 45 :: slot a 46 :: slot a 47 :: slot a 48 :: slot a 49 :: slot a 50 :: slot a 51 :: slot a 52 :: slot a 53 :: slot a 54 :: slot a 55 :: slot a 56 :: slot a 57 :: slot a 58 :: slot a 59 :: slot a 60 :: slot a 61 :: slot a 62 :: slot a 63 :: slot a 64 :: slot a 65 :: slot a 66 :: slot a 67 :: slot a 68 :: slot a 69 :: slot a 70 :: slot a 71 :: slot a 72 :: slot a 73 :: slot a 74 :: slot a 75 :: slot a 76 :: slot a 77 :: slot a 78 :: slot a 79 :: slot a 80 :: []).toArray, []⟩ := frame_exp a 81 hs hd

set_option maxRecDepth 1000000 in
set_option maxHeartbeats 8000000 in
theorem senc_reg (w : World) (a : Go.Act) (hsz : a.tmps.size = 81) (hd : a.defers = []) (bb boff M bcap j : Nat) (p : ActP) (yo po : Option Addr) (yn yc pn pc r10 : Nat)
    (h7 : slot a 7 = .slice (some ⟨bb, boff, none⟩) M bcap) (h8 : slot a 8 = .int .i64 j) (hj : j < M) (hM : M ≤ 1000) (hcell : w.rangeAt bb (boff + j * 16) (avC (p, .slice yo yn yc))) (hy : Bs (fun _ => False) w (.slice yo yn yc) p.bytes)
    (h10 : slot a 10 = .pointer (some ⟨r10, 0, none⟩)) (hB : At w r10 (actO p (.slice po pn pc) 71)) (hp : Bs (fun _ => False) w (.slice po pn pc) p.bytes) (hpp : plainA p = p) (hk : p.kind ≠ 300) (hlen : p.bytes.length ≤ 4000000) (Q : Exit → Go.Act → World → Prop)
    (hQ : ∀ (c : Go.Act) (w' : World), c.defers = [] → c.tmps.size = 81 → slot c 79 = .bool false → slot c 7 = slot a 7 → slot c 52 = slot a 52 → slot c 53 = slot a 53 → slot c 54 = slot a 54 → Fr [] w w' → Q .normal c w') :
    Code.wp Tryd.prog sencReg Q a w := by
  rw [h7] at hQ
  have HQ := Lib.hid hQ
  have BY := Lib.hid hy
  have BP := Lib.hid hp
  have HPP := Lib.hid hpp
  have HK := Lib.hid hk
  have RC := Lib.hid (show w.rangeAt bb (boff + j * 16) ((actC p (.slice yo yn yc)).toList) from hcell)
  have RB := Lib.hid (show w.rangeAt r10 0 ((actC p (.slice po pn pc)).toList) from range_at' hB)
  have HF := Lib.hid (Fr.refl [] w)
  rw [frame81 a hsz hd, h7, h8, h10]
  clear hQ hy hp hpp hk hcell hB
  conv => arg 2; whnf
  refine wp_region_pf [(.val, 0), (.val, 1), (.val, 2), (.val, 3), (.val, 4), (.call, 5), (.val, 6), (.val, 7), (.val, 9), (.call, 10), (.val, 8), (.call, 11), (.val, 12), (.val, 13), (.val, 14), (.val, 15), (.val, 16), (.call, 17), (.val, 18)] (by kernel_rfl) (by kernel_rfl) ?_
  intro wa ha
  replace RC := Lib.hid (range_keep RC.out ha)
  replace RB := Lib.hid (range_keep RB.out ha)
  replace HF := Lib.hid (HF.out.trans ha)
  replace BY := Lib.hid (BY.out.keep ha (by simp))
  replace BP := Lib.hid (BP.out.keep ha (by simp))
  clear ha
  have G := Lib.hid (Fr.refl [] wa)
  skip
  refine poF_vals 5 _ _ _ (by kernel_rfl) ?_
  simp only [opersOf, List.take_succ_cons, List.take_zero, List.filterMap_cons, List.filterMap_nil, List.getElem?_toArray, List.getElem?_cons_succ, List.getElem?_cons_zero, List.drop_succ_cons, List.drop_zero]
  show wpQuiet _ _ _ _ [_, _, _, _, _] _
  iterate 3 go_big_quiet_step (fail)
  refine BigFrame.wpQuiet_want rfl fun K hK => ?_
  refine quiet_of_run (.agg (actC p (.slice yo yn yc))) ?_ (hK _ ?_)
  · rintro _ ⟨z, rfl⟩
    exact run_load_row (.tmp 63) rfl bb (boff + j * 16) (actC p (.slice yo yn yc)) _ rfl (range_keep RC.out z.fr) Tryd.underlying71 rfl (by kernel_rfl)
  simp only [Act.put, List.setIfInBounds_toArray, List.set_cons_succ, List.set_cons_zero]
  refine BigFrame.wpQuiet_want rfl fun K hK => ?_
  refine quiet_of_run (.agg (actC p (.slice po pn pc))) ?_ (hK _ ?_)
  · rintro _ ⟨z, rfl⟩
    exact run_load_row (.tmp 10) rfl r10 (0) (actC p (.slice po pn pc)) _ rfl (range_keep RB.out z.fr) Tryd.underlying71 rfl (by kernel_rfl)
  simp only [Act.put, List.setIfInBounds_toArray, List.set_cons_succ, List.set_cons_zero]
  refine wpQuiet_nil ?_
  refine poF_call _ (by simp only [List.getElem?_toArray, List.getElem?_cons_succ, List.getElem?_cons_zero]; rfl) ?_
  intro u hu
  go_wp2_with fail
  refine (ssame_any (fun _ => False) _ p p _ _ (BY.out.keep (G.out.trans hu) (by simp)) (BP.out.keep (G.out.trans hu) (by simp)) true (.inl ⟨rfl, rfl⟩)).mono ?_
  rintro e u1 ⟨rfl, hf⟩
  rename_i K hK
  refine hK _ _ ?_
  refine ⟨rfl, rfl, hf, ?_⟩
  clear hK K
  replace G := Lib.hid ((G.out.trans hu).trans hf)
  clear hu hf
  skip
  refine poF_vals 2 _ _ _ (by kernel_rfl) ?_
  simp only [opersOf, List.take_succ_cons, List.take_zero, List.filterMap_cons, List.filterMap_nil, List.getElem?_toArray, List.getElem?_cons_succ, List.getElem?_cons_zero, List.drop_succ_cons, List.drop_zero]
  show wpQuiet _ _ _ _ [_, _] _
  iterate 2 go_big_quiet_step (fail)
  refine wpQuiet_nil ?_
  skip
  refine poF_vals 1 _ _ _ (by kernel_rfl) ?_
  simp only [opersOf, List.take_succ_cons, List.take_zero, List.filterMap_cons, List.filterMap_nil, List.getElem?_toArray, List.getElem?_cons_succ, List.getElem?_cons_zero, List.drop_succ_cons, List.drop_zero]
  show wpQuiet _ _ _ _ [_] _
  refine BigFrame.wpQuiet_want rfl fun K hK => ?_
  refine quiet_of_run (.agg (actC p (.slice po pn pc))) ?_ (hK _ ?_)
  · rintro _ ⟨z, rfl⟩
    exact run_load_row (.tmp 10) rfl r10 (0) (actC p (.slice po pn pc)) _ rfl (range_keep RB.out z.fr) Tryd.underlying71 rfl (by kernel_rfl)
  simp only [Act.put, List.setIfInBounds_toArray, List.set_cons_succ, List.set_cons_zero]
  refine wpQuiet_nil ?_
  refine poF_call _ (by simp only [List.getElem?_toArray, List.getElem?_cons_succ, List.getElem?_cons_zero]; rfl) ?_
  intro u hu
  go_wp2_with fail
  refine (Plain_any (fun _ => False) _ p _ (BP.out.keep (G.out.trans hu) (by simp)) hlen).mono ?_
  rintro e u2 ⟨qv, rfl, ho, hf⟩
  rename_i K hK
  refine hK _ _ ?_
  refine ⟨rfl, rfl, hf, ?_⟩
  clear hK K
  have BQ := Lib.hid (show Bs (fun _ => False) u2 qv p.bytes from by
    have h := ho.bs (A := fun _ => False) (by simp)
    rw [HPP.out] at h
    exact h)
  replace G := Lib.hid ((G.out.trans hu).trans hf)
  obtain ⟨qo, qn, qc, rfl⟩ := bs_shape BQ.out
  rw [HPP.out]
  clear hu hf ho
  skip
  refine poF_vals 1 _ _ _ (by kernel_rfl) ?_
  simp only [opersOf, List.take_succ_cons, List.take_zero, List.filterMap_cons, List.filterMap_nil, List.getElem?_toArray, List.getElem?_cons_succ, List.getElem?_cons_zero, List.drop_succ_cons, List.drop_zero]
  show wpQuiet _ _ _ _ [_] _
  refine BigFrame.wpQuiet_want rfl fun K hK => ?_
  refine quiet_of_run (.agg (actC p (.slice po pn pc))) ?_ (hK _ ?_)
  · rintro _ ⟨z, rfl⟩
    exact run_load_row (.tmp 10) rfl r10 (0) (actC p (.slice po pn pc)) _ rfl (range_keep RB.out z.fr) Tryd.underlying71 rfl (by kernel_rfl)
  simp only [Act.put, List.setIfInBounds_toArray, List.set_cons_succ, List.set_cons_zero]
  refine wpQuiet_nil ?_
  refine poF_call _ (by simp only [List.getElem?_toArray, List.getElem?_cons_succ, List.getElem?_cons_zero]; rfl) ?_
  intro u hu
  go_wp2_with fail
  refine (ssame_any (fun _ => False) _ p p _ _ (BP.out.keep (G.out.trans hu) (by simp)) (BQ.out.keep hu (by simp)) true (.inl ⟨rfl, rfl⟩)).mono ?_
  rintro e u3 ⟨rfl, hf⟩
  rename_i K hK
  refine hK _ _ ?_
  refine ⟨rfl, rfl, hf, ?_⟩
  clear hK K
  replace G := Lib.hid ((G.out.trans hu).trans hf)
  clear hu hf
  skip
  refine poF_vals 5 _ _ _ (by kernel_rfl) ?_
  simp only [opersOf, List.take_succ_cons, List.take_zero, List.filterMap_cons, List.filterMap_nil, List.getElem?_toArray, List.getElem?_cons_succ, List.getElem?_cons_zero, List.drop_succ_cons, List.drop_zero]
  show wpQuiet _ _ _ _ [_, _, _, _, _] _
  iterate 3 go_big_quiet_step (fail)
  refine BigFrame.wpQuiet_want rfl fun K hK => ?_
  refine quiet_of_run (.agg (actC p (.slice po pn pc))) ?_ (hK _ ?_)
  · rintro _ ⟨z, rfl⟩
    exact run_load_row (.tmp 10) rfl r10 (0) (actC p (.slice po pn pc)) _ rfl (range_keep RB.out z.fr) Tryd.underlying71 rfl (by kernel_rfl)
  simp only [Act.put, List.setIfInBounds_toArray, List.set_cons_succ, List.set_cons_zero]
  refine BigFrame.wpQuiet_want rfl fun K hK => ?_
  refine quiet_of_run (.agg (actC kAct (.slice none 0 0))) ?_ (hK _ ?_)
  · rintro _ ⟨z, rfl⟩
    kernel_rfl
  simp only [Act.put, List.setIfInBounds_toArray, List.set_cons_succ, List.set_cons_zero]
  refine wpQuiet_nil ?_
  refine poF_call _ (by simp only [List.getElem?_toArray, List.getElem?_cons_succ, List.getElem?_cons_zero]; rfl) ?_
  intro u hu
  go_wp2_with fail
  refine (ssame_any (fun _ => False) _ p kAct _ _ (BP.out.keep (G.out.trans hu) (by simp)) (Bs.nil _ _ _ _ (by simp [maxLen])) false (.inr ⟨rfl, fun h => HK.out (by rw [h]; rfl)⟩)).mono ?_
  rintro e u4 ⟨rfl, hf⟩
  rename_i K hK
  refine hK _ _ ?_
  refine ⟨rfl, rfl, hf, ?_⟩
  clear hK K
  replace G := Lib.hid ((G.out.trans hu).trans hf)
  clear hu hf
  refine poF_vals 1 _ _ _ (by kernel_rfl) ?_
  simp only [opersOf, List.take_succ_cons, List.take_zero, List.filterMap_cons, List.filterMap_nil, List.getElem?_toArray, List.getElem?_cons_succ, List.getElem?_cons_zero, List.drop_succ_cons, List.drop_zero]
  show wpQuiet _ _ _ _ [_] _
  iterate 1 go_big_quiet_step (fail)
  refine wpQuiet_nil ?_
  refine poF_end ?_
  intro wz hz
  have HZ := Lib.hid ((HF.out.trans G.out).trans hz)
  clear hz
  exact HQ.out _ _ rfl rfl rfl rfl rfl rfl rfl HZ.out
end Go.Proofs.YtbohmnblegljkaaDoor
namespace Go.Proofs.YtbohmnblegljkaaDoor
open Go.RowKit Go.Bl
set_option linter.unusedVariables false

theorem wpl_str_h {P : Program} {A : Nat → Prop} {w : World} {ops : Array Oper} {rest : List Oper} {o : Oper} {a : Go.Act} {Q : Exit → Go.Act → World → Prop} {src dst e : TypeId} {v : Value} {xs : List UInt8} (hs : P.underlying src = some (.slice e)) (he : P.underlying e = some (.int .u8)) (hd : P.underlying dst = some .string)
    (x : Operand) (ho : o.op = .convert src dst x) (hw : Region.wanted o (yielded ops a.tmps) = true) (hx : a.eval x = v) (hb : Bs A w v xs) (h : wpList P ops Q rest (a.put o.dst (.string ⟨xs.toArray⟩)) w) : wpList P ops Q (o :: rest) a w := by
  refine wpList_step fun K hK => ?_
  rw [if_pos hw]
  unfold Oper.wp execOp
  simp only [ho, hx, Sem.run_bind, run_str_bs hs he hd hb, Result.andThen_ok, Sem.run_pure]
  exact hK _ _ h

set_option maxRecDepth 1000000 in
set_option maxHeartbeats 8000000 in
theorem senc_round (w0 wr : World) (a : Go.Act) (hsz : a.tmps.size = 81) (hd : a.defers = []) (N j b off cap bb boff bcap : Nat) (x : ActP) (bo yo : Option Addr) (bn bc yn yc : Nat)
    (h7 : slot a 7 = .slice (some ⟨bb, boff, none⟩) N bcap) (h52 : slot a 52 = .slice (some ⟨b, off, none⟩) N cap) (h53 : slot a 53 = .int .i64 N) (h54 : slot a 54 = .int .i64 j) (hj : j < N) (hN : N ≤ 30)
    (hcell : wr.rangeAt b (off + j * 16) (avC (x, .slice bo bn bc))) (hbx : Bs (fun _ => False) wr (.slice bo bn bc) x.bytes) (hlen : x.bytes.length ≤ 70000)
    (hback : wr.rangeAt bb (boff + j * 16) (avC (plainA x, .slice yo yn yc))) (hby : Bs (fun _ => False) wr (.slice yo yn yc) (plainA x).bytes) (hk : x.kind ≤ 255) (hF : Fr [] w0 wr) (Q : Exit → Go.Act → World → Prop)
    (hQ : ∀ (c : Go.Act) (p : World), c.defers = [] → c.tmps.size = 81 → slot c 7 = slot a 7 → slot c 52 = slot a 52 → slot c 53 = slot a 53 → slot c 54 = .int .i64 ((j : Int) + 1) → Fr [] w0 p → Q .normal c p) : Code.wp Tryd.prog sencBody Q a wr := by
  rw [h7, h52, h53] at hQ
  have HQ := Lib.hid hQ
  have HC := Lib.hid hcell
  have HB := Lib.hid (range_keep hback (Fr.alloc (S := []) wr (.cells (actC x (.slice bo bn bc)) 71)))
  have BX := Lib.hid (hbx.keep (Fr.alloc (S := []) wr (.cells (actC x (.slice bo bn bc)) 71)) (by simp))
  have BY := Lib.hid (hby.keep (Fr.alloc (S := []) wr (.cells (actC x (.slice bo bn bc)) 71)) (by simp))
  have HF := Lib.hid (show Fr [] w0 (wr.alloc (.cells (actC x (.slice bo bn bc)) 71)) from Fr.al hF)
  have HNB := Lib.hid (show (wr.alloc (.cells (actC x (.slice bo bn bc)) 71)).rangeAt wr.heap.size 0 (actC x (.slice bo bn bc)).toList from range_at' (At.new rfl))
  have HPK := Lib.hid (show (plainA x).kind ≠ 300 by rw [plainA_kind]; omega)
  rw [frame81 a hsz hd, h7, h52, h53, h54]
  clear hQ hcell hback hbx hby hF h7 h52 h53 h54 hk
  conv => arg 2; whnf
  go_wp2_with (first | (refine wpl_load_row (.tmp 57) rfl rfl b (off + j * 16) (actC x (.slice bo bn bc)) rfl HC.out Tryd.underlying71 rfl (by kernel_rfl) ?_) | (refine wpl_store_new (.tmp 9) (.tmp 58) rfl rfl (actC x (.slice bo bn bc)) rfl rfl (by kernel_rfl) rfl (by simp [actC, Value.oneCell']) ?_) | (refine wpl_load_row (.tmp 9) rfl rfl wr.heap.size 0 (actC x (.slice bo bn bc)) rfl HNB.out Tryd.underlying71 rfl (by kernel_rfl) ?_))
  refine (Plain_any (fun _ => False) _ x _ BX.out (by omega)).mono ?_
  rintro e w2 ⟨pv, rfl, ho, hf⟩
  have hpb := ho.bs (A := fun _ => False) (by simp)
  obtain ⟨po, pn, pc, rfl⟩ := bs_shape hpb
  have hal : Fr [] w2 (w2.alloc (.cells (actC (plainA x) (.slice po pn pc)) 71)) := Fr.alloc _ _
  have BP := Lib.hid (hpb.keep hal (by simp))
  replace HB := Lib.hid (range_keep HB.out (hf.trans hal))
  replace BY := Lib.hid (BY.out.keep (hf.trans hal) (by simp))
  replace HF := Lib.hid ((HF.out.trans hf).trans hal)
  have HA := Lib.hid (show At (w2.alloc (.cells (actC (plainA x) (.slice po pn pc)) 71)) w2.heap.size (actO (plainA x) (.slice po pn pc) 71) from At.new rfl)
  clear ho hf hpb hal HC BX HNB
  go_wp2_with (refine wpl_store_new (.tmp 10) (.tmp 60) rfl rfl (actC (plainA x) (.slice po pn pc)) rfl rfl (by kernel_rfl) rfl (by simp [actC, Value.oneCell']) ?_)
  refine senc_reg _ _ rfl rfl bb boff N bcap j (plainA x) yo po yn yc pn pc w2.heap.size rfl rfl hj (by omega) HB.out BY.out rfl HA.out BP.out (plainA_plain x) HPK.out (by have := plainA_bytes x; omega) _ ?_
  intro c w3 h1 h2 h79 h7 h52 h53 h54 hf
  have HZ := Lib.hid (HF.out.trans hf)
  replace h7 : slot c 7 = .slice (some ⟨bb, boff, none⟩) N bcap := h7
  replace h52 : slot c 52 = .slice (some ⟨b, off, none⟩) N cap := h52
  replace h53 : slot c 53 = .int .i64 N := h53
  replace h54 : slot c 54 = .int .i64 j := h54
  rw [frame81 c h2 h1, h79, h7, h52, h53, h54]
  clear h1 h2 h79 h7 h52 h53 h54 hf HA HB BY BP HF
  go_wp2
  exact HQ.out _ _ rfl rfl rfl rfl rfl (by go_num) HZ.out

set_option maxRecDepth 1000000 in
set_option maxHeartbeats 8000000 in
theorem senc_exit (wr : World) (a : Go.Act) (hsz : a.tmps.size = 81) (hd : a.defers = []) (N : Nat) (h53 : slot a 53 = .int .i64 N) (h54 : slot a 54 = .int .i64 N) (hN : N ≤ 30) (Q : Exit → Go.Act → World → Prop)
    (hQ : ∀ c : Go.Act, c.defers = [] → c.tmps.size = 81 → Q (.exit 0) c wr) : Code.wp Tryd.prog sencBody Q a wr := by
  have HQ := Lib.hid hQ
  rw [frame81 a hsz hd, h53, h54]
  clear hQ h53 h54
  conv => arg 2; whnf
  go_wp2_with fail
  exact HQ.out _ rfl rfl
structure SencI (w0 : World) (n : Nat) (v bv : Value) (a : Go.Act) (wr : World) : Prop where
  sz : a.tmps.size = 81
  df : a.defers = []
  s7 : slot a 7 = bv
  s52 : slot a 52 = v
  s53 : slot a 53 = .int .i64 n
  more : ∃ j : Nat, j ≤ n ∧ slot a 54 = .int .i64 j ∧ Fr [] w0 wr
set_option maxRecDepth 1000000 in
set_option maxHeartbeats 8000000 in
theorem senc_loop (w0 : World) (v bv : Value) (l bl : List AV) (hr : RdA (fun _ => False) w0 v l) (hb : RdA (fun _ => False) w0 bv bl) (hbl : bl.map (·.1) = (l.map (·.1)).map plainA) (hl : l.length ≤ 30) (hby : ∀ x ∈ l, x.1.bytes.length ≤ 70000) (hk : ∀ x ∈ l, x.1.kind ≤ 255) (a : Go.Act) (wr : World) (hI : SencI w0 l.length v bv a wr) (Q : Exit → Go.Act → World → Prop)
    (hE : ∀ (c : Go.Act) (p : World), c.defers = [] → c.tmps.size = 81 → Fr [] w0 p → Q (.exit 0) c p) : Code.wp Tryd.prog (Code.loop sencBody) Q a wr := by
  refine wp_loop (SencI w0 l.length v bv) (fun a _ => l.length - kOf (slot a 54)) hI ?_
  clear hI
  rintro a wr ⟨h1, h2, h7, h52, h53, j, hj, h54, hf⟩
  have hlb : bl.length = l.length := by have := congrArg List.length hbl; simpa using this
  by_cases hjn : j < l.length
  · obtain ⟨ad, cap, rfl, c2, c3, c4⟩ := hr.shape
    obtain ⟨b, off, rfl, hnA, hcell⟩ := c4 (by omega)
    obtain ⟨bad, bcap, rfl, d2, d3, d4⟩ := hb.shape
    obtain ⟨bb, boff, rfl, hnB, hbcell⟩ := d4 (by omega)
    obtain ⟨x, hx⟩ : ∃ x, l[j]? = some x := ⟨_, List.getElem?_eq_getElem hjn⟩
    obtain ⟨y, hy⟩ : ∃ y, bl[j]? = some y := ⟨_, List.getElem?_eq_getElem (by omega)⟩
    have hm : x ∈ l := List.mem_of_getElem? hx
    have hmy : y ∈ bl := List.mem_of_getElem? hy
    have hyx : y.1 = plainA x.1 := by
      have h := congrArg (fun l => l[j]?) hbl
      simp only [List.getElem?_map, hx, hy, Option.map_some, Option.some.injEq] at h
      exact h
    have hbx := hr.2 x hm
    have hbY := hb.2 y hmy
    obtain ⟨bo, bn, bc, e1⟩ := bs_shape hbx
    obtain ⟨yo, yn, yc, e2⟩ := bs_shape hbY
    have hc := range_keep (hcell j x hx) hf
    have hc2 := range_keep (hbcell j y hy) hf
    have hby := hby x hm
    have hkx := hk x hm
    obtain ⟨ac, av⟩ := x
    obtain ⟨yc1, yv⟩ := y
    simp only at e1 e2 hyx hby hkx hbx hbY
    subst e1 e2 hyx
    rw [hlb] at h7
    refine senc_round w0 wr a h1 h2 l.length j b off cap bb boff bcap ac bo yo bn bc yn yc h7 h52 h53 h54 hjn hl hc (hbx.keep hf (by simp)) hby hc2 (hbY.keep hf (by simp)) hkx hf _ ?_
    intro c p k1 k2 k3 k4 k5 k6 k7
    refine ⟨⟨k2, k1, by rw [k3, h7, hlb], k4.trans h52, k5.trans h53, j + 1, by omega, by rw [k6]; simp, k7⟩, ?_⟩
    rw [k6, h54]
    simp [kOf]; omega
  · obtain rfl : j = l.length := by omega
    exact senc_exit wr a h1 h2 l.length h53 h54 hl _ fun c k1 k2 => hE c wr k1 k2 hf

set_option maxRecDepth 1000000 in
set_option maxHeartbeats 8000000 in
theorem scriptEncodes_walk (E : Nat → Addr) (B : Nat) (W : World) (hE : Errs all20 E B W) (v : Value) (l : List AV) (hr : RdA (fun _ => False) W v l) (hsc : ∀ x ∈ l, 0 ≤ x.1.scat ∧ x.1.scat < 18446744073709551616) :
    Calls Tryd.prog 7 #[v] W fun e w' => e = .returned (.bool true) ∧ Fr [] W w' := by
  have HE := Lib.hid hE
  have HR := Lib.hid hr
  have HSC := Lib.hid hsc
  obtain ⟨ad, cap, rfl, c2, c3, -⟩ := hr.shape
  unfold maxLen at c3
  clear hE hr hsc
  go_enter Tryd.func7, Tryd.ntmps7
  go_wp2_with fail
  refine (alive31_any _).mono ?_
  rintro e w1 ⟨rfl, f1⟩
  replace HR := Lib.hid (HR.out.keep f1 (by simp))
  replace HE := Lib.hid (HE.out.keep0 f1)
  have HF := Lib.hid f1
  clear f1
  go_wp2_with fail
  refine (long31_full (fun _ => False) _ _ l HR.out).mono ?_
  rintro e w2 ⟨hret, f2⟩
  replace HR := Lib.hid (HR.out.keep f2 (by simp))
  replace HE := Lib.hid (HE.out.keep0 f2)
  replace HF := Lib.hid (HF.out.trans f2)
  clear f2
  rcases hret with rfl | ⟨rfl, hs⟩
  · go_wp2
    go_ret
    exact ⟨rfl, HF.out⟩
  have hl := hs.1
  have HS := Lib.hid hs.2
  clear hs
  by_cases hk : ∀ x ∈ l, 0 ≤ x.1.kind ∧ x.1.kind ≤ 255
  · have HK := Lib.hid hk
    have hel := encL_len (l.map (·.1))
    have HEL := Lib.hid (show (encL (l.map (·.1))).length ≤ 4000000 by
      have : (l.map (·.1)).length ≤ 30 := by simp; omega
      omega)
    clear hk hel
    go_wp2_with fail
    refine (encode_ok (fun _ => False) _ _ l HR.out hl (fun x hx => (HS.out x hx).2) HK.out).mono ?_
    rintro e w3 ⟨u3, rfl, o3, f3⟩
    have B3 := Lib.hid (o3.bs (A := fun _ => False) (by simp))
    replace HR := Lib.hid (HR.out.keep f3 (by simp))
    replace HF := Lib.hid (HF.out.trans f3)
    obtain ⟨eo, en, ec, rfl⟩ := bs_shape B3.out
    clear o3 f3 HE
    go_wp2_with fail
    refine (of31_any (fun _ => False) _ _ l HR.out (by omega)).mono ?_
    rintro e w4 ⟨u4, rfl, o4, f4⟩
    replace B3 := Lib.hid (B3.out.keep f4 (by simp))
    replace HR := Lib.hid (HR.out.keep f4 (by simp))
    replace HF := Lib.hid (HF.out.trans f4)
    have R4 := Lib.hid (RdA.of_own (A := fun _ => False) o4 (by simp) HR.out.2)
    clear o4 f4
    go_wp2_with fail
    refine (renc_any (fun _ => False) _ _ l R4.out hl (fun x hx => (HS.out x hx).2) (fun x hx => by have := (HS.out x hx).1; omega)).mono ?_
    rintro e w5 ⟨u5, ok, rfl, f5, h5⟩
    replace B3 := Lib.hid (B3.out.keep f5 (by simp))
    replace HR := Lib.hid (HR.out.keep f5 (by simp))
    replace HF := Lib.hid (HF.out.trans f5)
    rcases h5 with ⟨rfl, -, o5⟩ | ⟨-, ⟨x, hx, hbad⟩, -⟩
    case inr => exact absurd (HK.out x hx) hbad
    have B5 := Lib.hid (o5.bs (A := fun _ => False) (by simp))
    obtain ⟨do_, dn, dc, rfl⟩ := bs_shape B5.out
    clear o5 f5 R4
    have q0 : ((⟨(encL (l.map (·.1))).toArray⟩ : ByteArray).toList == (⟨(encL (l.map (·.1))).toArray⟩ : ByteArray).toList) = true := by simp
    obtain ⟨S, hS⟩ : ∃ S, (⟨(encL (l.map (·.1))).toArray⟩ : ByteArray) = S := ⟨_, rfl⟩
    rw [hS] at q0
    go_wp2_with (first | (refine wpl_str_h (src := 59) (dst := 9) Tryd.underlying59 Tryd.underlying5 Tryd.underlying9 (.tmp 39) rfl rfl rfl B3.out ?_; rw [hS]) | (refine wpl_str_h (src := 59) (dst := 9) Tryd.underlying59 Tryd.underlying5 Tryd.underlying9 (.tmp 41) rfl rfl rfl B5.out ?_; rw [hS]))
    refine (decode_any (fun _ => False) _ _ _ B3.out HEL.out).mono ?_
    rintro e w6 ⟨u6, bl, rfl, o6, e6, f6⟩
    replace HR := Lib.hid (HR.out.keep f6 (by simp))
    replace HF := Lib.hid (HF.out.trans f6)
    have R6 := Lib.hid (o6.rd (A := fun _ => False) (by simp))
    have hwr : ∀ a ∈ l.map (·.1), Wr a := fun a ha => by
      obtain ⟨x, hx, rfl⟩ := List.mem_map.1 ha
      exact ⟨HK.out x hx, HSC.out x hx⟩
    rw [acts_encL _ hwr] at e6
    have hlb : bl.length = l.length := by have := congrArg List.length e6; simpa using this
    have E6 := Lib.hid e6
    obtain ⟨bo, bc, rfl⟩ := ownA_shape o6
    rw [hlb] at R6 ⊢
    clear o6 f6 e6 B3 B5 hwr q0
    go_wp2_with fail
    refine senc_loop w6 _ _ l bl HR.out R6.out E6.out hl (fun x hx => (HS.out x hx).2) (fun x hx => (HK.out x hx).2) _ _ ⟨rfl, rfl, rfl, rfl, rfl, 0, Nat.zero_le _, rfl, Fr.refl _ _⟩ _ ?_
    intro c p h1 h2 hf
    have HZ := Lib.hid (HF.out.trans hf)
    rw [frame81 c h2 h1]
    clear h1 h2 hf
    go_wp2
    go_ret
    exact ⟨rfl, HZ.out⟩
  · have HB := Lib.hid (show ∃ x ∈ l, ¬ (0 ≤ x.1.kind ∧ x.1.kind ≤ 255) by
      by_cases h : ∃ x ∈ l, ¬ (0 ≤ x.1.kind ∧ x.1.kind ≤ 255)
      · exact h
      · exact absurd (fun x hx => by
          by_cases h2 : 0 ≤ x.1.kind ∧ x.1.kind ≤ 255
          · exact h2
          · exact absurd ⟨x, hx, h2⟩ h) hk)
    clear hk
    go_wp2_with fail
    refine (encode_bad all20 E B (fun _ => False) _ HE.out (by decide) _ l HR.out hl (fun x hx => (HS.out x hx).2) HB.out).mono ?_
    rintro e w3 ⟨rfl, f3⟩
    replace HR := Lib.hid (HR.out.keep f3 (by simp))
    replace HE := Lib.hid (HE.out.keep0 f3)
    replace HF := Lib.hid (HF.out.trans f3)
    clear f3
    go_wp2_with fail
    refine (of31_any (fun _ => False) _ _ l HR.out (by omega)).mono ?_
    rintro e w4 ⟨u4, rfl, o4, f4⟩
    replace HR := Lib.hid (HR.out.keep f4 (by simp))
    replace HE := Lib.hid (HE.out.keep0 f4)
    replace HF := Lib.hid (HF.out.trans f4)
    have R4 := Lib.hid (RdA.of_own (A := fun _ => False) o4 (by simp) HR.out.2)
    clear o4 f4
    go_wp2_with fail
    refine (renc_any (fun _ => False) _ _ l R4.out hl (fun x hx => (HS.out x hx).2) (fun x hx => by have := (HS.out x hx).1; omega)).mono ?_
    rintro e w5 ⟨u5, ok, rfl, f5, h5⟩
    replace HE := Lib.hid (HE.out.keep0 f5)
    replace HF := Lib.hid (HF.out.trans f5)
    rcases h5 with ⟨-, hgd, -⟩ | ⟨rfl, -, rfl⟩
    · obtain ⟨x, hx, hbad⟩ := HB.out
      exact absurd (hgd x hx) hbad
    clear f5 R4
    go_wp2_with fail
    refine (num_any E B 7 _ HE.out (by decide)).mono ?_
    rintro e w6 ⟨rfl, f6⟩
    replace HF := Lib.hid (HF.out.trans f6)
    clear f6
    go_wp2
    go_ret
    exact ⟨rfl, HF.out⟩
end Go.Proofs.YtbohmnblegljkaaDoor
