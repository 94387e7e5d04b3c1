import Derived.Test.YtnafknkchbfpaaaGreatDoorGT
import Derived.Lib.Overlaps
set_option linter.unusedVariables false
set_option linter.unusedSimpArgs false
set_option maxRecDepth 1000000
set_option maxHeartbeats 8000000
namespace Go.Proofs.YtnafknkchbfpaaaGreatDoor
open Go.RowKit Go.Bl
structure Rws (base : Nat) (w : World) (bs : List Nat) (rows : List (List UInt8)) : Prop where
 len : bs.length = rows.length
 nd : bs.Nodup
 lo : ∀ b ∈ bs, base <= b
 at_ : ∀ (i b : Nat) (r : List UInt8), bs[i]? = some b -> rows[i]? = some r -> At w b (.cells (r.map u8v).toArray 5)
theorem Rws.nil (base : Nat) (w : World) : Rws base w [] [] := ⟨rfl, List.nodup_nil, fun b h => by simp at h, fun i b r h => by simp at h⟩
theorem Rws.keep {base : Nat} {w w' : World} {S : List Nat} {bs : List Nat} {rows : List (List UInt8)} (h : Rws base w bs rows) (hf : Fr S w w') (hS : ∀ b ∈ bs, b ∉ S) : Rws base w' bs rows :=
 ⟨h.len, h.nd, h.lo, fun i b r hb hr => (h.at_ i b r hb hr).keep hf (hS b (List.mem_of_getElem? hb))⟩
theorem Rws.lt {base : Nat} {w : World} {bs : List Nat} {rows : List (List UInt8)} (h : Rws base w bs rows) : ∀ b ∈ bs, b < w.heap.size := fun b hb => by
 obtain ⟨i, hi, rfl⟩ := List.getElem_of_mem hb
 have h2 : i < rows.length := by rw [<- h.len]; exact hi
 exact (h.at_ i _ _ (List.getElem?_eq_getElem hi) (List.getElem?_eq_getElem h2)).lt
theorem Rws.set {base : Nat} {w w' : World} {bs : List Nat} {rows : List (List UInt8)} (h : Rws base w bs rows) (i b j : Nat) (r : List UInt8) (c : UInt8) (hb : bs[i]? = some b) (hr : rows[i]? = some r) (hf : Fr [b] w w') (hA : At w' b (.cells ((r.set j c).map u8v).toArray 5)) :
  Rws base w' bs (rows.set i (r.set j c)) := by
 refine ⟨by simp [h.len], h.nd, h.lo, fun k x y hx hy => ?_⟩
 by_cases hk : k = i
 ·subst hk
  rw [hb] at hx; cases hx
  have hl := (List.getElem?_eq_some_iff.1 hr).1
  rw [List.getElem?_set_self hl] at hy
  cases hy
  exact hA
 ·rw [List.getElem?_set_ne (Ne.symm hk)] at hy
  refine (h.at_ k x y hx hy).keep hf ?_
  simp only [List.mem_singleton]
  intro e
  subst e
  have h1 := (List.getElem?_eq_some_iff.1 hx).1
  exact hk ((List.getElem?_inj h1 h.nd).1 (by rw [hx, hb]))
theorem Tryz.infoBytes : (Tryz.prog.info? 22).map (fun i => (i.zero, i.size, i.bytes)) = some (some (.slice none 0 0), 1, 24) := by kernel_rfl
theorem Uc (A : Nat -> Prop) (w : World) (v : Value) (us : List Value) (hb : Vs A w v us) (h1 : ∀ u ∈ us, u.oneCell' = true) (hl : us.length <= 100000) :
   Calls Tryz.prog 148 #[v] w fun e w' => ∃ v', e = .returned v' /\ jn 22 w.heap.size w' v' us /\ Fr [] w w' := by
  obtain ⟨a, cap, rfl, h2, h3, h4⟩ := hb
  cases a with
  | none =>
    have hx : us = [] := by
      rcases h4 with h | ⟨b, off, c, e, fz, h, _⟩
      · exact h
      · cases h
    subst hx
    have hn : ∀ w, (binOp .eql 56 (.slice none 0 cap) (.slice none 0 0)).run Tryz.prog w = .ok (.bool true) w := fun w => @Lib.run_eql_slice_nil Tryz.prog w 56 22 none 0 cap 0 0 Tryz.underlying56
    go_enter Tryz.func148, Tryz.ntmps148
    go_wp2
    go_ret
    exact ⟨_, rfl, jn.nil _ _ _, Fr.refl _ _⟩
  | some ad =>
    have hn : ∀ w, (binOp .eql 56 (.slice (some ad) us.length cap) (.slice none 0 0)).run Tryz.prog w = .ok (.bool false) w := fun w => @Lib.run_eql_slice_nil Tryz.prog w 56 22 (some ad) _ cap 0 0 Tryz.underlying56
    have h0 : jn 22 w.heap.size (w.alloc (.cells #[] 22)) (.slice (some ⟨w.heap.size, 0, none⟩) 0 0) [] := jn.lit 22 w.heap.size w #[] (Nat.le_refl _) Y76
    go_enter Tryz.func148, Tryz.ntmps148
    go_wp2_with (at_builtin; refine Qi (A := A) (ys := us) (base := w.heap.size) Tryz.underlying56 Tryz.infoBytes rfl rfl (.tmp 5) (.tmp 6) rfl rfl rfl h0 (Vs.keep ⟨some ad, cap, rfl, h2, h3, h4⟩ (Fr.alloc (S := []) _ _) Y77) h1 ?h63 ?hl ?hb ?_)
    case h63 => simp [maxLen]; omega
    case hl => simp; omega
    case hb => simp
    intro v' w' h5 h6
    go_wp2
    go_ret
    exact ⟨_, rfl, h5, h0.fr (Fr.alloc _ _) h6 (Nat.le_refl _)⟩
theorem U8 {P : Program} (w : World) {ops : Array Oper} {rest : List Oper} {o : Oper} {a : Go.Act} {Q : Exit -> Go.Act -> World -> Prop} (hgd : o.guard = none) (d s : Operand) (t t' : TypeId)
  (ho : o.op = .call { callee := .builtin .copy, args := #[d, s], argTypes := #[t, t'] }) (v u : Value) (hd : a.eval d = v) (hs : a.eval s = u) {v' : Value} {w' : World}
  (hr : (Builtin.copy_ #[t, t'] o.type #[v, u]).run P w = .ok v' w') (h : wpList P ops Q rest (a.put o.dst v') w') : wpList P ops Q (o :: rest) a w := by
 refine wpList_plain hgd fun K hK => ?_
 unfold Oper.wp execOp
 simp only [ho, resolve, invoke, builtin, Sem.run_bind, Sem.run_pure, Result.andThen_ok, List.map_toArray, List.map_cons, List.map_nil, hd, hs, hr]
 exact hK _ _ h
theorem ZG {P : Program} {ops : Array Oper} {o : Oper} {a : Go.Act} {w : World} {K : Go.Act -> World -> Prop} {Q : Exit -> Go.Act -> World -> Prop} {E : Prop}
  (hg : o.guard = none) (d x : Operand) (dT sT : TypeId) (hop : o.op = Op.call { callee := Callee.builtin Builtin.copy, args := #[d, x], argTypes := #[dT, sT] })
  (v u : Value) (hd : a.eval d = v) (hx : a.eval x = u) {v' : Value} {w' : World} (hr : (Builtin.copy_ #[dT, sT] o.type #[v, u]).run P w = .ok v' w') (hK : K (a.put o.dst v') w') :
  if Region.wanted o (yielded ops a.tmps) = true then Oper.wp P o a w K Q else E := by
 have hw : Region.wanted o (yielded ops a.tmps) = true := by simp [Region.wanted, hg]
 rw [if_pos hw]
 unfold Oper.wp
 simp [execOp, hop, resolve, invoke, builtin, hd, hx, hr, Result.andThen]
 exact hK
theorem jX {b e : Nat} : ∀ (vs : List Value) (o : Nat) (w : World) (c : Array Value), At w b (.cells c e) -> o + vs.length <= c.size ->
  ∃ c', At (w.setCells b o vs) b (.cells c' e) /\ c'.size = c.size /\ (∀ j, j < vs.length -> c'[o + j]? = vs[j]?) /\ ∀ k, (k < o ∨ o + vs.length <= k) -> c'[k]? = c[k]?
 | [], o, w, c, h, hl => ⟨c, h, rfl, fun j hj => by simp at hj, fun _ _ => rfl⟩
 | v :: r, o, w, c, h, hl => by
  simp only [List.length_cons] at hl
  have h1 : At (w.setCell ⟨b, o, none⟩ v) b (.cells (c.setIfInBounds o v) e) := Qk h o v
  obtain ⟨c', a1, a2, a3, a4⟩ := jX r (o + 1) _ _ h1 Y46
  refine ⟨c', a1, by rw [a2]; simp, fun j hj => ?_, fun k hk => ?_⟩
  ·cases j with
   | zero =>
    rw [Nat.add_zero, a4 o (.inl Y44)]
    simp [show o < c.size by omega]
   | succ j =>
    have := a3 j Y68
    rw [show o + (j + 1) = o + 1 + j by omega, this]
    rfl
  ·simp only [List.length_cons] at hk
   rw [a4 k Y44, Array.getElem?_setIfInBounds]
   rw [if_neg Y44]
theorem j9 {b : Nat} : ∀ (vs : List Value) (o : Nat) (w : World), Fr [b] w (w.setCells b o vs)
 | [], o, w => Fr.refl _ _
 | v :: r, o, w => (Fr.setCell w ⟨b, o, none⟩ v Y77).trans (j9 r (o + 1) _)
theorem X6 {w : World} {b : Nat} {c : Array Value} {e : TypeId} (h : At w b (.cells c e)) : w.shape? b = some (e, c.size) := by
 have h' : w.heap[b]? = some (.cells c e (0, 0)) := h
 simp [World.shape?, h']
theorem Tryz.sizeBytes (w : World) : (Go.sizeOf 22).run Tryz.prog w = .ok 1 w := by kernel_rfl
theorem qcR (w : World) (b n c vb : Nat) (us : List Value) (x : Value) (cur : Array Value) (hB : At w b (.cells cur 22)) (hcs : cur.size = c) (ht : cur.toList.take n = us) (hul : us.length = n) (hn : 1 <= n) (hroom : n + 1 <= c) (hc63 : c <= 9223372036854775807) (hne : vb ≠ b) {vc : Nat} {vcur : Array Value} (hV : At w vb (.cells vcur 22)) (hvs : vcur.size = vc) (hv1 : 1 <= vc) (hvx : vcur[0]? = some x) (h1x : x.oneCell' = true) (h1 : ∀ u ∈ us, u.oneCell' = true) :
  Calls Tryz.prog 147 #[.slice (some ⟨b, 0, none⟩) n c, .int .i64 0, .slice (some ⟨vb, 0, none⟩) 1 vc] w fun e w' => e = .returned (.slice (some ⟨b, 0, none⟩) (n + 1) c) /\ w' = (w.drew.setCells b 1 us).setCells b 0 [x] := by
 have hov : ∀ lb cb, (callFunc 170 #[.slice (some ⟨vb, 0, none⟩) 1 vc, .slice (some ⟨b, 1, none⟩) lb cb]).run Tryz.prog w = .ok (.value (.bool false)) w := fun lb cb => by
  rw [run_callFunc_extern Tryz.func170 Y45 Y45 Y45 (e := Extern.SlicesOverlaps.overlaps #[56, 56] #[4]) Y45,
   Lib.run_overlaps_apart w 56 4 22 Tryz.underlying56 1 Tryz.sizeBytes ⟨vb, 0, none⟩ ⟨b, 1, none⟩ 1 vc lb cb hne 22 22 vcur.size c (X6 hV) (by rw [X6 hB, hcs]) Y44 (vB hV _) (vB hV _)]
  rfl
 have hsz : (Tryz.prog.info? 22).map (·.size) = some 1 := by kernel_rfl
 have hcell : ∀ j v, us[j]? = some v -> w.cell? ⟨b, j, none⟩ = some v := fun j v hj => by
  exact Y26
 have hsome : ∀ j, j < c -> (w.cell? ⟨b, j, none⟩).isSome = true := fun j hj => by rw [ja hB, Array.getElem?_eq_getElem Y44]; rfl
 have hfz : ∀ j, w.frozen? ⟨b, j, none⟩ = false := fun j => vB hB j
 have hcp1 : ∀ ty dc sc, (Builtin.copy_ #[56, 56] ty #[.slice (some ⟨b, 1, none⟩) n dc, .slice (some ⟨b, 0, none⟩) (n + 1) sc]).run Tryz.prog w.drew = .ok (goInt us.length) (w.drew.setCells b 1 us) := fun ty dc sc =>
  run_copy_cells w.drew _ _ ty 22 b 1 n dc ⟨b, 0, none⟩ (n + 1) sc us Tryz.underlying56 hsz (by rw [hul]; simp only [Nat.min_def]; split <;> omega)
   (fun j v hj => by rw [Addr.add_lit, Nat.zero_add]; exact hcell j v hj)
   (fun j hj => hsome (1 + j) Y44) (fun j hj => hfz (1 + j)) h1
 obtain ⟨W1, hW1⟩ : ∃ W1, W1 = w.drew.setCells b 1 us := ⟨_, rfl⟩
 obtain ⟨c1, k1, k2, k3, k4⟩ := jX (w := w.drew) us 1 (b := b) (e := 22) cur hB Y44
 have hV1 : At W1 vb (.cells vcur 22) := by
  rw [hW1]
  exact (j9 (b := b) us 1 w.drew).keep (b := vb) hV (by simpa using hne)
 rw [<- hW1] at k1
 have hcp2 : ∀ ty dc, (Builtin.copy_ #[56, 56] ty #[.slice (some ⟨b, 0, none⟩) (n + 1) dc, .slice (some ⟨vb, 0, none⟩) 1 vc]).run Tryz.prog W1 = .ok (goInt [x].length) (W1.setCells b 0 [x]) := fun ty dc =>
  run_copy_cells W1 _ _ ty 22 b 0 (n + 1) dc ⟨vb, 0, none⟩ 1 vc [x] Tryz.underlying56 hsz (by simp only [List.length_cons, List.length_nil, Nat.min_def]; split <;> omega)
   (fun j v hj => by
    have hj0 : j = 0 := by have := (List.getElem?_eq_some_iff.1 hj).1; simpa using this
    subst hj0
    rw [Addr.add_lit, Nat.add_zero, ja hV1, hvx]
    simpa using hj)
   (fun j hj => by rw [ja k1, Array.getElem?_eq_getElem (by simp at hj; omega)]; rfl) (fun j hj => vB k1 _) (fun v hv => by simp at hv; subst hv; exact h1x)
 rw [<- hW1] at hcp1
 have hz2 : ¬ ((0 : Int) = (n : Int)) := by omega
 have hroomi : ¬ ((c : Int) < (n : Int) + 1) := by omega
 have hb3 : (1 : Int) <= (n : Int) + 1 := by omega
 have hw1 : IntKind.i64.wrap 1 = 1 := by decide
 have hb4 : ¬ (c = 1) := by omega
 have hb5 : ¬ (c = 0) := by omega
 have hb6 : (0 : Int) <= (n : Int) + 1 := by omega
 have hb7 : n + 1 - 1 = n := by omega
 have HW1 := Hdq hW1
 clear hsome hcell k1 k2 k3 k4 hV1 hW1
 go_enter Tryz.func147, Tryz.ntmps147
 go_wp2_with (simp only [hov])
 go_region_law (refine ZG rfl _ _ 56 56 rfl _ _ (by simp [Act.eval, Act.put]) (by simp [Act.eval, Act.put]) (hcp1 _ _ _) ?_)
 go_wp2_with (refine U8 _ rfl _ _ 56 56 rfl _ _ rfl rfl (hcp2 _ _) ?_)
 go_ret
 first | exact ⟨rfl, rfl⟩ | exact ⟨rfl, by rw [HW1.out]⟩
theorem qcL (w : World) (b n c vb : Nat) (us : List Value) (x : Value) (cur : Array Value) (hB : At w b (.cells cur 22)) (ht : cur.toList.take n = us) (hul : us.length = n) (hn : 1 <= n) (hl : n <= 1000) (hnc : n <= c) (hroom : c < n + 1) {vc : Nat} {vcur : Array Value} (hV : At w vb (.cells vcur 22)) (hvs : vcur.size = vc) (hv1 : 1 <= vc) (hvx : vcur[0]? = some x) (h1x : x.oneCell' = true) (h1 : ∀ u ∈ us, u.oneCell' = true) :
  Calls Tryz.prog 147 #[.slice (some ⟨b, 0, none⟩) n c, .int .i64 0, .slice (some ⟨vb, 0, none⟩) 1 vc] w fun e w' => ∃ G, n + 1 <= G /\ G <= maxLen /\ e = .returned (.slice (some ⟨w.heap.size, 0, none⟩) (n + 1) G) /\ ∃ c', c'.size = G /\ w' = (((w.alloc (.cells c' 22)).drew.setCells w.heap.size 0 [x]).drew).setCells w.heap.size 1 us := by
 obtain ⟨i0, hi0, hz0, hzs, hzb⟩ := zt Tryz.infoBytes
 have hz2 : ¬ ((0 : Int) = (n : Int)) := by omega
 have hz3 : (c : Int) < (n : Int) + 1 := by omega
 have hsz : (Tryz.prog.info? 22).map (·.size) = some 1 := by kernel_rfl
 have hbw : b < w.heap.size := qo hB
 have hvw : vb < w.heap.size := qo hV
 have hcell : ∀ j v, us[j]? = some v -> w.cell? ⟨b, j, none⟩ = some v := fun j v hj => by
  exact Y26
 have hkk : (n : Int) + 1 = ((n + 1 : Nat) : Int) := by omega
 have hold : (Builtin.firstCells i0.size 0 (.slice (some ⟨b, 0, none⟩) 0 c)).run Tryz.prog w.drew = .ok #[] w.drew := by
  exact run_firstCells_some w.drew i0.size 0 ⟨b, 0, none⟩ 0 c [] Y77 (fun j v hj => by simp at hj)
 have hrz : ∀ ty, (Builtin.append_ #[56, 3] ty #[.slice (some ⟨b, 0, none⟩) 0 c, .int .i64 ((n : Int) + 1)]).run Tryz.prog w =
   .ok (.slice (some ⟨w.heap.size, 0, none⟩) (n + 1) (grownCap w (n + 1) c 22)) (w.drew.alloc (.cells (#[] ++ Builtin.zeroCells (Value.slice none 0 0).cells (n + 1) ++ Builtin.zeroCells (Value.slice none 0 0).cells (grownCap w (n + 1) c 22 - (n + 1))) 22)) := fun ty => by
  have h := Lib.run_append_grow_zeros (P := Tryz.prog) w 56 3 ty 22 i0 _ .i64 .i64 Tryz.underlying56 Tryz.underlying3 hi0 hz0 (some ⟨b, 0, none⟩) 0 c [] hold (n + 1) Y44 Y44 Y44 Y44 (by rw [hzb]; omega) (by rw [hzb, Nat.zero_add]; exact growslice_fits hroom Y44)
  rw [Nat.zero_add] at h
  rw [hkk]
  exact h
 obtain ⟨G, hG⟩ : ∃ G, G = grownCap w (n + 1) c 22 := ⟨_, rfl⟩
 obtain ⟨ROW, hROW⟩ : ∃ ROW : Array Value, ROW = #[] ++ Builtin.zeroCells (Value.slice none 0 0).cells (n + 1) ++ Builtin.zeroCells (Value.slice none 0 0).cells (G - (n + 1)) := ⟨_, rfl⟩
 rw [<- hG, <- hROW] at hrz
 have hGn : n + 1 <= G := by rw [hG]; exact grownCap_ge w _ _ _
 have hG63 : G <= maxLen := by rw [hG]; exact grownCap_le_maxLen w (n + 1) c 22 (by unfold maxLen; omega)
 have hRl : ROW.size = G := by
  rw [hROW]
  simp [Builtin.zeroCells, Value.cells]
  omega
 obtain ⟨W1, hW1⟩ : ∃ W1, W1 = w.drew.alloc (.cells ROW 22) := ⟨_, rfl⟩
 rw [<- hW1] at hrz
 have A1 : At W1 w.heap.size (.cells ROW 22) := by rw [hW1]; exact At.new rfl
 have F1 : Fr [] w W1 := by rw [hW1]; exact (Fr.drew w).trans (Fr.alloc _ _)
 have hcpA : ∀ (W : World), (∀ x, W.cell? x = W1.cell? x) -> (∀ x, W.frozen? x = W1.frozen? x) -> ∀ ty dc, (Builtin.copy_ #[56, 56] ty #[.slice (some ⟨w.heap.size, 0, none⟩) (n + 1) dc, .slice (some ⟨vb, 0, none⟩) 1 vc]).run Tryz.prog W = .ok (goInt [x].length) (W.setCells w.heap.size 0 [x]) := fun W hWc hWf ty dc =>
  run_copy_cells W _ _ ty 22 w.heap.size 0 (n + 1) dc ⟨vb, 0, none⟩ 1 vc [x] Tryz.underlying56 hsz (by simp only [List.length_cons, List.length_nil, Nat.min_def]; split <;> omega)
   (fun j v hj => by
    have hj0 : j = 0 := by have := (List.getElem?_eq_some_iff.1 hj).1; simpa using this
    subst hj0
    rw [Addr.add_lit, hWc, Nat.add_zero, ja (hV.keep0 F1), hvx]
    simpa using hj)
   (fun j hj => by rw [hWc, ja A1, Array.getElem?_eq_getElem (by simp at hj; omega)]; rfl) (fun j hj => by rw [hWf]; exact vB A1 _) (fun v hv => by simp at hv; subst hv; exact h1x)
 obtain ⟨c2, k1, k2, k3, k4⟩ := jX [x] 0 W1 ROW A1 Y46
 have hbB : At (W1.setCells w.heap.size 0 [x]) b (.cells cur 22) := (j9 (b := w.heap.size) [x] 0 W1).keep (b := b) (hB.keep0 F1) Y46
 have hcpB : ∀ (W : World), (∀ x', W.cell? x' = (W1.setCells w.heap.size 0 [x]).cell? x') -> (∀ x', W.frozen? x' = (W1.setCells w.heap.size 0 [x]).frozen? x') -> ∀ ty dc sc, (Builtin.copy_ #[56, 56] ty #[.slice (some ⟨w.heap.size, 1, none⟩) n dc, .slice (some ⟨b, 0, none⟩) n sc]).run Tryz.prog W = .ok (goInt us.length) (W.setCells w.heap.size 1 us) := fun W hWc hWf ty dc sc =>
  run_copy_cells W _ _ ty 22 w.heap.size 1 n dc ⟨b, 0, none⟩ n sc us Tryz.underlying56 hsz (by rw [hul]; simp only [Nat.min_def]; split <;> omega)
   (fun j v hj => by
    rw [Addr.add_lit, Nat.zero_add, hWc, ja hbB, <- ja hB]
    exact hcell j v hj)
   (fun j hj => by rw [hWc, ja k1, Array.getElem?_eq_getElem Y44]; rfl) (fun j hj => by rw [hWf]; exact vB k1 _) h1
 subst hW1
 have hE1 : ∀ x', ((w.alloc (.cells ROW 22)).drew).cell? x' = (w.drew.alloc (.cells ROW 22)).cell? x' := fun x' => rfl
 have hE2 : ∀ x', ((w.alloc (.cells ROW 22)).drew).frozen? x' = (w.drew.alloc (.cells ROW 22)).frozen? x' := fun x' => rfl
 have hF1 : ∀ x', (((w.alloc (.cells ROW 22)).drew.setCells w.heap.size 0 [x]).drew).cell? x' = ((w.drew.alloc (.cells ROW 22)).setCells w.heap.size 0 [x]).cell? x' := fun x' => rfl
 have hF2 : ∀ x', (((w.alloc (.cells ROW 22)).drew.setCells w.heap.size 0 [x]).drew).frozen? x' = ((w.drew.alloc (.cells ROW 22)).setCells w.heap.size 0 [x]).frozen? x' := fun x' => rfl
 have hGi : ¬ (G = 0) := by omega
 have hGim : ¬ (G = 1) := by omega
 have hci : ¬ (c = 0) := by omega
 have hb3 : (1 : Int) <= (n : Int) + 1 := by omega
 have hw1 : IntKind.i64.wrap 1 = 1 := by decide
 have hb6 : (0 : Int) <= (n : Int) + 1 := by omega
 have hb7 : n + 1 - 1 = n := by omega
 have hb8 : (0 : Int) <= (n : Int) := by omega
 have HG := Hdq hGn
 have HG2 := Hdq hG63
 have HRL := Hdq hRl
 clear hkk hold hROW hG hRl hcell k1 k2 k3 k4 hbB A1 F1 hGn hG63
 go_enter Tryz.func147, Tryz.ntmps147
 go_wp2_with (first
  | (at_builtin; refine Lib.wpList_append_run _ rfl _ _ _ _ rfl _ _ rfl rfl _ _ (hrz _) ?_)
  | (refine U8 _ rfl _ _ 56 56 rfl _ _ rfl rfl (hcpA _ hE1 hE2 _ _) ?_))
 go_region_law (refine ZG rfl _ _ 56 56 rfl (.slice (some ⟨w.heap.size, 1, none⟩) n (G - 1)) (.slice (some ⟨b, 0, none⟩) n c) (by simp [Act.eval, Act.put]) (by simp [Act.eval, Act.put]) (hcpB _ hF1 hF2 3 (G - 1) c) ?_)
 go_wp2
 go_ret
 exact ⟨G, HG.out, HG2.out, rfl, ROW, HRL.out, rfl⟩
theorem XW (w : World) (Z g : Nat) (v : Value) (us : List Value) (x : Value) (hO : jn 22 Z w v us) (hn : 1 <= us.length) (hl : us.length <= 1000) {vc : Nat} {vcur : Array Value} (hV : At w g (.cells vcur 22)) (hvs : vcur.size = vc) (hv1 : 1 <= vc) (hvx : vcur[0]? = some x) (hap : ∀ q, v.ownBlock = some q -> g ≠ q) (hZ : Z <= w.heap.size) (h1 : ∀ u ∈ us, u.oneCell' = true) (h1x : x.oneCell' = true) :
  Calls Tryz.prog 147 #[v, .int .i64 0, .slice (some ⟨g, 0, none⟩) 1 vc] w fun e w' => ∃ v', e = .returned v' /\ jn 22 Z w' v' (x :: us) /\ Fr v.ownBlock.toList w w' /\ ∀ q, v'.ownBlock = some q -> v.ownBlock = some q ∨ q = w.heap.size := by
 obtain ⟨h0, h2⟩ := hO
 rcases h2 with ⟨rfl, h3⟩ | ⟨b, cap, cur, rfl, hb, hh, hnc, hm, hs, ht⟩
 ·omega
 ·rw [Nat.mul_one] at hs ht
  by_cases hroom : us.length + 1 <= cap
  ·refine (qcR w b us.length cap g us x cur hh hs ht rfl hn hroom hm (hap b rfl) hV hvs hv1 hvx h1x h1).mono ?_
   rintro e w' ⟨rfl, rfl⟩
   obtain ⟨c1, k1, k2, k3, k4⟩ := jX (w := w.drew) us 1 (b := b) (e := 22) cur hh Y44
   obtain ⟨c2, m1, m2, m3, m4⟩ := jX [x] 0 _ _ k1 Y46
   refine ⟨_, rfl, ⟨by simp, .inr ⟨b, cap, c2, rfl, hb, m1, hroom, hm, by rw [m2, k2, hs]; omega, ?_⟩⟩, ?_, fun q hq => .inl hq⟩
   ·apply List.ext_getElem?
    intro j
    simp only [List.length_cons, Nat.mul_one, List.getElem?_take, Array.getElem?_toList]
    by_cases hj : j < us.length + 1
    ·rw [if_pos hj]
     cases j with
     | zero => rw [m3 0 Y77]; rfl
     | succ j =>
      rw [m4 (j + 1) (.inr Y77), show j + 1 = 1 + j by omega, k3 j Y44]
      rw [show 1 + j = j + 1 by omega]
      rfl
    ·rw [if_neg hj, List.getElem?_eq_none Y46]
   ·exact (((Fr.drew w).trans (j9 (b := b) us 1 w.drew)).trans (j9 [x] 0 _)).mono (by simp [Value.ownBlock])
  ·refine (qcL w b us.length cap g us x cur hh ht rfl hn hl hnc Y44 hV hvs hv1 hvx h1x h1).mono ?_
   rintro e w' ⟨G, q1, q2, rfl, c', q3, rfl⟩
   have A0 : At (w.alloc (.cells c' 22)).drew w.heap.size (.cells c' 22) := At.new (w := w) rfl
   obtain ⟨c1, k1, k2, k3, k4⟩ := jX [x] 0 _ _ A0 Y46
   have A1 : At ((w.alloc (.cells c' 22)).drew.setCells w.heap.size 0 [x]).drew w.heap.size (.cells c1 22) := k1
   obtain ⟨c2, m1, m2, m3, m4⟩ := jX us 1 _ _ A1 Y44
   refine ⟨_, rfl, ⟨by simp, .inr ⟨w.heap.size, G, c2, rfl, hZ, m1, by simpa using q1, q2, by rw [m2, k2, q3]; omega, ?_⟩⟩, ?_, fun q hq => .inr (by simpa [Value.ownBlock] using hq.symm)⟩
   ·apply List.ext_getElem?
    intro j
    simp only [List.length_cons, Nat.mul_one, List.getElem?_take, Array.getElem?_toList]
    by_cases hj : j < us.length + 1
    ·rw [if_pos hj]
     cases j with
     | zero =>
      rw [m4 0 (.inl Y44)]
      have := k3 0 Y77
      simpa using this
     | succ j =>
      rw [show j + 1 = 1 + j by omega, m3 j Y44]
      rw [show 1 + j = j + 1 by omega]
      rfl
    ·rw [if_neg hj, List.getElem?_eq_none Y46]
   ·have f1 : Fr [] w (w.alloc (.cells c' 22)).drew := (Fr.alloc w _).trans (Fr.drew _)
    have f2 := j9 (b := w.heap.size) [x] 0 (w.alloc (.cells c' 22)).drew
    have f3 := j9 (b := w.heap.size) us 1 ((w.alloc (.cells c' 22)).drew.setCells w.heap.size 0 [x]).drew
    exact (((f1.then f2 (fun z hz => .inr Y63)).trans (Fr.drew _)).then f3 (fun z hz => .inr Y63)).weak
theorem qdx (w : World) (Z g : Nat) (v : Value) (us : List Value) (x : Value) (hO : jn 22 Z w v us) (hn : 1 <= us.length) (hl : us.length <= 1000) (hV : At w g (.cells #[x] 22)) (hap : ∀ q, v.ownBlock = some q -> g ≠ q) (hZ : Z <= w.heap.size) (h1 : ∀ u ∈ us, u.oneCell' = true) (h1x : x.oneCell' = true) :
  Calls Tryz.prog 147 #[v, .int .i64 0, .slice (some ⟨g, 0, none⟩) 1 1] w fun e w' => ∃ v', e = .returned v' /\ jn 22 Z w' v' (x :: us) /\ Fr v.ownBlock.toList w w' :=
 (XW w Z g v us x hO hn hl hV rfl Y77 rfl hap hZ h1 h1x).mono (by
  rintro e w' ⟨v', h1, h2, h3, -⟩
  exact ⟨v', h1, h2, h3⟩)
end Go.Proofs.YtnafknkchbfpaaaGreatDoor
