import Derived.Test.YtdloaifdpajcjaaGreatDoorHA
set_option linter.unusedVariables false
set_option linter.unusedSimpArgs false
set_option maxRecDepth 1000000
set_option maxHeartbeats 8000000
namespace Go.Proofs.YtdloaifdpajcjaaGreatDoor
open Go.RowKit Go.Bl
attribute [local go_sem] Oper.semAt_some
attribute [local go_sem] Oper.semAt_some
attribute [local go_sem] Oper.semAt_some
attribute [local go_sem] Oper.semAt_some
end Go.Proofs.YtdloaifdpajcjaaGreatDoor
namespace Go.Proofs.YtdloaifdpajcjaaGreatDoor
open Go.RowKit Go.Bl Go.Shelf
attribute [local go_sem] Oper.semAt_some
def ckV (b k : Nat) : Value := .slice (some ⟨b, 8 * k, none⟩) 8 8
theorem qbB (Fe : Fence) (n : Nat) (hF1 : Fe.fn 167) (hro : Fe.round = none) (hn : 1 <= n) (l Bs Bn n₀ b M L cap : Nat) (hL : L = 8 * M) (hM : M <= 1000) (hc1 : L <= cap) (hc2 : cap <= 2 ^ 63 - 1) (J Jx : List Nat -> World -> Prop)
  (hY : ∀ pre x W, J pre W -> pre.length < M -> YieldAt Fe (n - 1) Tryz.prog l #[ckV b x] W fun e W' =>
   (e = .returned (.bool true) /\ J (pre ++ [x]) W' /\ Below n₀ W W') ∨ (e = .returned (.bool false) /\ Jx (pre ++ [x]) W'))
  (W : World) (hBs : W.cell? ⟨Bs, 0, none⟩ = some (.slice (some ⟨b, 0, none⟩) L cap)) (hBn : W.cell? ⟨Bn, 0, none⟩ = some (.int .i64 8)) (hs : Bs < n₀) (hn' : Bn < n₀) (hJ : AbidesFrom W.heap.size J) (h0 : J [] W) :
  CallsIn Fe n Tryz.prog 167 #[.func (.yield l) #[] #[], .pointer (some ⟨Bs, 0, none⟩), .pointer (some ⟨Bn, 0, none⟩)] W fun e W' => (∃ v, e = .returned v) /\
   ((∃ ys, ys = List.range M /\ J ys W') ∨ (∃ pre, (∃ k, k <= M /\ pre = List.range k) /\ Jx pre W')) := by
 have HL := Hdq hL
 have hL9 : L <= 9000 := by omega
 clear hL
 refine callsIn_of_wp Tryz.func167 rfl hF1 ?_ hro
 simp only [Tryz.ntmps167, List.size_toArray, List.length_cons, List.length_nil, Nat.reduceAdd, Nat.reduceSub, Array.replicate_succ, Array.replicate_zero, List.push_toArray, List.append_toArray, List.nil_append, List.cons_append]
 gi_wp2
 gi_loopw [4] (fun i wr => ∃ k o : Nat, k <= M /\ o = 8 * k /\ i = .int .i64 o /\ J (List.range k) wr /\ Below n₀ W wr)
  (fun i _ => L - (intOf i).toNat)
 case atStart => exact ⟨0, 0, Nat.zero_le _, rfl, rfl, h0, Below.refl _ _⟩
 case round =>
  obtain ⟨k, o, hk, ho, rfl, hJs, hnx⟩ := hrel
  have hBs' := (hnx.cell (p := ⟨Bs, 0, none⟩) hs).trans hBs
  have hBn' := (hnx.cell (p := ⟨Bn, 0, none⟩) hn').trans hBn
  by_cases hkm : k < M
  ·have hJd : J (List.range k) wr.drew := hJ _ wr wr.drew none hJs ⟨rfl, rfl, rfl, Nat.le_refl _, fun _ _ _ => rfl⟩ (fun r e => by cases e)
   obtain ⟨fn, tmps, assign, body, hy, hR⟩ := hY _ k wr.drew hJd (by rw [List.length_range]; exact hkm)
   have hst := List.range_succ (n := k)
   unfold ckV at hy
   rw [<- ho] at hy
   have i1 : o + 8 <= L := by have := HL.out; omega
   have hmin : (if ((L - o : Nat) : Int) < 8 then ((L - o : Nat) : Int) else 8) = 8 := by rw [if_neg Y54]
   have hmin2 : min (8 : Int) ((L - o : Nat) : Int) = 8 := by omega
   have hnd : Below n₀ W wr.drew := hnx.trans ⟨rfl, rfl, rfl, Nat.le_refl _, fun _ _ => rfl⟩
   have hBs2 : wr.drew.cell? ⟨Bs, 0, none⟩ = some (.slice (some ⟨b, 0, none⟩) L cap) := hBs'
   have hBn2 : wr.drew.cell? ⟨Bn, 0, none⟩ = some (.int .i64 8) := hBn'
   have HO := Hdq ho
   have HST := Hdq hst
   clear ho hst
   gi_wp2
   gi_region
   all_goals
    obtain ⟨wd, hwd⟩ := exq (wr.drew)
    rw [hwd] at hy hR hnd hBs2 hBn2 ⊢
    clear hBs' hBn' hJd hnx hJs hmin
    gi_wp2
    refine hR.mono ?_
    rintro e W3 (⟨rfl, hJ3, hk3⟩ | ⟨rfl, hJx3⟩)
    ·have hBs3 := (hk3.cell (p := ⟨Bs, 0, none⟩) hs).trans hBs2
     have hBn3 := (hk3.cell (p := ⟨Bn, 0, none⟩) hn').trans hBn2
     gi_wp2
     go_roundw
     case rel => exact ⟨k + 1, o + 8, by omega, by have := HO.out; omega, by simp, by rw [HST.out]; exact hJ3, hnd.trans hk3⟩
     case measure => simp [intOf]; omega
    ·gi_wp2
     refine bodyPost_ret (results_none rfl _ _ _) rfl ?_
     exact ⟨⟨_, rfl⟩, .inr ⟨_, ⟨k + 1, by omega, HST.out.symm⟩, hJx3⟩⟩
  ·have : k = M := by omega
   subst this
   have i2 : ¬ o < L := by have := HL.out; omega
   clear ho
   gi_wp2
   go_end0
   exact ⟨⟨_, rfl⟩, .inl ⟨_, rfl, hJs⟩⟩
attribute [local go_sem] Oper.semAt_some
theorem Wu (Fe : Fence) (n : Nat) (hF1 : Fe.fn 167) (hro : Fe.round = none) (hn : 1 <= n) (Bs Bn n₀ b M L cap : Nat) (hL : L = 8 * M) (hM : M <= 1000) (hc1 : L <= cap) (hc2 : cap <= 2 ^ 63 - 1) (w : World)
  (hBs : w.cell? ⟨Bs, 0, none⟩ = some (.slice (some ⟨b, 0, none⟩) L cap)) (hBn : w.cell? ⟨Bn, 0, none⟩ = some (.int .i64 8)) (hs : Bs < n₀) (hn' : Bn < n₀) (hn₀ : n₀ <= w.heap.size) :
  SeqStopsK Fe n Tryz.prog 167 #[.pointer (some ⟨Bs, 0, none⟩), .pointer (some ⟨Bn, 0, none⟩)] (fun x : Nat => #[ckV b x]) (Below n₀) (fun ys => ys = List.range M) (fun pre => ∃ k, k <= M /\ pre = List.range k) M w := fun l J Jx W hW hJ _ hY h0 =>
 qbB Fe n hF1 hro hn l Bs Bn n₀ b M L cap hL hM hc1 hc2 J Jx hY W ((hW.cell (p := ⟨Bs, 0, none⟩) (show Bs < w.heap.size by omega)).trans hBs) ((hW.cell (p := ⟨Bn, 0, none⟩) (show Bn < w.heap.size by omega)).trans hBn) hs hn' hJ h0
theorem qe6 (Fe : Fence) (n : Nat) (h3 : Fe.fn 201) (h8 : Fe.fn 167) (hro : Fe.round = none) (hn : 3 <= n) (Bs Bn b M L cap : Nat) (hL : L = 8 * M) (hM : M <= 1000) (hc1 : L <= cap) (hc2 : cap <= 2 ^ 63 - 1) (w : World)
  (hBs : w.cell? ⟨Bs, 0, none⟩ = some (.slice (some ⟨b, 0, none⟩) L cap)) (hBn : w.cell? ⟨Bn, 0, none⟩ = some (.int .i64 8)) (hs : Bs < w.heap.size) (hn' : Bn < w.heap.size) :
  CallsIn Fe n Tryz.prog 201 #[.slice none 0 0, .func (.func 167) #[] #[.pointer (some ⟨Bs, 0, none⟩), .pointer (some ⟨Bn, 0, none⟩)]] w fun e W' => ∃ v, e = .returned v /\ W'.ownsRow w.heap.size 22 1 v M ((List.range M).map (ckV b)) /\ Below w.heap.size w W' := by
 have h1 : 1 <= n := by omega
 obtain ⟨i0, hi, hz0, hz1, hz2⟩ := info_parts (show (Tryz.prog.info? 22).map (fun i => (i.zero, i.size, i.bytes)) = some (some (.slice none 0 0), 1, 24) by kernel_rfl)
 refine callsIn_of_wp_marks Tryz.func201 rfl h3 ?_ hro
 simp only [Tryz.ntmps201, List.size_toArray, List.length_cons, List.length_nil, Nat.reduceAdd, Nat.reduceSub, Array.replicate_succ, Array.replicate_zero, List.push_toArray, List.append_toArray, List.nil_append, List.cons_append]
 gi_wp2
 have bO := Boxed.new w 35 (.slice none 0 0)
 have hB0 : Below w.heap.size w (w.alloc (.cells #[.slice none 0 0] 35)) := (Below.refl _ w).alloc (Nat.le_refl _) _
 refine wpIn_rangeFunc_ownG hro h1 (gf := 167) (lb := #[.pointer (some ⟨Bs, 0, none⟩), .pointer (some ⟨Bn, 0, none⟩)]) rfl h8 (enters_of Tryz.func167 Y55 rfl)
  (Wu Fe (n - 1) h8 hro Y54 Bs Bn w.heap.size b M L cap hL hM hc1 hc2 _ ((hB0.cell (p := ⟨Bs, 0, none⟩) hs).trans hBs) ((hB0.cell (p := ⟨Bn, 0, none⟩) hn').trans hBn) hs hn' Y85) belowK_t (belowK_b Y85) (Below.refl _ _) (fun _ => rfl)
  (fun pre W => (∃ v, Boxed W w.heap.size 35 v /\ W.ownsRow w.heap.size 22 1 v pre.length (pre.map (ckV b)) /\ (v = .slice none 0 0 ↔ pre = [])) /\ Below w.heap.size w W)
  (fun _ _ _ => False)
  (OwnFrom.and (Own.from (holdsRow_own w.heap.size w.heap.size 35 22 1 (fun pre => pre.length) (fun pre => pre.map (ckV b)) (fun pre v => v = .slice none 0 0 ↔ pre = [])) _) (ownFrom_below (Nat.le_refl _) Y85))
  (fun _ _ _ _ _ hs _ _ => hs)
  ⟨⟨_, bO, World.ownsRow_nil _ _ _ _, by simp⟩, hB0⟩
  (fun x => { tmps := #[.slice none 0 0, .func (.func 167) #[] #[.pointer (some ⟨Bs, 0, none⟩), .pointer (some ⟨Bn, 0, none⟩)], .pointer (some ⟨w.heap.size, 0, none⟩), undef, .slice none 0 0, ckV b x, .func (.func 167) #[] #[.pointer (some ⟨Bs, 0, none⟩), .pointer (some ⟨Bn, 0, none⟩)], ckV b x, undef, undef, undef, undef, undef], defers := [] }) ?assign ?body ?done ?stop
 case assign =>
  intro l x W K hK
  gi_wp2
  exact hK
 case body =>
  rintro l pre x W ⟨⟨v, hv, hrow, hnil⟩, hB⟩ hlt
  have hc := hv.cell
  unfold ckV
  gi_wp2_with (gi_at_builtin; refine wpListIn_append_own _ rfl _ _ 35 rfl w.heap.size 22 i0 (.slice none 0 0) 1 24 Tryz.underlying35 hi hz0 hz1 hz2 rfl Y86 _ _ _ rfl (hrow.alloc _) ⟨W.heap.size, 0, none⟩ 1 1 [.slice (some ⟨b, 8 * x, none⟩) 8 8] rfl rfl (cell_one_new _ _ _) (by simp [Value.oneCell']) (by simp only [maxLen]; omega) Y54 (by have := hB.size; simp; omega) ?_; intro v' w1 hown' hgrow _; obtain ⟨g', cap', rfl⟩ := ownsRow_succ hown'; obtain ⟨hv1, hv2, hr2, hk2, hb2⟩ := hv.appended Y86 hrow hB.size (Nat.le_refl _) hown' hgrow; have hc1 := hv1.cell; have hf1 := hv1.frozen)
  exact ⟨hk2.from _, hb2, ⟨_, hv2, by have h := hr2; rw [List.map_append, List.length_append]; exact h, by simp⟩, hB.trans hb2⟩
 case done =>
  rintro D ys W hD rfl ⟨⟨v, hv, hrow, hnil⟩, hB⟩ hK
  have hc := hv.cell
  rw [List.length_range] at hrow
  gi_wp2
  refine ⟨by simp, .inl ⟨_, _, rfl, run_takeDeferred hK, ?_⟩⟩
  exact ⟨_, results_tmp rfl _ _ _, v, rfl, ownsRow_putObj hrow _ hK rfl, hB.trans (belowK_b (w := w) (Nat.le_refl _) W D _ _ (by simp at hD; omega) hK rfl rfl)⟩
 case stop =>
  rintro D c pre W _ _ h _
  exact Y8
end Go.Proofs.YtdloaifdpajcjaaGreatDoor
namespace Go.Proofs.YtdloaifdpajcjaaGreatDoor
open Go.RowKit Go.Bl
theorem Qr {P : Program} {w : World} {ops : Array Oper} {rest : List Oper} {o : Oper} {a : Go.Act} {Q : Exit -> Go.Act -> World -> Prop} {t tn e : TypeId} {kn : IntKind} {z : Value} {bytes : Nat}
  (ht : P.underlying t = some (.slice e)) (htn : P.underlying tn = some (.int kn)) (hinfo : (P.info? e).map (fun i => (i.zero, i.size, i.bytes)) = some (some z, 1, bytes)) (hzc : z.cells = #[z]) (hz1 : z.oneCell' = true) (hgd : o.guard = none) (s x : Operand)
  (ho : o.op = .call { callee := .builtin .append, args := #[s, x], argTypes := #[t, tn] })
  {base : Nat} {v : Value} {xs : List Value} {kq : IntKind} {k : Nat} {K : Int} (hs : a.eval s = v) (hx : a.eval x = .int kq K) (hK : K = k) (hown : ja e base w v xs)
  (hlen : xs.length + k <= maxLen /\ (xs.length + k) * bytes <= 140737488355328) (hbase : base <= w.heap.size)
  (h : ∀ v' w', ja e base w' v' (xs ++ List.replicate k z) -> w.grownBy w' v.ownBlock -> wpList P ops Q rest (a.put o.dst v') w') : wpList P ops Q (o :: rest) a w := by
 obtain ⟨i, hi, hz, hsz, hby⟩ := jw hinfo
 subst hK
 obtain ⟨v', w', hr, h2, h3⟩ := uE (P := P) (w := w) base t tn o.type e i z kq kn ht htn hi hz hsz hzc hz1 v xs.length _ hown k hlen.1 (by rw [hby]; exact hlen.2) hbase
 refine wpList_plain hgd fun K hK => ?_
 unfold Oper.wp execOp
 simp only [ho, resolve, invoke, builtin, Sem.run_bind, Sem.run_pure, Result.andThen_ok, List.map_toArray, List.map_cons, List.map_nil, hs, hx, hr]
 refine hK _ _ (h v' w' ?_ h3)
 unfold ja
 rw [List.length_append, List.length_replicate]
 exact h2
theorem qcX {e : TypeId} {base : Nat} {w : World} {a : Option Addr} {n cap : Nat} {xs : List Value} (h : ja e base w (.slice a n cap) xs) (k : Nat) (hk : k <= xs.length) : ja e base w (.slice a k cap) (xs.take k) := by
 obtain ⟨h1, h2⟩ := h
 unfold ja
 rw [List.length_take, Nat.min_eq_left hk]
 refine ⟨by simp [hk], ?_⟩
 rcases h2 with ⟨h2, h3⟩ | ⟨g, cap', cur, h2, h3, h4, h5, h6, h7, h8⟩
 ·cases h2
  have : k = 0 := by omega
  subst this
  exact .inl ⟨rfl, rfl⟩
 ·cases h2
  refine .inr ⟨g, cap, cur, rfl, h3, h4, by omega, h6, h7, ?_⟩
  rw [<- h8, List.take_take]
  congr 1
  omega
theorem qcb (w : World) (n : Nat) (hn : n <= 1000000) :
  Calls Tryz.prog 239 #[.slice none 0 0, .int .i64 n] w fun e w' => ∃ u, e = .returned u /\ ja 22 w.heap.size w' u [] /\ Fr [] w w' := by
 by_cases h0 : n = 0
 ·subst h0
  go_enter Tryz.func239, Tryz.ntmps239
  go_wp2
  go_ret
  exact ⟨_, rfl, ja.nil _ _ _, Fr.refl _ _⟩
 ·go_enter Tryz.func239, Tryz.ntmps239
  go_wp2_with (refine Qr (kn := .i64) Tryz.underlying35 Tryz.underlying3 Tryz.infoBytes rfl rfl rfl (.tmp 20) (.tmp 21) rfl rfl rfl rfl (ja.nil _ w.heap.size _) ?hl ?hb ?_)
  case hl => simp [maxLen]; omega
  case hb => exact Nat.le_refl _
  intro v' w1 ho hg
  have HF := Hdq (show Fr [] w w1 from Fr.own (Fr.refl [] w) hg (ja.nil 22 w.heap.size w) (Nat.le_refl _))
  obtain ⟨a, cap, rfl, hc, hm, -⟩ := ho.vs (A := fun _ => False) Y85
  rw [List.length_replicate] at ho hc ⊢
  have HO := Hdq (qcX ho 0 (Nat.zero_le _))
  unfold maxLen at hm
  clear ho hg
  exact Y7
def qh2 (A : Nat -> Prop) (w : World) (v : Value) (ls : List (Value × List Value)) : Prop := Vs A w v (ls.map (·.1)) /\ ∀ x ∈ ls, Vs A w x.1 x.2 /\ ∀ u ∈ x.2, u.oneCell' = true
def xj (ls : List (Value × List Value)) : List Value := ls.flatMap (·.2)
theorem Xq (ls : List (Value × List Value)) (j : Nat) (x : Value × List Value) (h : ls[j]? = some x) : xj (ls.take (j + 1)) = xj (ls.take j) ++ x.2 := by
 unfold xj
 rw [List.take_add_one, h]
 simp
theorem qfp (ls : List (Value × List Value)) (j : Nat) : (xj (ls.take j)).length <= (xj ls).length := by
 have : xj ls = xj (ls.take j) ++ xj (ls.drop j) := by
  unfold xj
  rw [<- List.flatMap_append, List.take_append_drop]
 rw [this]
 simp
theorem Ke (A : Nat -> Prop) (w : World) (v : Value) (ls : List (Value × List Value)) (hr : qh2 A w v ls) (hl : ls.length <= 100) (hn : (xj ls).length <= 100000) :
  Calls Tryz.prog 205 #[v] w fun e w' => ∃ u, e = .returned u /\ ja 22 w.heap.size w' u (xj ls) /\ Fr [] w w' := by
 have HR := Hdq hr
 obtain ⟨a, cap, rfl, h2, h3, h4⟩ := id hr.1
 simp only [List.length_map] at h2 HR ⊢
 obtain ⟨N, hN⟩ := exq (ls.length)
 rw [hN] at h2 hl HR ⊢
 have HN := Hdq hN
 have H4 := Hdq h4
 have HL := Hdq (qfp ls)
 obtain ⟨S, hS⟩ := exq ((xj ls).length)
 have HS := Hdq hS
 rw [hS] at hn
 clear hr hN h4 hS
 unfold maxLen at h3
 have HX := Hdq (show ∀ j, j < N -> ∃ x b off, ls[j]? = some x /\ a = some ⟨b, off, none⟩ /\ w.cell? ⟨b, off + j, none⟩ = some x.1 /\ (Vs A w x.1 x.2 /\ ∀ u ∈ x.2, u.oneCell' = true) from fun j hj => by
  obtain ⟨x, hx⟩ : ∃ x, ls[j]? = some x := ⟨_, List.getElem?_eq_getElem Y59⟩
  obtain ⟨b, off, rfl, -, hc⟩ := H4.out.some_of Y56
  refine ⟨x, b, off, hx, rfl, ?_, HR.out.2 x (List.mem_of_getElem? hx)⟩
  rw [hc j Y56]
  simp [hx])
 clear H4
 go_enter Tryz.func205, Tryz.ntmps205
 go_wp2
 go_loopw [3, 11] (fun s i wr => ∃ j : Nat, j <= N /\ i = .int .i64 j /\ s = .int .i64 ((xj (ls.take j)).length : Nat) /\ Hid (wr = w)) (fun _ i _ => N - (intOf i).toNat)
 case atStart => exact ⟨0, by omega, rfl, by simp [xj], rfl⟩
 case round =>
  obtain ⟨j, hj, rfl, rfl, hw⟩ := hrel
  by_cases hjn : j < N
  ·obtain ⟨x, b, off, hx, rfl, hc, hb, -⟩ := HX.out j hjn
   have hct := Xq ls j x hx
   have hle := HL.out (j + 1)
   rw [hct, List.length_append, HS.out] at hle
   have HCT := Hdq hct
   obtain ⟨ba, bc, hxe, -⟩ := id hb
   obtain ⟨xv, xs⟩ := x
   simp only at hxe hb hle hc
   subst hxe
   obtain ⟨L, hL⟩ := exq ((xj (ls.take j)).length)
   obtain ⟨M, hM⟩ := exq (xs.length)
   rw [hL, hM] at hle
   rw [hL]
   rw [hM] at hc
   have HLM := Hdq (And.intro hL hM)
   have hw' := hw.out.symm
   subst hw'
   clear hct hx hb hL hM hw
   go_wp2
   go_roundw
   case rel => exact ⟨j + 1, by omega, by go_num, by rw [HCT.out, List.length_append, HLM.out.1, HLM.out.2]; go_num, by first | exact rfl | exact trivial⟩
   case measure => simp [intOf]; omega
  ·obtain rfl : N = j := by omega
   have hta : ls.take N = ls := List.take_of_length_le Y59
   rw [hta, HS.out]
   have hw' := hw.out.symm
   subst hw'
   clear hta hw
   go_wp2_with fail
   refine (qcb _ S Y54).mono ?_
   rintro e w1 ⟨u, rfl, ho, hf⟩
   have HO := Hdq ho
   have HF := Hdq hf
   clear ho hf
   go_wp2
   go_loopw [6, 27] (fun o i wr => ∃ j : Nat, j <= N /\ i = .int .i64 j /\ Hid (ja 22 w.heap.size wr o (xj (ls.take j))) /\ Hid (Fr [] w wr)) (fun _ i _ => N - (intOf i).toNat)
   case atStart => exact ⟨0, by omega, rfl, by simp only [xj, List.take_zero, List.flatMap_nil]; exact HO, HF⟩
   case round =>
    obtain ⟨j, hj, rfl, HO, HF⟩ := hrel
    by_cases hjn : j < N
    ·obtain ⟨x, b, off, hx, rfl, hc, hb, hone⟩ := HX.out j hjn
     have HONE := Hdq hone
     clear hone
     have hct := Xq ls j x hx
     have hle := HL.out (j + 1)
     rw [hct, List.length_append, HS.out] at hle
     have HCT := Hdq hct
     obtain ⟨ba, bc, hxe, -⟩ := id hb
     obtain ⟨xv, xs⟩ := x
     simp only at hxe hb hle hc HONE
     subst hxe
     have BX := Hdq (hb.keep HF.out Y85)
     have hsz := HF.out.size
     obtain ⟨M, hM⟩ := exq (xs.length)
     have hc2 : wr.cell? ⟨b, off + j, none⟩ = some (.slice ba M bc) := by rw [<- hM]; exact zy HF.out hc
     rw [hM] at BX
     have HM := Hdq hM
     clear hct hx hb hM hc
     go_wp2_with (at_builtin; refine uB (ys := xs) (base := w.heap.size) Tryz.underlying35 Tryz.infoBytes rfl rfl (.tmp 31) (.tmp 32) rfl rfl rfl HO.out BX.out HONE.out (by simp only [maxLen]; omega) Y54 hsz ?_)
     intro v' w2 h5 h6
     have HO3 := Hdq (show ja 22 w.heap.size w2 v' (xj (ls.take (j + 1))) by rw [HCT.out]; exact h5)
     have HF3 := Hdq (show Fr [] w w2 from Fr.own HF.out h6 HO.out (Nat.le_refl _))
     clear h5 h6 HO HF
     go_wp2
     go_roundw
     case rel => exact ⟨j + 1, by omega, by go_num, HO3.out, HF3.out⟩
     case measure => simp [intOf]; omega
    ·obtain rfl : j = N := by omega
     have hta : ls.take j = ls := List.take_of_length_le Y59
     rw [hta] at HO
     clear hta
     exact Y7
theorem qel (xs : List UInt8) (i : Nat) : (xs ++ List.replicate i 0) ++ [0] = xs ++ List.replicate (i + 1) 0 := by
 rw [List.append_assoc, List.replicate_succ']
theorem qC {w wi : World} {vi : Value} {L : List UInt8} (HO : Hid (qt 5 w.heap.size wi vi L)) (HF : Hid (Fr [] w wi)) : Hid (qt 5 w.heap.size (wi.alloc (.cells #[.int .u8 0] 5)) vi L /\ Fr [] w (wi.alloc (.cells #[.int .u8 0] 5)) /\ Bs (fun _ => False) (wi.alloc (.cells #[.int .u8 0] 5)) (.slice (some ⟨wi.heap.size, 0, none⟩) 1 1) [0] /\ w.heap.size <= (wi.alloc (.cells #[.int .u8 0] 5)).heap.size) :=
 Hdq ⟨HO.out.keep (Fr.alloc (S := []) wi (.cells #[.int .u8 0] 5)) Y85, Fr.al HF.out, qal (A := fun _ => False) wi #[.int .u8 0] 5 [0] Y85 rfl Y85, (Fr.al HF.out).size⟩
theorem qu {w wi wj : World} {vi vj : Value} {xs : List UInt8} {i : Nat} {Y Z : Prop} (X : Hid (qt 5 w.heap.size wi vi (xs ++ List.replicate i 0) /\ Fr [] w wi /\ Y /\ Z)) (h5 : qt 5 w.heap.size wj vj (xs ++ List.replicate i 0 ++ [0])) (h6 : wi.grownBy wj vi.ownBlock) : Hid (qt 5 w.heap.size wj vj (xs ++ List.replicate (i + 1) 0)) /\ Hid (Fr [] w wj) :=
 ⟨Hdq (by rw [qel] at h5; exact h5), Hdq (qt.fr X.out.1 X.out.2.1 h6 (Nat.le_refl _))⟩
theorem qhD (A : Nat -> Prop) (w : World) (v : Value) (xs : List UInt8) (hb : Bs A w v xs) (hl : xs.length <= 100000) (hr : xs.length = 0) :
  Calls Tryz.prog 149 #[v] w fun e w' => ∃ u, e = .returned u /\ qt 5 w.heap.size w' u (xs ++ List.replicate 8 0) /\ Fr [] w w' := by
 have HB := Hdq hb
 obtain ⟨a, cap, rfl, -, -, -⟩ := hb
 obtain ⟨N, hN⟩ := exq (xs.length)
 rw [hN] at HB hl hr ⊢
 have HN := Hdq hN
 clear hN
 subst hr
 go_enter Tryz.func149, Tryz.ntmps149
 go_wp2_with fail
 refine (clone_any A _ _ xs HB.out Y59).mono ?_
 rintro e w0 ⟨v0, rfl, ho, hf⟩
 have HO := Hdq (show qt 5 w.heap.size w0 v0 (xs ++ List.replicate 0 0) by simpa using ho)
 have HF := Hdq hf
 obtain ⟨o0, n0, c0, rfl⟩ := zR (ho.bs (A := fun _ => False) Y85)
 obtain rfl : n0 = 0 := by
  exact Y6
 clear ho hf
 have X0 := qC HO HF
 clear HO HF
 go_wp2_with (at_builtin; refine qd (ys := [0]) Tryz.underlying22 Tryz.infoByte rfl (.tmp 30) (.tmp 31) rfl rfl rfl X0.out.1 X0.out.2.2.1 Y56 X0.out.2.2.2 ?_)
 intro v1 w1 h5 h6
 obtain ⟨HO, HF⟩ := qu (i := 0) X0 Y58 h6
 clear h5 h6 X0
 have X1 := qC HO HF
 clear HO HF
 go_wp2_with (at_builtin; refine qd (ys := [0]) Tryz.underlying22 Tryz.infoByte rfl (.tmp 33) (.tmp 34) rfl rfl rfl X1.out.1 X1.out.2.2.1 Y56 X1.out.2.2.2 ?_)
 intro v2 w2 h5 h6
 obtain ⟨HO, HF⟩ := qu (i := 1) X1 Y58 h6
 clear h5 h6 X1
 have X2 := qC HO HF
 clear HO HF
 go_wp2_with (at_builtin; refine qd (ys := [0]) Tryz.underlying22 Tryz.infoByte rfl (.tmp 36) (.tmp 37) rfl rfl rfl X2.out.1 X2.out.2.2.1 Y56 X2.out.2.2.2 ?_)
 intro v3 w3 h5 h6
 obtain ⟨HO, HF⟩ := qu (i := 2) X2 Y58 h6
 clear h5 h6 X2
 have X3 := qC HO HF
 clear HO HF
 go_wp2_with (at_builtin; refine qd (ys := [0]) Tryz.underlying22 Tryz.infoByte rfl (.tmp 39) (.tmp 40) rfl rfl rfl X3.out.1 X3.out.2.2.1 Y56 X3.out.2.2.2 ?_)
 intro v4 w4 h5 h6
 obtain ⟨HO, HF⟩ := qu (i := 3) X3 Y58 h6
 clear h5 h6 X3
 have X4 := qC HO HF
 clear HO HF
 go_wp2_with (at_builtin; refine qd (ys := [0]) Tryz.underlying22 Tryz.infoByte rfl (.tmp 42) (.tmp 43) rfl rfl rfl X4.out.1 X4.out.2.2.1 Y56 X4.out.2.2.2 ?_)
 intro v5 w5 h5 h6
 obtain ⟨HO, HF⟩ := qu (i := 4) X4 Y58 h6
 clear h5 h6 X4
 have X5 := qC HO HF
 clear HO HF
 go_wp2_with (at_builtin; refine qd (ys := [0]) Tryz.underlying22 Tryz.infoByte rfl (.tmp 45) (.tmp 46) rfl rfl rfl X5.out.1 X5.out.2.2.1 Y56 X5.out.2.2.2 ?_)
 intro v6 w6 h5 h6
 obtain ⟨HO, HF⟩ := qu (i := 5) X5 Y58 h6
 clear h5 h6 X5
 have X6 := qC HO HF
 clear HO HF
 go_wp2_with (at_builtin; refine qd (ys := [0]) Tryz.underlying22 Tryz.infoByte rfl (.tmp 48) (.tmp 49) rfl rfl rfl X6.out.1 X6.out.2.2.1 Y56 X6.out.2.2.2 ?_)
 intro v7 w7 h5 h6
 obtain ⟨HO, HF⟩ := qu (i := 6) X6 Y58 h6
 clear h5 h6 X6
 have X7 := qC HO HF
 clear HO HF
 go_wp2_with (at_builtin; refine qd (ys := [0]) Tryz.underlying22 Tryz.infoByte rfl (.tmp 51) (.tmp 52) rfl rfl rfl X7.out.1 X7.out.2.2.1 Y56 X7.out.2.2.2 ?_)
 intro v8 w8 h5 h6
 obtain ⟨HO, HF⟩ := qu (i := 7) X7 Y58 h6
 clear h5 h6 X7
 exact Y7
theorem qim (A : Nat -> Prop) (w : World) (v : Value) (xs : List UInt8) (hb : Bs A w v xs) (hl : xs.length <= 100000) (hr : xs.length % 8 = 1) (hp : 0 < xs.length) :
  Calls Tryz.prog 149 #[v] w fun e w' => ∃ u, e = .returned u /\ qt 5 w.heap.size w' u (xs ++ List.replicate 7 0) /\ Fr [] w w' := by
 have HB := Hdq hb
 obtain ⟨a, cap, rfl, -, -, -⟩ := hb
 obtain ⟨N, hN⟩ := exq (xs.length)
 rw [hN] at HB hl hr hp ⊢
 have HN := Hdq hN
 clear hN
 have hm : (N : Int) % 8 = 1 := by omega
 have hz : ((N : Int) == 0) = false := by rw [beq_eq_false_iff_ne]; omega
 go_enter Tryz.func149, Tryz.ntmps149
 go_wp2_with fail
 refine (clone_any A _ _ xs HB.out Y59).mono ?_
 rintro e w0 ⟨v0, rfl, ho, hf⟩
 have HO := Hdq (show qt 5 w.heap.size w0 v0 (xs ++ List.replicate 0 0) by simpa using ho)
 have HF := Hdq hf
 obtain ⟨o0, n0, c0, rfl⟩ := zR (ho.bs (A := fun _ => False) Y85)
 obtain rfl : n0 = N := by
  exact Y6
 clear ho hf
 have X0 := qC HO HF
 clear HO HF
 go_wp2_with (at_builtin; refine qd (ys := [0]) Tryz.underlying22 Tryz.infoByte rfl (.tmp 33) (.tmp 34) rfl rfl rfl X0.out.1 X0.out.2.2.1 Y56 X0.out.2.2.2 ?_)
 intro v1 w1 h5 h6
 obtain ⟨HO, HF⟩ := qu (i := 0) X0 Y58 h6
 clear h5 h6 X0
 have X1 := qC HO HF
 clear HO HF
 go_wp2_with (at_builtin; refine qd (ys := [0]) Tryz.underlying22 Tryz.infoByte rfl (.tmp 36) (.tmp 37) rfl rfl rfl X1.out.1 X1.out.2.2.1 Y56 X1.out.2.2.2 ?_)
 intro v2 w2 h5 h6
 obtain ⟨HO, HF⟩ := qu (i := 1) X1 Y58 h6
 clear h5 h6 X1
 have X2 := qC HO HF
 clear HO HF
 go_wp2_with (at_builtin; refine qd (ys := [0]) Tryz.underlying22 Tryz.infoByte rfl (.tmp 39) (.tmp 40) rfl rfl rfl X2.out.1 X2.out.2.2.1 Y56 X2.out.2.2.2 ?_)
 intro v3 w3 h5 h6
 obtain ⟨HO, HF⟩ := qu (i := 2) X2 Y58 h6
 clear h5 h6 X2
 have X3 := qC HO HF
 clear HO HF
 go_wp2_with (at_builtin; refine qd (ys := [0]) Tryz.underlying22 Tryz.infoByte rfl (.tmp 42) (.tmp 43) rfl rfl rfl X3.out.1 X3.out.2.2.1 Y56 X3.out.2.2.2 ?_)
 intro v4 w4 h5 h6
 obtain ⟨HO, HF⟩ := qu (i := 3) X3 Y58 h6
 clear h5 h6 X3
 have X4 := qC HO HF
 clear HO HF
 go_wp2_with (at_builtin; refine qd (ys := [0]) Tryz.underlying22 Tryz.infoByte rfl (.tmp 45) (.tmp 46) rfl rfl rfl X4.out.1 X4.out.2.2.1 Y56 X4.out.2.2.2 ?_)
 intro v5 w5 h5 h6
 obtain ⟨HO, HF⟩ := qu (i := 4) X4 Y58 h6
 clear h5 h6 X4
 have X5 := qC HO HF
 clear HO HF
 go_wp2_with (at_builtin; refine qd (ys := [0]) Tryz.underlying22 Tryz.infoByte rfl (.tmp 48) (.tmp 49) rfl rfl rfl X5.out.1 X5.out.2.2.1 Y56 X5.out.2.2.2 ?_)
 intro v6 w6 h5 h6
 obtain ⟨HO, HF⟩ := qu (i := 5) X5 Y58 h6
 clear h5 h6 X5
 have X6 := qC HO HF
 clear HO HF
 go_wp2_with (at_builtin; refine qd (ys := [0]) Tryz.underlying22 Tryz.infoByte rfl (.tmp 51) (.tmp 52) rfl rfl rfl X6.out.1 X6.out.2.2.1 Y56 X6.out.2.2.2 ?_)
 intro v7 w7 h5 h6
 obtain ⟨HO, HF⟩ := qu (i := 6) X6 Y58 h6
 clear h5 h6 X6
 exact Y7
theorem qhJ (A : Nat -> Prop) (w : World) (v : Value) (xs : List UInt8) (hb : Bs A w v xs) (hl : xs.length <= 100000) (hr : xs.length % 8 = 2) (hp : 0 < xs.length) :
  Calls Tryz.prog 149 #[v] w fun e w' => ∃ u, e = .returned u /\ qt 5 w.heap.size w' u (xs ++ List.replicate 6 0) /\ Fr [] w w' := by
 have HB := Hdq hb
 obtain ⟨a, cap, rfl, -, -, -⟩ := hb
 obtain ⟨N, hN⟩ := exq (xs.length)
 rw [hN] at HB hl hr hp ⊢
 have HN := Hdq hN
 clear hN
 have hm : (N : Int) % 8 = 2 := by omega
 have hz : ((N : Int) == 0) = false := by rw [beq_eq_false_iff_ne]; omega
 go_enter Tryz.func149, Tryz.ntmps149
 go_wp2_with fail
 refine (clone_any A _ _ xs HB.out Y59).mono ?_
 rintro e w0 ⟨v0, rfl, ho, hf⟩
 have HO := Hdq (show qt 5 w.heap.size w0 v0 (xs ++ List.replicate 0 0) by simpa using ho)
 have HF := Hdq hf
 obtain ⟨o0, n0, c0, rfl⟩ := zR (ho.bs (A := fun _ => False) Y85)
 obtain rfl : n0 = N := by
  exact Y6
 clear ho hf
 have X0 := qC HO HF
 clear HO HF
 go_wp2_with (at_builtin; refine qd (ys := [0]) Tryz.underlying22 Tryz.infoByte rfl (.tmp 36) (.tmp 37) rfl rfl rfl X0.out.1 X0.out.2.2.1 Y56 X0.out.2.2.2 ?_)
 intro v1 w1 h5 h6
 obtain ⟨HO, HF⟩ := qu (i := 0) X0 Y58 h6
 clear h5 h6 X0
 have X1 := qC HO HF
 clear HO HF
 go_wp2_with (at_builtin; refine qd (ys := [0]) Tryz.underlying22 Tryz.infoByte rfl (.tmp 39) (.tmp 40) rfl rfl rfl X1.out.1 X1.out.2.2.1 Y56 X1.out.2.2.2 ?_)
 intro v2 w2 h5 h6
 obtain ⟨HO, HF⟩ := qu (i := 1) X1 Y58 h6
 clear h5 h6 X1
 have X2 := qC HO HF
 clear HO HF
 go_wp2_with (at_builtin; refine qd (ys := [0]) Tryz.underlying22 Tryz.infoByte rfl (.tmp 42) (.tmp 43) rfl rfl rfl X2.out.1 X2.out.2.2.1 Y56 X2.out.2.2.2 ?_)
 intro v3 w3 h5 h6
 obtain ⟨HO, HF⟩ := qu (i := 2) X2 Y58 h6
 clear h5 h6 X2
 have X3 := qC HO HF
 clear HO HF
 go_wp2_with (at_builtin; refine qd (ys := [0]) Tryz.underlying22 Tryz.infoByte rfl (.tmp 45) (.tmp 46) rfl rfl rfl X3.out.1 X3.out.2.2.1 Y56 X3.out.2.2.2 ?_)
 intro v4 w4 h5 h6
 obtain ⟨HO, HF⟩ := qu (i := 3) X3 Y58 h6
 clear h5 h6 X3
 have X4 := qC HO HF
 clear HO HF
 go_wp2_with (at_builtin; refine qd (ys := [0]) Tryz.underlying22 Tryz.infoByte rfl (.tmp 48) (.tmp 49) rfl rfl rfl X4.out.1 X4.out.2.2.1 Y56 X4.out.2.2.2 ?_)
 intro v5 w5 h5 h6
 obtain ⟨HO, HF⟩ := qu (i := 4) X4 Y58 h6
 clear h5 h6 X4
 have X5 := qC HO HF
 clear HO HF
 go_wp2_with (at_builtin; refine qd (ys := [0]) Tryz.underlying22 Tryz.infoByte rfl (.tmp 51) (.tmp 52) rfl rfl rfl X5.out.1 X5.out.2.2.1 Y56 X5.out.2.2.2 ?_)
 intro v6 w6 h5 h6
 obtain ⟨HO, HF⟩ := qu (i := 5) X5 Y58 h6
 clear h5 h6 X5
 exact Y7
theorem qhZ (A : Nat -> Prop) (w : World) (v : Value) (xs : List UInt8) (hb : Bs A w v xs) (hl : xs.length <= 100000) (hr : xs.length % 8 = 3) (hp : 0 < xs.length) :
  Calls Tryz.prog 149 #[v] w fun e w' => ∃ u, e = .returned u /\ qt 5 w.heap.size w' u (xs ++ List.replicate 5 0) /\ Fr [] w w' := by
 have HB := Hdq hb
 obtain ⟨a, cap, rfl, -, -, -⟩ := hb
 obtain ⟨N, hN⟩ := exq (xs.length)
 rw [hN] at HB hl hr hp ⊢
 have HN := Hdq hN
 clear hN
 have hm : (N : Int) % 8 = 3 := by omega
 have hz : ((N : Int) == 0) = false := by rw [beq_eq_false_iff_ne]; omega
 go_enter Tryz.func149, Tryz.ntmps149
 go_wp2_with fail
 refine (clone_any A _ _ xs HB.out Y59).mono ?_
 rintro e w0 ⟨v0, rfl, ho, hf⟩
 have HO := Hdq (show qt 5 w.heap.size w0 v0 (xs ++ List.replicate 0 0) by simpa using ho)
 have HF := Hdq hf
 obtain ⟨o0, n0, c0, rfl⟩ := zR (ho.bs (A := fun _ => False) Y85)
 obtain rfl : n0 = N := by
  exact Y6
 clear ho hf
 have X0 := qC HO HF
 clear HO HF
 go_wp2_with (at_builtin; refine qd (ys := [0]) Tryz.underlying22 Tryz.infoByte rfl (.tmp 39) (.tmp 40) rfl rfl rfl X0.out.1 X0.out.2.2.1 Y56 X0.out.2.2.2 ?_)
 intro v1 w1 h5 h6
 obtain ⟨HO, HF⟩ := qu (i := 0) X0 Y58 h6
 clear h5 h6 X0
 have X1 := qC HO HF
 clear HO HF
 go_wp2_with (at_builtin; refine qd (ys := [0]) Tryz.underlying22 Tryz.infoByte rfl (.tmp 42) (.tmp 43) rfl rfl rfl X1.out.1 X1.out.2.2.1 Y56 X1.out.2.2.2 ?_)
 intro v2 w2 h5 h6
 obtain ⟨HO, HF⟩ := qu (i := 1) X1 Y58 h6
 clear h5 h6 X1
 have X2 := qC HO HF
 clear HO HF
 go_wp2_with (at_builtin; refine qd (ys := [0]) Tryz.underlying22 Tryz.infoByte rfl (.tmp 45) (.tmp 46) rfl rfl rfl X2.out.1 X2.out.2.2.1 Y56 X2.out.2.2.2 ?_)
 intro v3 w3 h5 h6
 obtain ⟨HO, HF⟩ := qu (i := 2) X2 Y58 h6
 clear h5 h6 X2
 have X3 := qC HO HF
 clear HO HF
 go_wp2_with (at_builtin; refine qd (ys := [0]) Tryz.underlying22 Tryz.infoByte rfl (.tmp 48) (.tmp 49) rfl rfl rfl X3.out.1 X3.out.2.2.1 Y56 X3.out.2.2.2 ?_)
 intro v4 w4 h5 h6
 obtain ⟨HO, HF⟩ := qu (i := 3) X3 Y58 h6
 clear h5 h6 X3
 have X4 := qC HO HF
 clear HO HF
 go_wp2_with (at_builtin; refine qd (ys := [0]) Tryz.underlying22 Tryz.infoByte rfl (.tmp 51) (.tmp 52) rfl rfl rfl X4.out.1 X4.out.2.2.1 Y56 X4.out.2.2.2 ?_)
 intro v5 w5 h5 h6
 obtain ⟨HO, HF⟩ := qu (i := 4) X4 Y58 h6
 clear h5 h6 X4
 exact Y7
theorem qh0 (A : Nat -> Prop) (w : World) (v : Value) (xs : List UInt8) (hb : Bs A w v xs) (hl : xs.length <= 100000) (hr : xs.length % 8 = 4) (hp : 0 < xs.length) :
  Calls Tryz.prog 149 #[v] w fun e w' => ∃ u, e = .returned u /\ qt 5 w.heap.size w' u (xs ++ List.replicate 4 0) /\ Fr [] w w' := by
 have HB := Hdq hb
 obtain ⟨a, cap, rfl, -, -, -⟩ := hb
 obtain ⟨N, hN⟩ := exq (xs.length)
 rw [hN] at HB hl hr hp ⊢
 have HN := Hdq hN
 clear hN
 have hm : (N : Int) % 8 = 4 := by omega
 have hz : ((N : Int) == 0) = false := by rw [beq_eq_false_iff_ne]; omega
 go_enter Tryz.func149, Tryz.ntmps149
 go_wp2_with fail
 refine (clone_any A _ _ xs HB.out Y59).mono ?_
 rintro e w0 ⟨v0, rfl, ho, hf⟩
 have HO := Hdq (show qt 5 w.heap.size w0 v0 (xs ++ List.replicate 0 0) by simpa using ho)
 have HF := Hdq hf
 obtain ⟨o0, n0, c0, rfl⟩ := zR (ho.bs (A := fun _ => False) Y85)
 obtain rfl : n0 = N := by
  exact Y6
 clear ho hf
 have X0 := qC HO HF
 clear HO HF
 go_wp2_with (at_builtin; refine qd (ys := [0]) Tryz.underlying22 Tryz.infoByte rfl (.tmp 42) (.tmp 43) rfl rfl rfl X0.out.1 X0.out.2.2.1 Y56 X0.out.2.2.2 ?_)
 intro v1 w1 h5 h6
 obtain ⟨HO, HF⟩ := qu (i := 0) X0 Y58 h6
 clear h5 h6 X0
 have X1 := qC HO HF
 clear HO HF
 go_wp2_with (at_builtin; refine qd (ys := [0]) Tryz.underlying22 Tryz.infoByte rfl (.tmp 45) (.tmp 46) rfl rfl rfl X1.out.1 X1.out.2.2.1 Y56 X1.out.2.2.2 ?_)
 intro v2 w2 h5 h6
 obtain ⟨HO, HF⟩ := qu (i := 1) X1 Y58 h6
 clear h5 h6 X1
 have X2 := qC HO HF
 clear HO HF
 go_wp2_with (at_builtin; refine qd (ys := [0]) Tryz.underlying22 Tryz.infoByte rfl (.tmp 48) (.tmp 49) rfl rfl rfl X2.out.1 X2.out.2.2.1 Y56 X2.out.2.2.2 ?_)
 intro v3 w3 h5 h6
 obtain ⟨HO, HF⟩ := qu (i := 2) X2 Y58 h6
 clear h5 h6 X2
 have X3 := qC HO HF
 clear HO HF
 go_wp2_with (at_builtin; refine qd (ys := [0]) Tryz.underlying22 Tryz.infoByte rfl (.tmp 51) (.tmp 52) rfl rfl rfl X3.out.1 X3.out.2.2.1 Y56 X3.out.2.2.2 ?_)
 intro v4 w4 h5 h6
 obtain ⟨HO, HF⟩ := qu (i := 3) X3 Y58 h6
 clear h5 h6 X3
 exact Y7
theorem qhK (A : Nat -> Prop) (w : World) (v : Value) (xs : List UInt8) (hb : Bs A w v xs) (hl : xs.length <= 100000) (hr : xs.length % 8 = 5) (hp : 0 < xs.length) :
  Calls Tryz.prog 149 #[v] w fun e w' => ∃ u, e = .returned u /\ qt 5 w.heap.size w' u (xs ++ List.replicate 3 0) /\ Fr [] w w' := by
 have HB := Hdq hb
 obtain ⟨a, cap, rfl, -, -, -⟩ := hb
 obtain ⟨N, hN⟩ := exq (xs.length)
 rw [hN] at HB hl hr hp ⊢
 have HN := Hdq hN
 clear hN
 have hm : (N : Int) % 8 = 5 := by omega
 have hz : ((N : Int) == 0) = false := by rw [beq_eq_false_iff_ne]; omega
 go_enter Tryz.func149, Tryz.ntmps149
 go_wp2_with fail
 refine (clone_any A _ _ xs HB.out Y59).mono ?_
 rintro e w0 ⟨v0, rfl, ho, hf⟩
 have HO := Hdq (show qt 5 w.heap.size w0 v0 (xs ++ List.replicate 0 0) by simpa using ho)
 have HF := Hdq hf
 obtain ⟨o0, n0, c0, rfl⟩ := zR (ho.bs (A := fun _ => False) Y85)
 obtain rfl : n0 = N := by
  exact Y6
 clear ho hf
 have X0 := qC HO HF
 clear HO HF
 go_wp2_with (at_builtin; refine qd (ys := [0]) Tryz.underlying22 Tryz.infoByte rfl (.tmp 45) (.tmp 46) rfl rfl rfl X0.out.1 X0.out.2.2.1 Y56 X0.out.2.2.2 ?_)
 intro v1 w1 h5 h6
 obtain ⟨HO, HF⟩ := qu (i := 0) X0 Y58 h6
 clear h5 h6 X0
 have X1 := qC HO HF
 clear HO HF
 go_wp2_with (at_builtin; refine qd (ys := [0]) Tryz.underlying22 Tryz.infoByte rfl (.tmp 48) (.tmp 49) rfl rfl rfl X1.out.1 X1.out.2.2.1 Y56 X1.out.2.2.2 ?_)
 intro v2 w2 h5 h6
 obtain ⟨HO, HF⟩ := qu (i := 1) X1 Y58 h6
 clear h5 h6 X1
 have X2 := qC HO HF
 clear HO HF
 go_wp2_with (at_builtin; refine qd (ys := [0]) Tryz.underlying22 Tryz.infoByte rfl (.tmp 51) (.tmp 52) rfl rfl rfl X2.out.1 X2.out.2.2.1 Y56 X2.out.2.2.2 ?_)
 intro v3 w3 h5 h6
 obtain ⟨HO, HF⟩ := qu (i := 2) X2 Y58 h6
 clear h5 h6 X2
 exact Y7
theorem qia (A : Nat -> Prop) (w : World) (v : Value) (xs : List UInt8) (hb : Bs A w v xs) (hl : xs.length <= 100000) (hr : xs.length % 8 = 6) (hp : 0 < xs.length) :
  Calls Tryz.prog 149 #[v] w fun e w' => ∃ u, e = .returned u /\ qt 5 w.heap.size w' u (xs ++ List.replicate 2 0) /\ Fr [] w w' := by
 have HB := Hdq hb
 obtain ⟨a, cap, rfl, -, -, -⟩ := hb
 obtain ⟨N, hN⟩ := exq (xs.length)
 rw [hN] at HB hl hr hp ⊢
 have HN := Hdq hN
 clear hN
 have hm : (N : Int) % 8 = 6 := by omega
 have hz : ((N : Int) == 0) = false := by rw [beq_eq_false_iff_ne]; omega
 go_enter Tryz.func149, Tryz.ntmps149
 go_wp2_with fail
 refine (clone_any A _ _ xs HB.out Y59).mono ?_
 rintro e w0 ⟨v0, rfl, ho, hf⟩
 have HO := Hdq (show qt 5 w.heap.size w0 v0 (xs ++ List.replicate 0 0) by simpa using ho)
 have HF := Hdq hf
 obtain ⟨o0, n0, c0, rfl⟩ := zR (ho.bs (A := fun _ => False) Y85)
 obtain rfl : n0 = N := by
  exact Y6
 clear ho hf
 have X0 := qC HO HF
 clear HO HF
 go_wp2_with (at_builtin; refine qd (ys := [0]) Tryz.underlying22 Tryz.infoByte rfl (.tmp 48) (.tmp 49) rfl rfl rfl X0.out.1 X0.out.2.2.1 Y56 X0.out.2.2.2 ?_)
 intro v1 w1 h5 h6
 obtain ⟨HO, HF⟩ := qu (i := 0) X0 Y58 h6
 clear h5 h6 X0
 have X1 := qC HO HF
 clear HO HF
 go_wp2_with (at_builtin; refine qd (ys := [0]) Tryz.underlying22 Tryz.infoByte rfl (.tmp 51) (.tmp 52) rfl rfl rfl X1.out.1 X1.out.2.2.1 Y56 X1.out.2.2.2 ?_)
 intro v2 w2 h5 h6
 obtain ⟨HO, HF⟩ := qu (i := 1) X1 Y58 h6
 clear h5 h6 X1
 exact Y7
theorem qhE (A : Nat -> Prop) (w : World) (v : Value) (xs : List UInt8) (hb : Bs A w v xs) (hl : xs.length <= 100000) (hr : xs.length % 8 = 7) (hp : 0 < xs.length) :
  Calls Tryz.prog 149 #[v] w fun e w' => ∃ u, e = .returned u /\ qt 5 w.heap.size w' u (xs ++ List.replicate 1 0) /\ Fr [] w w' := by
 have HB := Hdq hb
 obtain ⟨a, cap, rfl, -, -, -⟩ := hb
 obtain ⟨N, hN⟩ := exq (xs.length)
 rw [hN] at HB hl hr hp ⊢
 have HN := Hdq hN
 clear hN
 have hm : (N : Int) % 8 = 7 := by omega
 have hz : ((N : Int) == 0) = false := by rw [beq_eq_false_iff_ne]; omega
 go_enter Tryz.func149, Tryz.ntmps149
 go_wp2_with fail
 refine (clone_any A _ _ xs HB.out Y59).mono ?_
 rintro e w0 ⟨v0, rfl, ho, hf⟩
 have HO := Hdq (show qt 5 w.heap.size w0 v0 (xs ++ List.replicate 0 0) by simpa using ho)
 have HF := Hdq hf
 obtain ⟨o0, n0, c0, rfl⟩ := zR (ho.bs (A := fun _ => False) Y85)
 obtain rfl : n0 = N := by
  exact Y6
 clear ho hf
 have X0 := qC HO HF
 clear HO HF
 go_wp2_with (at_builtin; refine qd (ys := [0]) Tryz.underlying22 Tryz.infoByte rfl (.tmp 51) (.tmp 52) rfl rfl rfl X0.out.1 X0.out.2.2.1 Y56 X0.out.2.2.2 ?_)
 intro v1 w1 h5 h6
 obtain ⟨HO, HF⟩ := qu (i := 0) X0 Y58 h6
 clear h5 h6 X0
 exact Y7
theorem qh5 (A : Nat -> Prop) (w : World) (v : Value) (xs : List UInt8) (hb : Bs A w v xs) (hl : xs.length <= 100000) (hr : xs.length % 8 = 0) (hp : 0 < xs.length) :
  Calls Tryz.prog 149 #[v] w fun e w' => ∃ u, e = .returned u /\ qt 5 w.heap.size w' u (xs ++ List.replicate 0 0) /\ Fr [] w w' := by
 have HB := Hdq hb
 obtain ⟨a, cap, rfl, -, -, -⟩ := hb
 obtain ⟨N, hN⟩ := exq (xs.length)
 rw [hN] at HB hl hr hp ⊢
 have HN := Hdq hN
 clear hN
 have hm : (N : Int) % 8 = 0 := by omega
 have hz : ((N : Int) == 0) = false := by rw [beq_eq_false_iff_ne]; omega
 go_enter Tryz.func149, Tryz.ntmps149
 go_wp2_with fail
 refine (clone_any A _ _ xs HB.out Y59).mono ?_
 rintro e w0 ⟨v0, rfl, ho, hf⟩
 have HO := Hdq (show qt 5 w.heap.size w0 v0 (xs ++ List.replicate 0 0) by simpa using ho)
 have HF := Hdq hf
 obtain ⟨o0, n0, c0, rfl⟩ := zR (ho.bs (A := fun _ => False) Y85)
 obtain rfl : n0 = N := by
  exact Y6
 clear ho hf
 exact Y7
theorem qfh (A : Nat -> Prop) (w : World) (v : Value) (xs : List UInt8) (hb : Bs A w v xs) (hl : xs.length <= 100000) :
  Calls Tryz.prog 149 #[v] w fun e w' => ∃ u, e = .returned u /\ qt 5 w.heap.size w' u (vD xs) /\ Fr [] w w' := by
 by_cases h0 : xs.length = 0
 ·have := qhD A w v xs hb hl h0
  rwa [show vD xs = xs ++ List.replicate 8 0 by unfold vD qgn; rw [if_pos h0]]
 have hp : 0 < xs.length := by omega
 have hc : xs.length % 8 = 0 ∨ xs.length % 8 = 1 ∨ xs.length % 8 = 2 ∨ xs.length % 8 = 3 ∨ xs.length % 8 = 4 ∨ xs.length % 8 = 5 ∨ xs.length % 8 = 6 ∨ xs.length % 8 = 7 := by omega
 have hpad : ∀ r, xs.length % 8 = r -> vD xs = xs ++ List.replicate ((8 - r) % 8) 0 := fun r h => by unfold vD qgn; rw [if_neg h0, h]
 rcases hc with h | h | h | h | h | h | h | h
 ·rw [hpad 0 h]; exact qh5 A w v xs hb hl h hp
 ·rw [hpad 1 h]; exact qim A w v xs hb hl h hp
 ·rw [hpad 2 h]; exact qhJ A w v xs hb hl h hp
 ·rw [hpad 3 h]; exact qhZ A w v xs hb hl h hp
 ·rw [hpad 4 h]; exact qh0 A w v xs hb hl h hp
 ·rw [hpad 5 h]; exact qhK A w v xs hb hl h hp
 ·rw [hpad 6 h]; exact qia A w v xs hb hl h hp
 ·rw [hpad 7 h]; exact qhE A w v xs hb hl h hp
def rwM (P : Nat -> Nat -> UInt8) (j i : Nat) : List (List UInt8) := (List.range 32).map fun r => (List.range 8).map fun m => if m < j ∨ (m = j /\ r < i) then P m r else 0
theorem xF (P : Nat -> Nat -> UInt8) (j i r : Nat) (h : r < 32) : (rwM P j i)[r]? = some ((List.range 8).map fun m => if m < j ∨ (m = j /\ r < i) then P m r else 0) := by
 simp [rwM, h]
theorem Z4 (P : Nat -> Nat -> UInt8) (j i : Nat) : (rwM P j i).length = 32 := by simp [rwM]
theorem qdK (P : Nat -> Nat -> UInt8) (j i : Nat) (hi : i < 32) (hj : j < 8) (row : List UInt8) (hr : (rwM P j i)[i]? = some row) : (rwM P j i).set i (row.set j (P j i)) = rwM P j (i + 1) := by
 rw [xF P j i i hi] at hr
 cases hr
 apply List.ext_getElem?
 intro r
 rcases Nat.lt_or_ge r 32 with h | h
 ·by_cases hri : r = i
  ·subst hri
   rw [List.getElem?_set_self (by rw [Z4]; exact h), xF P j (r + 1) r h]
   congr 1
   apply List.ext_getElem?
   intro m
   rcases Nat.lt_or_ge m 8 with hm | hm
   ·by_cases hmj : m = j
    ·subst hmj
     rw [List.getElem?_set_self Y57]
     simp [hm]
    ·rw [List.getElem?_set_ne (Ne.symm hmj)]
     simp [hm, hmj]
   ·rw [List.getElem?_eq_none Y57, List.getElem?_eq_none Y57]
  ·rw [List.getElem?_set_ne (Ne.symm hri), xF P j i r h, xF P j (i + 1) r h]
   congr 1
   refine List.map_congr_left fun m hm => ?_
   by_cases h2 : m < j ∨ (m = j /\ r < i)
   ·rw [if_pos h2, if_pos Y54]
   ·rw [if_neg h2, if_neg Y54]
 ·rw [List.getElem?_eq_none (by rw [List.length_set, Z4]; exact h), List.getElem?_eq_none (by rw [Z4]; exact h)]
theorem qdF (P : Nat -> Nat -> UInt8) (j : Nat) : rwM P j 32 = rwM P (j + 1) 0 := by
 unfold rwM
 refine List.map_congr_left fun r hr => List.map_congr_left fun m hm => ?_
 have := List.mem_range.1 hr
 by_cases h : m < j ∨ (m = j /\ r < 32)
 ·rw [if_pos h, if_pos Y54]
 ·rw [if_neg h, if_neg Y54]
theorem qe8 (P : Nat -> Nat -> UInt8) : rwM P 0 0 = List.replicate 32 (List.replicate 8 0) := by
 apply List.ext_getElem?
 intro r
 rcases Nat.lt_or_ge r 32 with h | h
 ·rw [xF P 0 0 r h, List.getElem?_replicate, if_pos h]
  congr 1
 ·rw [List.getElem?_eq_none (by rw [Z4]; exact h), List.getElem?_eq_none (by rw [List.length_replicate]; exact h)]
theorem qfU (ds : List (List UInt8)) : rwM (fun m r => (QP (ds.map fun b => b.getD m 0)).getD r 0) 8 0 = J7 ds := by
 unfold rwM J7
 refine List.map_congr_left fun r _ => List.map_congr_left fun m hm => ?_
 rw [if_pos (.inl (List.mem_range.1 hm))]
theorem YP (w : World) (v : Value) (ls : List (Value × List UInt8)) (hr : RdB (fun _ => False) w v ls) (h8 : ∀ x ∈ ls, x.2.length = 8) (h1 : 1 <= ls.length) (h2 : ls.length <= 223) :
  Calls Tryz.prog 150 #[v] w fun e w' => ∃ (u : Value) (bs : List Nat), e = .returned (.tuple #[u, .nilIface]) /\ ja 22 w.heap.size w' u (ls.map (·.1) ++ bs.map sl8) /\ Rws w.heap.size w' bs (J7 (ls.map (·.2))) /\ Fr [] w w' := by
 have HR := Hdq hr
 have H8 := Hdq h8
 obtain ⟨a, cap, rfl, c2, c3⟩ := JR hr
 unfold maxLen at c3
 obtain ⟨P, hP⟩ : ∃ P : Nat -> Nat -> UInt8, (fun m r => (QP ((ls.map (·.2)).map fun b => b.getD m 0)).getD r 0) = P := ⟨_, rfl⟩
 have HP := Hdq (show ∀ m, QP (ls.map fun x => Vj m x.2) = (List.range 32).map (P m) from fun m => by
  have hl := Vo (ls.map fun x => Vj m x.2)
  apply List.ext_getElem?
  intro r
  rcases Nat.lt_or_ge r 32 with h | h
  ·rw [<- hP]
   simp only [List.getElem?_map, List.getElem?_range h, Option.map_some, List.map_map]
   rw [List.getD_eq_getElem?_getD]
   have e : (ls.map fun x => Vj m x.2) = ls.map ((fun b => b.getD m 0) ∘ fun x => x.2) := rfl
   rw [<- e, List.getElem?_eq_getElem Y54]
   rfl
  ·rw [List.getElem?_eq_none Y54, List.getElem?_eq_none Y57])
 have HQ := Hdq (show rwM P 8 0 = J7 (ls.map (·.2)) by rw [<- hP]; exact qfU _)
 obtain ⟨N, hN⟩ := exq (ls.length)
 rw [hN] at HR c2 h1 h2 ⊢
 have HN := Hdq hN
 clear hN hr h8 hP
 go_enter Tryz.func150, Tryz.ntmps150
 go_wp2_with fail
 refine (qbT w 32 Y54).mono ?_
 rintro e w1 ⟨g, bs, rfl, hg, hgb, hA, hR, hf⟩
 have HA := Hdq hA
 have HW := Hdq (show Rws w.heap.size w1 bs (rwM P 0 0) by rw [qe8]; exact hR)
 have HF := Hdq hf
 have HGB := Hdq hgb
 have HBL := Hdq (show bs.length = 32 by have := hR.len; simpa using this)
 clear hA hR hf hgb
 go_wp2
 go_loopw [11] (fun i wr => ∃ j : Nat, j <= 8 /\ i = .int .i64 j /\ Hid (At wr g (.cells (bs.map sl8).toArray 22)) /\ Hid (Rws w.heap.size wr bs (rwM P j 0)) /\ Hid (Fr [] w wr)) (fun i _ => 8 - (intOf i).toNat)
 case atStart => exact ⟨0, by omega, rfl, HA.out, HW.out, HF.out⟩
 case round =>
  clear HA HW HF
  obtain ⟨j, hj, rfl, HA, HW, HF⟩ := hrel
  by_cases hjn : j < 8
  ·go_wp2_with fail
   refine (L4 (fun _ => False) _ _ ls j (HR.out.keep HF.out Y85) hjn H8.out Y59).mono ?_
   rintro e w2 ⟨cu, rfl, ho, hf⟩
   have HA2 := Hdq (HA.out.keep0 hf)
   have HW2 := Hdq (HW.out.keep hf Y85)
   have HF2 := Hdq (HF.out.trans hf)
   have HC := Hdq (ho.bs (A := fun _ => False) Y85)
   obtain ⟨co, cn, cc, rfl⟩ := zR HC.out
   clear ho hf HA HW HF
   go_wp2_with fail
   refine (qf4 (fun _ => False) _ _ _ HC.out Y56 Y56).mono ?_
   rintro e w3 ⟨pu, rfl, ho, hf⟩
   have HA3 := Hdq (HA2.out.keep0 hf)
   have HW3 := Hdq (HW2.out.keep hf Y85)
   have HF3 := Hdq (HF2.out.trans hf)
   have HPB := Hdq (show Bs (fun b => b ∈ bs) w3 pu ((List.range 32).map (P j)) from by
    have h := ho.bs (A := fun b => b ∈ bs) (fun b hb => HW2.out.lt b hb)
    rwa [HP.out j] at h)
   obtain ⟨po, pn, pc, rfl⟩ := zR HPB.out
   obtain rfl : pn = 32 := by
    obtain ⟨a', c', e, -⟩ := HPB.out
    cases e
    simp
   clear ho hf HA2 HW2 HF2 HC
   go_wp2
   go_loopw [26] (fun i wr => ∃ k : Nat, k <= 32 /\ i = .int .i64 k /\ Hid (At wr g (.cells (bs.map sl8).toArray 22)) /\ Hid (Rws w.heap.size wr bs (rwM P j k)) /\ Hid (Fr [] w wr) /\ Hid (Bs (fun b => b ∈ bs) wr (.slice po 32 pc) ((List.range 32).map (P j)))) (fun i _ => 32 - (intOf i).toNat)
   case atStart => exact ⟨0, by omega, rfl, HA3.out, HW3.out, HF3.out, HPB.out⟩
   case round =>
    clear HA3 HW3 HF3 HPB
    obtain ⟨k, hk, rfl, HA, HW, HF, HPB⟩ := hrel
    by_cases hkn : k < 32
    ·obtain ⟨pb, pof, rfl, hcp⟩ := vS HPB.out k (P j k) (by simp [hkn])
     obtain ⟨b, hb⟩ : ∃ b, bs[k]? = some b := ⟨_, List.getElem?_eq_getElem (by have := HBL.out; omega)⟩
     obtain ⟨row, hrow⟩ : ∃ row, (rwM P j k)[k]? = some row := ⟨_, xF P j k k hkn⟩
     have hcg : wr.cell? ⟨g, k, none⟩ = some (.slice (some ⟨b, 0, none⟩) 8 8) := by
      rw [qM HA.out]
      simp [hb, sl8]
     have hbm := List.mem_of_getElem? hb
     have HAB := Hdq (HW.out.at_ k b row hb hrow)
     have hrl : row.length = 8 := by
      rw [xF P j k k hkn] at hrow
      cases hrow
      simp
     have HST := Hdq (qdK P j k hkn hjn row hrow)
     have HLO := Hdq (HW.out.lo b hbm)
     have HGN := Hdq (show b ≠ g from fun e => HGB.out (e ▸ hbm))
     have HB := Hdq hb
     have HRW := Hdq hrow
     have HBM := Hdq hbm
     obtain ⟨c, hc⟩ := exq (P j k)
     rw [hc] at hcp HST
     clear hb hrow hbm hc
     go_wp2_with (refine qw (.tmp 37) (.tmp 36) rfl rfl (.int .u8 (c.toNat : Int)) rfl rfl HAB.out (by simp [hrl]; omega) Y55 rfl ?_)
     intro w5 f5 a5 _
     have HA5 := Hdq (HA.out.keep f5 (by simpa using HGN.out.symm))
     have HW5 := Hdq (show Rws w.heap.size w5 bs (rwM P j (k + 1)) by
      rw [<- HST.out]
      refine HW.out.set k b j row c HB.out HRW.out f5 ?_
      rw [List.map_set]
      simpa [u8v] using a5)
     have HF5 := Hdq (HF.out.then f5 (by intro x hx; simp at hx; subst hx; exact .inr HLO.out))
     have HPB5 := Hdq (HPB.out.keep f5 (by intro x hx; simp at hx; subst hx; exact HBM.out))
     clear f5 a5 HA HW HF HPB hcp hcg HAB HST HLO HGN HB HRW HBM
     go_wp2
     go_roundw
     case rel => exact ⟨k + 1, by omega, by go_num, HA5.out, HW5.out, HF5.out, HPB5.out⟩
     case measure => simp [intOf]; omega
    ·have hk32 : k = 32 := by omega
     have HW5 := Hdq (show Rws w.heap.size wr bs (rwM P (j + 1) 0) by rw [<- qdF, <- hk32]; exact HW.out)
     subst hk32
     clear HW HPB
     go_wp2
     go_roundw
     case rel => exact ⟨j + 1, by omega, by go_num, HA.out, HW5.out, HF.out⟩
     case measure => simp [intOf]; omega
  ·have hj8 : j = 8 := by omega
   have HW5 := Hdq (show Rws w.heap.size wr bs (J7 (ls.map (·.2))) by rw [<- HQ.out, <- hj8]; exact HW.out)
   subst hj8
   clear HW
   have HR2 := Hdq (HR.out.keep HF.out Y85)
   go_wp2_with fail
   have hal : Fr [] wr (wr.alloc (.cells #[.slice a N cap, .slice (some ⟨g, 0, none⟩) 32 32] 35)) := Fr.alloc _ _
   have hsz := HF.out.size
   have hls : qh2 (fun _ => False) (wr.alloc (.cells #[.slice a N cap, .slice (some ⟨g, 0, none⟩) 32 32] 35)) (.slice (some ⟨wr.heap.size, 0, none⟩) 2 2) [(.slice a N cap, ls.map (·.1)), (.slice (some ⟨g, 0, none⟩) 32 32, bs.map sl8)] := by
    refine ⟨⟨_, 2, rfl, by simp, by simp [maxLen], Row.of_block (heap_alloc_new _ _) Y85⟩, fun x hx => ?_⟩
    simp only [List.mem_cons, List.not_mem_nil, or_false] at hx
    rcases hx with rfl | rfl
    ·refine ⟨(HR2.out.keep hal Y85).1, fun u hu => ?_⟩
     obtain ⟨y, hy, rfl⟩ := List.mem_map.1 hu
     obtain ⟨bo, bn, bc, e⟩ := zR (HR2.out.2 y hy)
     rw [e]; rfl
    ·refine ⟨⟨some ⟨g, 0, none⟩, 32, by simp [HBL.out], by simp [HBL.out], by simp [maxLen], ?_⟩, fun u hu => ?_⟩
     ·have h := Row.of_block (A := fun _ => False) (HA.out.keep0 hal) Y85
      simpa using h
     ·obtain ⟨y, hy, rfl⟩ := List.mem_map.1 hu
      rfl
   refine (Ke (fun _ => False) _ _ _ hls Y85 (by have := HN.out; have := HBL.out; simp [xj]; omega)).mono ?_
   rintro e w6 ⟨u, rfl, ho, hf⟩
   have HO := Hdq (show ja 22 w.heap.size w6 u (ls.map (·.1) ++ bs.map sl8) from by
    have h := ho.base (base' := w.heap.size) Y57
    simpa [xj] using h)
   have HW6 := Hdq ((HW5.out.keep hal Y85).keep hf Y85)
   have HF6 := Hdq ((HF.out.trans hal).trans hf)
   clear ho hf hls hal HW5
   go_wp2
   go_ret2
   exact ⟨_, bs, rfl, HO.out, HW6.out, HF6.out⟩
theorem qb1 (w : World) (a : Option Addr) (L cap : Nat) :
  Calls Tryz.prog 108 #[.slice a L cap, .int .i64 8] w fun e w' => e = .returned (.func (.func 167) #[] #[.pointer (some ⟨w.heap.size, 0, none⟩), .pointer (some ⟨w.heap.size + 1, 0, none⟩)]) /\ w' = (w.alloc (.cells #[.slice a L cap] 22)).alloc (.cells #[.int .i64 8] 3) := by
 go_enter Tryz.func108, Tryz.ntmps108
 go_wp2
 go_ret
 exact ⟨by simp, rfl⟩
theorem W9 (w : World) (Bs Bn b M L cap : Nat) (hL : L = 8 * M) (hM : M <= 1000) (hc1 : L <= cap) (hc2 : cap <= 2 ^ 63 - 1)
  (hBs : w.cell? ⟨Bs, 0, none⟩ = some (.slice (some ⟨b, 0, none⟩) L cap)) (hBn : w.cell? ⟨Bn, 0, none⟩ = some (.int .i64 8)) :
  Calls Tryz.prog 148 #[.func (.func 167) #[] #[.pointer (some ⟨Bs, 0, none⟩), .pointer (some ⟨Bn, 0, none⟩)]] w fun e w' => ∃ v, e = .returned v /\ ja 22 w.heap.size w' v ((List.range M).map (ckV b)) /\ Fr [] w w' := by
 have HA := Hdq (callsIn_wide.1 (qe6 Fence.wide 3 trivial trivial rfl Y54 Bs Bn b M L cap hL hM hc1 hc2 w hBs hBn (Yo hBs) (Yo hBn)))
 clear hBs hBn
 go_enter Tryz.func148, Tryz.ntmps148
 go_wp2_with fail
 refine HA.out.mono ?_
 rintro e w1 ⟨v, rfl, ho, hb⟩
 have HO := Hdq (show ja 22 w.heap.size w1 v ((List.range M).map (ckV b)) by unfold ja; rw [List.length_map, List.length_range]; exact ho)
 have HF := Hdq (Fr.of_below hb)
 clear ho hb
 exact Y7
def ckL (b M : Nat) (xs : List UInt8) : List (Value × List UInt8) := (List.range M).map fun k => (ckV b k, (xs.drop (8 * k)).take 8)
theorem qc3 (b M : Nat) (xs : List UInt8) : (ckL b M xs).map (·.2) = ut M xs := by
 apply List.ext_getElem?
 intro k
 rcases Nat.lt_or_ge k M with h | h
 ·rw [QM M k xs h]
  simp [ckL, h]
 ·rw [List.getElem?_eq_none (by simp [ckL]; exact h), List.getElem?_eq_none (by rw [zS]; exact h)]
theorem qgQ {w : World} {base b L cap : Nat} {xs : List UInt8} (h : qt 5 base w (.slice (some ⟨b, 0, none⟩) L cap) xs) (k : Nat) (hk : 8 * k + 8 <= xs.length) : BsT w (ckV b k) ((xs.drop (8 * k)).take 8) := by
 obtain ⟨h1, h2⟩ := h
 rcases h2 with ⟨h2, -⟩ | ⟨g, cap', cur, he, hg, hh, hn, hm, hs, ht⟩
 ·cases h2
 ·cases he
  have hl : ((xs.drop (8 * k)).take 8).length = 8 := by rw [List.length_take, List.length_drop]; omega
  refine ⟨b, 8 * k, 8, cur, by unfold ckV; rw [hl], by rw [hl]; exact Nat.le_refl _, by simp [maxLen], hh, fun i hi => ?_⟩
  rw [List.length_map, hl] at hi
  have e : (cur.toList.take (xs.length * 1))[8 * k + i]? = (xs.map u8v)[8 * k + i]? := by rw [ht]
  rw [List.getElem?_take, if_pos Y54, Array.getElem?_toList] at e
  rw [e, List.map_take, List.map_drop, List.getElem?_take, if_pos hi, List.getElem?_drop]
theorem qfy {base : Nat} {w : World} {bs : List Nat} {rows : List (List UInt8)} (h : Rws base w bs rows) (h8 : ∀ r ∈ rows, r.length = 8) (i b : Nat) (r : List UInt8) (hb : bs[i]? = some b) (hr : rows[i]? = some r) : BsT w (sl8 b) r := by
 have h3 := h.at_ i b r hb hr
 have hl := h8 r (List.mem_of_getElem? hr)
 exact ⟨b, 0, 8, _, by unfold sl8; rw [hl], by omega, by simp [maxLen], h3, fun i hi => by simp⟩
end Go.Proofs.YtdloaifdpajcjaaGreatDoor
