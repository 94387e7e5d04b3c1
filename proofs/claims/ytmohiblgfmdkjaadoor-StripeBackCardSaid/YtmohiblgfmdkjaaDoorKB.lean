/-
  slices.Chunk of bytes in eights: its contract as an iterator.
  slices.Collect over slices.Chunk in eights.
-/
import Derived.Test.YtmohiblgfmdkjaaDoorGO
import Derived.Shelf.RegionOpen
import Derived.Maps.AppendAt
namespace Go.Proofs.YtmohiblgfmdkjaaDoor
open Go.RowKit Go.Bl Go.Shelf
set_option linter.unusedVariables false
attribute [local go_sem] Oper.semAt_some

def ckV (b k : Nat) : Value := .slice (some ⟨b, 8 * k, none⟩) 8 8
set_option maxRecDepth 100000 in
set_option maxHeartbeats 1000000 in
theorem chunk1_in (Fe : Fence) (n : Nat) (hF1 : Fe.fn 49) (hro : Fe.round = none) (hn : 1 ≤ n) (l Bs Bn n₀ b M L cap : Nat) (hL : L = 8 * M) (hM : M ≤ 1000) (hc1 : L ≤ cap) (hc2 : cap ≤ 2 ^ 63 - 1) (J Jx : List Nat → World → Prop)
    (hY : ∀ pre x W, J pre W → pre.length < M → YieldAt Fe (n - 1) Tryd.prog l #[ckV b x] W fun e W' =>
      (e = .returned (.bool true) ∧ J (pre ++ [x]) W' ∧ Below n₀ W W') ∨ (e = .returned (.bool false) ∧ Jx (pre ++ [x]) W'))
    (W : World) (hBs : W.cell? ⟨Bs, 0, none⟩ = some (.slice (some ⟨b, 0, none⟩) L cap)) (hBn : W.cell? ⟨Bn, 0, none⟩ = some (.int .i64 8)) (hs : Bs < n₀) (hn' : Bn < n₀) (hJ : AbidesFrom W.heap.size J) (h0 : J [] W) :
    CallsIn Fe n Tryd.prog 49 #[.func (.yield l) #[] #[], .pointer (some ⟨Bs, 0, none⟩), .pointer (some ⟨Bn, 0, none⟩)] W fun e W' => (∃ v, e = .returned v) ∧
      ((∃ ys, ys = List.range M ∧ J ys W') ∨ (∃ pre, (∃ k, k ≤ M ∧ pre = List.range k) ∧ Jx pre W')) := by
  have HL := Lib.hid hL
  have hL9 : L ≤ 9000 := by omega
  clear hL
  refine callsIn_of_wp Tryd.func49 rfl hF1 ?_ hro
  simp only [Tryd.ntmps49, List.size_toArray, List.length_cons, List.length_nil, Nat.reduceAdd, Nat.reduceSub, Array.replicate_succ, Array.replicate_zero, List.push_toArray, List.append_toArray, List.nil_append, List.cons_append]
  gi_wp2
  gi_loopw [4] (fun i wr => ∃ k o : Nat, k ≤ M ∧ o = 8 * k ∧ i = .int .i64 o ∧ J (List.range k) wr ∧ Below n₀ W wr)
    (fun i _ => L - (intOf i).toNat)
  case atStart => exact ⟨0, 0, Nat.zero_le _, rfl, rfl, h0, Below.refl _ _⟩
  case round =>
    obtain ⟨k, o, hk, ho, rfl, hJs, hnx⟩ := hrel
    have hBs' := (hnx.cell (p := ⟨Bs, 0, none⟩) hs).trans hBs
    have hBn' := (hnx.cell (p := ⟨Bn, 0, none⟩) hn').trans hBn
    by_cases hkm : k < M
    · have hJd : J (List.range k) wr.drew := hJ _ wr wr.drew none hJs ⟨rfl, rfl, rfl, Nat.le_refl _, fun _ _ _ => rfl⟩ (fun r e => by cases e)
      obtain ⟨fn, tmps, assign, body, hy, hR⟩ := hY _ k wr.drew hJd (by rw [List.length_range]; exact hkm)
      have hst := List.range_succ (n := k)
      unfold ckV at hy
      rw [← ho] at hy
      have i1 : o + 8 ≤ L := by have := HL.out; omega
      have hmin : (if ((L - o : Nat) : Int) < 8 then ((L - o : Nat) : Int) else 8) = 8 := by rw [if_neg (by omega)]
      have hnd : Below n₀ W wr.drew := hnx.trans ⟨rfl, rfl, rfl, Nat.le_refl _, fun _ _ => rfl⟩
      have hBs2 : wr.drew.cell? ⟨Bs, 0, none⟩ = some (.slice (some ⟨b, 0, none⟩) L cap) := hBs'
      have hBn2 : wr.drew.cell? ⟨Bn, 0, none⟩ = some (.int .i64 8) := hBn'
      have HO := Lib.hid ho
      have HST := Lib.hid hst
      clear ho hst
      gi_wp2
      gi_region
      all_goals
        obtain ⟨wd, hwd⟩ : ∃ wd, wr.drew = wd := ⟨_, rfl⟩
        rw [hwd] at hy hR hnd hBs2 hBn2 ⊢
        clear hBs' hBn' hJd hnx hJs hmin
        gi_wp2
        refine hR.mono ?_
        rintro e W3 (⟨rfl, hJ3, hk3⟩ | ⟨rfl, hJx3⟩)
        · have hBs3 := (hk3.cell (p := ⟨Bs, 0, none⟩) hs).trans hBs2
          have hBn3 := (hk3.cell (p := ⟨Bn, 0, none⟩) hn').trans hBn2
          gi_wp2
          go_roundw
          case rel => exact ⟨k + 1, o + 8, by omega, by have := HO.out; omega, by simp, by rw [HST.out]; exact hJ3, hnd.trans hk3⟩
          case measure => simp [intOf]; omega
        · gi_wp2
          refine bodyPost_ret (results_none rfl _ _ _) rfl ?_
          exact ⟨⟨_, rfl⟩, .inr ⟨_, ⟨k + 1, by omega, HST.out.symm⟩, hJx3⟩⟩
    · have : k = M := by omega
      subst this
      have i2 : ¬ o < L := by have := HL.out; omega
      clear ho
      gi_wp2
      go_end0
      exact ⟨⟨_, rfl⟩, .inl ⟨_, rfl, hJs⟩⟩
end Go.Proofs.YtmohiblgfmdkjaaDoor
namespace Go.Proofs.YtmohiblgfmdkjaaDoor
open Go.RowKit Go.Bl Go.Shelf
set_option linter.unusedVariables false
attribute [local go_sem] Oper.semAt_some

theorem chunk_stops (Fe : Fence) (n : Nat) (hF1 : Fe.fn 49) (hro : Fe.round = none) (hn : 1 ≤ n) (Bs Bn n₀ b M L cap : Nat) (hL : L = 8 * M) (hM : M ≤ 1000) (hc1 : L ≤ cap) (hc2 : cap ≤ 2 ^ 63 - 1) (w : World)
    (hBs : w.cell? ⟨Bs, 0, none⟩ = some (.slice (some ⟨b, 0, none⟩) L cap)) (hBn : w.cell? ⟨Bn, 0, none⟩ = some (.int .i64 8)) (hs : Bs < n₀) (hn' : Bn < n₀) (hn₀ : n₀ ≤ w.heap.size) :
    SeqStopsK Fe n Tryd.prog 49 #[.pointer (some ⟨Bs, 0, none⟩), .pointer (some ⟨Bn, 0, none⟩)] (fun x : Nat => #[ckV b x]) (Below n₀) (fun ys => ys = List.range M) (fun pre => ∃ k, k ≤ M ∧ pre = List.range k) M w := fun l J Jx W hW hJ _ hY h0 =>
  chunk1_in Fe n hF1 hro hn l Bs Bn n₀ b M L cap hL hM hc1 hc2 J Jx hY W ((hW.cell (p := ⟨Bs, 0, none⟩) (show Bs < w.heap.size by omega)).trans hBs) ((hW.cell (p := ⟨Bn, 0, none⟩) (show Bn < w.heap.size by omega)).trans hBn) hs hn' hJ h0

set_option maxRecDepth 100000 in
set_option maxHeartbeats 1500000 in
theorem apseq_in (Fe : Fence) (n : Nat) (h3 : Fe.fn 48) (h8 : Fe.fn 49) (hro : Fe.round = none) (hn : 3 ≤ n) (Bs Bn b M L cap : Nat) (hL : L = 8 * M) (hM : M ≤ 1000) (hc1 : L ≤ cap) (hc2 : cap ≤ 2 ^ 63 - 1) (w : World)
    (hBs : w.cell? ⟨Bs, 0, none⟩ = some (.slice (some ⟨b, 0, none⟩) L cap)) (hBn : w.cell? ⟨Bn, 0, none⟩ = some (.int .i64 8)) (hs : Bs < w.heap.size) (hn' : Bn < w.heap.size) :
    CallsIn Fe n Tryd.prog 48 #[.slice none 0 0, .func (.func 49) #[] #[.pointer (some ⟨Bs, 0, none⟩), .pointer (some ⟨Bn, 0, none⟩)]] w fun e W' => ∃ v, e = .returned v ∧ W'.ownsRow w.heap.size 22 1 v M ((List.range M).map (ckV b)) ∧ Below w.heap.size w W' := by
  have h1 : 1 ≤ n := by omega
  obtain ⟨i0, hi, hz0, hz1, hz2⟩ := info_parts (show (Tryd.prog.info? 22).map (fun i => (i.zero, i.size, i.bytes)) = some (some (.slice none 0 0), 1, 24) by kernel_rfl)
  refine callsIn_of_wp_marks Tryd.func48 rfl h3 ?_ hro
  simp only [Tryd.ntmps48, List.size_toArray, List.length_cons, List.length_nil, Nat.reduceAdd, Nat.reduceSub, Array.replicate_succ, Array.replicate_zero, List.push_toArray, List.append_toArray, List.nil_append, List.cons_append]
  gi_wp2
  have bO := Boxed.new w 25 (.slice none 0 0)
  have hB0 : Below w.heap.size w (w.alloc (.cells #[.slice none 0 0] 25)) := (Below.refl _ w).alloc (Nat.le_refl _) _
  refine wpIn_rangeFunc_ownG hro h1 (gf := 49) (lb := #[.pointer (some ⟨Bs, 0, none⟩), .pointer (some ⟨Bn, 0, none⟩)]) rfl h8 (enters_of Tryd.func49 (by kernel_rfl) rfl)
    (chunk_stops Fe (n - 1) h8 hro (by omega) Bs Bn w.heap.size b M L cap hL hM hc1 hc2 _ ((hB0.cell (p := ⟨Bs, 0, none⟩) hs).trans hBs) ((hB0.cell (p := ⟨Bn, 0, none⟩) hn').trans hBn) hs hn' (by simp)) belowK_t (belowK_b (by simp)) (Below.refl _ _) (fun _ => rfl)
    (fun pre W => (∃ v, Boxed W w.heap.size 25 v ∧ W.ownsRow w.heap.size 22 1 v pre.length (pre.map (ckV b)) ∧ (v = .slice none 0 0 ↔ pre = [])) ∧ Below w.heap.size w W)
    (fun _ _ _ => False)
    (OwnFrom.and (Own.from (holdsRow_own w.heap.size w.heap.size 25 22 1 (fun pre => pre.length) (fun pre => pre.map (ckV b)) (fun pre v => v = .slice none 0 0 ↔ pre = [])) _) (ownFrom_below (Nat.le_refl _) (by simp)))
    (fun _ _ _ _ _ hs _ _ => hs)
    ⟨⟨_, bO, World.ownsRow_nil _ _ _ _, by simp⟩, hB0⟩
    (fun x => { tmps := #[.slice none 0 0, .func (.func 49) #[] #[.pointer (some ⟨Bs, 0, none⟩), .pointer (some ⟨Bn, 0, none⟩)], .pointer (some ⟨w.heap.size, 0, none⟩), undef, .slice none 0 0, ckV b x, .func (.func 49) #[] #[.pointer (some ⟨Bs, 0, none⟩), .pointer (some ⟨Bn, 0, none⟩)], ckV b x, undef, undef, undef, undef, undef], defers := [] }) ?assign ?body ?done ?stop
  case assign =>
    intro l x W K hK
    gi_wp2
    exact hK
  case body =>
    rintro l pre x W ⟨⟨v, hv, hrow, hnil⟩, hB⟩ hlt
    have hc := hv.cell
    unfold ckV
    gi_wp2_with (gi_at_builtin; refine wpListIn_append_own _ rfl _ _ 25 rfl w.heap.size 22 i0 (.slice none 0 0) 1 24 Tryd.underlying25 hi hz0 hz1 hz2 rfl (by decide) _ _ _ rfl (hrow.alloc _) ⟨W.heap.size, 0, none⟩ 1 1 [.slice (some ⟨b, 8 * x, none⟩) 8 8] rfl rfl (cell_one_new _ _ _) (by simp [Value.oneCell']) (by simp only [maxLen]; omega) (by omega) (by have := hB.size; simp; omega) ?_; intro v' w1 hown' hgrow _; obtain ⟨g', cap', rfl⟩ := ownsRow_succ hown'; obtain ⟨hv1, hv2, hr2, hk2, hb2⟩ := hv.appended (by decide) hrow hB.size (Nat.le_refl _) hown' hgrow; have hc1 := hv1.cell; have hf1 := hv1.frozen)
    exact ⟨hk2.from _, hb2, ⟨_, hv2, by have h := hr2; rw [List.map_append, List.length_append]; exact h, by simp⟩, hB.trans hb2⟩
  case done =>
    rintro D ys W hD rfl ⟨⟨v, hv, hrow, hnil⟩, hB⟩ hK
    have hc := hv.cell
    rw [List.length_range] at hrow
    gi_wp2
    refine ⟨by simp, .inl ⟨_, _, rfl, run_takeDeferred hK, ?_⟩⟩
    exact ⟨_, results_tmp rfl _ _ _, v, rfl, ownsRow_putObj hrow _ hK rfl, hB.trans (belowK_b (w := w) (Nat.le_refl _) W D _ _ (by simp at hD; omega) hK rfl rfl)⟩
  case stop =>
    rintro D c pre W _ _ h _
    exact h.elim
end Go.Proofs.YtmohiblgfmdkjaaDoor
