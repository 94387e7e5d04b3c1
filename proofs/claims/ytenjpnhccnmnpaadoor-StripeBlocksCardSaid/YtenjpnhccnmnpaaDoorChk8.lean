/-
  slices.Chunk of bytes in eights: its contract as an iterator.
-/
import Derived.Test.YtenjpnhccnmnpaaDoorDeg
import Derived.Shelf.RegionOpen
namespace Go.Proofs.YtenjpnhccnmnpaaDoor
open Go.RowKit Go.Bl Go.Shelf
set_option linter.unusedVariables false
attribute [local go_sem] Oper.semAt_some

def ckV (b k : Nat) : Value := .slice (some ⟨b, 8 * k, none⟩) 8 8
set_option maxRecDepth 100000 in
set_option maxHeartbeats 1000000 in
theorem chunk1_in (Fe : Fence) (n : Nat) (hF1 : Fe.fn 24) (hro : Fe.round = none) (hn : 1 ≤ n) (l Bs Bn n₀ b M L cap : Nat) (hL : L = 8 * M) (hM : M ≤ 1000) (hc1 : L ≤ cap) (hc2 : cap ≤ 2 ^ 63 - 1) (J Jx : List Nat → World → Prop)
    (hY : ∀ pre x W, J pre W → pre.length < M → YieldAt Fe (n - 1) Tryd.prog l #[ckV b x] W fun e W' =>
      (e = .returned (.bool true) ∧ J (pre ++ [x]) W' ∧ Below n₀ W W') ∨ (e = .returned (.bool false) ∧ Jx (pre ++ [x]) W'))
    (W : World) (hBs : W.cell? ⟨Bs, 0, none⟩ = some (.slice (some ⟨b, 0, none⟩) L cap)) (hBn : W.cell? ⟨Bn, 0, none⟩ = some (.int .i64 8)) (hs : Bs < n₀) (hn' : Bn < n₀) (hJ : AbidesFrom W.heap.size J) (h0 : J [] W) :
    CallsIn Fe n Tryd.prog 24 #[.func (.yield l) #[] #[], .pointer (some ⟨Bs, 0, none⟩), .pointer (some ⟨Bn, 0, none⟩)] W fun e W' => (∃ v, e = .returned v) ∧
      ((∃ ys, ys = List.range M ∧ J ys W') ∨ (∃ pre, (∃ k, k ≤ M ∧ pre = List.range k) ∧ Jx pre W')) := by
  have HL := Lib.hid hL
  have hL9 : L ≤ 9000 := by omega
  clear hL
  refine callsIn_of_wp Tryd.func24 rfl hF1 ?_ hro
  simp only [Tryd.ntmps24, List.size_toArray, List.length_cons, List.length_nil, Nat.reduceAdd, Nat.reduceSub, Array.replicate_succ, Array.replicate_zero, List.push_toArray, List.append_toArray, List.nil_append, List.cons_append]
  gi_wp2
  gi_loopw [4] (fun i wr => ∃ k o : Nat, k ≤ M ∧ o = 8 * k ∧ i = .int .i64 o ∧ J (List.range k) wr ∧ Below n₀ W wr)
    (fun i _ => L - (intOf i).toNat)
  case atStart => exact ⟨0, 0, Nat.zero_le _, rfl, rfl, h0, Below.refl _ _⟩
  case round =>
    obtain ⟨k, o, hk, ho, rfl, hJs, hnx⟩ := hrel
    have hBs' := (hnx.cell (p := ⟨Bs, 0, none⟩) hs).trans hBs
    have hBn' := (hnx.cell (p := ⟨Bn, 0, none⟩) hn').trans hBn
    by_cases hkm : k < M
    · have hJd : J (List.range k) wr.drew := hJ _ wr wr.drew none hJs ⟨rfl, rfl, rfl, Nat.le_refl _, fun _ _ _ => rfl⟩ (fun r e => by cases e)
      obtain ⟨fn, tmps, assign, body, hy, hR⟩ := hY _ k wr.drew hJd (by rw [List.length_range]; exact hkm)
      have hst := List.range_succ (n := k)
      unfold ckV at hy
      rw [← ho] at hy
      have i1 : o + 8 ≤ L := by have := HL.out; omega
      have hmin : (if ((L - o : Nat) : Int) < 8 then ((L - o : Nat) : Int) else 8) = 8 := by rw [if_neg (by omega)]
      have hnd : Below n₀ W wr.drew := hnx.trans ⟨rfl, rfl, rfl, Nat.le_refl _, fun _ _ => rfl⟩
      have hBs2 : wr.drew.cell? ⟨Bs, 0, none⟩ = some (.slice (some ⟨b, 0, none⟩) L cap) := hBs'
      have hBn2 : wr.drew.cell? ⟨Bn, 0, none⟩ = some (.int .i64 8) := hBn'
      have HO := Lib.hid ho
      have HST := Lib.hid hst
      clear ho hst
      gi_wp2
      gi_region
      all_goals
        obtain ⟨wd, hwd⟩ : ∃ wd, wr.drew = wd := ⟨_, rfl⟩
        rw [hwd] at hy hR hnd hBs2 hBn2 ⊢
        clear hBs' hBn' hJd hnx hJs hmin
        gi_wp2
        refine hR.mono ?_
        rintro e W3 (⟨rfl, hJ3, hk3⟩ | ⟨rfl, hJx3⟩)
        · have hBs3 := (hk3.cell (p := ⟨Bs, 0, none⟩) hs).trans hBs2
          have hBn3 := (hk3.cell (p := ⟨Bn, 0, none⟩) hn').trans hBn2
          gi_wp2
          go_roundw
          case rel => exact ⟨k + 1, o + 8, by omega, by have := HO.out; omega, by simp, by rw [HST.out]; exact hJ3, hnd.trans hk3⟩
          case measure => simp [intOf]; omega
        · gi_wp2
          refine bodyPost_ret (results_none rfl _ _ _) rfl ?_
          exact ⟨⟨_, rfl⟩, .inr ⟨_, ⟨k + 1, by omega, HST.out.symm⟩, hJx3⟩⟩
    · have : k = M := by omega
      subst this
      have i2 : ¬ o < L := by have := HL.out; omega
      clear ho
      gi_wp2
      go_end0
      exact ⟨⟨_, rfl⟩, .inl ⟨_, rfl, hJs⟩⟩
end Go.Proofs.YtenjpnhccnmnpaaDoor
