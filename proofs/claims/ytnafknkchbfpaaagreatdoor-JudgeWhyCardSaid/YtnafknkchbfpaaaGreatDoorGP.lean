import Derived.Test.YtnafknkchbfpaaaGreatDoorGD
import Derived.RangeFuncBox
import Derived.OwnWalkIn
import Derived.LoopNIn
import Derived.LoopIn
import Derived.Shelf.RegionOpen
import Derived.Test.YtnafknkchbfpaaaGreatDoorGH
set_option linter.unusedVariables false
set_option linter.unusedSimpArgs false
set_option maxRecDepth 1000000
set_option maxHeartbeats 8000000
namespace Go.Proofs.YtnafknkchbfpaaaGreatDoor
open Go.RowKit Go.Bl Go.Shelf
attribute [local go_sem] Oper.semAt_some
def BwI (n₀ : Nat) (W : World) (sv : Value) (zs : List UInt8) : Prop :=
 (sv = .slice none 0 0 /\ zs = []) ∨ ∃ b off cap, sv = .slice (some ⟨b, off, none⟩) zs.length cap /\ b < n₀ /\ ∀ j, j < zs.length -> W.cell? ⟨b, off + j, none⟩ = some (.int .u8 ((zs.getD j 0).toNat : Int))
theorem BwI.below {n₀ : Nat} {A B : World} (h : Below n₀ A B) {sv : Value} {zs : List UInt8} : BwI n₀ A sv zs -> BwI n₀ B sv zs
 | .inl e => .inl e
 | .inr ⟨b, off, cap, e, hb, hc⟩ => .inr ⟨b, off, cap, e, hb, fun j hj => (h.cell (p := ⟨b, off + j, none⟩) hb).trans (hc j hj)⟩
attribute [local go_sem] Oper.semAt_some
def zL (K : List Nat) (A B : World) : Prop := ∀ g ∈ K, ∀ o, A.heap[g]? = some o -> B.heap[g]? = some o
theorem zL.refl (K : List Nat) (A : World) : zL K A A := fun _ _ _ h => h
theorem zL.trans {K : List Nat} {A B C : World} (h : zL K A B) (k : zL K B C) : zL K A C := fun g hg o ho => k g hg o (h g hg o ho)
theorem zL.cell {K : List Nat} {A B : World} (h : zL K A B) {g i : Nat} (hg : g ∈ K) {v : Value} (hc : A.cell? ⟨g, i, none⟩ = some v) : B.cell? ⟨g, i, none⟩ = some v := by
 unfold World.cell? at hc ⊢
 cases ho : A.heap[g]? with
 | none => rw [ho] at hc; exact absurd hc Y77
 | some o =>
  rw [ho] at hc
  rw [h g hg o ho]
  exact hc
theorem zL.of_fr {K S : List Nat} {A B : World} (h : Fr S A B) (hd : ∀ g ∈ K, g ∉ S) : zL K A B := fun g hg o ho => h.keep ho (hd g hg)
attribute [local go_sem] Oper.semAt_some
def ckW (b k : Nat) : Value := .slice (some ⟨b, 64 * k, none⟩) 64 64
theorem qaf (Fe : Fence) (n : Nat) (hF1 : Fe.fn 173) (hro : Fe.round = none) (hn : 1 <= n) (l Bs Bn b M L cap : Nat) (K : List Nat) (hL : L = 64 * M) (hM : M <= 1000) (hc1 : L <= cap) (hc2 : cap <= 2 ^ 63 - 1) (J Jx : Nat -> World -> Prop)
  (hY : ∀ k W, k < M -> J k W -> YieldAt Fe (n - 1) Tryz.prog l #[ckW b k] W fun e W' =>
   (e = .returned (.bool true) /\ J (k + 1) W' /\ zL K W W') ∨ (e = .returned (.bool false) /\ Jx (k + 1) W'))
  (W : World) (hBs : W.cell? ⟨Bs, 0, none⟩ = some (.slice (some ⟨b, 0, none⟩) L cap)) (hBn : W.cell? ⟨Bn, 0, none⟩ = some (.int .i64 64)) (hs : Bs ∈ K) (hn' : Bn ∈ K) (hJ : AbidesFrom W.heap.size J) (h0 : J 0 W) :
  CallsIn Fe n Tryz.prog 173 #[.func (.yield l) #[] #[], .pointer (some ⟨Bs, 0, none⟩), .pointer (some ⟨Bn, 0, none⟩)] W fun e W' => (∃ v, e = .returned v) /\
   (J M W' ∨ (∃ k, k <= M /\ Jx k W')) := by
 have HL := Hdq hL
 have hL9 : L <= 64000 := by omega
 clear hL
 refine callsIn_of_wp Tryz.func173 rfl hF1 ?_ hro
 simp only [Tryz.ntmps173, List.size_toArray, List.length_cons, List.length_nil, Nat.reduceAdd, Nat.reduceSub, Array.replicate_succ, Array.replicate_zero, List.push_toArray, List.append_toArray, List.nil_append, List.cons_append]
 gi_wp2
 gi_loopw [4] (fun i wr => ∃ k o : Nat, k <= M /\ o = 64 * k /\ i = .int .i64 o /\ J k wr /\ zL K W wr)
  (fun i _ => L - (intOf i).toNat)
 case atStart => exact ⟨0, 0, Nat.zero_le _, rfl, rfl, h0, zL.refl _ _⟩
 case round =>
  obtain ⟨k, o, hk, ho, rfl, hJs, hnx⟩ := hrel
  have hBs' := hnx.cell hs hBs
  have hBn' := hnx.cell hn' hBn
  by_cases hkm : k < M
  ·have hJd : J k wr.drew := hJ _ wr wr.drew none hJs ⟨rfl, rfl, rfl, Nat.le_refl _, fun _ _ _ => rfl⟩ (fun r e => by cases e)
   obtain ⟨fn, tmps, assign, body, hy, hR⟩ := hY k wr.drew hkm hJd
   unfold ckW at hy
   rw [<- ho] at hy
   have i1 : o + 64 <= L := by have := HL.out; omega
   have hmin : (if ((L - o : Nat) : Int) < 64 then ((L - o : Nat) : Int) else 64) = 64 := by rw [if_neg Y44]
   have hnd : zL K W wr.drew := fun g hg o ho => hnx g hg o ho
   have hBs2 : wr.drew.cell? ⟨Bs, 0, none⟩ = some (.slice (some ⟨b, 0, none⟩) L cap) := hBs'
   have hBn2 : wr.drew.cell? ⟨Bn, 0, none⟩ = some (.int .i64 64) := hBn'
   have HO := Hdq ho
   clear ho
   gi_wp2
   gi_region
   all_goals
    obtain ⟨wd, hwd⟩ := exq (wr.drew)
    rw [hwd] at hy hR hnd hBs2 hBn2 ⊢
    clear hBs' hBn' hJd hnx hJs hmin
    gi_wp2
    refine hR.mono ?_
    rintro e W3 (⟨rfl, hJ3, hk3⟩ | ⟨rfl, hJx3⟩)
    ·have hBs3 := hk3.cell hs hBs2
     have hBn3 := hk3.cell hn' hBn2
     gi_wp2
     go_roundw
     case rel => exact ⟨k + 1, o + 64, by omega, by have := HO.out; omega, by simp, hJ3, hnd.trans hk3⟩
     case measure => simp [intOf]; omega
    ·gi_wp2
     refine bodyPost_ret (results_none rfl _ _ _) rfl ?_
     exact ⟨⟨_, rfl⟩, .inr ⟨k + 1, by omega, hJx3⟩⟩
  ·have : k = M := by omega
   subst this
   have i2 : ¬ o < L := by have := HL.out; omega
   clear ho
   gi_wp2
   go_end0
   exact ⟨⟨_, rfl⟩, .inl hJs⟩
def upF (M k : Nat) : List {x : Nat // x < M} := (List.range k).filterMap fun x => if h : x < M then some ⟨x, h⟩ else none
theorem Uj (M k : Nat) (h : k < M) : upF M (k + 1) = upF M k ++ [⟨k, h⟩] := by
 rw [upF, List.range_succ, List.filterMap_append]
 simp [upF, h]
theorem LY (M : Nat) : ∀ k, k <= M -> (upF M k).length = k
 | 0, _ => rfl
 | k + 1, h => by rw [Uj M k Y44, List.length_append, LY M k Y44]; rfl
theorem V0 (Fe : Fence) (n : Nat) (hF1 : Fe.fn 173) (hro : Fe.round = none) (hn : 1 <= n) (Bs Bn b M L cap : Nat) (K : List Nat) (hL : L = 64 * M) (hM : M <= 1000) (hc1 : L <= cap) (hc2 : cap <= 2 ^ 63 - 1) (w : World)
  (hBs : w.cell? ⟨Bs, 0, none⟩ = some (.slice (some ⟨b, 0, none⟩) L cap)) (hBn : w.cell? ⟨Bn, 0, none⟩ = some (.int .i64 64)) (hs : Bs ∈ K) (hn' : Bn ∈ K) (h1 : Bs < w.heap.size) (h2 : Bn < w.heap.size) :
  SeqStopsK Fe n Tryz.prog 173 #[.pointer (some ⟨Bs, 0, none⟩), .pointer (some ⟨Bn, 0, none⟩)] (fun x : {x : Nat // x < M} => #[ckW b x.1]) (zL K) (fun ys => ys = upF M M) (fun pre => ∃ k, k <= M /\ pre = upF M k) M w := fun l J Jx W hW hJ _ hY h0 =>
 (qaf Fe n hF1 hro hn l Bs Bn b M L cap K hL hM hc1 hc2 (fun k => J (upF M k)) (fun k => Jx (upF M k)) (fun k W1 hk hj => by
  have h := hY (upF M k) ⟨k, hk⟩ W1 hj (by rw [LY M k Y44]; exact hk)
  rw [<- Uj M k hk] at h
  exact h) W ((hW.cell (p := ⟨Bs, 0, none⟩) h1).trans hBs) ((hW.cell (p := ⟨Bn, 0, none⟩) h2).trans hBn) hs hn' (fun k => hJ (upF M k)) h0).mono (by
  rintro e W' ⟨hv, hj | ⟨k, hk, hj⟩⟩
  ·exact ⟨hv, .inl ⟨_, rfl, hj⟩⟩
  ·exact ⟨hv, .inr ⟨_, ⟨k, hk, rfl⟩, hj⟩⟩)
attribute [local go_sem] Oper.semAt_some
end Go.Proofs.YtnafknkchbfpaaaGreatDoor
