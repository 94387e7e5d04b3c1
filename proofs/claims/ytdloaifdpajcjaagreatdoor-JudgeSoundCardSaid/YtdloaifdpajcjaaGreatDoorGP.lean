import Derived.Test.YtdloaifdpajcjaaGreatDoorGD
import Derived.RangeFuncBox
import Derived.OwnWalkIn
import Derived.LoopNIn
import Derived.LoopIn
import Derived.Shelf.RegionOpen
import Derived.Test.YtdloaifdpajcjaaGreatDoorGH
set_option linter.unusedVariables false
set_option linter.unusedSimpArgs false
set_option maxRecDepth 1000000
set_option maxHeartbeats 8000000
namespace Go.Proofs.YtdloaifdpajcjaaGreatDoor
open Go.RowKit Go.Bl Go.Shelf
attribute [local go_sem] Oper.semAt_some
def vu {α : Type} (f : Nat -> α) (k : Nat) : List α := (List.range k).map f
theorem Vu {α : Type} (f : Nat -> α) (k : Nat) : vu f (k + 1) = vu f k ++ [f k] := by simp [vu, List.range_succ]
theorem Ys {α : Type} (f : Nat -> α) (k : Nat) : (vu f k).length = k := by simp [vu]
def bwF (zs : List UInt8) (j : Nat) : Nat × Nat := (zs.length - 1 - j, (zs.getD (zs.length - 1 - j) 0).toNat)
theorem qf9 (Fe : Fence) (n : Nat) (hF1 : Fe.fn 278) (hro : Fe.round = none) (hn : 1 <= n) (l Bs n₀ b off len cap : Nat) (zs : List UInt8) (hlen : zs.length = len) (hreach : len <= 1000000) (hb : b < n₀) (J Jx : List (Nat × Nat) -> World -> Prop)
  (hY : ∀ pre x W, J pre W -> pre.length < len -> YieldAt Fe (n - 1) Tryz.prog l #[.int .i64 (x.1 : Int), .int .u8 (x.2 : Int)] W fun e W' =>
   (e = .returned (.bool true) /\ J (pre ++ [x]) W' /\ Below n₀ W W') ∨ (e = .returned (.bool false) /\ Jx (pre ++ [x]) W'))
  (W : World) (hBs : W.cell? ⟨Bs, 0, none⟩ = some (.slice (some ⟨b, off, none⟩) len cap)) (hc : ∀ j, j < len -> W.cell? ⟨b, off + j, none⟩ = some (.int .u8 ((zs.getD j 0).toNat : Int))) (h0 : J [] W) (hBn : Bs < n₀) :
  CallsIn Fe n Tryz.prog 278 #[.func (.yield l) #[] #[], .pointer (some ⟨Bs, 0, none⟩)] W fun e W' => (∃ v, e = .returned v) /\
   ((∃ ys, ys = vu (bwF zs) len /\ J ys W') ∨ (∃ pre, (∃ k, k <= len /\ pre = vu (bwF zs) k) /\ Jx pre W')) := by
 refine callsIn_of_wp Tryz.func278 rfl hF1 ?_ hro
 simp only [Tryz.ntmps278, List.size_toArray, List.length_cons, List.length_nil, Nat.reduceAdd, Nat.reduceSub, Array.replicate_succ, Array.replicate_zero, List.push_toArray, List.append_toArray, List.nil_append, List.cons_append]
 gi_wp2
 gi_loopw [3] (fun i wr => ∃ k : Nat, k <= len /\ i = .int .i64 ((k : Int) - 1) /\ J (vu (bwF zs) (len - k)) wr /\ Below n₀ W wr)
  (fun i _ => (intOf i + 1).toNat)
 case atStart => exact ⟨len, Nat.le_refl _, by go_num, by rw [Nat.sub_self]; exact h0, Below.refl _ _⟩
 case round =>
  obtain ⟨k, hk, rfl, hJs, hnx⟩ := hrel
  have hBs' := (hnx.cell (p := ⟨Bs, 0, none⟩) hBn).trans hBs
  cases k with
  | zero =>
   rw [Nat.sub_zero] at hJs
   gi_wp2
   go_end0
   exact ⟨⟨_, rfl⟩, .inl ⟨_, rfl, hJs⟩⟩
  | succ k =>
   have hx : bwF zs (len - (k + 1)) = (k, (zs.getD k 0).toNat) := by
    unfold bwF
    rw [hlen, show len - 1 - (len - (k + 1)) = k by omega]
   have hcx : wr.cell? ⟨b, off + k, none⟩ = some (.int .u8 ((zs.getD k 0).toNat : Int)) := (hnx.cell (p := ⟨b, off + k, none⟩) hb).trans (hc k Y54)
   have hji : ((k + 1 : Nat) : Int) - 1 = k := by omega
   rw [hji]
   obtain ⟨z, hz⟩ := exq ((zs.getD k 0).toNat)
   rw [hz] at hx hcx
   obtain ⟨fn, tmps, assign, body, hy, hR⟩ := hY _ (k, z) wr hJs (by rw [Ys]; omega)
   dsimp only at hy
   have hst := Vu (bwF zs) (len - (k + 1))
   rw [hx, show len - (k + 1) + 1 = len - k by omega] at hst
   gi_wp2
   refine hR.mono ?_
   rintro e W3 (⟨rfl, hJ3, hk3⟩ | ⟨rfl, hJx3⟩)
   ·gi_wp2
    go_roundw
    case rel => exact ⟨k, by omega, rfl, by rw [hst]; exact hJ3, hnx.trans hk3⟩
    case measure => simp [intOf]
   ·gi_wp2
    refine bodyPost_ret (results_none rfl _ _ _) rfl ?_
    exact ⟨⟨_, rfl⟩, .inr ⟨_, ⟨len - k, by omega, hst.symm⟩, hJx3⟩⟩
theorem WU (Fe : Fence) (n : Nat) (hF1 : Fe.fn 278) (hro : Fe.round = none) (l Bs : Nat) (J : List (Nat × Nat) -> World -> Prop) (W : World) (hBs : W.cell? ⟨Bs, 0, none⟩ = some (.slice none 0 0)) (h0 : J [] W) :
  CallsIn Fe n Tryz.prog 278 #[.func (.yield l) #[] #[], .pointer (some ⟨Bs, 0, none⟩)] W fun e W' => (∃ v, e = .returned v) /\ J [] W' := by
 refine callsIn_of_wp Tryz.func278 rfl hF1 ?_ hro
 simp only [Tryz.ntmps278, List.size_toArray, List.length_cons, List.length_nil, Nat.reduceAdd, Nat.reduceSub, Array.replicate_succ, Array.replicate_zero, List.push_toArray, List.append_toArray, List.nil_append, List.cons_append]
 gi_wp2
 gi_loopw [3] (fun i wr => i = .int .i64 (-1) /\ J [] wr) (fun _ _ => 0)
 case atStart => exact ⟨rfl, h0⟩
 case round =>
  obtain ⟨rfl, hJs⟩ := hrel
  gi_wp2
  go_end0
  exact ⟨⟨_, rfl⟩, hJs⟩
theorem qgV (Fe : Fence) (n : Nat) (hF0 : Fe.fn 276) (hro : Fe.round = none) (a : Option Addr) (len cap : Nat) (w : World) :
  CallsIn Fe n Tryz.prog 276 #[.slice a len cap] w fun e w' => e = .returned (.func (.func 278) #[] #[.pointer (some ⟨w.heap.size, 0, none⟩)]) /\ w' = w.alloc (.cells #[.slice a len cap] 22) := by
 refine callsIn_of_wp Tryz.func276 rfl hF0 ?_ hro
 simp only [Tryz.ntmps276, List.size_toArray, List.length_cons, List.length_nil, Nat.reduceAdd, Nat.reduceSub, Array.replicate_succ, Array.replicate_zero, List.push_toArray, List.append_toArray, List.nil_append, List.cons_append]
 gi_wp2
 go_ret
 exact ⟨rfl, rfl⟩
def BwI (n₀ : Nat) (W : World) (sv : Value) (zs : List UInt8) : Prop :=
 (sv = .slice none 0 0 /\ zs = []) ∨ ∃ b off cap, sv = .slice (some ⟨b, off, none⟩) zs.length cap /\ b < n₀ /\ ∀ j, j < zs.length -> W.cell? ⟨b, off + j, none⟩ = some (.int .u8 ((zs.getD j 0).toNat : Int))
theorem BwI.below {n₀ : Nat} {A B : World} (h : Below n₀ A B) {sv : Value} {zs : List UInt8} : BwI n₀ A sv zs -> BwI n₀ B sv zs
 | .inl e => .inl e
 | .inr ⟨b, off, cap, e, hb, hc⟩ => .inr ⟨b, off, cap, e, hb, fun j hj => (h.cell (p := ⟨b, off + j, none⟩) hb).trans (hc j hj)⟩
theorem qcc (Fe : Fence) (n : Nat) (hF1 : Fe.fn 278) (hro : Fe.round = none) (hn : 1 <= n) (Bs n₀ : Nat) (sv : Value) (zs : List UInt8) (hreach : zs.length <= 1000000) (w : World) (hBs : Bs < w.heap.size) (hB0 : Bs < n₀) (hn₀ : n₀ <= w.heap.size)
  (hc : w.cell? ⟨Bs, 0, none⟩ = some sv) (hI : BwI n₀ w sv zs) :
  SeqStopsK Fe n Tryz.prog 278 #[.pointer (some ⟨Bs, 0, none⟩)] (fun x : Nat × Nat => #[Value.int .i64 (x.1 : Int), Value.int .u8 (x.2 : Int)]) (Below n₀) (fun ys => ys = vu (bwF zs) zs.length)
   (fun pre => ∃ k, k <= zs.length /\ pre = vu (bwF zs) k) zs.length w := fun l J Jx W hW _ _ hY h0 => by
 have hc' := (hW.cell (p := ⟨Bs, 0, none⟩) hBs).trans hc
 rcases hI.below (hW.mono hn₀) with ⟨rfl, rfl⟩ | ⟨b, off, cap, rfl, hb, hcs⟩
 ·exact (WU Fe n hF1 hro l Bs J W hc' h0).mono fun e W' ⟨he, hj⟩ => ⟨he, .inl ⟨_, rfl, hj⟩⟩
 ·exact qf9 Fe n hF1 hro hn l Bs n₀ b off zs.length cap zs rfl hreach hb J Jx hY W hc' hcs h0 hB0
attribute [local go_sem] Oper.semAt_some
def uk (K : List Nat) (A B : World) : Prop := ∀ g ∈ K, ∀ o, A.heap[g]? = some o -> B.heap[g]? = some o
theorem uk.refl (K : List Nat) (A : World) : uk K A A := fun _ _ _ h => h
theorem uk.trans {K : List Nat} {A B C : World} (h : uk K A B) (k : uk K B C) : uk K A C := fun g hg o ho => k g hg o (h g hg o ho)
theorem uk.cell {K : List Nat} {A B : World} (h : uk K A B) {g i : Nat} (hg : g ∈ K) {v : Value} (hc : A.cell? ⟨g, i, none⟩ = some v) : B.cell? ⟨g, i, none⟩ = some v := by
 unfold World.cell? at hc ⊢
 cases ho : A.heap[g]? with
 | none => rw [ho] at hc; exact absurd hc Y85
 | some o =>
  rw [ho] at hc
  rw [h g hg o ho]
  exact hc
theorem uk.of_fr {K S : List Nat} {A B : World} (h : Fr S A B) (hd : ∀ g ∈ K, g ∉ S) : uk K A B := fun g hg o ho => h.keep ho (hd g hg)
attribute [local go_sem] Oper.semAt_some
def ckW (b k : Nat) : Value := .slice (some ⟨b, 64 * k, none⟩) 64 64
theorem qcD (Fe : Fence) (n : Nat) (hF1 : Fe.fn 167) (hro : Fe.round = none) (hn : 1 <= n) (l Bs Bn b M L cap : Nat) (K : List Nat) (hL : L = 64 * M) (hM : M <= 1000) (hc1 : L <= cap) (hc2 : cap <= 2 ^ 63 - 1) (J Jx : Nat -> World -> Prop)
  (hY : ∀ k W, k < M -> J k W -> YieldAt Fe (n - 1) Tryz.prog l #[ckW b k] W fun e W' =>
   (e = .returned (.bool true) /\ J (k + 1) W' /\ uk K W W') ∨ (e = .returned (.bool false) /\ Jx (k + 1) W'))
  (W : World) (hBs : W.cell? ⟨Bs, 0, none⟩ = some (.slice (some ⟨b, 0, none⟩) L cap)) (hBn : W.cell? ⟨Bn, 0, none⟩ = some (.int .i64 64)) (hs : Bs ∈ K) (hn' : Bn ∈ K) (hJ : AbidesFrom W.heap.size J) (h0 : J 0 W) :
  CallsIn Fe n Tryz.prog 167 #[.func (.yield l) #[] #[], .pointer (some ⟨Bs, 0, none⟩), .pointer (some ⟨Bn, 0, none⟩)] W fun e W' => (∃ v, e = .returned v) /\
   (J M W' ∨ (∃ k, k <= M /\ Jx k W')) := by
 have HL := Hdq hL
 have hL9 : L <= 64000 := by omega
 clear hL
 refine callsIn_of_wp Tryz.func167 rfl hF1 ?_ hro
 simp only [Tryz.ntmps167, List.size_toArray, List.length_cons, List.length_nil, Nat.reduceAdd, Nat.reduceSub, Array.replicate_succ, Array.replicate_zero, List.push_toArray, List.append_toArray, List.nil_append, List.cons_append]
 gi_wp2
 gi_loopw [4] (fun i wr => ∃ k o : Nat, k <= M /\ o = 64 * k /\ i = .int .i64 o /\ J k wr /\ uk K W wr)
  (fun i _ => L - (intOf i).toNat)
 case atStart => exact ⟨0, 0, Nat.zero_le _, rfl, rfl, h0, uk.refl _ _⟩
 case round =>
  obtain ⟨k, o, hk, ho, rfl, hJs, hnx⟩ := hrel
  have hBs' := hnx.cell hs hBs
  have hBn' := hnx.cell hn' hBn
  by_cases hkm : k < M
  ·have hJd : J k wr.drew := hJ _ wr wr.drew none hJs ⟨rfl, rfl, rfl, Nat.le_refl _, fun _ _ _ => rfl⟩ (fun r e => by cases e)
   obtain ⟨fn, tmps, assign, body, hy, hR⟩ := hY k wr.drew hkm hJd
   unfold ckW at hy
   rw [<- ho] at hy
   have i1 : o + 64 <= L := by have := HL.out; omega
   have hmin : (if ((L - o : Nat) : Int) < 64 then ((L - o : Nat) : Int) else 64) = 64 := by rw [if_neg Y54]
   have hnd : uk K W wr.drew := fun g hg o ho => hnx g hg o ho
   have hBs2 : wr.drew.cell? ⟨Bs, 0, none⟩ = some (.slice (some ⟨b, 0, none⟩) L cap) := hBs'
   have hBn2 : wr.drew.cell? ⟨Bn, 0, none⟩ = some (.int .i64 64) := hBn'
   have HO := Hdq ho
   clear ho
   gi_wp2
   gi_region
   all_goals
    obtain ⟨wd, hwd⟩ := exq (wr.drew)
    rw [hwd] at hy hR hnd hBs2 hBn2 ⊢
    clear hBs' hBn' hJd hnx hJs hmin
    gi_wp2
    refine hR.mono ?_
    rintro e W3 (⟨rfl, hJ3, hk3⟩ | ⟨rfl, hJx3⟩)
    ·have hBs3 := hk3.cell hs hBs2
     have hBn3 := hk3.cell hn' hBn2
     gi_wp2
     go_roundw
     case rel => exact ⟨k + 1, o + 64, by omega, by have := HO.out; omega, by simp, hJ3, hnd.trans hk3⟩
     case measure => simp [intOf]; omega
    ·gi_wp2
     refine bodyPost_ret (results_none rfl _ _ _) rfl ?_
     exact ⟨⟨_, rfl⟩, .inr ⟨k + 1, by omega, hJx3⟩⟩
  ·have : k = M := by omega
   subst this
   have i2 : ¬ o < L := by have := HL.out; omega
   clear ho
   gi_wp2
   go_end0
   exact ⟨⟨_, rfl⟩, .inl hJs⟩
def upF (M k : Nat) : List {x : Nat // x < M} := (List.range k).filterMap fun x => if h : x < M then some ⟨x, h⟩ else none
theorem VD (M k : Nat) (h : k < M) : upF M (k + 1) = upF M k ++ [⟨k, h⟩] := by
 rw [upF, List.range_succ, List.filterMap_append]
 simp [upF, h]
theorem qa5 (M : Nat) : ∀ k, k <= M -> (upF M k).length = k
 | 0, _ => rfl
 | k + 1, h => by rw [VD M k Y54, List.length_append, qa5 M k Y54]; rfl
theorem Yr (Fe : Fence) (n : Nat) (hF1 : Fe.fn 167) (hro : Fe.round = none) (hn : 1 <= n) (Bs Bn b M L cap : Nat) (K : List Nat) (hL : L = 64 * M) (hM : M <= 1000) (hc1 : L <= cap) (hc2 : cap <= 2 ^ 63 - 1) (w : World)
  (hBs : w.cell? ⟨Bs, 0, none⟩ = some (.slice (some ⟨b, 0, none⟩) L cap)) (hBn : w.cell? ⟨Bn, 0, none⟩ = some (.int .i64 64)) (hs : Bs ∈ K) (hn' : Bn ∈ K) (h1 : Bs < w.heap.size) (h2 : Bn < w.heap.size) :
  SeqStopsK Fe n Tryz.prog 167 #[.pointer (some ⟨Bs, 0, none⟩), .pointer (some ⟨Bn, 0, none⟩)] (fun x : {x : Nat // x < M} => #[ckW b x.1]) (uk K) (fun ys => ys = upF M M) (fun pre => ∃ k, k <= M /\ pre = upF M k) M w := fun l J Jx W hW hJ _ hY h0 =>
 (qcD Fe n hF1 hro hn l Bs Bn b M L cap K hL hM hc1 hc2 (fun k => J (upF M k)) (fun k => Jx (upF M k)) (fun k W1 hk hj => by
  have h := hY (upF M k) ⟨k, hk⟩ W1 hj (by rw [qa5 M k Y54]; exact hk)
  rw [<- VD M k hk] at h
  exact h) W ((hW.cell (p := ⟨Bs, 0, none⟩) h1).trans hBs) ((hW.cell (p := ⟨Bn, 0, none⟩) h2).trans hBn) hs hn' (fun k => hJ (upF M k)) h0).mono (by
  rintro e W' ⟨hv, hj | ⟨k, hk, hj⟩⟩
  ·exact ⟨hv, .inl ⟨_, rfl, hj⟩⟩
  ·exact ⟨hv, .inr ⟨_, ⟨k, hk, rfl⟩, hj⟩⟩)
attribute [local go_sem] Oper.semAt_some
theorem qe4 (zs : List UInt8) (j : Nat) (hj : j < zs.length) : zs[j]? = some (zs.getD j 0) := by
 rw [List.getD_eq_getElem?_getD, List.getElem?_eq_getElem hj]; rfl
theorem qfu (zs : List UInt8) (h : ∀ p ∈ vu (bwF zs) zs.length, p.2 = 0) : ZW zs = 0 := by
 refine Ja zs 0 (fun i _ hi => ?_) (.inl rfl)
 have := h (bwF zs (zs.length - 1 - i)) (by simp only [vu, List.mem_map, List.mem_range]; exact ⟨_, by omega, rfl⟩)
 simp only [bwF, show zs.length - 1 - (zs.length - 1 - i) = i by omega] at this
 rw [qe4 zs i hi, UInt8.toNat_inj.1 (show (zs.getD i 0).toNat = (0 : UInt8).toNat from this)]
theorem qfE (zs : List UInt8) (k : Nat) (hk : k < zs.length) (h : ∀ p ∈ vu (bwF zs) k, p.2 = 0) (hne : (bwF zs k).2 ≠ 0) : ZW zs = (bwF zs k).1 + 1 := by
 have h1 : (bwF zs k).1 = zs.length - 1 - k := rfl
 rw [h1]
 refine Ja zs _ (fun i hi hl => ?_) (.inr ⟨_, by rw [Nat.add_sub_cancel]; exact qe4 zs _ Y54, fun e => hne ?_⟩)
 ·have := h (bwF zs (zs.length - 1 - i)) (by simp only [vu, List.mem_map, List.mem_range]; exact ⟨_, by omega, rfl⟩)
  simp only [bwF, show zs.length - 1 - (zs.length - 1 - i) = i by omega] at this
  rw [qe4 zs i hl, UInt8.toNat_inj.1 (show (zs.getD i 0).toNat = (0 : UInt8).toNat from this)]
 ·show (zs.getD (zs.length - 1 - k) 0).toNat = 0
  rw [e]; rfl
theorem qgS (Fe : Fence) (n : Nat) (h4 : Fe.fn 274) (h6 : Fe.fn 276) (h8 : Fe.fn 278) (hro : Fe.round = none) (hn : 3 <= n) (a : Option Addr) (len cap : Nat) (zs : List UInt8) (hreach : zs.length <= 1000000) (w : World) (hI : BwI w.heap.size w (.slice a len cap) zs) :
  CallsIn Fe n Tryz.prog 274 #[.slice a len cap] w fun e W' => e = .returned (.int .i64 ((ZW zs : Int) - 1)) /\ Below w.heap.size w W' := by
 have h1 : 1 <= n := by omega
 refine callsIn_of_wp_marks Tryz.func274 rfl h4 ?_ hro
 simp only [Tryz.ntmps274, List.size_toArray, List.length_cons, List.length_nil, Nat.reduceAdd, Nat.reduceSub, Array.replicate_succ, Array.replicate_zero, List.push_toArray, List.append_toArray, List.nil_append, List.cons_append]
 gi_wp2_with (gi_at_call 276; refine (qgV Fe (n - 1) h6 hro _ _ _ _).mono ?_; rintro e w' ⟨rfl, rfl⟩)
 have bR := Boxed.new w 3 (.int .i64 0)
 have bN := Boxed.new (w.alloc (.cells #[.int .i64 0] 3)) 22 (.slice a len cap)
 rw [World.size_alloc] at bN
 have hB0 : Below w.heap.size w ((w.alloc (.cells #[.int .i64 0] 3)).alloc (.cells #[.slice a len cap] 22)) := ((Below.refl _ w).alloc (Nat.le_refl _) _).alloc Y85 _
 have hI2 : BwI (w.heap.size + 2) ((w.alloc (.cells #[.int .i64 0] 3)).alloc (.cells #[.slice a len cap] 22)) (.slice a len cap) zs := by
  rcases hI.below hB0 with h | ⟨b, off, cap', e, hb, hc⟩
  ·exact .inl h
  ·exact .inr ⟨b, off, cap', e, by omega, hc⟩
 refine wpIn_rangeFunc_ownG hro h1 (gf := 278) (lb := #[.pointer (some ⟨w.heap.size + 1, 0, none⟩)]) rfl h8 (enters_of Tryz.func278 Y55 rfl)
  (qcc Fe (n - 1) h8 hro Y54 (w.heap.size + 1) (w.heap.size + 2) _ zs hreach _ Y85 Y54 Y85 bN.cell hI2) belowK_t (belowK_b Y85) (Below.refl _ _) (fun _ => rfl)
  (fun pre W => ((∀ p ∈ pre, p.2 = 0) /\ W.cell? ⟨w.heap.size, 0, none⟩ = some (.int .i64 0) /\ W.frozen? ⟨w.heap.size, 0, none⟩ = false) /\ Below w.heap.size w W)
  (fun c pre W => (c = .ret /\ ∃ ini last, pre = ini ++ [last] /\ (∀ p ∈ ini, p.2 = 0) /\ last.2 ≠ 0 /\ W.cell? ⟨w.heap.size, 0, none⟩ = some (.int .i64 (last.1 : Int))) /\ Below w.heap.size w W)
  (OwnFrom.and (Own.from (fun s A B row hs hg hr => ⟨hs.1, cell_kept hs.2.1 hg hr, (frozen_kept hs.2.1 hg hr).trans hs.2.2⟩) _) (ownFrom_below (Nat.le_refl _) Y57))
  (fun c => OwnFrom.and (Own.from (fun s A B row hs hg hr => by obtain ⟨hc, ini, last, e1, e2, e3, e4⟩ := hs; exact ⟨hc, ini, last, e1, e2, e3, cell_kept e4 hg hr⟩) _) (ownFrom_below (Nat.le_refl _) Y57))
  ⟨⟨by simp, (bR.alloc _).cell, (bR.alloc _).frozen⟩, hB0⟩
  (fun x => { tmps := #[.slice a len cap, undef, .pointer (some ⟨w.heap.size, 0, none⟩), .int .i64 (x.1 : Int), .int .u8 (x.2 : Int), .slice a len cap, .func (.func 278) #[] #[.pointer (some ⟨w.heap.size + 1, 0, none⟩)], .int .i64 (x.1 : Int), .int .u8 (x.2 : Int), undef, undef, undef], defers := [] }) ?assign ?body ?done ?stop
 case assign =>
  intro l x W K hK
  gi_wp2
  exact hK
 case body =>
  rintro l pre x W ⟨⟨hp, hcr, hfr⟩, hB⟩ _
  by_cases hx : x.2 = 0
  ·have hx2 : ((x.2 : Int) != 0) = false := by rw [bne_eq_false_iff_eq]; omega
   gi_wp2
   exact ⟨KeepsFrom.refl _ _, Below.refl _ _, ⟨fun p hp' => (List.mem_append.1 hp').elim (hp p) (fun e => by simp at e; subst e; exact hx), hcr, hfr⟩, hB⟩
  ·have hx2 : ((x.2 : Int) != 0) = true := by rw [bne_iff_ne]; omega
   gi_wp2
   exact ⟨(KeepsOthers.setCell _ _ _).from _, ⟨rfl, pre, x, rfl, hp, hx, World.cell?_setCell_same' _ _ _ (by rw [hcr]; rfl)⟩, hB.setCell (p := ⟨w.heap.size, 0, none⟩) (Nat.le_refl _) _⟩
 case done =>
  rintro D ys W hD rfl ⟨⟨hne, hcr, hfr⟩, hB⟩ hK
  gi_wp2
  have hK' := (KeepsOthers.setCell W ⟨w.heap.size, 0, none⟩ (.int .i64 (-1))).same D _ hK rfl
  refine ⟨by simp, .inl ⟨_, _, rfl, run_takeDeferred hK', ?_⟩⟩
  have hc5 := cell_kept (World.cell?_setCell_same' W ⟨w.heap.size, 0, none⟩ (.int .i64 (-1)) (by rw [hcr]; rfl)) (grownBy_putObj' _ D (.deferred none)) (fun r e => by cases e; exact ⟨_, hK', rfl⟩)
  refine ⟨.int .i64 (-1), ?_, by rw [qfu zs hne]; rfl, (hB.setCell (p := ⟨w.heap.size, 0, none⟩) (Nat.le_refl _) _).trans (belowK_b (w := w) (Nat.le_refl _) _ D _ _ (by simp at hD; omega) hK' rfl rfl)⟩
  simp [results, Tryz.f274, go_sem, hc5]
 case stop =>
  rintro D c pre W hD ⟨k, hk, rfl⟩ ⟨⟨rfl, ini, last, e1, e2, e3, hcr⟩, hB⟩ hK
  gi_wp2
  refine ⟨by simp, .inl ⟨_, _, rfl, run_takeDeferred hK, ?_⟩⟩
  have hc5 := cell_kept hcr (grownBy_putObj' _ D (.deferred none)) (fun r e => by cases e; exact ⟨_, hK, rfl⟩)
  obtain ⟨k', rfl⟩ : ∃ k', k = k' + 1 := by
   cases k with
   | zero => simp [vu] at e1
   | succ k' => exact ⟨k', rfl⟩
  rw [Vu] at e1
  obtain ⟨rfl, e5⟩ := List.append_inj' e1 rfl
  obtain rfl : bwF zs k' = last := by simpa using e5
  have hpl := qfE zs k' Y54 e2 e3
  refine ⟨.int .i64 ((bwF zs k').1 : Int), ?_, by rw [hpl]; simp, hB.trans (belowK_b (w := w) (Nat.le_refl _) W D _ _ (by simp at hD; omega) hK rfl rfl)⟩
  simp [results, Tryz.f274, go_sem, hc5]
theorem qhs (A : Nat -> Prop) (w : World) (v : Value) (zs : List UInt8) (h : Bs A w v zs) : ∃ a cap, v = .slice a zs.length cap /\ (zs ≠ [] -> BwI w.heap.size w v zs) := by
 obtain ⟨a, cap, rfl, h2, h3, h4⟩ := h
 refine ⟨a, cap, rfl, fun hne => ?_⟩
 have h0 : 0 < (zs.map u8v).length := by simpa using List.length_pos_iff.2 hne
 obtain ⟨b, off, rfl, -, hc⟩ := h4.some_of h0
 refine .inr ⟨b, off, cap, rfl, ?_, fun j hj => ?_⟩
 ·have := hc 0 h0
  rcases Nat.lt_or_ge b w.heap.size with hb | hb
  ·exact hb
  ·rw [List.getElem?_eq_getElem h0] at this
   unfold World.cell? at this
   rw [Array.getElem?_eq_none hb] at this
   simp at this
 ·rw [hc j Y74]
  simp [List.getD_eq_getElem?_getD, hj, u8v]
end Go.Proofs.YtdloaifdpajcjaaGreatDoor
