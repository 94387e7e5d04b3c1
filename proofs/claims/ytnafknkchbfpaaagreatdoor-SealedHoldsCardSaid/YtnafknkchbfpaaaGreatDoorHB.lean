import Derived.Test.YtnafknkchbfpaaaGreatDoorHA
set_option maxRecDepth 1000000
set_option maxHeartbeats 8000000
namespace Go.Proofs.YtnafknkchbfpaaaGreatDoor
open Go.RowKit Go.Bl
set_option linter.unusedVariables false
attribute [local go_sem] Oper.semAt_some
def ckD (b n k : Nat) : Value := .slice (some ⟨b, 2 * k * 32, none⟩) (min 2 (n - 2 * k)) (min 2 (n - 2 * k))
theorem LJ {b n k : Nat} (h : 2 * k + 2 <= n) : ckD b n k = .slice (some ⟨b, 2 * k * 32, none⟩) 2 2 := by unfold ckD; rw [show min 2 (n - 2 * k) = 2 by omega]
theorem Ls {b n k : Nat} (h : 2 * k + 1 = n) : ckD b n k = .slice (some ⟨b, 2 * k * 32, none⟩) 1 1 := by unfold ckD; rw [show min 2 (n - 2 * k) = 1 by omega]
theorem WI (w : World) (a : Option Addr) (L cap : Nat) :
  Calls Tryz.prog 134 #[.slice a L cap, .int .i64 2] w fun e w' => e = .returned (.func (.func 163) #[] #[.pointer (some ⟨w.heap.size, 0, none⟩), .pointer (some ⟨w.heap.size + 1, 0, none⟩)]) /\ w' = (w.alloc (.cells #[.slice a L cap] 70)).alloc (.cells #[.int .i64 2] 3) := by
 go_enter Tryz.func134, Tryz.ntmps134
 go_wp2
 go_ret
 exact ⟨by simp, rfl⟩
theorem qal (Fe : Fence) (n : Nat) (hF1 : Fe.fn 163) (hro : Fe.round = none) (hn : 1 <= n) (l Bs Bn b M L cap : Nat) (K : List Nat) (hL : M = (L + 1) / 2) (hM : M <= 100000) (hc1 : L <= cap) (hc2 : cap <= 2 ^ 63 - 1) (J Jx : Nat -> World -> Prop)
  (hY : ∀ k W, k < M -> J k W -> YieldAt Fe (n - 1) Tryz.prog l #[ckD b L k] W fun e W' =>
   (e = .returned (.bool true) /\ J (k + 1) W' /\ jN K W W') ∨ (e = .returned (.bool false) /\ Jx (k + 1) W'))
  (W : World) (hBs : W.cell? ⟨Bs, 0, none⟩ = some (.slice (some ⟨b, 0, none⟩) L cap)) (hBn : W.cell? ⟨Bn, 0, none⟩ = some (.int .i64 2)) (hs : Bs ∈ K) (hn' : Bn ∈ K) (hJ : AbidesFrom W.heap.size J) (h0 : J 0 W) :
  CallsIn Fe n Tryz.prog 163 #[.func (.yield l) #[] #[], .pointer (some ⟨Bs, 0, none⟩), .pointer (some ⟨Bn, 0, none⟩)] W fun e W' => (∃ v, e = .returned v) /\
   (J M W' ∨ (∃ k, k <= M /\ Jx k W')) := by
 have HL := Hdq hL
 have hL9 : L <= 300000 := by omega
 clear hL
 refine callsIn_of_wp Tryz.func163 rfl hF1 ?_ hro
 simp only [Tryz.ntmps163, List.size_toArray, List.length_cons, List.length_nil, Nat.reduceAdd, Nat.reduceSub, Array.replicate_succ, Array.replicate_zero, List.push_toArray, List.append_toArray, List.nil_append, List.cons_append]
 gi_wp2
 gi_loopw [4] (fun i wr => ∃ k o : Nat, k <= M /\ o = 2 * k /\ i = .int .i64 o /\ J k wr /\ jN K W wr)
  (fun i _ => L + 1 - (intOf i).toNat)
 case atStart => exact ⟨0, 0, Nat.zero_le _, rfl, rfl, h0, jN.refl _ _⟩
 case round =>
  obtain ⟨k, o, hk, ho, rfl, hJs, hnx⟩ := hrel
  have hBs' := hnx.cell hs hBs
  have hBn' := hnx.cell hn' hBn
  by_cases hkm : k < M
  ·have hJd : J k wr.drew := hJ _ wr wr.drew none hJs ⟨rfl, rfl, rfl, Nat.le_refl _, fun _ _ _ => rfl⟩ (fun r e => by cases e)
   obtain ⟨fn, tmps, assign, body, hy, hR⟩ := hY k wr.drew hkm hJd
   have hnd : jN K W wr.drew := fun g hg o ho => hnx g hg o ho
   have hBs2 : wr.drew.cell? ⟨Bs, 0, none⟩ = some (.slice (some ⟨b, 0, none⟩) L cap) := hBs'
   have hBn2 : wr.drew.cell? ⟨Bn, 0, none⟩ = some (.int .i64 2) := hBn'
   have hol : o < L := by have := HL.out; omega
   have HO := Hdq ho
   have h21 : 2 * k + 2 <= L ∨ 2 * k + 1 = L := by have := HL.out; omega
   rcases h21 with h2 | h2
   ·rw [LJ h2, <- ho] at hy
    have i1 : o + 2 <= L := by omega
    have hmin : (if ((L - o : Nat) : Int) < 2 then ((L - o : Nat) : Int) else 2) = 2 := by rw [if_neg Y62]
    have hmin2 : min (2 : Int) ((L - o : Nat) : Int) = 2 := by omega
    clear ho h2 hol
    gi_wp2
    gi_region
    all_goals
     obtain ⟨wd, hwd⟩ := exq (wr.drew)
     rw [hwd] at hy hR hnd hBs2 hBn2 ⊢
     clear hBs' hBn' hJd hnx hJs hmin
     gi_wp2
     refine hR.mono ?_
     rintro e W3 (⟨rfl, hJ3, hk3⟩ | ⟨rfl, hJx3⟩)
     ·have hBs3 := hk3.cell hs hBs2
      have hBn3 := hk3.cell hn' hBn2
      gi_wp2
      go_roundw
      case rel => exact ⟨k + 1, o + 2, by omega, by have := HO.out; omega, by simp, hJ3, hnd.trans hk3⟩
      case measure => simp [intOf]; omega
     ·gi_wp2
      exact Y38
   ·rw [Ls h2, <- ho] at hy
    have i1 : o + 1 = L := by omega
    have i3 : L - o = 1 := by omega
    have hmin : (if ((L - o : Nat) : Int) < 2 then ((L - o : Nat) : Int) else 2) = 1 := by rw [i3]; rfl
    have hmin2 : min (2 : Int) ((L - o : Nat) : Int) = 1 := by omega
    have i4 : o + 1 <= L := by omega
    have HI1 := Hdq i1
    clear ho h2 hol i3 i1
    gi_wp2
    gi_region
    all_goals
     obtain ⟨wd, hwd⟩ := exq (wr.drew)
     rw [hwd] at hy hR hnd hBs2 hBn2 ⊢
     clear hBs' hBn' hJd hnx hJs hmin
     gi_wp2
     refine hR.mono ?_
     rintro e W3 (⟨rfl, hJ3, hk3⟩ | ⟨rfl, hJx3⟩)
     ·have hBs3 := hk3.cell hs hBs2
      have hBn3 := hk3.cell hn' hBn2
      gi_wp2
      go_roundw
      case rel => exact ⟨k + 1, o + 2, by omega, by have := HO.out; omega, by simp, hJ3, hnd.trans hk3⟩
      case measure => simp [intOf]; omega
     ·gi_wp2
      exact Y38
  ·have : k = M := by omega
   subst this
   have i2 : ¬ o < L := by have := HL.out; omega
   clear ho
   gi_wp2
   go_end0
   exact ⟨⟨_, rfl⟩, .inl hJs⟩
theorem VL (Fe : Fence) (n : Nat) (hF1 : Fe.fn 163) (hro : Fe.round = none) (hn : 1 <= n) (Bs Bn b M L cap : Nat) (K : List Nat) (hL : M = (L + 1) / 2) (hM : M <= 100000) (hc1 : L <= cap) (hc2 : cap <= 2 ^ 63 - 1) (w : World)
  (hBs : w.cell? ⟨Bs, 0, none⟩ = some (.slice (some ⟨b, 0, none⟩) L cap)) (hBn : w.cell? ⟨Bn, 0, none⟩ = some (.int .i64 2)) (hs : Bs ∈ K) (hn' : Bn ∈ K) (h1 : Bs < w.heap.size) (h2 : Bn < w.heap.size) :
  SeqStopsK Fe n Tryz.prog 163 #[.pointer (some ⟨Bs, 0, none⟩), .pointer (some ⟨Bn, 0, none⟩)] (fun x : {x : Nat // x < M} => #[ckD b L x.1]) (jN K) (fun ys => ys = upF M M) (fun pre => ∃ k, k <= M /\ pre = upF M k) M w := fun l J Jx W hW hJ _ hY h0 =>
 (qal Fe n hF1 hro hn l Bs Bn b M L cap K hL hM hc1 hc2 (fun k => J (upF M k)) (fun k => Jx (upF M k)) (fun k W1 hk hj => by
  have h := hY (upF M k) ⟨k, hk⟩ W1 hj (by rw [V1 M k Y62]; exact hk)
  rw [<- x7 M k hk] at h
  exact h) W ((hW.cell (p := ⟨Bs, 0, none⟩) h1).trans hBs) ((hW.cell (p := ⟨Bn, 0, none⟩) h2).trans hBn) hs hn' (fun k => hJ (upF M k)) h0).mono (by
  rintro e W' ⟨hv, hj | ⟨k, hk, hj⟩⟩
  ·exact ⟨hv, .inl ⟨_, rfl, hj⟩⟩
  ·exact ⟨hv, .inr ⟨_, ⟨k, hk, rfl⟩, hj⟩⟩)
def jm (k : Nat) : Code -> Option Code
 | .region i ops d => if i = k then some (.region i ops d) else none
 | .loop c => jm k c
 | .seq a b => match jm k a with
  | some c => some c
  | none => jm k b
 | .block _ c => jm k c
 | .scope c => jm k c
 | .cond _ a b => match jm k a with
  | some c => some c
  | none => jm k b
 | .rangeFunc _ _ a b => match jm k a with
  | some c => some c
  | none => jm k b
 | _ => none
noncomputable def qgg : Code := ((Tryz.f86.body.bind (jm 9)).getD .skip)
def L4 (ub rb ro base : Nat) (uv : Value) (us : List (List Value)) (da db : Dg) (k : Nat) (b : Go.Act) (p : World) : Prop :=
 match k with
 | 0 => slot b 21 = uv
 | 1 => slot b 22 = .slice (some ⟨rb, ro, none⟩) 2 2
 | 2 => slot b 23 = .pointer (some ⟨rb, ro, none⟩)
 | 3 => slot b 24 = .agg (da.map u8v).toArray
 | 4 => slot b 25 = .slice (some ⟨rb, ro, none⟩) 2 2
 | 5 => slot b 26 = .pointer (some ⟨rb, ro + 32, none⟩)
 | 6 => slot b 27 = .agg (db.map u8v).toArray
 | 7 => slot b 28 = .agg ((jE da db).map u8v).toArray
 | 8 => ∃ g, slot b 29 = .slice (some ⟨g, 0, none⟩) 1 1 /\ At p g (.cells ((jE da db).map u8v).toArray 58)
 | 9 => jc 58 base 32 p (slot b 30) (us ++ [(jE da db).map u8v])
 | 10 => At p ub (.cells #[slot b 30] 70)
 | 11 => At p ub (.cells #[uv] 70)
 | 12 => jc 58 base 32 p uv us
 | 13 => p.rangeAt rb ro (da.map u8v) /\ p.rangeAt rb (ro + 32) (db.map u8v)
 | _ => True
def qeI (ub rb ro base : Nat) (uv : Value) (us : List (List Value)) (da db : Dg) (k : Nat) (b : Go.Act) (p : World) : Prop :=
 match k with
 | _ => True
theorem Xi (ub rb ro base : Nat) (uv : Value) (us : List (List Value)) (da db : Dg) : ∀ (k : Nat) (b : Go.Act) (p p' : World), Fr [] p p' -> L4 ub rb ro base uv us da db k b p -> L4 ub rb ro base uv us da db k b p'
 | 0, b, p, p', hf, h => h
 | 1, b, p, p', hf, h => h
 | 2, b, p, p', hf, h => h
 | 3, b, p, p', hf, h => h
 | 4, b, p, p', hf, h => h
 | 5, b, p, p', hf, h => h
 | 6, b, p, p', hf, h => h
 | 7, b, p, p', hf, h => h
 | 8, b, p, p', hf, h => let ⟨g, h1, h3⟩ := h; ⟨g, h1, h3.keep0 hf⟩
 | 9, b, p, p', hf, h => h.keep0 hf
 | 10, b, p, p', hf, h => h.keep0 hf
 | 11, b, p, p', hf, h => h.keep0 hf
 | 12, b, p, p', hf, h => h.keep0 hf
 | 13, b, p, p', hf, h => ⟨fun j v hv => qG hf qf (h.1 j v hv), fun j v hv => qG hf qf (h.2 j v hv)⟩
 | k + 14, b, p, p', hf, h => trivial
theorem Vh (ub rb ro base : Nat) (uv : Value) (us : List (List Value)) (da db : Dg) : ∀ (k : Nat) (b : Go.Act) (p p' : World), Fr [] p p' -> qeI ub rb ro base uv us da db k b p -> qeI ub rb ro base uv us da db k b p'
 | k, b, p, p', hf, h => trivial
theorem ov9 (ub rb ro base : Nat) (uv : Value) (us : List (List Value)) (da db : Dg) (lr nr : Nat) (w : World) (a : Go.Act) (hsz : a.tmps.size = 41) (h4 : slot a 4 = .pointer (some ⟨ub, 0, none⟩)) (h5 : slot a 5 = .slice (some ⟨rb, ro, none⟩) 2 2) (w0 : World) (hF0 : ∀ p, Fr (ub :: uv.ownBlock.toList) w p -> Fr [] w0 p) (hS : SG w0) (hU : At w ub (.cells #[uv] 70)) (hO : jc 58 base 32 w uv us) (hRg : w.rangeAt rb ro (da.map u8v) /\ w.rangeAt rb (ro + 32) (db.map u8v)) (hda : da.length = 32) (hdb : db.length = 32) (hlen : us.length <= 100000) (hbase : base <= w.heap.size) (hne : ∀ q, uv.ownBlock = some q -> q ≠ rb) (hrub : rb ≠ ub) (Q : Exit -> Go.Act -> World -> Prop)
  (hQ : ∀ (b : Go.Act) (p : World) (uw : Value), b.defers = a.defers -> b.tmps.size = 41 -> (∀ s, some s ∉ ([some 21, some 22, some 23, some 24, some 25, some 26, some 27, some 28, some 29, some 30, none] : List (Option Nat)) -> slot b s = slot a s) -> Fr (ub :: uv.ownBlock.toList) w p -> At p ub (.cells #[uw] 70) -> jc 58 base 32 p uw (us ++ [(jE da db).map u8v]) -> p.rangeAt rb ro (da.map u8v) /\ p.rangeAt rb (ro + 32) (db.map u8v) -> Q .normal b p) : Code.wpIn (Fence.wide.inRound lr) nr Tryz.prog qgg Q a w := by
 conv => arg 4; whnf
 have hnl : ((jE da db) : Dg).length = 32 := rfl
 refine vw (ub :: uv.ownBlock.toList) (L4 ub rb ro base uv us da db) (qeI ub rb ro base uv us da db) [some 21, some 22, some 23, some 24, some 25, some 26, some 27, some 28, some 29, some 30, none] [[21], [22], [23], [24], [25], [26], [27], [28], [29], [30], [30], [], [], []] [] [] [(11, 10), (12, 9), (8, 9)] qe qe qe qe qe qe qd ?_ ?_ ?_ ?_ ?_
 ·intro w1 hw1 k hk1 hk2
  have hk3 : 11 <= k := hk1
  have hk4 : k < 14 := hk2
  clear hk1 hk2
  rcases (show k = 11 ∨ k = 12 ∨ k = 13 by omega) with rfl | rfl | rfl
  ·exact hU.keep0 hw1
  ·exact hO.keep0 hw1
  ·exact ⟨fun j v hv => qG hw1 qf (hRg.1 j v hv), fun j v hv => qG hw1 qf (hRg.2 j v hv)⟩
 ·intro k b b' p hs h
  match k with
  | 0 => show slot b' 21 = uv; rw [<- hs 21 qd]; exact h
  | 1 => show slot b' 22 = .slice (some ⟨rb, ro, none⟩) 2 2; rw [<- hs 22 qd]; exact h
  | 2 => show slot b' 23 = .pointer (some ⟨rb, ro, none⟩); rw [<- hs 23 qd]; exact h
  | 3 => show slot b' 24 = .agg (da.map u8v).toArray; rw [<- hs 24 qd]; exact h
  | 4 => show slot b' 25 = .slice (some ⟨rb, ro, none⟩) 2 2; rw [<- hs 25 qd]; exact h
  | 5 => show slot b' 26 = .pointer (some ⟨rb, ro + 32, none⟩); rw [<- hs 26 qd]; exact h
  | 6 => show slot b' 27 = .agg (db.map u8v).toArray; rw [<- hs 27 qd]; exact h
  | 7 => show slot b' 28 = .agg ((jE da db).map u8v).toArray; rw [<- hs 28 qd]; exact h
  | 8 => show ∃ g, slot b' 29 = .slice (some ⟨g, 0, none⟩) 1 1 /\ At p g (.cells ((jE da db).map u8v).toArray 58); rw [<- hs 29 qd]; exact h
  | 9 => show jc 58 base 32 p (slot b' 30) (us ++ [(jE da db).map u8v]); rw [<- hs 30 qd]; exact h
  | 10 => show At p ub (.cells #[slot b' 30] 70); rw [<- hs 30 qd]; exact h
  | 11 => show At p ub (.cells #[uv] 70); exact h
  | 12 => show jc 58 base 32 p uv us; exact h
  | 13 => show p.rangeAt rb ro (da.map u8v) /\ p.rangeAt rb (ro + 32) (db.map u8v); exact h
  | k + 14 => trivial
 ·intro k b b' p hs h
  match k with
  | k => trivial
 ·intro i hi dn b p hs ho hf hF hG hdn hdc hr
  have hi9 : i < 11 := hi
  clear hi
  match i, hi9 with
  | 0, _ =>
   have e0 : b.eval (.tmp 4) = .pointer (some ⟨ub, 0, none⟩) := (ho 4 qd).trans h4
   have f11 : At p ub (.cells #[uv] 70) := hF 11 (show (11:Nat) < 14 by decide) (fun h => absurd h qd) (fun c hc => by (have hq1 : c = 10 := by simpa using hc); subst hq1; exact (by cases hq : dn 10 with | false => rfl | true => (have hq2 := hdc 10 0 hq qe; rw [hdn] at hq2; cases hq2)))
   have c1 : p.cell? ⟨ub, 0, none⟩ = some uv := f11.cell 0
   exact Y3
  | 1, _ =>
   have e0 : b.eval (.tmp 5) = .slice (some ⟨rb, ro, none⟩) 2 2 := (ho 5 qd).trans h5
   exact Y0
  | 2, _ =>
   have e0 : b.eval (.tmp 22) = .slice (some ⟨rb, ro, none⟩) 2 2 := fdq hF hr 1
   have ec : b.eval (.const (.int .i64 0)) = .int .i64 0 := rfl
   exact Y16
  | 3, _ =>
   have e0 : b.eval (.tmp 23) = .pointer (some ⟨rb, ro, none⟩) := fdq hF hr 2
   have f13 : p.rangeAt rb ro (da.map u8v) /\ p.rangeAt rb (ro + 32) (db.map u8v) := hF 13 (show (13:Nat) < 14 by decide) (fun h => absurd h qd) (fun c hc => absurd hc qf)
   refine opV_step _ Y69 ?_
   refine qI (.tmp 23) rfl rfl rb (ro) (da.map u8v) e0 f13.1 Tryz.underlying58 rfl (dig_size da hda) ?_
   exact Y29
  | 4, _ =>
   have e0 : b.eval (.tmp 5) = .slice (some ⟨rb, ro, none⟩) 2 2 := (ho 5 qd).trans h5
   exact Y0
  | 5, _ =>
   have e0 : b.eval (.tmp 25) = .slice (some ⟨rb, ro, none⟩) 2 2 := fdq hF hr 4
   have ec : b.eval (.const (.int .i64 1)) = .int .i64 1 := rfl
   exact Y16
  | 6, _ =>
   have e0 : b.eval (.tmp 26) = .pointer (some ⟨rb, ro + 32, none⟩) := fdq hF hr 5
   have f13 : p.rangeAt rb ro (da.map u8v) /\ p.rangeAt rb (ro + 32) (db.map u8v) := hF 13 (show (13:Nat) < 14 by decide) (fun h => absurd h qd) (fun c hc => absurd hc qf)
   refine opV_step _ Y69 ?_
   refine qI (.tmp 26) rfl rfl rb (ro + 32) (db.map u8v) e0 f13.2 Tryz.underlying58 rfl (dig_size db hdb) ?_
   exact Y29
  | 7, _ =>
   have e0 : b.eval (.tmp 24) = .agg (da.map u8v).toArray := fdq hF hr 3
   have e1 : b.eval (.tmp 27) = .agg (db.map u8v).toArray := fdq hF hr 6
   refine qV _ Y69 (qu rfl) 135 _ _ rfl #[.agg (da.map u8v).toArray, .agg (db.map u8v).toArray] Y73 Y75 ((qcx p da db hda hdb (hS.keep (hF0 p hf))).mono ?_)
   rintro e p' ⟨rfl, hf2⟩
   refine ⟨_, rfl, hf.trans (hf2).weak, fun k _ _ _ _ h => Xi ub rb ro base uv us da db k _ _ _ hf2 h, ?_, fun e _ _ h => Vh ub rb ro base uv us da db e _ _ _ hf2 h, fun e he hi hx => by exact absurd he (Nat.not_lt_zero e)⟩
   refine qA b 28 _ Y64 (fun b' => L4 ub rb ro base uv us da db 7 b' p') ?_
   intro b' hd hne
   show slot b' 28 = .agg ((jE da db).map u8v).toArray
   rw [hd]
  | 8, _ =>
   have e0 : b.eval (.tmp 28) = .agg ((jE da db).map u8v).toArray := fdq hF hr 7
   refine opV_step _ Y69 ?_
   refine ya Tryz.underlying70 Tryz.infoDig qd qd rfl (.tmp 28) rfl ((jE da db).map u8v) e0 qdt ?_
   have hf2 : Fr [] p (p.alloc (.cells ((jE da db).map u8v).toArray 58)) := Fr.alloc _ _
   obtain ⟨p', hp'⟩ : ∃ p', p.alloc (.cells ((jE da db).map u8v).toArray 58) = p' := ⟨_, rfl⟩
   have hA : At p' p.heap.size (.cells ((jE da db).map u8v).toArray 58) := by rw [<- hp']; exact At.new rfl
   rw [hp'] at hf2 ⊢
   clear hp'
   refine ⟨rfl, rfl, hf.trans (hf2).weak, fun k _ _ _ _ h => Xi ub rb ro base uv us da db k _ _ _ hf2 h, ?_, fun e _ _ h => Vh ub rb ro base uv us da db e _ _ _ hf2 h, fun e he hi hx => by exact absurd he (Nat.not_lt_zero e)⟩
   refine qA b 29 _ Y64 (fun b' => L4 ub rb ro base uv us da db 8 b' p') ?_
   intro b' hd hne
   show ∃ g, slot b' 29 = .slice (some ⟨g, 0, none⟩) 1 1 /\ At p' g (.cells ((jE da db).map u8v).toArray 58)
   exact ⟨_, hd, hA⟩
  | 9, _ =>
   have e0 : b.eval (.tmp 21) = uv := fdq hF hr 0
   have f8 : ∃ g, slot b 29 = .slice (some ⟨g, 0, none⟩) 1 1 /\ At p g (.cells ((jE da db).map u8v).toArray 58) := hF 8 (show (8:Nat) < 14 by decide) (fun _ => (hr 8 qe).2) (fun c hc => by (have hq1 : c = 9 := by simpa using hc); subst hq1; exact hdn)
   have f12 : jc 58 base 32 p uv us := hF 12 (show (12:Nat) < 14 by decide) (fun h => absurd h qd) (fun c hc => by (have hq1 : c = 9 := by simpa using hc); subst hq1; exact hdn)
   obtain ⟨g, b1, b2⟩ := f8
   have e1 : b.eval (.tmp 29) = .slice (some ⟨g, 0, none⟩) 1 1 := b1
   have hO9 := f12
   refine opV_step _ Y69 ?_
   refine xh Tryz.underlying70 Tryz.infoDig Y69 qd rfl (.tmp 21) (.tmp 29) rfl e0 e1 b2 qdt (zp _) f12 Y62 (by unfold maxLen; omega) (Nat.le_trans hbase hf.size) ?_
   intro v' p' ho' hg
   have ff : Fr uv.ownBlock.toList p p' := Fr.grown (S := uv.ownBlock.toList) hg (by intro k hk; simp [hk])
   refine ⟨rfl, rfl, hf.trans (ff.mono (fun x hx => .inl (List.mem_cons_of_mem _ hx))), fun k hki hnr hco hli h => ?_, ?_, fun _ _ _ h => h, fun e he hi hx => by exact absurd he (Nat.not_lt_zero e)⟩
   ·match k with
    | 0 => exact h
    | 1 => exact h
    | 2 => exact h
    | 3 => exact h
    | 4 => exact h
    | 5 => exact h
    | 6 => exact h
    | 7 => exact h
    | 8 => exact absurd qd hco
    | 9 => exact absurd rfl hki
    | 10 => exact Bool.noConfusion (hnr.symm.trans qe : false = true)
    | 11 => exact h.grown hg (jB hO9.1 h qd)
    | 12 => exact absurd qd hco
    | 13 => exact ⟨fun j v hv => qG ff (fun hm => hne rb Y87 rfl) (h.1 j v hv), fun j v hv => qG ff (fun hm => hne rb Y87 rfl) (h.2 j v hv)⟩
    | k + 14 => exact trivial
   ·refine qA b 30 _ Y64 (fun b' => L4 ub rb ro base uv us da db 9 b' p') ?_
    intro b' hd hne2
    show jc 58 base 32 p' (slot b' 30) (us ++ [(jE da db).map u8v])
    rw [hd]
    exact ho'
  | 10, _ =>
   have e0 : b.eval (.tmp 4) = .pointer (some ⟨ub, 0, none⟩) := (ho 4 qd).trans h4
   have f9 : jc 58 base 32 p (slot b 30) (us ++ [(jE da db).map u8v]) := fdq hF hr 9
   have f11 : At p ub (.cells #[uv] 70) := hF 11 (show (11:Nat) < 14 by decide) (fun h => absurd h qd) (fun c hc => by (have hq1 : c = 10 := by simpa using hc); subst hq1; exact hdn)
   have e1 : b.eval (.tmp 30) = slot b 30 := rfl
   have hone : (slot b 30).oneCell' = true := by obtain ⟨a9, c9, e9⟩ := f9.shape; rw [e9]; rfl
   refine opV_step _ Y69 ?_
   refine qk (.tmp 4) (.tmp 30) rfl rfl (slot b 30) e0 e1 f11 qf qe hone ?_
   intro p' ff a1 _
   refine ⟨rfl, rfl, hf.trans (ff.mono (fun x hx => .inl (by simp at hx; subst hx; exact List.mem_cons_self))), fun k hki hnr hco hli h => ?_, (show At p' ub (.cells #[slot b 30] 70) from by simpa using a1), fun _ _ _ h => h, fun e he hi hx => by exact absurd he (Nat.not_lt_zero e)⟩
   match k with
   | 0 => exact h
   | 1 => exact h
   | 2 => exact h
   | 3 => exact h
   | 4 => exact h
   | 5 => exact h
   | 6 => exact h
   | 7 => exact h
   | 8 => exact absurd (hr 9 qe).2 (by rw [hli 9 qd]; decide)
   | 9 => exact h.keep ff (fun q hq hm => jB h.1 f11 qd (by simp at hm; rw [hq, hm]))
   | 10 => exact absurd rfl hki
   | 11 => exact absurd qd hco
   | 12 => exact absurd (hr 9 qe).2 (by rw [hli 9 qd]; decide)
   | 13 => exact ⟨fun j v hv => qG ff (by simpa using hrub) (h.1 j v hv), fun j v hv => qG ff (by simpa using hrub) (h.2 j v hv)⟩
   | k + 14 => exact trivial
 ·intro b p hd hs ho hf hall hex
  have a1 := hall 10 qd (fun c hc => by simp at hc)
  have a2 := hall 9 qd (fun c hc => by simp at hc)
  have a3 := hall 13 qd (fun c hc => by simp at hc)
  exact hQ b p (slot b 30) hd (hs.trans hsz) ho hf a1 a2 a3
noncomputable def qfF : Code := ((Tryz.f86.body.bind (jm 10)).getD .skip)
def XV (ub rb ro base : Nat) (uv : Value) (us : List (List Value)) (da : Dg) (k : Nat) (b : Go.Act) (p : World) : Prop :=
 match k with
 | 0 => slot b 31 = uv
 | 1 => slot b 32 = .slice (some ⟨rb, ro, none⟩) 1 1
 | 2 => slot b 33 = .pointer (some ⟨rb, ro, none⟩)
 | 3 => slot b 34 = .agg (da.map u8v).toArray
 | 4 => ∃ g, slot b 35 = .slice (some ⟨g, 0, none⟩) 1 1 /\ At p g (.cells (da.map u8v).toArray 58)
 | 5 => jc 58 base 32 p (slot b 36) (us ++ [da.map u8v])
 | 6 => At p ub (.cells #[slot b 36] 70)
 | 7 => At p ub (.cells #[uv] 70)
 | 8 => jc 58 base 32 p uv us
 | 9 => p.rangeAt rb ro (da.map u8v)
 | _ => True
def qbr (ub rb ro base : Nat) (uv : Value) (us : List (List Value)) (da : Dg) (k : Nat) (b : Go.Act) (p : World) : Prop :=
 match k with
 | _ => True
theorem qag (ub rb ro base : Nat) (uv : Value) (us : List (List Value)) (da : Dg) : ∀ (k : Nat) (b : Go.Act) (p p' : World), Fr [] p p' -> XV ub rb ro base uv us da k b p -> XV ub rb ro base uv us da k b p'
 | 0, b, p, p', hf, h => h
 | 1, b, p, p', hf, h => h
 | 2, b, p, p', hf, h => h
 | 3, b, p, p', hf, h => h
 | 4, b, p, p', hf, h => let ⟨g, h1, h3⟩ := h; ⟨g, h1, h3.keep0 hf⟩
 | 5, b, p, p', hf, h => h.keep0 hf
 | 6, b, p, p', hf, h => h.keep0 hf
 | 7, b, p, p', hf, h => h.keep0 hf
 | 8, b, p, p', hf, h => h.keep0 hf
 | 9, b, p, p', hf, h => fun j v hv => qG hf qf (h j v hv)
 | k + 10, b, p, p', hf, h => trivial
theorem Wq (ub rb ro base : Nat) (uv : Value) (us : List (List Value)) (da : Dg) : ∀ (k : Nat) (b : Go.Act) (p p' : World), Fr [] p p' -> qbr ub rb ro base uv us da k b p -> qbr ub rb ro base uv us da k b p'
 | k, b, p, p', hf, h => trivial
theorem qgu (ub rb ro base : Nat) (uv : Value) (us : List (List Value)) (da : Dg) (lr nr : Nat) (w : World) (a : Go.Act) (hsz : a.tmps.size = 41) (h4 : slot a 4 = .pointer (some ⟨ub, 0, none⟩)) (h5 : slot a 5 = .slice (some ⟨rb, ro, none⟩) 1 1) (w0 : World) (hF0 : ∀ p, Fr (ub :: uv.ownBlock.toList) w p -> Fr [] w0 p) (hS : SG w0) (hU : At w ub (.cells #[uv] 70)) (hO : jc 58 base 32 w uv us) (hRg : w.rangeAt rb ro (da.map u8v)) (hda : da.length = 32) (hlen : us.length <= 100000) (hbase : base <= w.heap.size) (hne : ∀ q, uv.ownBlock = some q -> q ≠ rb) (hrub : rb ≠ ub) (Q : Exit -> Go.Act -> World -> Prop)
  (hQ : ∀ (b : Go.Act) (p : World) (uw : Value), b.defers = a.defers -> b.tmps.size = 41 -> (∀ s, some s ∉ ([some 31, some 32, some 33, some 34, some 35, some 36, none] : List (Option Nat)) -> slot b s = slot a s) -> Fr (ub :: uv.ownBlock.toList) w p -> At p ub (.cells #[uw] 70) -> jc 58 base 32 p uw (us ++ [da.map u8v]) -> p.rangeAt rb ro (da.map u8v) -> Q .normal b p) : Code.wpIn (Fence.wide.inRound lr) nr Tryz.prog qfF Q a w := by
 conv => arg 4; whnf
 have hnl : (da : Dg).length = 32 := hda
 refine vw (ub :: uv.ownBlock.toList) (XV ub rb ro base uv us da) (qbr ub rb ro base uv us da) [some 31, some 32, some 33, some 34, some 35, some 36, none] [[31], [32], [33], [34], [35], [36], [36], [], [], []] [] [] [(7, 6), (8, 5), (4, 5)] qe qe qe qe qe qe qd ?_ ?_ ?_ ?_ ?_
 ·intro w1 hw1 k hk1 hk2
  have hk3 : 7 <= k := hk1
  have hk4 : k < 10 := hk2
  clear hk1 hk2
  rcases (show k = 7 ∨ k = 8 ∨ k = 9 by omega) with rfl | rfl | rfl
  ·exact hU.keep0 hw1
  ·exact hO.keep0 hw1
  ·exact fun j v hv => qG hw1 qf (hRg j v hv)
 ·intro k b b' p hs h
  match k with
  | 0 => show slot b' 31 = uv; rw [<- hs 31 qd]; exact h
  | 1 => show slot b' 32 = .slice (some ⟨rb, ro, none⟩) 1 1; rw [<- hs 32 qd]; exact h
  | 2 => show slot b' 33 = .pointer (some ⟨rb, ro, none⟩); rw [<- hs 33 qd]; exact h
  | 3 => show slot b' 34 = .agg (da.map u8v).toArray; rw [<- hs 34 qd]; exact h
  | 4 => show ∃ g, slot b' 35 = .slice (some ⟨g, 0, none⟩) 1 1 /\ At p g (.cells (da.map u8v).toArray 58); rw [<- hs 35 qd]; exact h
  | 5 => show jc 58 base 32 p (slot b' 36) (us ++ [da.map u8v]); rw [<- hs 36 qd]; exact h
  | 6 => show At p ub (.cells #[slot b' 36] 70); rw [<- hs 36 qd]; exact h
  | 7 => show At p ub (.cells #[uv] 70); exact h
  | 8 => show jc 58 base 32 p uv us; exact h
  | 9 => show p.rangeAt rb ro (da.map u8v); exact h
  | k + 10 => trivial
 ·intro k b b' p hs h
  match k with
  | k => trivial
 ·intro i hi dn b p hs ho hf hF hG hdn hdc hr
  have hi9 : i < 7 := hi
  clear hi
  match i, hi9 with
  | 0, _ =>
   have e0 : b.eval (.tmp 4) = .pointer (some ⟨ub, 0, none⟩) := (ho 4 qd).trans h4
   have f7 : At p ub (.cells #[uv] 70) := hF 7 (show (7:Nat) < 10 by decide) (fun h => absurd h qd) (fun c hc => by (have hq1 : c = 6 := by simpa using hc); subst hq1; exact (by cases hq : dn 6 with | false => rfl | true => (have hq2 := hdc 6 0 hq qe; rw [hdn] at hq2; cases hq2)))
   have c1 : p.cell? ⟨ub, 0, none⟩ = some uv := f7.cell 0
   exact Y3
  | 1, _ =>
   have e0 : b.eval (.tmp 5) = .slice (some ⟨rb, ro, none⟩) 1 1 := (ho 5 qd).trans h5
   exact Y0
  | 2, _ =>
   have e0 : b.eval (.tmp 32) = .slice (some ⟨rb, ro, none⟩) 1 1 := fdq hF hr 1
   have ec : b.eval (.const (.int .i64 0)) = .int .i64 0 := rfl
   exact Y16
  | 3, _ =>
   have e0 : b.eval (.tmp 33) = .pointer (some ⟨rb, ro, none⟩) := fdq hF hr 2
   have f9 : p.rangeAt rb ro (da.map u8v) := hF 9 (show (9:Nat) < 10 by decide) (fun h => absurd h qd) (fun c hc => absurd hc qf)
   refine opV_step _ Y69 ?_
   refine qI (.tmp 33) rfl rfl rb (ro) (da.map u8v) e0 f9 Tryz.underlying58 rfl (dig_size da hda) ?_
   exact Y29
  | 4, _ =>
   have e0 : b.eval (.tmp 34) = .agg (da.map u8v).toArray := fdq hF hr 3
   refine opV_step _ Y69 ?_
   refine ya Tryz.underlying70 Tryz.infoDig qd qd rfl (.tmp 34) rfl (da.map u8v) e0 qdt ?_
   have hf2 : Fr [] p (p.alloc (.cells (da.map u8v).toArray 58)) := Fr.alloc _ _
   obtain ⟨p', hp'⟩ : ∃ p', p.alloc (.cells (da.map u8v).toArray 58) = p' := ⟨_, rfl⟩
   have hA : At p' p.heap.size (.cells (da.map u8v).toArray 58) := by rw [<- hp']; exact At.new rfl
   rw [hp'] at hf2 ⊢
   clear hp'
   refine ⟨rfl, rfl, hf.trans (hf2).weak, fun k _ _ _ _ h => qag ub rb ro base uv us da k _ _ _ hf2 h, ?_, fun e _ _ h => Wq ub rb ro base uv us da e _ _ _ hf2 h, fun e he hi hx => by exact absurd he (Nat.not_lt_zero e)⟩
   refine qA b 35 _ Y64 (fun b' => XV ub rb ro base uv us da 4 b' p') ?_
   intro b' hd hne
   show ∃ g, slot b' 35 = .slice (some ⟨g, 0, none⟩) 1 1 /\ At p' g (.cells (da.map u8v).toArray 58)
   exact ⟨_, hd, hA⟩
  | 5, _ =>
   have e0 : b.eval (.tmp 31) = uv := fdq hF hr 0
   have f4 : ∃ g, slot b 35 = .slice (some ⟨g, 0, none⟩) 1 1 /\ At p g (.cells (da.map u8v).toArray 58) := hF 4 (show (4:Nat) < 10 by decide) (fun _ => (hr 4 qe).2) (fun c hc => by (have hq1 : c = 5 := by simpa using hc); subst hq1; exact hdn)
   have f8 : jc 58 base 32 p uv us := hF 8 (show (8:Nat) < 10 by decide) (fun h => absurd h qd) (fun c hc => by (have hq1 : c = 5 := by simpa using hc); subst hq1; exact hdn)
   obtain ⟨g, b1, b2⟩ := f4
   have e1 : b.eval (.tmp 35) = .slice (some ⟨g, 0, none⟩) 1 1 := b1
   have hO9 := f8
   refine opV_step _ Y69 ?_
   refine xh Tryz.underlying70 Tryz.infoDig Y69 qd rfl (.tmp 31) (.tmp 35) rfl e0 e1 b2 qdt (zp _) f8 Y62 (by unfold maxLen; omega) (Nat.le_trans hbase hf.size) ?_
   intro v' p' ho' hg
   have ff : Fr uv.ownBlock.toList p p' := Fr.grown (S := uv.ownBlock.toList) hg (by intro k hk; simp [hk])
   refine ⟨rfl, rfl, hf.trans (ff.mono (fun x hx => .inl (List.mem_cons_of_mem _ hx))), fun k hki hnr hco hli h => ?_, ?_, fun _ _ _ h => h, fun e he hi hx => by exact absurd he (Nat.not_lt_zero e)⟩
   ·match k with
    | 0 => exact h
    | 1 => exact h
    | 2 => exact h
    | 3 => exact h
    | 4 => exact absurd qd hco
    | 5 => exact absurd rfl hki
    | 6 => exact Bool.noConfusion (hnr.symm.trans qe : false = true)
    | 7 => exact h.grown hg (jB hO9.1 h qd)
    | 8 => exact absurd qd hco
    | 9 => exact fun j v hv => qG ff (fun hm => hne rb Y87 rfl) (h j v hv)
    | k + 10 => exact trivial
   ·refine qA b 36 _ Y64 (fun b' => XV ub rb ro base uv us da 5 b' p') ?_
    intro b' hd hne2
    show jc 58 base 32 p' (slot b' 36) (us ++ [da.map u8v])
    rw [hd]
    exact ho'
  | 6, _ =>
   have e0 : b.eval (.tmp 4) = .pointer (some ⟨ub, 0, none⟩) := (ho 4 qd).trans h4
   have f5 : jc 58 base 32 p (slot b 36) (us ++ [da.map u8v]) := fdq hF hr 5
   have f7 : At p ub (.cells #[uv] 70) := hF 7 (show (7:Nat) < 10 by decide) (fun h => absurd h qd) (fun c hc => by (have hq1 : c = 6 := by simpa using hc); subst hq1; exact hdn)
   have e1 : b.eval (.tmp 36) = slot b 36 := rfl
   have hone : (slot b 36).oneCell' = true := by obtain ⟨a9, c9, e9⟩ := f5.shape; rw [e9]; rfl
   refine opV_step _ Y69 ?_
   refine qk (.tmp 4) (.tmp 36) rfl rfl (slot b 36) e0 e1 f7 qf qe hone ?_
   intro p' ff a1 _
   refine ⟨rfl, rfl, hf.trans (ff.mono (fun x hx => .inl (by simp at hx; subst hx; exact List.mem_cons_self))), fun k hki hnr hco hli h => ?_, (show At p' ub (.cells #[slot b 36] 70) from by simpa using a1), fun _ _ _ h => h, fun e he hi hx => by exact absurd he (Nat.not_lt_zero e)⟩
   match k with
   | 0 => exact h
   | 1 => exact h
   | 2 => exact h
   | 3 => exact h
   | 4 => exact absurd (hr 5 qe).2 qdr
   | 5 => exact h.keep ff (fun q hq hm => jB h.1 f7 qd (by simp at hm; rw [hq, hm]))
   | 6 => exact absurd rfl hki
   | 7 => exact absurd qd hco
   | 8 => exact absurd (hr 5 qe).2 qdr
   | 9 => exact fun j v hv => qG ff (by simpa using hrub) (h j v hv)
   | k + 10 => exact trivial
 ·intro b p hd hs ho hf hall hex
  have a1 := hall 6 qd (fun c hc => by simp at hc)
  have a2 := hall 5 qd (fun c hc => by simp at hc)
  have a3 := hall 9 qd (fun c hc => by simp at hc)
  exact hQ b p (slot b 36) hd (hs.trans hsz) ho hf a1 a2 a3
attribute [local go_sem] Oper.semAt_some
def pcD (ds : List Dg) (x : Nat) : List Dg := if 2 * x + 2 <= ds.length then [jE (ds.getD (2 * x) []) (ds.getD (2 * x + 1) [])] else [ds.getD (2 * x) []]
theorem qdq (ds : List Dg) (x : Nat) : (pcD ds x).length = 1 := by unfold pcD; split <;> rfl
def VB {M : Nat} (ds : List Dg) (pre : List {x : Nat // x < M}) : List Dg := pre.flatMap fun x => pcD ds x.1
theorem Vj {M : Nat} (ds : List Dg) (pre : List {x : Nat // x < M}) (y : {x : Nat // x < M}) : VB ds (pre ++ [y]) = VB ds pre ++ pcD ds y.1 := by simp [VB]
theorem Yy {M : Nat} (ds : List Dg) : ∀ (pre : List {x : Nat // x < M}), (VB ds pre).length = pre.length
 | [] => rfl
 | y :: r => by
  have := Yy ds r
  unfold VB at this ⊢
  rw [List.flatMap_cons, List.length_append, qdq, this, List.length_cons]
  omega
theorem Li {M : Nat} (ds : List Dg) (hM : M = (ds.length + 1) / 2) : ∀ k, k <= M -> VB ds (upF M k) = qQ (ds.take (2 * k))
 | 0, _ => rfl
 | k + 1, h => by
  rw [x7 M k Y62, Vj, Li ds hM k Y62]
  by_cases h2 : 2 * k + 2 <= ds.length
  ·have e : ds.take (2 * (k + 1)) = ds.take (2 * k) ++ [ds.getD (2 * k) [], ds.getD (2 * k + 1) []] := by
    rw [show 2 * (k + 1) = 2 * k + 1 + 1 by omega, List.take_succ_eq_append_getElem Y62, List.take_succ_eq_append_getElem Y62, List.append_assoc, List.getD_eq_getElem?_getD, List.getD_eq_getElem?_getD, List.getElem?_eq_getElem Y62, List.getElem?_eq_getElem Y62]
    rfl
   rw [e, zW _ _ Y78, pcD, if_pos h2]
   rfl
  ·have e : ds.take (2 * (k + 1)) = ds.take (2 * k) ++ [ds.getD (2 * k) []] := by
    rw [show 2 * (k + 1) = 2 * k + 1 + 1 by omega, List.take_of_length_le Y62, List.getD_eq_getElem?_getD, List.getElem?_eq_getElem Y62]
    have := List.take_succ_eq_append_getElem (l := ds) (i := 2 * k) Y62
    rw [List.take_of_length_le Y62] at this
    exact this
   rw [e, zW _ _ Y78, pcD, if_neg h2]
   rfl
theorem qbP {M : Nat} (ds : List Dg) (hM : M = (ds.length + 1) / 2) : VB ds (upF M M) = qQ ds := by
 rw [Li ds hM M (Nat.le_refl _), List.take_of_length_le Y62]
theorem Q9 : ∀ (ds : List Dg), (∀ d ∈ ds, d.length = 32) -> ∀ d ∈ qQ ds, d.length = 32
 | [], h, d, hd => by simp [qQ] at hd
 | [a], h, d, hd => by simp [qQ] at hd; subst hd; exact h _ qf
 | a :: b :: r, h, d, hd => by
  simp only [qQ, List.mem_cons] at hd
  rcases hd with rfl | hd
  ·rfl
  ·exact Q9 r (fun x hx => h x (by simp [hx])) d hd
theorem vz (a : Go.Act) (hs : a.tmps.size = 41) : a = ⟨(slot a 0 :: slot a 1 :: slot a 2 :: slot a 3 :: slot a 4 :: slot a 5 :: slot a 6 :: slot a 7 :: slot a 8 :: slot a 9 :: slot a 10 :: slot a 11 :: slot a 12 :: slot a 13 :: slot a 14 :: slot a 15 :: slot a 16 :: slot a 17 :: slot a 18 :: slot a 19 :: slot a 20 :: slot a 21 :: slot a 22 :: slot a 23 :: slot a 24 :: slot a 25 :: slot a 26 :: slot a 27 :: slot a 28 :: slot a 29 :: slot a 30 :: slot a 31 :: slot a 32 :: slot a 33 :: slot a 34 :: slot a 35 :: slot a 36 :: slot a 37 :: slot a 38 :: slot a 39 :: slot a 40 :: []).toArray, a.defers⟩ := by
 obtain ⟨t, d⟩ := a
 exact congrArg (fun x : Go.Act => (⟨x.tmps, d⟩ : Go.Act)) (zF ⟨t, []⟩ 41 hs rfl)
def yh : Code -> Option Code
 | .loop c => yh c
 | .seq a b => match yh a with
  | some c => some c
  | none => yh b
 | .block _ c => yh c
 | .scope c => yh c
 | .cond _ a b => match yh a with
  | some c => some c
  | none => yh b
 | .rangeFunc _ _ _ b => some b
 | _ => none
noncomputable def ovB : Code := ((Tryz.f86.body.bind yh).getD .skip)
theorem Lr {e base s : Nat} {A B : World} {v : Value} {rs : List (List Value)} {row : Option Nat} (h : jc e base s A v rs) (hg : A.grownBy B row) (hr : ∀ r, row = some r -> ∃ o : Obj, A.heap[r]? = some o /\ o.isCells = false) : jc e base s B v rs := by
 refine ⟨⟨h.1.1, ?_⟩, h.2⟩
 rcases h.1.2 with h | ⟨g, cap, cur, rfl, hb, hh, r⟩
 ·exact .inl h
 ·exact .inr ⟨g, cap, cur, rfl, hb, (grownBy_keeps_cells hg hr hh rfl).trans hh, r⟩
theorem VJ {e base s : Nat} {A : World} {v : Value} {rs : List (List Value)} (h : jc e base s A v rs) : ∀ q, v.ownBlock = some q -> base <= q /\ ∃ o : Obj, A.heap[q]? = some o /\ o.isCells = true := by
 rcases h.1.2 with ⟨rfl, -⟩ | ⟨g, cap, cur, rfl, hb, hh, r⟩
 ·intro q hq
  simp [Value.ownBlock] at hq
 ·intro q hq
  simp only [Value.ownBlock, Option.some.injEq] at hq
  subst hq
  exact ⟨hb, _, hh, rfl⟩
theorem qdQ (ds : List Dg) (k : Nat) (h : k < ds.length) : (dgK ds)[k]? = some ((ds.getD k []).map u8v) := by
 unfold dgK
 rw [List.getElem?_map, List.getElem?_eq_getElem h, List.getD_eq_getElem?_getD, List.getElem?_eq_getElem h]
 rfl
theorem V4 (ds : List Dg) (hd : ∀ d ∈ ds, d.length = 32) (k : Nat) (h : k < ds.length) : (ds.getD k []).length = 32 := by
 rw [List.getD_eq_getElem?_getD, List.getElem?_eq_getElem h]
 exact hd _ (List.getElem_mem h)
theorem qa8 (w0 wr : World) (ds' us : List Dg) (Z U rb m cap y l : Nat) (hU : wr.heap.size = U) (hrb : rb < U) (hm : ds'.length = m) (hd : ∀ d ∈ ds', d.length = 32) (hmb : us.length <= 100000) (hS : SG w0) (hF : Fr [] w0 wr) (hy : 2 * y < m) (uv : Value) (W : World) (a : Go.Act) (hsz : a.tmps.size = 41) (h4 : slot a 4 = .pointer (some ⟨U, 0, none⟩)) (h5 : slot a 5 = ckD rb m y)
  (hAU : At W U (.cells #[uv] 70)) (hO : jc 58 (U + 3) 32 W uv (dgK us)) (hRo : jc 58 Z 32 W (.slice (some ⟨rb, 0, none⟩) m cap) (dgK ds')) (hB : Fr [] wr W) (hW : U + 3 <= W.heap.size) (Q : Exit -> Go.Act -> World -> Prop)
  (hQ : ∀ b p uw, Fr (U :: uv.ownBlock.toList) W p -> At p U (.cells #[uw] 70) -> jc 58 (U + 3) 32 p uw (dgK (us ++ pcD ds' y)) -> Q .normal b p) : Code.wpIn (Fence.wide.inRound l) 1 Tryz.prog ovB Q a W := by
 have hrd : ∀ k, k < m -> W.rangeAt rb (k * 32) ((ds'.getD k []).map u8v) := by
  intro k hk
  obtain ⟨b, off, e, -, h⟩ := (hRo.rd (A := fun _ => False) (fun _ h => h.elim)).range qd k _ (qdQ ds' k Y62)
  cases e
  rw [Nat.zero_add] at h
  exact h
 have hF0 : ∀ p, Fr (U :: uv.ownBlock.toList) W p -> Fr [] w0 p := fun p hp => (hF.trans hB).then hp (fun x hx => .inr (by
  have hs := hF.size
  rcases List.mem_cons.1 hx with rfl | hx
  ·omega
  ·have := (VJ hO x (by simpa using hx)).1
   omega))
 have hne : ∀ q, uv.ownBlock = some q -> q ≠ rb := fun q hq => by have := (VJ hO q hq).1; omega
 rcases (show 2 * y + 2 <= m ∨ 2 * y + 1 = m by omega) with h2 | h2
 ·have hpc : pcD ds' y = [jE (ds'.getD (2 * y) []) (ds'.getD (2 * y + 1) [])] := by unfold pcD; rw [if_pos Y62]
  have ra := hrd (2 * y) Y62
  have rc := hrd (2 * y + 1) Y62
  rw [show (2 * y + 1) * 32 = 2 * y * 32 + 32 by omega] at rc
  have la := V4 ds' hd (2 * y) Y62
  have lb := V4 ds' hd (2 * y + 1) Y62
  rw [hpc] at hQ
  obtain ⟨da, hda⟩ := exq (ds'.getD (2 * y) [])
  obtain ⟨db, hdb⟩ := exq (ds'.getD (2 * y + 1) [])
  rw [hda] at ra la hQ
  rw [hdb] at rc lb hQ
  rw [LJ h2] at h5
  obtain ⟨ro, hro⟩ := exq (2 * y * 32)
  rw [hro] at ra rc h5
  have HQ := Hdq hQ
  have HH := Hdq (And.intro hS (And.intro hAU (And.intro hO (And.intro (And.intro ra rc) (And.intro la (And.intro lb hmb))))))
  have HF0 := Hdq (And.intro hF0 hne)
  rw [vz a hsz, h4, h5]
  clear hQ hS hAU hO ra rc la lb hmb hrd hpc hda hdb hro h4 h5 hRo hd hF0 hne hsz hB hF
  conv => arg 4; whnf
  gi_wp2
  refine ov9 U rb ro (U + 3) uv (dgK us) da db l 1 W _ rfl rfl rfl w0 HF0.out.1 HH.out.1 HH.out.2.1 HH.out.2.2.1 HH.out.2.2.2.1 HH.out.2.2.2.2.1 HH.out.2.2.2.2.2.1 (by rw [jU]; exact HH.out.2.2.2.2.2.2) hW HF0.out.2 Y62 _ ?_
  intro b p uw _ hbs hbo hf hA hO2 _
  rw [vz b hbs]
  gi_wp2
  exact HQ.out _ _ _ hf hA (by simpa [dgK] using hO2)
 ·have hpc : pcD ds' y = [ds'.getD (2 * y) []] := by unfold pcD; rw [if_neg Y62]
  have ra := hrd (2 * y) Y62
  have la := V4 ds' hd (2 * y) Y62
  rw [hpc] at hQ
  obtain ⟨da, hda⟩ := exq (ds'.getD (2 * y) [])
  rw [hda] at ra la hQ
  rw [Ls h2] at h5
  obtain ⟨ro, hro⟩ := exq (2 * y * 32)
  rw [hro] at ra h5
  have HQ := Hdq hQ
  have HH := Hdq (And.intro hS (And.intro hAU (And.intro hO (And.intro ra (And.intro la hmb)))))
  have HF0 := Hdq (And.intro hF0 hne)
  rw [vz a hsz, h4, h5]
  clear hQ hS hAU hO ra la hmb hrd hpc hda hro h4 h5 hRo hd hF0 hne hsz hB hF
  conv => arg 4; whnf
  gi_wp2
  refine qgu U rb ro (U + 3) uv (dgK us) da l 1 W _ rfl rfl rfl w0 HF0.out.1 HH.out.1 HH.out.2.1 HH.out.2.2.1 HH.out.2.2.2.1 HH.out.2.2.2.2.1 (by rw [jU]; exact HH.out.2.2.2.2.2) hW HF0.out.2 Y62 _ ?_
  intro b p uw _ hbs hbo hf hA hO2 _
  rw [vz b hbs]
  gi_wp2
  exact HQ.out _ _ _ hf hA (by simpa [dgK] using hO2)
attribute [local go_sem] Oper.semAt_some
noncomputable def ovL : Code := ((Tryz.f86.body.bind (jZ 4)).getD .skip)
def mkD (D : Nat) : Deferred := { target := .collected D, args := #[] }
theorem KA (w0 wr : World) (ds' : List Dg) (Z rb m cap : Nat) (hm : ds'.length = m) (h1 : 1 < m) (hmb : m <= 100000) (hcap : m <= cap /\ cap <= maxLen) (hd : ∀ d ∈ ds', d.length = 32) (hS : SG w0) (hF : Fr [] w0 wr) (hrb : rb < wr.heap.size) (hZ : Z <= wr.heap.size) (hRo : jc 58 Z 32 wr (.slice (some ⟨rb, 0, none⟩) m cap) (dgK ds')) (a : Go.Act) (hsz : a.tmps.size = 41) (h3 : slot a 3 = .slice (some ⟨rb, 0, none⟩) m cap) (Q : Exit -> Go.Act -> World -> Prop)
  (hQ : ∀ b D W uw, b.tmps.size = 41 -> slot b 2 = slot a 2 -> slot b 3 = uw -> b.defers = mkD D :: a.defers -> wr.heap.size <= D -> W.heap[D]? = some (.deferred (some [])) -> Fr [] wr W -> jc 58 Z 32 W uw (dgK (qQ ds')) -> Q .normal b W) : ovL.wp Tryz.prog Q a wr := by
 have h1i : (1 : Int) < (m : Int) := by omega
 have HQ := Hdq hQ
 have HH := Hdq (And.intro hm (And.intro hmb (And.intro hd (And.intro hS (And.intro hF (And.intro hrb (And.intro hRo hZ)))))))
 have hc1 := hcap.1
 have hc2 := hcap.2
 unfold maxLen at hc2
 have HC := Hdq (And.intro hc1 hc2)
 rw [vz a hsz, h3]
 clear hQ hm hmb hd hS hF hrb hRo h3 hsz hcap hc1 hc2 hZ
 conv => arg 2; whnf
 go_wp2_with (go_at_call 134; fail)
 refine (WI _ _ m cap).mono ?_
 rintro e w4 ⟨rfl, rfl⟩
 go_wp2
 have hsz : (((wr.alloc (.cells #[.slice none 0 0] 70)).alloc (.cells #[.slice (some ⟨rb, 0, none⟩) m cap] 70)).alloc (.cells #[.int .i64 2] 3)).heap.size = wr.heap.size + 3 := by simp
 have hF3 : Fr [] wr (((wr.alloc (.cells #[.slice none 0 0] 70)).alloc (.cells #[.slice (some ⟨rb, 0, none⟩) m cap] 70)).alloc (.cells #[.int .i64 2] 3)) := (Fr.alloc _ _).trans ((Fr.alloc _ _).trans (Fr.alloc _ _))
 have aU : At (((wr.alloc (.cells #[.slice none 0 0] 70)).alloc (.cells #[.slice (some ⟨rb, 0, none⟩) m cap] 70)).alloc (.cells #[.int .i64 2] 3)) wr.heap.size (.cells #[.slice none 0 0] 70) := ((At.new rfl).al).al
 have aS : At (((wr.alloc (.cells #[.slice none 0 0] 70)).alloc (.cells #[.slice (some ⟨rb, 0, none⟩) m cap] 70)).alloc (.cells #[.int .i64 2] 3)) (wr.heap.size + 1) (.cells #[.slice (some ⟨rb, 0, none⟩) m cap] 70) := (At.new qf).al
 have aN : At (((wr.alloc (.cells #[.slice none 0 0] 70)).alloc (.cells #[.slice (some ⟨rb, 0, none⟩) m cap] 70)).alloc (.cells #[.int .i64 2] 3)) (wr.heap.size + 1 + 1) (.cells #[.int .i64 2] 3) := At.new qf
 have aR : jc 58 Z 32 (((wr.alloc (.cells #[.slice none 0 0] 70)).alloc (.cells #[.slice (some ⟨rb, 0, none⟩) m cap] 70)).alloc (.cells #[.int .i64 2] 3)) (.slice (some ⟨rb, 0, none⟩) m cap) (dgK ds') := HH.out.2.2.2.2.2.2.1.keep0 hF3
 have hbW : Below wr.heap.size wr (((wr.alloc (.cells #[.slice none 0 0] 70)).alloc (.cells #[.slice (some ⟨rb, 0, none⟩) m cap] 70)).alloc (.cells #[.int .i64 2] 3)) := hF3.below
 refine (wpIn_wide (n := 3)).1 (wpIn_rangeFunc_ownG rfl qd (gf := 163) (lb := #[.pointer (some ⟨wr.heap.size + 1, 0, none⟩), .pointer (some ⟨wr.heap.size + 1 + 1, 0, none⟩)]) rfl trivial (enters_of Tryz.func163 qe rfl)
  (VL (M := (m + 1) / 2) Fence.wide 2 trivial rfl Y62 (wr.heap.size + 1) (wr.heap.size + 1 + 1) rb m cap [wr.heap.size + 1, wr.heap.size + 1 + 1] rfl (by have := HH.out.2.1; omega) HC.out.1 HC.out.2 _ (aS.cell 0) (aN.cell 0) qf qf Y76 Y76) jN.trans ?kb (Below.refl _ _) (fun _ => rfl)
  (fun pre W => ((∃ uv, At W wr.heap.size (.cells #[uv] 70) /\ jc 58 (wr.heap.size + 3) 32 W uv (dgK (VB ds' pre))) /\ jc 58 Z 32 W (.slice (some ⟨rb, 0, none⟩) m cap) (dgK ds') /\ wr.heap.size + 3 <= W.heap.size) /\ Below wr.heap.size wr W)
  (fun c pre W => False /\ Below wr.heap.size wr W)
  (OwnFrom.and (Own.from (fun s A B row hs hg hr => ⟨hs.1.elim fun uv h => ⟨uv, (grownBy_keeps_cells hg hr h.1 rfl).trans h.1, Lr h.2 hg hr⟩, Lr hs.2.1 hg hr, Nat.le_trans hs.2.2 hg.size⟩) _) (ownFrom_below (Nat.le_refl _) Y76))
  (fun c => OwnFrom.and (Own.from (fun s A B row hs hg hr => hs) _) (ownFrom_below (Nat.le_refl _) Y76))
  ⟨⟨⟨_, aU, jc.nil _ _ _ _⟩, aR, by rw [hsz]; exact Nat.le_refl _⟩, hbW⟩
  (fun y => { tmps := #[slot a 0, slot a 1, slot a 2, .slice (some ⟨rb, 0, none⟩) m cap, .pointer (some ⟨wr.heap.size, 0, none⟩), ckD rb m y.1, slot a 6, slot a 7, slot a 8, slot a 9, slot a 10, slot a 11, .slice (some ⟨rb, 0, none⟩) m cap, .int .i64 (m : Int), .bool true, .slice (some ⟨rb, 0, none⟩) m cap, .func (.func 163) #[] #[.pointer (some ⟨wr.heap.size + 1, 0, none⟩), .pointer (some ⟨wr.heap.size + 1 + 1, 0, none⟩)], ckD rb m y.1, slot a 18, slot a 19, slot a 20, slot a 21, slot a 22, slot a 23, slot a 24, slot a 25, slot a 26, slot a 27, slot a 28, slot a 29, slot a 30, slot a 31, slot a 32, slot a 33, slot a 34, slot a 35, slot a 36, slot a 37, slot a 38, slot a 39, slot a 40], defers := [] })
  ?assign ?body ?done ?stop)
 case kb =>
  exact Y52
 case assign =>
  intro l y W K hK
  gi_wp2
  exact hK
 case body =>
  rintro l pre y W ⟨⟨⟨uv, hAU, hO⟩, hRo, hW3⟩, hBW⟩ hpre
  refine qa8 w0 wr ds' (VB ds' pre) Z wr.heap.size rb m cap y.1 l rfl HH.out.2.2.2.2.2.1 HH.out.1 HH.out.2.2.1 (by rw [Yy]; have := HH.out.2.1; omega) HH.out.2.2.2.1 HH.out.2.2.2.2.1 (by have := y.2; omega) uv W _ rfl rfl rfl hAU hO hRo (fr_below hBW) hW3 _ ?_
  ·intro b p uw hf hA hO2
   have hog := VJ hO
   refine ⟨⟨hf.size, fun k o hk ho hc => hf.keep ho ?_⟩, jN.of_fr hf ?_, ⟨⟨uw, hA, by rw [Vj]; exact hO2⟩, hRo.keep hf ?_, Nat.le_trans hW3 hf.size⟩, ?_⟩
   ·rw [hsz] at hk
    intro hm
    rcases List.mem_cons.1 hm with e | hm
    ·omega
    ·obtain ⟨-, o2, e2, e3⟩ := hog k Y87
     rw [ho] at e2
     cases e2
     rw [hc] at e3
     cases e3
   ·intro g hg hm
    rcases List.mem_cons.1 hm with e | hm
    ·simp at hg; omega
    ·have := (hog g Y87).1
     simp at hg; omega
   ·intro q hq hm
    have hrb := HH.out.2.2.2.2.2.1
    simp only [Value.ownBlock, Option.some.injEq] at hq
    subst hq
    rcases List.mem_cons.1 hm with e | hm
    ·omega
    ·have := (hog _ Y87).1
     omega
   ·refine ((fr_below hBW).then hf (fun x hx => .inr ?_)).below
    rcases List.mem_cons.1 hx with rfl | hx
    ·exact Nat.le_refl _
    ·have := (hog x (by simpa using hx)).1
     omega
 case done =>
  rintro D ys W hD rfl ⟨⟨⟨uv, hAU, hO⟩, -⟩, hBW⟩ hK
  rw [qbP ds' (by rw [HH.out.1])] at hO
  have HU := Hdq hAU
  have c9 : W.cell? ⟨wr.heap.size, 0, none⟩ = some uv := hAU.cell 0
  go_wp2
  refine HQ.out _ D W uv rfl rfl rfl rfl (by rw [hsz] at hD; omega) hK (fr_below hBW) (hO.base (by have := HH.out.2.2.2.2.2.2.2; omega))
 case stop =>
  rintro D c pre W hD _ ⟨h, -⟩ hK
  exact Y23
attribute [local go_sem] Oper.semAt_some
theorem Q1 {F : Fence} {n : Nat} {fn : Func} {tmps : Array Value} {R : Ending -> World -> Prop} (w0 : World) (Z : Nat) (o : Obj) (hZ : w0.heap.size <= Z) : ∀ (Ds : List Nat) (w : World), Ds.Nodup -> (∀ D ∈ Ds, Z < D /\ w.heap[D]? = some (.deferred (some []))) -> Fr [] w0 w -> w.heap[Z]? = some o ->
  (∀ w', Fr [] w0 w' -> w'.heap[Z]? = some o -> LeavesInM F n Tryz.prog fn tmps R [] .returning w') -> LeavesInM F n Tryz.prog fn tmps R (Ds.map mkD) .returning w
 | [], w, _, _, hf, hz, h => h w hf hz
 | D :: Ds, w, hn, hD, hf, hz, h => by
  obtain ⟨h1, h2⟩ := hD D qf
  refine ⟨by simp, .inl ⟨D, _, rfl, run_takeDeferred h2, ?_⟩⟩
  refine Q1 w0 Z o hZ Ds _ (List.nodup_cons.1 hn).2 (fun D' hD' => ?_) ?_ ?_ h
  ·have hne : D' ≠ D := fun e => (List.nodup_cons.1 hn).1 (e ▸ hD')
   have := hD D' (by simp [hD'])
   exact ⟨this.1, (World.putObj_heap_other hne).trans this.2⟩
  ·exact fr_below (hf.below.trans (belowK_b (w := w0) (Nat.le_refl _) w D _ _ Y62 h2 rfl rfl))
  ·exact (World.putObj_heap_other (show Z ≠ D by omega)).trans hz
def szS (v : Value) : Nat := match v with | .slice _ n _ => n | _ => 0
theorem qd8 (w0 : World) (v : Value) (ds : List Dg) (hR : RdK (fun _ => False) 32 w0 v (dgK ds)) (hd : ∀ d ∈ ds, d.length = 32) (hn : ds.length <= 100000) (hS : SG w0) (h1 : 1 <= ds.length) :
  CallsIn Fence.wide 3 Tryz.prog 86 #[v] w0 fun e w' => e = .returned (.agg ((jx ds).map u8v).toArray) /\ Fr [] w0 w' := by
 obtain ⟨va, vc, rfl, hv1, hv2⟩ := hR.shape
 unfold maxLen at hv2
 rw [jU] at hv1 ⊢
 obtain ⟨n, hnn⟩ := exq (ds.length)
 rw [jU, hnn] at hR
 rw [hnn] at hv1 hn h1 ⊢
 obtain ⟨Z, hZ⟩ := exq (w0.heap.size)
 have F1 : Fr [] w0 (w0.alloc (.cells qZ 58)) := Fr.alloc _ _
 have HA := Hdq (show At (w0.alloc (.cells qZ 58)) Z (.cells qZ 58) from At.new hZ.symm)
 have HF1 := Hdq F1
 have HC := Hdq (KB (fun _ => False) (w0.alloc (.cells qZ 58)) (.slice va n vc) (dgK ds) (by
  obtain ⟨⟨a, cap, e1, e2, e3, e4⟩, e5⟩ := hR
  refine RdK.keep ?_ F1 qf
  exact ⟨⟨a, cap, by rw [jU, hnn]; rw [jU, hnn] at e1; exact e1, e2, e3, e4⟩, e5⟩) (fun r hr u hu => by obtain ⟨d, _, rfl⟩ := List.mem_map.1 hr; exact zp d u hu) (by rw [jU]; omega))
 have HH := Hdq (And.intro hS (And.intro hd (And.intro hn hnn)))
 have hs1 : (w0.alloc (.cells qZ 58)).heap.size = Z + 1 := by simp [hZ]
 have HS1 := Hdq hs1
 have hni : ¬ (n : Int) = 0 := by omega
 have HZ := Hdq (And.intro hZ h1)
 clear hR hd hn hS F1 hs1 hnn hZ h1
 refine callsIn_of_wp_marks Tryz.func86 rfl trivial (wpIn_wide.2 ?_) rfl
 simp only [Tryz.ntmps86, List.size_toArray, List.length_cons, List.length_nil, Nat.reduceAdd, Nat.reduceSub, Array.replicate_succ, Array.replicate_zero, List.push_toArray, List.append_toArray, List.nil_append, List.cons_append]
 go_wp2_with (go_at_call 133; fail)
 refine HC.out.mono ?_
 rintro e w2 ⟨u, rfl, hu, hf⟩
 have HO2 := Hdq (show jc 58 (Z + 1) 32 w2 u (dgK ds) from hu.base (by rw [HS1.out]; exact Nat.le_refl _))
 have HF2 := Hdq (HF1.out.trans hf)
 have HA2 := Hdq (HA.out.keep0 hf)
 clear hu hf HC HA HF1 hni
 go_wp2
 refine wp_loop (fun a w => a.tmps.size = 41 /\ slot a 2 = .pointer (some ⟨Z, 0, none⟩) /\ ∃ (ds' : List Dg) (Ds : List Nat), a.defers = Ds.map mkD /\ szS (slot a 3) = ds'.length /\ (1 <= ds'.length /\ ds'.length <= n /\ ∀ d ∈ ds', d.length = 32) /\ jc 58 (Z + 1) 32 w (slot a 3) (dgK ds') /\ jx ds' = jx ds /\ At w Z (.cells qZ 58) /\ Fr [] w0 w /\ Ds.Nodup /\ ∀ D ∈ Ds, Z < D /\ w.heap[D]? = some (.deferred (some []))) (fun a _ => szS (slot a 3)) ?_ ?_
 ·refine ⟨rfl, (by rw [<- HZ.out.1]; rfl), ds, [], rfl, ?_, ⟨by rw [HH.out.2.2.2]; exact HZ.out.2, by rw [HH.out.2.2.2]; exact Nat.le_refl _, HH.out.2.1⟩, HO2.out, rfl, HA2.out, HF2.out, List.nodup_nil, fun D h => absurd h qf⟩
  obtain ⟨a9, c9, e9⟩ := HO2.out.shape
  show szS u = ds.length
  rw [e9, jU]
  rfl
 ·clear HO2 HF2 HA2
  rintro a wr ⟨hsz, h2, ds', Ds, hdf, hm3, ⟨hl1, hln, h32⟩, hO, hV, hA, hF, hnd, hDs⟩
  obtain ⟨m, hm⟩ := exq (ds'.length)
  obtain ⟨rb, cap, hu3, hbb, hbh, hnc, hcm⟩ : ∃ (rb cap : Nat), slot a 3 = .slice (some ⟨rb, 0, none⟩) m cap /\ Z + 1 <= rb /\ rb < wr.heap.size /\ m <= cap /\ cap <= maxLen := by
   rcases hO.1.2 with ⟨-, h0⟩ | ⟨g, cap, cur, e, h2, h3, h4, h5, h6, h7⟩
   ·rw [jU] at h0; omega
   ·rw [jU, hm] at e h4
    exact ⟨g, cap, e, h2, ql h3, h4, h5⟩
  rw [hu3] at hO hm3 ⊢
  have hZw : Z + 1 <= wr.heap.size := by omega
  by_cases h1m : 1 < m
  ·refine KA w0 wr ds' (Z + 1) rb m cap hm h1m (by have := HH.out.2.2.1; omega) ⟨hnc, hcm⟩ h32 HH.out.1 hF hbh hZw hO a hsz hu3 _ ?_
   intro b D W uw hbs hb2 hb3 hbd hD hDw hfw hO2
   have hlv : (qQ ds').length < m /\ 1 <= (qQ ds').length := by rw [j4]; omega
   have hsw : szS (slot b 3) = (qQ ds').length := by
    obtain ⟨a9, c9, e9⟩ := hO2.shape
    rw [hb3, e9, jU]
    rfl
   refine ⟨⟨hbs, hb2.trans h2, qQ ds', D :: Ds, by rw [hbd, hdf]; rfl, hsw, ⟨hlv.2, by omega, Q9 ds' h32⟩, by rw [hb3]; exact hO2, by rw [<- hV, vd (show 2 <= ds'.length by omega)], hA.keep0 hfw, hF.trans hfw, ?_, ?_⟩, ?_⟩
   ·refine List.nodup_cons.2 ⟨fun h => ?_, hnd⟩
    have := ql (hDs D h).2
    omega
   ·intro D' hD'
    rcases List.mem_cons.1 hD' with rfl | h
    ·exact ⟨by omega, hDw⟩
    ·exact ⟨(hDs D' h).1, hfw.keep (hDs D' h).2 qf⟩
   ·show szS (slot b 3) < szS _
    rw [hsw]
    exact hlv.1
  ·obtain rfl : m = 1 := by omega
   obtain ⟨d, rfl⟩ : ∃ d, ds' = [d] := List.length_eq_one_iff.1 hm
   have hd32 : d.length = 32 := h32 d qf
   have hov : jx ds = d := by rw [<- hV]; rfl
   have hrg : wr.rangeAt rb 0 (d.map u8v) := by
    obtain ⟨b, off, e, -, h⟩ := (hO.rd (A := fun _ => False) (fun _ h => h.elim)).range qd 0 (d.map u8v) rfl
    cases e
    simpa using h
   have HR := Hdq hrg
   have HS8 := Hdq (dig_size d hd32)
   have HS9 := Hdq (show (Tryz.prog.info? 58).map (·.size) = some (d.map u8v).toArray.size by rw [List.size_toArray]; exact dig_size d hd32)
   have HL := Hdq (show (d.map u8v).toArray.size = 32 by rw [List.size_toArray, List.length_map, hd32])
   have HA := Hdq hA
   have HG := Hdq (And.intro hF (And.intro hnd (And.intro hDs hdf)))
   have HOV := Hdq hov
   rw [vz a hsz, h2, hu3]
   clear hrg hd32 hA hF hnd hDs hdf hsz h2 hm3 hl1 hln h32 hO hV hm hov hu3
   go_wp2_with (first | (refine qI (.tmp 39) rfl rfl rb 0 (d.map u8v) rfl HR.out Tryz.underlying58 rfl HS8.out ?_) | (refine qx (.tmp 2) (.tmp 40) rfl rfl (d.map u8v).toArray rfl rfl HS9.out HA.out (by rw [HL.out]; rfl) (zC _) ?_))
   intro w9 f9 a9 s9
   have HF9 := Hdq (HG.out.1.then f9 (fun z hz => .inr (by simp at hz; have := HZ.out.1; omega)))
   have HA9 := Hdq a9
   have HD9 := Hdq (show ∀ D ∈ Ds, Z < D /\ w9.heap[D]? = some (.deferred (some [])) from fun D hD => ⟨(HG.out.2.2.1 D hD).1, f9.keep (HG.out.2.2.1 D hD).2 (by have := (HG.out.2.2.1 D hD).1; simp; omega)⟩)
   clear f9 a9 s9
   go_wp2
   rw [HG.out.2.2.2]
   refine Q1 w0 Z _ (by rw [HZ.out.1]; exact Nat.le_refl _) Ds w9 HG.out.2.1 HD9.out HF9.out HA9.out ?_
   intro w' hfw haw
   refine ⟨_, jk rfl _ _ Z _ rfl (qC haw) Tryz.underlying58 rfl HS8.out, ?_⟩
   exact ⟨by rw [HOV.out], hfw⟩
theorem over_any (w0 : World) (v : Value) (ds : List Dg) (hR : RdK (fun _ => False) 32 w0 v (dgK ds)) (hd : ∀ d ∈ ds, d.length = 32) (hn : ds.length <= 100000) (hS : SG w0) (h1 : 1 <= ds.length) :
  Calls Tryz.prog 86 #[v] w0 fun e w' => e = .returned (.agg ((jx ds).map u8v).toArray) /\ Fr [] w0 w' := callsIn_wide.1 (qd8 w0 v ds hR hd hn hS h1)
end Go.Proofs.YtnafknkchbfpaaaGreatDoor
