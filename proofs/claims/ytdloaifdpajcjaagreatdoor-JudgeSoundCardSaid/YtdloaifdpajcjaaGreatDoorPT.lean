import Derived.Test.YtdloaifdpajcjaaGreatDoorPH
set_option linter.unusedVariables false
set_option linter.unusedSimpArgs false
set_option maxRecDepth 1000000
set_option maxHeartbeats 8000000
namespace Go.Proofs.YtdloaifdpajcjaaGreatDoor
open Go.RowKit Go.Bl Go.Shelf
attribute [local go_sem] Oper.semAt_some
theorem qfF (l Bs o0 len cap b off : Nat) (cs : List Value) (Kp : World -> Prop) (hlen : cs.length = len) (hreach : len <= 1000000) (J : Nat -> World -> Prop) (Jx : World -> Prop)
  (hp : ∀ W, Kp W -> W.cell? ⟨Bs, o0, none⟩ = some (.slice (some ⟨b, off, none⟩) len cap)) (hc : ∀ W, Kp W -> ∀ j v, cs[j]? = some v -> W.cell? ⟨b, off + j, none⟩ = some v)
  (hY : ∀ k W1 v, J k W1 -> k < len -> Kp W1 -> cs[len - 1 - k]? = some v -> YieldAt Fence.wide 1 Tryz.prog l #[.int .i64 ((len - 1 - k : Nat) : Int), v] W1 fun e W' => (e = .returned (.bool true) /\ J (k + 1) W' /\ Kp W') ∨ (e = .returned (.bool false) /\ Jx W'))
  (W : World) (h0 : J 0 W) (hW : Kp W) : CallsIn Fence.wide 2 Tryz.prog 105 #[.func (.yield l) #[] #[], .pointer (some ⟨Bs, o0, none⟩)] W fun e W' => (∃ v, e = .returned v) /\ (J len W' ∨ Jx W') := by
 refine callsIn_of_wp Tryz.func105 rfl trivial ?_ rfl
 simp only [Tryz.ntmps105, List.size_toArray, List.length_cons, List.length_nil, Nat.reduceAdd, Nat.reduceSub, Array.replicate_succ, Array.replicate_zero, List.push_toArray, List.append_toArray, List.nil_append, List.cons_append]
 have hp0 := hp W hW
 gi_wp2
 gi_loopw [3] (fun i wr => ∃ k : Nat, k <= len /\ i = .int .i64 ((k : Int) - 1) /\ J (len - k) wr /\ Kp wr)
  (fun i _ => (intOf i + 1).toNat)
 case atStart => exact ⟨len, Nat.le_refl _, by go_num, by rw [Nat.sub_self]; exact h0, hW⟩
 case round =>
  obtain ⟨k, hk, rfl, hJs, hnx⟩ := hrel
  have hp1 := hp _ hnx
  cases k with
  | zero =>
   rw [Nat.sub_zero] at hJs
   gi_wp2
   go_end0
   exact ⟨⟨_, rfl⟩, .inl hJs⟩
  | succ k =>
   obtain ⟨v, hv⟩ : ∃ v, cs[k]? = some v := ⟨_, List.getElem?_eq_getElem Y54⟩
   have hcx := hc _ hnx k v hv
   have hji : ((k + 1 : Nat) : Int) - 1 = k := by omega
   rw [hji]
   obtain ⟨fn, tmps, assign, body, hy, hR⟩ := hY (len - (k + 1)) wr v hJs Y54 hnx (by rw [show len - 1 - (len - (k + 1)) = k by omega]; exact hv)
   rw [show len - 1 - (len - (k + 1)) = k by omega] at hy
   rw [show len - (k + 1) + 1 = len - k by omega] at hR
   gi_wp2
   refine hR.mono ?_
   rintro e W3 (⟨rfl, hJ3, hk3⟩ | ⟨rfl, hJx3⟩)
   ·gi_wp2
    go_roundw
    case rel => exact ⟨k, by omega, rfl, hJ3, hk3⟩
    case measure => simp [intOf]
   ·gi_wp2
    exact Y39
theorem qez (l Bs o0 : Nat) (ad : Option Addr) (cap : Nat) (J : Nat -> World -> Prop) (W : World) (hp : W.cell? ⟨Bs, o0, none⟩ = some (.slice ad 0 cap)) (h0 : J 0 W) :
  CallsIn Fence.wide 2 Tryz.prog 105 #[.func (.yield l) #[] #[], .pointer (some ⟨Bs, o0, none⟩)] W fun e W' => (∃ v, e = .returned v) /\ J 0 W' := by
 refine callsIn_of_wp Tryz.func105 rfl trivial ?_ rfl
 simp only [Tryz.ntmps105, List.size_toArray, List.length_cons, List.length_nil, Nat.reduceAdd, Nat.reduceSub, Array.replicate_succ, Array.replicate_zero, List.push_toArray, List.append_toArray, List.nil_append, List.cons_append]
 gi_wp2
 gi_loopw [3] (fun i wr => i = .int .i64 (-1) /\ J 0 wr) (fun _ _ => 0)
 case atStart => exact ⟨rfl, h0⟩
 case round =>
  obtain ⟨rfl, hJs⟩ := hrel
  gi_wp2
  go_end0
  exact ⟨⟨_, rfl⟩, hJs⟩
end Go.Proofs.YtdloaifdpajcjaaGreatDoor
namespace Go.Bl
open Go.RowKit Go.Proofs Go.Proofs.YtdloaifdpajcjaaGreatDoor
set_option maxRecDepth 100000
set_option maxHeartbeats 8000000
def bwL (xs : List PV) : List (List PV) := (List.range xs.length).map fun j => [iP ((xs.length - 1 - j : Nat) : Int), xs.getD (xs.length - 1 - j) (.l [])]
theorem qe0 {xs : List PV} {k : Nat} {x : List PV} (h : (bwL xs)[k]? = some x) : k < xs.length /\ x = [iP ((xs.length - 1 - k : Nat) : Int), xs.getD (xs.length - 1 - k) (.l [])] := by
 unfold bwL at h
 rw [List.getElem?_map] at h
 rcases Nat.lt_or_ge k xs.length with hk | hk
 ·rw [List.getElem?_range hk] at h
  exact ⟨hk, (Option.some.inj h).symm⟩
 ·rw [List.getElem?_eq_none (by simpa using hk)] at h
  cases h
@[simp] theorem bwL_len (xs : List PV) : (bwL xs).length = xs.length := by simp [bwL]
theorem KD : ∀ {xs : List PV}, (∀ x ∈ xs, x.cells = [x]) -> xs.flatMap PV.cells = xs
 | [], _ => rfl
 | x :: xs, h => by rw [List.flatMap_cons, h x List.mem_cons_self, KD fun y hy => h y (List.mem_cons_of_mem _ hy)]; rfl
theorem qgr {A : Nat -> Prop} {w : World} {ad : Option Addr} {us : List Value} {b off : Nat} (h : Row A w ad us) (he : ad = some ⟨b, off, none⟩) : ∀ j v, us[j]? = some v -> w.cell? ⟨b, off + j, none⟩ = some v := by
 subst he; exact fun j v hj => by
  have := h.mem j v hj
  by_cases e : j = 0
  ·subst e; simpa [Addr.add] using this
  ·simpa [Addr.add, e] using this
theorem qfC (Z : Ad) (xs : List PV) (hx : ∀ x ∈ xs, x.cells = [x]) (hl : xs.length <= 1000000) : qi Z 105 [.itr [.p [.l xs]] (bwL xs)] .any [] := by
 refine ⟨enters_of Tryz.func105 Y55 rfl, fun w vals bs A _ _ _ _ hr => (by cases hr with | cons h _ => cases h), fun ρ pre ys ρ' post rs e => (by cases e), ?_⟩
 intro lb rows e
 cases e
 intro w us A hA henv hr
 cases hr with | cons h1 hr =>
 cases hr
 cases h1 with | p h1 h2 h3 =>
 cases h1 with | cons h4 h5 =>
 cases h5
 cases h4 with | l g g1 g2 g3 g4 g5 g6 =>
 rename_i ad0 adr cap s cs
 rw [KD hx] at g
 have hcs := g.length
 rw [bwL_len]
 refine ⟨fun k => [.int .i64 ((xs.length - 1 - k : Nat) : Int), cs.getD (xs.length - 1 - k) undef], fun k x hk => ?_, ?_⟩
 ·obtain ⟨q1, rfl⟩ := qe0 hk
  refine .cons (.v rfl) (.cons ?_ .nil)
  obtain ⟨y, hy⟩ : ∃ y, xs[xs.length - 1 - k]? = some y := ⟨_, List.getElem?_eq_getElem Y54⟩
  obtain ⟨v, hv, hr⟩ := g.get hy
  rw [List.getD_eq_getElem?_getD, hy, List.getD_eq_getElem?_getD, hv]
  exact hr
 ·intro l J Jx W hsz hkeep hJ hJx hY h0
  let Kp : World -> Prop := fun W' => ∀ b, b < w.heap.size -> ¬ A b -> W'.heap[b]? = w.heap[b]?
  have hst : ∀ W', Kp W' -> qQ A A w W' := fun W' h => ⟨h, fun _ _ q => q⟩
  obtain ⟨b0, o0, c0, e0, f0, rfl⟩ : ∃ b0 o0, ∃ (c0 : Nat) (e0 : Nat) (f0 : Nat), ad0 = ⟨b0, o0, none⟩ := by
   rcases h3 with h3 | ⟨b, off, c, e, fz, q, -⟩
   ·cases h3
   ·exact ⟨b, off, 0, 0, 0, Option.some.inj q⟩
  have hp : ∀ W', Kp W' -> W'.cell? ⟨b0, o0, none⟩ = some (.slice adr xs.length cap) := fun W' h => (h3.stay (hst W' h)).mem 0 _ rfl
  show CallsIn Fence.wide 2 Tryz.prog 105 #[.func (.yield l) #[] #[], .pointer (some ⟨b0, o0, none⟩)] W _
  rcases Nat.eq_zero_or_pos xs.length with hz | hz
  ·have hp0 := hp W hkeep
   rw [hz] at hp0 ⊢
   exact (qez l b0 o0 adr cap J W hp0 h0).mono fun e W' ⟨h1, h2⟩ => ⟨h1, .inl h2⟩
  ·obtain ⟨b, off, e1, -, -⟩ := g6.some_of Y54
   have e1' := e1
   subst e1'
   refine qfF l b0 o0 xs.length cap b off cs Kp hcs.symm hl J Jx hp (fun W' h j v hj => qgr (g6.stay (hst W' h)) rfl j v hj) ?_ W h0 hkeep
   intro k W1 v hJ1 hk hK1 hv
   have := hY k W1 hJ1 hk
   simp only [List.getD_eq_getElem?_getD, hv, Option.getD_some] at this
   obtain ⟨fn, tmps, assign, body, hy, hR⟩ := this
   refine ⟨fn, tmps, assign, body, hy, hR.mono ?_⟩
   rintro e W' (⟨q1, q2, q3⟩ | q)
   ·exact .inl ⟨q1, q2, fun b hb hn => (q3 b hb hn).trans (hK1 b hb hn)⟩
   ·exact .inr q
theorem qd4 (Z : Ad) (h : Hh) (hh : ∀ α g, h α g = g ()) (xs : List (List UInt8)) (hl : xs.length <= 1000000) : qi Z 105 [.itr [.p [lH h bP xs]] (bwL (xs.map bP))] .any [] := by
 simp only [lH, hh]
 exact qfC Z (xs.map bP) (fun x hx => by obtain ⟨y, -, rfl⟩ := List.mem_map.1 hx; rfl) (by simpa using hl)
theorem qf8 (Z : Ad) (h : Hh) (hh : ∀ α g, h α g = g ()) (xs : List (List UInt8)) : qi Z 49 [.pv (lH h bP xs)] (.pv (.f (.func 105) [] [.p [lH h bP xs]])) [.any] := by
 refine qB Z h hh ⟨Tryz.func49, Tryz.ntmps49⟩ rfl rfl rfl rfl rfl fun C hC => ?_
 unfold Tryz.f49
 cbv
 repeat' first
  | exact s0
  | apply And.intro
  | exact sq
  | trivial
end Go.Bl
namespace Go.Proofs.YtdloaifdpajcjaaGreatDoor
open Go.RowKit Go.Bl Go.Shelf
attribute [local go_sem] Oper.semAt_some
def ckP (b off0 n k : Nat) : Value := .slice (some ⟨b, off0 + 2 * k * 32, none⟩) (min 2 (n - 2 * k)) (min 2 (n - 2 * k))
theorem qfK {b off0 n k : Nat} (h : 2 * k + 2 <= n) : ckP b off0 n k = .slice (some ⟨b, off0 + 2 * k * 32, none⟩) 2 2 := by unfold ckP; rw [show min 2 (n - 2 * k) = 2 by omega]
theorem qfr {b off0 n k : Nat} (h : 2 * k + 1 = n) : ckP b off0 n k = .slice (some ⟨b, off0 + 2 * k * 32, none⟩) 1 1 := by unfold ckP; rw [show min 2 (n - 2 * k) = 1 by omega]
theorem qcM (l Bs o0 Bn o1 b off0 M L cap : Nat) (Kp : World -> Prop) (hL : M = (L + 1) / 2) (hM : M <= 100000) (hc1 : L <= cap) (hc2 : cap <= 2 ^ 63 - 1) (J : Nat -> World -> Prop) (Jx : World -> Prop)
  (hs : ∀ W, Kp W -> W.cell? ⟨Bs, o0, none⟩ = some (.slice (some ⟨b, off0, none⟩) L cap)) (hn' : ∀ W, Kp W -> W.cell? ⟨Bn, o1, none⟩ = some (.int .i64 2)) (hdr : ∀ k W, J k W -> J k W.drew) (hdk : ∀ W, Kp W -> Kp W.drew)
  (hY : ∀ k W, k < M -> J k W -> Kp W -> YieldAt Fence.wide 1 Tryz.prog l #[ckP b off0 L k] W fun e W' => (e = .returned (.bool true) /\ J (k + 1) W' /\ Kp W') ∨ (e = .returned (.bool false) /\ Jx W'))
  (W : World) (hW : Kp W) (h0 : J 0 W) :
  CallsIn Fence.wide 2 Tryz.prog 163 #[.func (.yield l) #[] #[], .pointer (some ⟨Bs, o0, none⟩), .pointer (some ⟨Bn, o1, none⟩)] W fun e W' => (∃ v, e = .returned v) /\ (J M W' ∨ Jx W') := by
 have HL := Hdq hL
 have hL9 : L <= 300000 := by omega
 clear hL
 refine callsIn_of_wp Tryz.func163 rfl trivial ?_ rfl
 simp only [Tryz.ntmps163, List.size_toArray, List.length_cons, List.length_nil, Nat.reduceAdd, Nat.reduceSub, Array.replicate_succ, Array.replicate_zero, List.push_toArray, List.append_toArray, List.nil_append, List.cons_append]
 gi_wp2
 gi_loopw [4] (fun i wr => ∃ k o : Nat, k <= M /\ o = 2 * k /\ i = .int .i64 o /\ J k wr /\ Kp wr)
  (fun i _ => L + 1 - (intOf i).toNat)
 case atStart => exact ⟨0, 0, Nat.zero_le _, rfl, rfl, h0, hW⟩
 case round =>
  obtain ⟨k, o, hk, ho, rfl, hJs, hnx⟩ := hrel
  have hBs' := hs _ hnx
  have hBn' := hn' _ hnx
  by_cases hkm : k < M
  ·have hJd : J k wr.drew := hdr _ _ hJs
   have hnd : Kp wr.drew := hdk _ hnx
   obtain ⟨fn, tmps, assign, body, hy, hR⟩ := hY k wr.drew hkm hJd hnd
   have hBs2 := hs _ hnd
   have hBn2 := hn' _ hnd
   have hol : o < L := by have := HL.out; omega
   have HO := Hdq ho
   have h21 : 2 * k + 2 <= L ∨ 2 * k + 1 = L := by have := HL.out; omega
   rcases h21 with h2 | h2
   ·rw [qfK h2, <- ho] at hy
    have i1 : o + 2 <= L := by omega
    have hmin : (if ((L - o : Nat) : Int) < 2 then ((L - o : Nat) : Int) else 2) = 2 := by rw [if_neg Y54]
    have hmin2 : min (2 : Int) ((L - o : Nat) : Int) = 2 := by omega
    clear ho h2 hol
    gi_wp2
    gi_region
    all_goals
     obtain ⟨wd, hwd⟩ := exq (wr.drew)
     rw [hwd] at hy hR hnd hBs2 hBn2 ⊢
     clear hBs' hBn' hJd hnx hJs hmin
     gi_wp2
     refine hR.mono ?_
     rintro e W3 (⟨rfl, hJ3, hk3⟩ | ⟨rfl, hJx3⟩)
     ·have hBs3 := hs _ hk3
      have hBn3 := hn' _ hk3
      gi_wp2
      go_roundw
      case rel => exact ⟨k + 1, o + 2, by omega, by have := HO.out; omega, by simp, hJ3, hk3⟩
      case measure => simp [intOf]; omega
     ·gi_wp2
      exact Y39
   ·rw [qfr h2, <- ho] at hy
    have i1 : o + 1 = L := by omega
    have i3 : L - o = 1 := by omega
    have hmin : (if ((L - o : Nat) : Int) < 2 then ((L - o : Nat) : Int) else 2) = 1 := by rw [i3]; rfl
    have hmin2 : min (2 : Int) ((L - o : Nat) : Int) = 1 := by omega
    have i4 : o + 1 <= L := by omega
    have HI1 := Hdq i1
    clear ho h2 hol i3 i1
    gi_wp2
    gi_region
    all_goals
     obtain ⟨wd, hwd⟩ := exq (wr.drew)
     rw [hwd] at hy hR hnd hBs2 hBn2 ⊢
     clear hBs' hBn' hJd hnx hJs hmin
     gi_wp2
     refine hR.mono ?_
     rintro e W3 (⟨rfl, hJ3, hk3⟩ | ⟨rfl, hJx3⟩)
     ·have hBs3 := hs _ hk3
      have hBn3 := hn' _ hk3
      gi_wp2
      go_roundw
      case rel => exact ⟨k + 1, o + 2, by omega, by have := HO.out; omega, by simp, hJ3, hk3⟩
      case measure => simp [intOf]; omega
     ·gi_wp2
      exact Y39
  ·have : k = M := by omega
   subst this
   have i2 : ¬ o < L := by have := HL.out; omega
   clear ho
   gi_wp2
   go_end0
   exact ⟨⟨_, rfl⟩, .inl hJs⟩
end Go.Proofs.YtdloaifdpajcjaaGreatDoor
namespace Go.Bl
open Go.RowKit Go.Proofs Go.Proofs.YtdloaifdpajcjaaGreatDoor
set_option maxRecDepth 100000
set_option maxHeartbeats 8000000
def Zw (xs : List PV) : List (List PV) := (List.range ((xs.length + 1) / 2)).map fun j => [.l ((xs.drop (2 * j)).take 2)]
theorem YO {xs : List PV} {k : Nat} {x : List PV} (h : (Zw xs)[k]? = some x) : k < (xs.length + 1) / 2 /\ x = [.l ((xs.drop (2 * k)).take 2)] := by
 unfold Zw at h
 rw [List.getElem?_map] at h
 rcases Nat.lt_or_ge k ((xs.length + 1) / 2) with hk | hk
 ·rw [List.getElem?_range hk] at h
  exact ⟨hk, (Option.some.inj h).symm⟩
 ·rw [List.getElem?_eq_none (by simpa using hk)] at h
  cases h
@[simp] theorem twosL_len (xs : List PV) : (Zw xs).length = (xs.length + 1) / 2 := by simp [Zw]
theorem qay {α β : Type} {f : α -> List β} {w : Nat} : ∀ {xs : List α}, (∀ x ∈ xs, (f x).length = w) -> (xs.flatMap f).length = xs.length * w
 | [], _ => by simp
 | x :: xs, h => by
  rw [List.flatMap_cons, List.length_append, h x List.mem_cons_self, qay fun y hy => h y (List.mem_cons_of_mem _ hy), List.length_cons, Nat.succ_mul]
  omega
theorem Ui {w : Nat} : ∀ (xs : List PV), (∀ x ∈ xs, x.cells.length = w) -> ∀ a, (xs.drop a).flatMap PV.cells = (xs.flatMap PV.cells).drop (a * w)
 | [], _, a => by simp
 | x :: xs, h, 0 => by simp
 | x :: xs, h, a + 1 => by
  have hx := h x List.mem_cons_self
  have e1 : List.drop ((a + 1) * w) x.cells = [] := List.drop_eq_nil_of_le (by rw [hx, Nat.succ_mul]; omega)
  rw [List.drop_succ_cons, Ui xs (fun y hy => h y (List.mem_cons_of_mem _ hy)) a, List.flatMap_cons, List.drop_append, e1, hx, List.nil_append, Nat.succ_mul, Nat.add_sub_cancel]
theorem Ul {w : Nat} : ∀ (xs : List PV), (∀ x ∈ xs, x.cells.length = w) -> ∀ a, (xs.take a).flatMap PV.cells = (xs.flatMap PV.cells).take ((xs.take a).length * w)
 | [], _, a => by simp
 | x :: xs, h, 0 => by simp
 | x :: xs, h, a + 1 => by
  have hx := h x List.mem_cons_self
  have e1 : List.take (((xs.take a).length + 1) * w) x.cells = x.cells := List.take_of_length_le (by rw [hx, Nat.succ_mul]; omega)
  rw [List.take_succ_cons, List.flatMap_cons, Ul xs (fun y hy => h y (List.mem_cons_of_mem _ hy)) a, List.flatMap_cons, List.length_cons, List.take_append, e1, hx, Nat.succ_mul, Nat.add_sub_cancel]
theorem qdW (xs : List PV) (w : Nat) (h : ∀ x ∈ xs, x.cells.length = w) (a c : Nat) : ((xs.drop a).take c).flatMap PV.cells = ((xs.flatMap PV.cells).drop (a * w)).take (((xs.drop a).take c).length * w) := by
 rw [Ul _ (fun y hy => h y (List.mem_of_mem_drop hy)), Ui xs h]
theorem qfB (W : World) : Fr [] W W.drew := Fr.of_heap rfl rfl rfl rfl
theorem qbD (Z : Ad) (xs : List PV) (hx : ∀ x ∈ xs, x.cells.length = 32) (hl : xs.length <= 100000) (h1 : 1 <= xs.length) : qi Z 163 [.itr [.p [.l xs], .p [.v (.int .i64 2)]] (Zw xs)] .any [] := by
 refine ⟨enters_of Tryz.func163 Y55 rfl, fun w vals bs A _ _ _ _ hr => (by cases hr with | cons h _ => cases h), fun ρ pre ys ρ' post rs e => (by cases e), ?_⟩
 intro lb rows e
 cases e
 intro w us A hA henv hr
 cases hr with | cons h1' hr =>
 cases hr with | cons h2' hr =>
 cases hr
 cases h1' with | @p _ ad0 _ h1 h2 h3 =>
 cases h1 with | cons h4 h5 =>
 cases h5
 cases h2' with | @p _ ad1 _ k1 k2 k3 =>
 cases k1 with | cons k4 k5 =>
 cases k5
 cases k4
 cases h4 with | @l _ adr cap s cs g g1 g2 g3 g4 g5 g6 =>
 obtain rfl : s = 32 := by
  cases xs with
  | nil => simp at h1
  | cons x xs => rw [<- g1 x List.mem_cons_self]; exact hx x List.mem_cons_self
 have hcs := g.length
 have hfl : (xs.flatMap PV.cells).length = xs.length * 32 := qay hx
 rw [twosL_len]
 obtain ⟨b0, o0, rfl⟩ : ∃ b0 o0, ad0 = ⟨b0, o0, none⟩ := by
  rcases h3 with h3 | ⟨b, off, c, e, fz, q, -⟩
  ·cases h3
  ·exact ⟨b, off, Option.some.inj q⟩
 obtain ⟨b1, o1, rfl⟩ : ∃ b1 o1, ad1 = ⟨b1, o1, none⟩ := by
  rcases k3 with h3 | ⟨b, off, c, e, fz, q, -⟩
  ·cases h3
  ·exact ⟨b, off, Option.some.inj q⟩
 obtain ⟨b, off, e1, -, -⟩ := g6.some_of Y54
 subst e1
 refine ⟨fun k => [ckP b off xs.length k], fun k x hk => ?_, ?_⟩
 ·obtain ⟨q1, rfl⟩ := YO hk
  refine .cons ?_ .nil
  have hlen : ((xs.drop (2 * k)).take 2).length = min 2 (xs.length - 2 * k) := by simp
  unfold ckP
  rw [<- hlen]
  have hg := (g.drop (2 * k * 32)).take (((xs.drop (2 * k)).take 2).length * 32)
  have e2 : ((xs.drop (2 * k)).take 2).flatMap PV.cells = ((xs.flatMap PV.cells).drop (2 * k * 32)).take (((xs.drop (2 * k)).take 2).length * 32) := qdW xs 32 hx _ _
  rw [<- e2] at hg
  refine .l hg (fun y hy => hx y (List.mem_of_mem_drop (List.mem_of_mem_take hy))) (fun y hy => g2 y (List.mem_of_mem_drop (List.mem_of_mem_take hy))) Y86 (Nat.le_refl _) (by rw [hlen]; omega) ?_
  exact (g6.drop (2 * k * 32)).take _
 ·intro l J Jx W hsz hkeep hJ hJx hY h0
  let Kp : World -> Prop := fun W' => ∀ b, b < w.heap.size -> ¬ A b -> W'.heap[b]? = w.heap[b]?
  have hst : ∀ W', Kp W' -> qQ A A w W' := fun W' h => ⟨h, fun _ _ q => q⟩
  refine qcM l b0 o0 b1 o1 b off ((xs.length + 1) / 2) xs.length cap Kp rfl Y54 g4 (by simpa [maxLen] using g5) J Jx (fun W' h => (h3.stay (hst W' h)).mem 0 _ rfl) (fun W' h => (k3.stay (hst W' h)).mem 0 _ rfl) (fun k W h => hJ k W _ h (qfB W)) (fun W h => h) ?_ W hkeep h0
  intro k W1 hk hJ1 hK1
  obtain ⟨fn, tmps, assign, body, hy, hR⟩ := hY k W1 hJ1 hk
  refine ⟨fn, tmps, assign, body, hy, hR.mono ?_⟩
  rintro e W' (⟨q1, q2, q3⟩ | q)
  ·exact .inl ⟨q1, q2, fun b hb hn => (q3 b hb hn).trans (hK1 b hb hn)⟩
  ·exact .inr q
end Go.Bl
