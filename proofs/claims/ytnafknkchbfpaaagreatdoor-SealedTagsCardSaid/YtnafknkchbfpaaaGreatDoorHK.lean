import Derived.Test.YtnafknkchbfpaaaGreatDoorHJ
import Derived.Test.YtnafknkchbfpaaaGreatDoorGB
import Derived.Test.YtnafknkchbfpaaaGreatDoorStr
import Derived.Test.YtnafknkchbfpaaaGreatDoorGD
import Derived.Test.YtnafknkchbfpaaaGreatDoorStg
import Derived.Outline
import Derived.Maps.RangeWalk
import Derived.Deep.QuietTactic
import Derived.BigQuiet
set_option maxRecDepth 1000000
set_option maxHeartbeats 8000000
namespace Go.Proofs.YtnafknkchbfpaaaGreatDoor
open Go.RowKit Go.Bl
set_option linter.unusedVariables false
theorem frame29 (a : Go.Act) (hs : a.tmps.size = 29) (hd : a.defers = []) : a = ⟨(slot a 0 :: slot a 1 :: slot a 2 :: slot a 3 :: slot a 4 :: slot a 5 :: slot a 6 :: slot a 7 :: slot a 8 :: slot a 9 :: slot a 10 :: slot a 11 :: slot a 12 :: slot a 13 :: slot a 14 :: slot a 15 :: slot a 16 :: slot a 17 :: slot a 18 :: slot a 19 :: slot a 20 :: slot a 21 :: slot a 22 :: slot a 23 :: slot a 24 :: slot a 25 :: slot a 26 :: slot a 27 :: slot a 28 :: []).toArray, []⟩ := frameX a 29 hs hd
noncomputable def tgDR : Code := ((Tryz.f16.body.bind (findRegionC 1)).getD .skip)
theorem tgD (w : World) (a : Go.Act) (hsz : a.tmps.size = 29) (kv : Value) (x : Int) (q o vc : Nat) (key xs : List UInt8) (S1 S2 : ByteArray) (r : Bool) (hx : 0 <= x) (hx2 : x < 512) (hc8 : 8 <= vc) (hc9 : 16 <= vc) (hc12 : ¬ (vc : Int) < 8) (hV : Bs (fun _ => False) w (.slice (some ⟨q, o, none⟩) 16 vc) xs) (hS1 : (⟨(tgdL key x (xs.take 8)).toArray⟩ : ByteArray) = S1) (hS2 : (⟨xs.toArray⟩ : ByteArray) = S2) (hr : (S1.toList == S2.toList) = r) (htag : ∀ p, Fr [] w p -> Calls Tryz.prog 17 #[kv, .int .i64 x, .slice (some ⟨q, o, none⟩) 8 vc] p fun e w' => ∃ u, e = .returned u /\ OwnB 5 p.heap.size w' u (tgdL key x (xs.take 8)) /\ Fr [] p w') (h0 : slot a 0 = kv) (h1 : slot a 1 = .int .i64 x) (h2 : slot a 2 = .slice (some ⟨q, o, none⟩) 16 vc) (Q : Exit -> Go.Act -> World -> Prop)
  (hQ : ∀ (b : Go.Act) (p : World), b.defers = a.defers -> b.tmps.size = 29 -> (∀ s, s ∉ ([7, 8, 9, 10, 11, 12, 13, 14, 15, 16, 17, 18, 19, 20, 21, 22, 23, 24, 25, 26, 27, 28, 6] : List Nat) -> slot b s = slot a s) -> slot b 6 = .bool r -> Fr [] w p -> Q .normal b p) : Code.wp Tryz.prog tgDR Q a w := by
 conv => arg 2; whnf
 refine wp_region_ghost (by kernel_rfl) (by kernel_rfl) [some 7, some 8, some 9, some 10, some 11, some 12, some 13, some 14, some 15, some 16, some 17, some 18, some 19, some 20, some 21, some 22, some 23, some 24, some 25, some 26, some 27, some 28, some 6] [16] [.rd (.slice (some ⟨q, o, none⟩) 16 vc) 1, .rd (.int .i64 (16 : Int)) 1, .rd (.bool true) 1, .rd (.bool true) 1, .rd (.int .i64 x) 1, .rd (.bool true) 1, .rd (.bool true) 1, .rd (.bool true) 1, .rd (.int .i64 x) 1, .rd (.bool true) 1, .rd (.bool true) 1, .rd (.bool true) 1, .rd (kv) 1, .rd (.int .i64 x) 1, .rd (.slice (some ⟨q, o, none⟩) 16 vc) 1, .rd (.slice (some ⟨q, o, none⟩) 8 vc) 1, .gh 0, .rd (.string S1) 1, .rd (.slice (some ⟨q, o, none⟩) 16 vc) 1, .rd (.string S2) 1, .rd (.bool r) 1, .rd (.bool r) 1, .rd (.bool r) 1] (fun cj => undef) (fun s g p => Fr [] w p /\ (0 < s -> Bs (fun _ => False) p (g 0) (tgdL key x (xs.take 8)))) (by kernel_rfl) (by rfl) (by rw [hsz]; rfl) (by kernel_rfl) (by kernel_rfl) (by decide) ?_ ⟨?_, ?_, ?_, ?_, ?_, ?_, ?_, ?_, ?_, ?_, ?_, ?_, ?_, ?_, ?_, ?_, ?_, ?_, ?_, ?_, ?_, ?_, ?_, trivial⟩ ?_
 ·intro w1 hw1
  exact ⟨fun _ => undef, ⟨hw1, fun hk => absurd hk (by decide)⟩⟩
 ·refine ⟨⟨7, rfl⟩, .inl rfl, fun b p s g hs hlow hS h => ?_⟩
  have e0 := h.eo (by decide) h2
  refine gw0 rfl rfl ?_
  obtain ⟨ρ, hρ, ec⟩ := evx b
  rw [hρ] at e0 ⊢
  unfold execOp; simp [go_sem, e0, ec]
 ·refine ⟨⟨8, rfl⟩, .inl rfl, fun b p s g hs hlow hS h => ?_⟩
  have e0 := h.er 0 7 (by kernel_rfl) rfl rfl
  refine gw0 rfl rfl ?_
  obtain ⟨ρ, hρ, ec⟩ := evx b
  rw [hρ] at e0 ⊢
  unfold execOp; simp [go_sem, e0, ec]
 ·refine ⟨⟨9, rfl⟩, .inl rfl, fun b p s g hs hlow hS h => ?_⟩
  have e0 := h.er 1 8 (by kernel_rfl) rfl rfl
  refine gw0 rfl rfl ?_
  obtain ⟨ρ, hρ, ec⟩ := evx b
  rw [hρ] at e0 ⊢
  unfold execOp; simp [go_sem, e0, ec]
 ·refine ⟨⟨10, rfl⟩, .inl rfl, fun b p s g hs hlow hS h => ?_⟩
  have e0 := h.er 2 9 (by kernel_rfl) rfl rfl
  refine gw0 rfl rfl ?_
  obtain ⟨ρ, hρ, ec⟩ := evx b
  rw [hρ] at e0 ⊢
  unfold execOp; simp [go_sem, e0, ec]
 ·refine ⟨⟨11, rfl⟩, .inl rfl, fun b p s g hs hlow hS h => ?_⟩
  have e0 := h.eo (by decide) h1
  refine ⟨_, by rfl, .inl ⟨(wanted_some 3 true 10 rfl (by rfl) (by rw [h.size, hsz]; decide) (h.rd 3 _ _ 10 (by kernel_rfl) rfl rfl)), ?_⟩⟩
  obtain ⟨ρ, hρ, ec⟩ := evx b
  rw [hρ] at e0 ⊢
  unfold execOp; simp [go_sem, e0, ec]
 ·refine ⟨⟨12, rfl⟩, .inl rfl, fun b p s g hs hlow hS h => ?_⟩
  have e0 := h.er 4 11 (by kernel_rfl) rfl rfl
  refine ⟨_, by rfl, .inl ⟨(wanted_some 3 true 10 rfl (by rfl) (by rw [h.size, hsz]; decide) (h.rd 3 _ _ 10 (by kernel_rfl) rfl rfl)), ?_⟩⟩
  obtain ⟨ρ, hρ, ec⟩ := evx b
  rw [hρ] at e0 ⊢
  unfold execOp; simp [go_sem, e0, ec, hx]
 ·refine ⟨⟨13, rfl⟩, .inl rfl, fun b p s g hs hlow hS h => ?_⟩
  have e0 := h.er 3 10 (by kernel_rfl) rfl rfl
  have e1 := h.er 5 12 (by kernel_rfl) rfl rfl
  refine gw0 rfl rfl ?_
  obtain ⟨ρ, hρ, ec⟩ := evx b
  rw [hρ] at e0 e1 ⊢
  unfold execOp; simp [go_sem, e0, e1, ec]
 ·refine ⟨⟨14, rfl⟩, .inl rfl, fun b p s g hs hlow hS h => ?_⟩
  have e0 := h.er 6 13 (by kernel_rfl) rfl rfl
  refine gw0 rfl rfl ?_
  obtain ⟨ρ, hρ, ec⟩ := evx b
  rw [hρ] at e0 ⊢
  unfold execOp; simp [go_sem, e0, ec]
 ·refine ⟨⟨15, rfl⟩, .inl rfl, fun b p s g hs hlow hS h => ?_⟩
  have e0 := h.eo (by decide) h1
  refine ⟨_, by rfl, .inl ⟨(wanted_some 7 true 14 rfl (by rfl) (by rw [h.size, hsz]; decide) (h.rd 7 _ _ 14 (by kernel_rfl) rfl rfl)), ?_⟩⟩
  obtain ⟨ρ, hρ, ec⟩ := evx b
  rw [hρ] at e0 ⊢
  unfold execOp; simp [go_sem, e0, ec]
 ·refine ⟨⟨16, rfl⟩, .inl rfl, fun b p s g hs hlow hS h => ?_⟩
  have e0 := h.er 8 15 (by kernel_rfl) rfl rfl
  refine ⟨_, by rfl, .inl ⟨(wanted_some 7 true 14 rfl (by rfl) (by rw [h.size, hsz]; decide) (h.rd 7 _ _ 14 (by kernel_rfl) rfl rfl)), ?_⟩⟩
  obtain ⟨ρ, hρ, ec⟩ := evx b
  rw [hρ] at e0 ⊢
  unfold execOp; simp [go_sem, e0, ec, hx2]
 ·refine ⟨⟨17, rfl⟩, .inl rfl, fun b p s g hs hlow hS h => ?_⟩
  have e0 := h.er 7 14 (by kernel_rfl) rfl rfl
  have e1 := h.er 9 16 (by kernel_rfl) rfl rfl
  refine gw0 rfl rfl ?_
  obtain ⟨ρ, hρ, ec⟩ := evx b
  rw [hρ] at e0 e1 ⊢
  unfold execOp; simp [go_sem, e0, e1, ec]
 ·refine ⟨⟨18, rfl⟩, .inl rfl, fun b p s g hs hlow hS h => ?_⟩
  have e0 := h.er 10 17 (by kernel_rfl) rfl rfl
  refine gw0 rfl rfl ?_
  obtain ⟨ρ, hρ, ec⟩ := evx b
  rw [hρ] at e0 ⊢
  unfold execOp; simp [go_sem, e0, ec]
 ·refine ⟨⟨19, rfl⟩, .inl rfl, fun b p s g hs hlow hS h => ?_⟩
  have e0 := h.eo (by decide) h0
  refine ⟨_, by rfl, .inl ⟨(wanted_some 11 true 18 rfl (by rfl) (by rw [h.size, hsz]; decide) (h.rd 11 _ _ 18 (by kernel_rfl) rfl rfl)), ?_⟩⟩
  obtain ⟨ρ, hρ, ec⟩ := evx b
  rw [hρ] at e0 ⊢
  unfold execOp; simp [go_sem, e0, ec]
 ·refine ⟨⟨20, rfl⟩, .inl rfl, fun b p s g hs hlow hS h => ?_⟩
  have e0 := h.eo (by decide) h1
  refine ⟨_, by rfl, .inl ⟨(wanted_some 11 true 18 rfl (by rfl) (by rw [h.size, hsz]; decide) (h.rd 11 _ _ 18 (by kernel_rfl) rfl rfl)), ?_⟩⟩
  obtain ⟨ρ, hρ, ec⟩ := evx b
  rw [hρ] at e0 ⊢
  unfold execOp; simp [go_sem, e0, ec]
 ·refine ⟨⟨21, rfl⟩, .inl rfl, fun b p s g hs hlow hS h => ?_⟩
  have e0 := h.eo (by decide) h2
  refine ⟨_, by rfl, .inl ⟨(wanted_some 11 true 18 rfl (by rfl) (by rw [h.size, hsz]; decide) (h.rd 11 _ _ 18 (by kernel_rfl) rfl rfl)), ?_⟩⟩
  obtain ⟨ρ, hρ, ec⟩ := evx b
  rw [hρ] at e0 ⊢
  unfold execOp; simp [go_sem, e0, ec]
 ·refine ⟨⟨22, rfl⟩, .inl rfl, fun b p s g hs hlow hS h => ?_⟩
  have e0 := h.er 14 21 (by kernel_rfl) rfl rfl
  refine ⟨_, by rfl, .inl ⟨(wanted_some 11 true 18 rfl (by rfl) (by rw [h.size, hsz]; decide) (h.rd 11 _ _ 18 (by kernel_rfl) rfl rfl)), ?_⟩⟩
  obtain ⟨ρ, hρ, ec⟩ := evx b
  rw [hρ] at e0 ⊢
  unfold execOp; simp [go_sem, e0, ec, hc8, hc9, hc12]
 ·refine ⟨rfl, .inl rfl, fun b p g hS h => ?_⟩
  have e0 := h.er 12 19 (by kernel_rfl) rfl rfl
  have e1 := h.er 13 20 (by kernel_rfl) rfl rfl
  have e2 := h.er 15 22 (by kernel_rfl) rfl rfl
  obtain ⟨hf, q0⟩ := hS
  refine opV_func _ (by rfl) (wanted_some 11 true 18 rfl (by rfl) (by rw [h.size, hsz]; decide) (h.rd 11 _ _ 18 (by kernel_rfl) rfl rfl)) 17 _ _ rfl #[kv, .int .i64 x, .slice (some ⟨q, o, none⟩) 8 vc] (by simp only [List.map_toArray, List.map_cons, List.map_nil, e0, e1, e2]) (by simp [go_sem]) ((htag p hf).mono ?_)
  rintro e p' ⟨u, rfl, ho, hf'⟩
  exact ⟨_, rfl, ⟨hf.trans hf', fun _ => ho.bs (by simp)⟩⟩
 ·refine ⟨⟨24, rfl⟩, .inl rfl, fun b p s g hs hlow hS h => ?_⟩
  have e0 := (show b.eval (.tmp 23) = g 0 from h.gh 16 _ 23 (by kernel_rfl) rfl rfl)
  obtain ⟨hf, q0⟩ := hS
  exact ⟨_, by rfl, .inl ⟨(wanted_some 11 true 18 rfl (by rfl) (by rw [h.size, hsz]; decide) (h.rd 11 _ _ 18 (by kernel_rfl) rfl rfl)), run_strO (src := 22) (dst := 9) Tryz.underlying22 Tryz.underlying5 Tryz.underlying9 (.tmp 23) rfl e0 (q0 (hlow 0 16 rfl (by kernel_rfl))) S1 hS1⟩⟩
 ·refine ⟨⟨25, rfl⟩, .inl rfl, fun b p s g hs hlow hS h => ?_⟩
  have e0 := h.eo (by decide) h2
  refine ⟨_, by rfl, .inl ⟨(wanted_some 11 true 18 rfl (by rfl) (by rw [h.size, hsz]; decide) (h.rd 11 _ _ 18 (by kernel_rfl) rfl rfl)), ?_⟩⟩
  obtain ⟨ρ, hρ, ec⟩ := evx b
  rw [hρ] at e0 ⊢
  unfold execOp; simp [go_sem, e0, ec]
 ·refine ⟨⟨26, rfl⟩, .inl rfl, fun b p s g hs hlow hS h => ?_⟩
  have e0 := h.er 18 25 (by kernel_rfl) rfl rfl
  obtain ⟨hf, q0⟩ := hS
  exact ⟨_, by rfl, .inl ⟨(wanted_some 11 true 18 rfl (by rfl) (by rw [h.size, hsz]; decide) (h.rd 11 _ _ 18 (by kernel_rfl) rfl rfl)), run_strO (src := 22) (dst := 9) Tryz.underlying22 Tryz.underlying5 Tryz.underlying9 (.tmp 25) rfl e0 (hV.keep hf (by simp)) S2 hS2⟩⟩
 ·refine ⟨⟨27, rfl⟩, .inl rfl, fun b p s g hs hlow hS h => ?_⟩
  have e0 := h.er 17 24 (by kernel_rfl) rfl rfl
  have e1 := h.er 19 26 (by kernel_rfl) rfl rfl
  refine ⟨_, by rfl, .inl ⟨(wanted_some 11 true 18 rfl (by rfl) (by rw [h.size, hsz]; decide) (h.rd 11 _ _ 18 (by kernel_rfl) rfl rfl)), ?_⟩⟩
  obtain ⟨ρ, hρ, ec⟩ := evx b
  rw [hρ] at e0 e1 ⊢
  unfold execOp; simp [go_sem, e0, e1, ec, hr]
 ·refine ⟨⟨28, rfl⟩, .inl rfl, fun b p s g hs hlow hS h => ?_⟩
  have e0 := h.er 11 18 (by kernel_rfl) rfl rfl
  have e1 := h.er 20 27 (by kernel_rfl) rfl rfl
  refine gw0 rfl rfl ?_
  obtain ⟨ρ, hρ, ec⟩ := evx b
  rw [hρ] at e0 e1 ⊢
  unfold execOp; simp [go_sem, e0, e1, ec]
 ·refine ⟨⟨6, rfl⟩, .inl rfl, fun b p s g hs hlow hS h => ?_⟩
  have e0 := h.er 21 28 (by kernel_rfl) rfl rfl
  refine gw0 rfl rfl ?_
  obtain ⟨ρ, hρ, ec⟩ := evx b
  rw [hρ] at e0 ⊢
  unfold execOp; simp [go_sem, e0, ec]
 ·intro b p h1 h2 h3 h4 h5
  obtain ⟨g, h4, h6⟩ := h4
  have r6 : slot b 6 = .bool r := h5 22 (.bool r) _ 6 rfl rfl
  exact hQ b p h1 (h2.trans hsz) (fun s hs => h3 s (fun hm => hs (by simpa using hm))) r6 h4.1
def tgB2 (key : List UInt8) (x : Int) (xs : List UInt8) : Bool := decide (xs.length = 16 /\ (0 <= x /\ x < 512) /\ xs.drop 8 = tagL key (beK 8 x ++ xs.take 8))
theorem tgB2_eq {key : List UInt8} {x : Int} {xs : List UInt8} (h : xs.length = 16) (h1 : 0 <= x /\ x < 512) {S1 S2 : ByteArray} (h2 : (⟨(tgdL key x (xs.take 8)).toArray⟩ : ByteArray) = S1) (h3 : (⟨xs.toArray⟩ : ByteArray) = S2) : (S1.toList == S2.toList) = tgB2 key x xs := by
 subst h2 h3
 have e : ∀ l : List UInt8, (⟨l.toArray⟩ : ByteArray).toList = l := bA_tl
 rw [e, e, tgdL]
 have h9 : xs = xs.take 8 ++ xs.drop 8 := (List.take_append_drop 8 xs).symm
 by_cases h8 : xs.drop 8 = tagL key (beK 8 x ++ xs.take 8)
 ·rw [tgB2, decide_eq_true ⟨h, h1, h8⟩, <- h8, <- h9]
  exact beq_self_eq_true _
 ·rw [tgB2, decide_eq_false (fun h => h8 h.2.2)]
  refine beq_eq_false_iff_ne.2 fun h7 => h8 ?_
  have h6 : xs.take 8 ++ tagL key (beK 8 x ++ xs.take 8) = xs.take 8 ++ xs.drop 8 := h7.trans h9
  exact (List.append_cancel_left h6).symm
theorem rtagged_any (w0 : World) (kv v : Value) (key xs : List UInt8) (x : Int) (hK : Bs (fun b => w0.heap.size <= b) w0 kv key) (hV : Bs (fun _ => False) w0 v xs) (hkl : key.length <= 1000000) (hR : RG w0) :
  Calls Tryz.prog 16 #[kv, .int .i64 x, v] w0 fun e w' => e = .returned (.bool (tgB2 key x xs)) /\ Fr [] w0 w' := by
 obtain ⟨va, vc, rfl, hvc, -, hrow⟩ := id hV
 obtain ⟨vn, hvn⟩ : ∃ q, xs.length = q := ⟨_, rfl⟩
 rw [hvn] at hV hvc ⊢
 by_cases h16 : vn = 16
 ·subst h16
  by_cases h0 : 0 <= x
  ·by_cases h1 : x < 512
   ·obtain ⟨q, o, rfl, -, -⟩ := hrow.some_of (by rw [List.length_map]; omega)
    obtain ⟨S1, hS1⟩ : ∃ S, (⟨(tgdL key x (xs.take 8)).toArray⟩ : ByteArray) = S := ⟨_, rfl⟩
    obtain ⟨S2, hS2⟩ : ∃ S, (⟨xs.toArray⟩ : ByteArray) = S := ⟨_, rfl⟩
    obtain ⟨r, hr⟩ : ∃ r, tgB2 key x xs = r := ⟨_, rfl⟩
    have hr2 : (S1.toList == S2.toList) = r := (tgB2_eq hvn ⟨h0, h1⟩ hS1 hS2).trans hr
    have htag : ∀ p, Fr [] w0 p -> Calls Tryz.prog 17 #[kv, .int .i64 x, .slice (some ⟨q, o, none⟩) 8 vc] p fun e w' => ∃ u, e = .returned u /\ OwnB 5 p.heap.size w' u (tgdL key x (xs.take 8)) /\ Fr [] p w' := fun p hf =>
     rtag16_any p kv (.slice (some ⟨q, o, none⟩) 8 vc) key (xs.take 8) x (hK.mono (A' := fun b => p.heap.size <= b) hf (by simp) (fun b hb => .inl (Nat.le_trans hf.size hb))) (bs_low ((hV.take 8 (by decide)).keep hf (by simp))) hkl (by rw [List.length_take]; omega) (hR.keep hf)
    have HH := Lib.hid (And.intro hV (And.intro hS1 (And.intro hS2 (And.intro hr2 htag))))
    have HR := Lib.hid hr
    clear hV hS1 hS2 hr2 htag hr hK hR hvn hrow
    go_enter Tryz.func16, Tryz.ntmps16
    go_wp2
    refine tgD _ _ rfl kv x q o vc key xs S1 S2 r h0 h1 (by omega) hvc (by omega) HH.out.1 HH.out.2.1 HH.out.2.2.1 HH.out.2.2.2.1 HH.out.2.2.2.2 rfl rfl rfl _ ?_
    intro b p hd hs ho r6 hf
    rw [frame29 b hs hd, r6]
    have HF := Lib.hid hf
    clear hf ho hs hd r6
    go_wp2
    go_ret
    exact ⟨by rw [HR.out]; rfl, HF.out⟩
   ·have HR := Lib.hid (show tgB2 key x xs = false from decide_eq_false (fun h => h1 h.2.1.2))
    have d0 : decide (0 <= x) = true := decide_eq_true h0
    have d1 : decide (x < 512) = false := decide_eq_false (Int.not_lt.2 (Int.not_lt.1 h1))
    clear hV hK hR hvn hrow hvc
    go_enter Tryz.func16, Tryz.ntmps16
    go_wp2
    go_quiet (fail)
    go_wp2
    go_ret
    exact ⟨by rw [HR.out]; rfl, ((Dr.refl _).drewN _).fr⟩
  ·have HR := Lib.hid (show tgB2 key x xs = false from decide_eq_false (fun h => h0 h.2.1.1))
   have d0 : decide (0 <= x) = false := decide_eq_false (Int.not_le.2 (Int.not_le.1 h0))
   clear hV hK hR hvn hrow hvc
   go_enter Tryz.func16, Tryz.ntmps16
   go_wp2
   go_quiet (fail)
   go_wp2
   go_ret
   exact ⟨by rw [HR.out]; rfl, ((Dr.refl _).drewN _).fr⟩
 ·have hi : ¬ (vn : Int) = 16 := by omega
  have HR := Lib.hid (show tgB2 key x xs = false from decide_eq_false (fun h => h16 (hvn.symm.trans h.1)))
  have d0 : ((vn : Int) == 16) = false := by simpa using hi
  clear hV hK hR hvn hrow hvc h16 hi
  go_enter Tryz.func16, Tryz.ntmps16
  go_wp2
  go_quiet (fail)
  go_wp2
  go_ret
  exact ⟨by rw [HR.out]; rfl, ((Dr.refl _).drewN _).fr⟩
end Go.Proofs.YtnafknkchbfpaaaGreatDoor
