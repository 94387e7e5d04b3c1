import Derived.Test.YtnafknkchbfpaaaGreatDoorGH
import Derived.Test.YtnafknkchbfpaaaGreatDoorGI
import Derived.Outline
import Derived.Maps.RangeWalk
import Derived.Test.YtnafknkchbfpaaaGreatDoorGB
import Derived.Test.YtnafknkchbfpaaaGreatDoorStr
import Derived.Test.YtnafknkchbfpaaaGreatDoorGD
import Derived.Deep.MidRow
set_option maxRecDepth 1000000
set_option maxHeartbeats 8000000
namespace Go.Proofs.YtnafknkchbfpaaaGreatDoor
open Go.RowKit Go.Bl
set_option linter.unusedVariables false
def longB (mn fn : Nat) (s : Int) : Bool := decide (100 < mn ∨ 400 < fn ∨ (400 < s /\ s <= 2000))
theorem long16_any (w : World) (ma fa : Option Addr) (mn mc fn fc : Nat) (n : Int) (q : Par) : Calls Tryz.prog 10 #[.agg #[.slice ma mn mc, .int .i64 n, .slice fa fn fc, .int .i64 q.size, .int .i64 q.sent, .int .i64 q.spots, .int .i64 q.per, .int .i64 q.pat, .int .i64 q.ret]] w fun e w' => e = .returned (.bool (longB mn fn q.size)) /\ Fr [] w w' := by
 obtain ⟨r, hr⟩ : ∃ r, longB mn fn q.size = r := ⟨_, rfl⟩
 rw [hr]
 by_cases h1 : 100 < mn
 ·have HR := Lib.hid (hr.symm.trans (show longB mn fn q.size = true from decide_eq_true (.inl h1)))
  have h2 : (100 : Int) < (mn : Int) := by omega
  clear hr h1
  go_enter Tryz.func10, Tryz.ntmps10
  go_wp2
  go_ret
  exact ⟨by rw [HR.out]; rfl, Fr.alloc _ _⟩
 ·have h2 : ¬ (100 : Int) < (mn : Int) := by omega
  by_cases h3 : 400 < fn
  ·have HR := Lib.hid (hr.symm.trans (show longB mn fn q.size = true from decide_eq_true (.inr (.inl h3))))
   have h4 : (400 : Int) < (fn : Int) := by omega
   clear hr h1 h3
   go_enter Tryz.func10, Tryz.ntmps10
   go_wp2
   go_ret
   exact ⟨by rw [HR.out]; rfl, Fr.alloc _ _⟩
  ·have h4 : ¬ (400 : Int) < (fn : Int) := by omega
   obtain ⟨s, hs⟩ : ∃ s, q.size = s := ⟨_, rfl⟩
   rw [hs] at hr ⊢
   by_cases h5 : 400 < s
   ·by_cases h6 : s <= 2000
    ·have HR := Lib.hid (hr.symm.trans (show longB mn fn s = true from decide_eq_true (.inr (.inr ⟨h5, h6⟩))))
     clear hr h1 h3 hs
     go_enter Tryz.func10, Tryz.ntmps10
     go_wp2
     go_ret
     exact ⟨by rw [HR.out]; rfl, Fr.alloc _ _⟩
    ·have HR := Lib.hid (hr.symm.trans (show longB mn fn s = false from decide_eq_false (fun h => by rcases h with h | h | h <;> omega)))
     clear hr h1 h3 hs
     go_enter Tryz.func10, Tryz.ntmps10
     go_wp2
     go_ret
     exact ⟨by rw [HR.out]; rfl, Fr.alloc _ _⟩
   ·have HR := Lib.hid (hr.symm.trans (show longB mn fn s = false from decide_eq_false (fun h => by rcases h with h | h | h <;> omega)))
    clear hr h1 h3 hs
    go_enter Tryz.func10, Tryz.ntmps10
    go_wp2
    go_ret
    exact ⟨by rw [HR.out]; rfl, Fr.alloc _ _⟩
theorem frame163 (a : Go.Act) (hs : a.tmps.size = 163) (hd : a.defers = []) : a = ⟨(slot a 0 :: slot a 1 :: slot a 2 :: slot a 3 :: slot a 4 :: slot a 5 :: slot a 6 :: slot a 7 :: slot a 8 :: slot a 9 :: slot a 10 :: slot a 11 :: slot a 12 :: slot a 13 :: slot a 14 :: slot a 15 :: slot a 16 :: slot a 17 :: slot a 18 :: slot a 19 :: slot a 20 :: slot a 21 :: slot a 22 :: slot a 23 :: slot a 24 :: slot a 25 :: slot a 26 :: slot a 27 :: slot a 28 :: slot a 29 :: slot a 30 :: slot a 31 :: slot a 32 :: slot a 33 :: slot a 34 :: slot a 35 :: slot a 36 :: slot a 37 :: slot a 38 :: slot a 39 :: slot a 40 :: slot a 41 :: slot a 42 :: slot a 43 :: slot a 44 :: slot a 45 :: slot a 46 :: slot a 47 :: slot a 48 :: slot a 49 :: slot a 50 :: slot a 51 :: slot a 52 :: slot a 53 :: slot a 54 :: slot a 55 :: slot a 56 :: slot a 57 :: slot a 58 :: slot a 59 :: slot a 60 :: slot a 61 :: slot a 62 :: slot a 63 :: slot a 64 :: slot a 65 :: slot a 66 :: slot a 67 :: slot a 68 :: slot a 69 :: slot a 70 :: slot a 71 :: slot a 72 :: slot a 73 :: slot a 74 :: slot a 75 :: slot a 76 :: slot a 77 :: slot a 78 :: slot a 79 :: slot a 80 :: slot a 81 :: slot a 82 :: slot a 83 :: slot a 84 :: slot a 85 :: slot a 86 :: slot a 87 :: slot a 88 :: slot a 89 :: slot a 90 :: slot a 91 :: slot a 92 :: slot a 93 :: slot a 94 :: slot a 95 :: slot a 96 :: slot a 97 :: slot a 98 :: slot a 99 :: slot a 100 :: slot a 101 :: slot a 102 :: slot a 103 :: slot a 104 :: slot a 105 :: slot a 106 :: slot a 107 :: slot a 108 :: slot a 109 :: slot a 110 :: slot a 111 :: slot a 112 :: slot a 113 :: slot a 114 :: slot a 115 :: slot a 116 :: slot a 117 :: slot a 118 :: slot a 119 :: slot a 120 :: slot a 121 :: slot a 122 :: slot a 123 :: slot a 124 :: slot a 125 :: slot a 126 :: slot a 127 :: slot a 128 :: slot a 129 :: slot a 130 :: slot a 131 :: slot a 132 :: slot a 133 :: slot a 134 :: slot a 135 :: slot a 136 :: slot a 137 :: slot a 138 :: slot a 139 :: slot a 140 :: slot a 141 :: slot a 142 :: slot a 143 :: slot a 144 :: slot a 145 :: slot a 146 :: slot a 147 :: slot a 148 :: slot a 149 :: slot a 150 :: slot a 151 :: slot a 152 :: slot a 153 :: slot a 154 :: slot a 155 :: slot a 156 :: slot a 157 :: slot a 158 :: slot a 159 :: slot a 160 :: slot a 161 :: slot a 162 :: []).toArray, []⟩ := frameX a 163 hs hd
noncomputable def tg12R : Code := ((Tryz.f3.body.bind (findRegionC 12)).getD .skip)
theorem tg12 (w : World) (a : Go.Act) (hsz : a.tmps.size = 163) (pa1 pa2 : Option Addr) (pn1 pc1 pn2 pc2 q o vc : Nat) (xs : List UInt8) (S1 S2 : ByteArray) (hS1 : (⟨(xs.take 8).toArray⟩ : ByteArray) = S1) (hS2 : (⟨(xs.drop 8).toArray⟩ : ByteArray) = S2) (hB1 : Bs (fun _ => False) w (.slice pa1 pn1 pc1) (xs.take 8)) (hB2 : Bs (fun _ => False) w (.slice pa2 pn2 pc2) (xs.drop 8)) (hV1 : Bs (fun _ => False) w (.slice (some ⟨q, o, none⟩) 8 vc) (xs.take 8)) (hV2 : Bs (fun _ => False) w (.slice (some ⟨q, o + 8, none⟩) 8 (vc - 8)) (xs.drop 8)) (hc8 : 8 <= vc) (hc9 : 16 <= vc) (hc10 : ¬ vc = 8) (hc11 : ¬ (8 : Nat) = vc) (hc12 : ¬ (vc : Int) < 8) (h15 : slot a 15 = .nilIface) (h13 : slot a 13 = .slice pa1 pn1 pc1) (h14 : slot a 14 = .slice pa2 pn2 pc2) (h2 : slot a 2 = .slice (some ⟨q, o, none⟩) 16 vc) (Q : Exit -> Go.Act -> World -> Prop)
  (hQ : ∀ (b : Go.Act) (p : World), b.defers = a.defers -> b.tmps.size = 163 -> (∀ s, s ∉ ([75, 76, 77, 78, 79, 80, 81, 82, 83, 84, 85, 86, 87, 88, 89, 90, 91, 92] : List Nat) -> slot b s = slot a s) -> slot b 92 = .bool false -> Fr [] w p -> Q .normal b p) : Code.wp Tryz.prog tg12R Q a w := by
 conv => arg 2; whnf
 refine wp_region_ghost (by kernel_rfl) (by kernel_rfl) [some 75, some 76, some 77, some 78, some 79, some 80, some 81, some 82, some 83, some 84, some 85, some 86, some 87, some 88, some 89, some 90, some 91, some 92] [] [.rd (.nilIface) 0, .rd (.bool false) 0, .rd (.bool false) 0, .rd (.slice pa1 pn1 pc1) 0, .rd (.string S1) 0, .rd (.slice (some ⟨q, o, none⟩) 16 vc) 0, .rd (.slice (some ⟨q, o, none⟩) 8 vc) 0, .rd (.string S1) 0, .rd (.bool false) 0, .rd (.bool false) 0, .rd (.bool false) 0, .rd (.slice pa2 pn2 pc2) 0, .rd (.string S2) 0, .rd (.slice (some ⟨q, o, none⟩) 16 vc) 0, .rd (.slice (some ⟨q, o + 8, none⟩) 8 (vc - 8)) 0, .rd (.string S2) 0, .rd (.bool false) 0, .rd (.bool false) 0] (fun cj => undef) (fun s g p => Fr [] w p) (by kernel_rfl) (by rfl) (by rw [hsz]; rfl) (by kernel_rfl) (by kernel_rfl) (by decide) ?_ ⟨?_, ?_, ?_, ?_, ?_, ?_, ?_, ?_, ?_, ?_, ?_, ?_, ?_, ?_, ?_, ?_, ?_, ?_, trivial⟩ ?_
 ·intro w1 hw1
  exact ⟨fun _ => undef, hw1⟩
 ·refine ⟨⟨75, rfl⟩, .inl rfl, fun b p s g hs hlow hS h => ?_⟩
  have e0 := h.eo (by decide) h15
  refine gw0 rfl rfl ?_
  obtain ⟨ρ, hρ, ec⟩ := evx b
  rw [hρ] at e0 ⊢
  unfold execOp; simp [go_sem, e0, ec]
 ·refine ⟨⟨76, rfl⟩, .inl rfl, fun b p s g hs hlow hS h => ?_⟩
  have e0 := h.er 0 75 (by kernel_rfl) rfl rfl
  refine gw0 rfl rfl ?_
  obtain ⟨ρ, hρ, ec⟩ := evx b
  rw [hρ] at e0 ⊢
  unfold execOp; simp [go_sem, e0, ec]
 ·refine ⟨⟨77, rfl⟩, .inl rfl, fun b p s g hs hlow hS h => ?_⟩
  have e0 := h.er 1 76 (by kernel_rfl) rfl rfl
  refine gw0 rfl rfl ?_
  obtain ⟨ρ, hρ, ec⟩ := evx b
  rw [hρ] at e0 ⊢
  unfold execOp; simp [go_sem, e0, ec]
 ·refine ⟨⟨78, rfl⟩, .inl rfl, fun b p s g hs hlow hS h => ?_⟩
  have e0 := h.eo (by decide) h13
  refine ⟨_, by rfl, .inl ⟨(wanted_some 2 false 77 rfl (by rfl) (by rw [h.size, hsz]; decide) (h.rd 2 _ _ 77 (by kernel_rfl) rfl rfl)), ?_⟩⟩
  obtain ⟨ρ, hρ, ec⟩ := evx b
  rw [hρ] at e0 ⊢
  unfold execOp; simp [go_sem, e0, ec]
 ·refine ⟨⟨79, rfl⟩, .inl rfl, fun b p s g hs hlow hS h => ?_⟩
  have e0 := h.er 3 78 (by kernel_rfl) rfl rfl
  have hf := hS
  exact ⟨_, by rfl, .inl ⟨(wanted_some 2 false 77 rfl (by rfl) (by rw [h.size, hsz]; decide) (h.rd 2 _ _ 77 (by kernel_rfl) rfl rfl)), run_strO (src := 22) (dst := 9) Tryz.underlying22 Tryz.underlying5 Tryz.underlying9 (.tmp 78) rfl e0 (hB1.keep hf (by simp)) S1 hS1⟩⟩
 ·refine ⟨⟨80, rfl⟩, .inl rfl, fun b p s g hs hlow hS h => ?_⟩
  have e0 := h.eo (by decide) h2
  refine ⟨_, by rfl, .inl ⟨(wanted_some 2 false 77 rfl (by rfl) (by rw [h.size, hsz]; decide) (h.rd 2 _ _ 77 (by kernel_rfl) rfl rfl)), ?_⟩⟩
  obtain ⟨ρ, hρ, ec⟩ := evx b
  rw [hρ] at e0 ⊢
  unfold execOp; simp [go_sem, e0, ec]
 ·refine ⟨⟨81, rfl⟩, .inl rfl, fun b p s g hs hlow hS h => ?_⟩
  have e0 := h.er 5 80 (by kernel_rfl) rfl rfl
  refine ⟨_, by rfl, .inl ⟨(wanted_some 2 false 77 rfl (by rfl) (by rw [h.size, hsz]; decide) (h.rd 2 _ _ 77 (by kernel_rfl) rfl rfl)), ?_⟩⟩
  obtain ⟨ρ, hρ, ec⟩ := evx b
  rw [hρ] at e0 ⊢
  unfold execOp; simp [go_sem, e0, ec, hc8, hc9, hc12]
 ·refine ⟨⟨82, rfl⟩, .inl rfl, fun b p s g hs hlow hS h => ?_⟩
  have e0 := h.er 6 81 (by kernel_rfl) rfl rfl
  have hf := hS
  exact ⟨_, by rfl, .inl ⟨(wanted_some 2 false 77 rfl (by rfl) (by rw [h.size, hsz]; decide) (h.rd 2 _ _ 77 (by kernel_rfl) rfl rfl)), run_strO (src := 22) (dst := 9) Tryz.underlying22 Tryz.underlying5 Tryz.underlying9 (.tmp 81) rfl e0 (hV1.keep hf (by simp)) S1 hS1⟩⟩
 ·refine ⟨⟨83, rfl⟩, .inl rfl, fun b p s g hs hlow hS h => ?_⟩
  have e0 := h.er 4 79 (by kernel_rfl) rfl rfl
  have e1 := h.er 7 82 (by kernel_rfl) rfl rfl
  refine ⟨_, by rfl, .inl ⟨(wanted_some 2 false 77 rfl (by rfl) (by rw [h.size, hsz]; decide) (h.rd 2 _ _ 77 (by kernel_rfl) rfl rfl)), ?_⟩⟩
  obtain ⟨ρ, hρ, ec⟩ := evx b
  rw [hρ] at e0 e1 ⊢
  unfold execOp; simp [go_sem, e0, e1, ec]
 ·refine ⟨⟨84, rfl⟩, .inl rfl, fun b p s g hs hlow hS h => ?_⟩
  have e0 := h.er 2 77 (by kernel_rfl) rfl rfl
  have e1 := h.er 8 83 (by kernel_rfl) rfl rfl
  refine gw0 rfl rfl ?_
  obtain ⟨ρ, hρ, ec⟩ := evx b
  rw [hρ] at e0 e1 ⊢
  unfold execOp; simp [go_sem, e0, e1, ec]
 ·refine ⟨⟨85, rfl⟩, .inl rfl, fun b p s g hs hlow hS h => ?_⟩
  have e0 := h.er 9 84 (by kernel_rfl) rfl rfl
  refine gw0 rfl rfl ?_
  obtain ⟨ρ, hρ, ec⟩ := evx b
  rw [hρ] at e0 ⊢
  unfold execOp; simp [go_sem, e0, ec]
 ·refine ⟨⟨86, rfl⟩, .inl rfl, fun b p s g hs hlow hS h => ?_⟩
  have e0 := h.eo (by decide) h14
  refine ⟨_, by rfl, .inl ⟨(wanted_some 10 false 85 rfl (by rfl) (by rw [h.size, hsz]; decide) (h.rd 10 _ _ 85 (by kernel_rfl) rfl rfl)), ?_⟩⟩
  obtain ⟨ρ, hρ, ec⟩ := evx b
  rw [hρ] at e0 ⊢
  unfold execOp; simp [go_sem, e0, ec]
 ·refine ⟨⟨87, rfl⟩, .inl rfl, fun b p s g hs hlow hS h => ?_⟩
  have e0 := h.er 11 86 (by kernel_rfl) rfl rfl
  have hf := hS
  exact ⟨_, by rfl, .inl ⟨(wanted_some 10 false 85 rfl (by rfl) (by rw [h.size, hsz]; decide) (h.rd 10 _ _ 85 (by kernel_rfl) rfl rfl)), run_strO (src := 22) (dst := 9) Tryz.underlying22 Tryz.underlying5 Tryz.underlying9 (.tmp 86) rfl e0 (hB2.keep hf (by simp)) S2 hS2⟩⟩
 ·refine ⟨⟨88, rfl⟩, .inl rfl, fun b p s g hs hlow hS h => ?_⟩
  have e0 := h.eo (by decide) h2
  refine ⟨_, by rfl, .inl ⟨(wanted_some 10 false 85 rfl (by rfl) (by rw [h.size, hsz]; decide) (h.rd 10 _ _ 85 (by kernel_rfl) rfl rfl)), ?_⟩⟩
  obtain ⟨ρ, hρ, ec⟩ := evx b
  rw [hρ] at e0 ⊢
  unfold execOp; simp [go_sem, e0, ec]
 ·refine ⟨⟨89, rfl⟩, .inl rfl, fun b p s g hs hlow hS h => ?_⟩
  have e0 := h.er 13 88 (by kernel_rfl) rfl rfl
  refine ⟨_, by rfl, .inl ⟨(wanted_some 10 false 85 rfl (by rfl) (by rw [h.size, hsz]; decide) (h.rd 10 _ _ 85 (by kernel_rfl) rfl rfl)), ?_⟩⟩
  obtain ⟨ρ, hρ, ec⟩ := evx b
  rw [hρ] at e0 ⊢
  unfold execOp; simp [go_sem, e0, ec, hc8, hc9, hc10, hc11]
 ·refine ⟨⟨90, rfl⟩, .inl rfl, fun b p s g hs hlow hS h => ?_⟩
  have e0 := h.er 14 89 (by kernel_rfl) rfl rfl
  have hf := hS
  exact ⟨_, by rfl, .inl ⟨(wanted_some 10 false 85 rfl (by rfl) (by rw [h.size, hsz]; decide) (h.rd 10 _ _ 85 (by kernel_rfl) rfl rfl)), run_strO (src := 22) (dst := 9) Tryz.underlying22 Tryz.underlying5 Tryz.underlying9 (.tmp 89) rfl e0 (hV2.keep hf (by simp)) S2 hS2⟩⟩
 ·refine ⟨⟨91, rfl⟩, .inl rfl, fun b p s g hs hlow hS h => ?_⟩
  have e0 := h.er 12 87 (by kernel_rfl) rfl rfl
  have e1 := h.er 15 90 (by kernel_rfl) rfl rfl
  refine ⟨_, by rfl, .inl ⟨(wanted_some 10 false 85 rfl (by rfl) (by rw [h.size, hsz]; decide) (h.rd 10 _ _ 85 (by kernel_rfl) rfl rfl)), ?_⟩⟩
  obtain ⟨ρ, hρ, ec⟩ := evx b
  rw [hρ] at e0 e1 ⊢
  unfold execOp; simp [go_sem, e0, e1, ec]
 ·refine ⟨⟨92, rfl⟩, .inl rfl, fun b p s g hs hlow hS h => ?_⟩
  have e0 := h.er 10 85 (by kernel_rfl) rfl rfl
  have e1 := h.er 16 91 (by kernel_rfl) rfl rfl
  refine gw0 rfl rfl ?_
  obtain ⟨ρ, hρ, ec⟩ := evx b
  rw [hρ] at e0 e1 ⊢
  unfold execOp; simp [go_sem, e0, e1, ec]
 ·intro b p h1 h2 h3 h4 h5
  obtain ⟨g, h4, h6⟩ := h4
  have r92 : slot b 92 = .bool false := h5 17 (.bool false) _ 92 rfl rfl
  exact hQ b p h1 (h2.trans hsz) (fun s hs => h3 s (fun hm => hs (by simpa using hm))) r92 h4
noncomputable def tg22R : Code := ((Tryz.f3.body.bind (findRegionC 22)).getD .skip)
theorem tg22 (w : World) (a : Go.Act) (hsz : a.tmps.size = 163) (ta va : Option Addr) (tn tc vc kb : Nat) (x : Int) (u3 : Value) (row : List UInt8) (S : ByteArray) (hS : (⟨row.toArray⟩ : ByteArray) = S) (hT : Bs (fun _ => False) w (.slice ta tn tc) row) (hk3 : w.cell? ⟨kb, 3, none⟩ = some u3) (htag : ∀ p, Fr [] w p -> Calls Tryz.prog 17 #[u3, .int .i64 x, .slice va 8 vc] p fun e w' => ∃ u, e = .returned u /\ OwnB 5 p.heap.size w' u row /\ Fr [] p w') (h10 : slot a 10 = .nilIface) (h9 : slot a 9 = .slice ta tn tc) (h7 : slot a 7 = .pointer (some ⟨kb, 0, none⟩)) (h1 : slot a 1 = .int .i64 x) (h2 : slot a 2 = .slice va 8 vc) (Q : Exit -> Go.Act -> World -> Prop)
  (hQ : ∀ (b : Go.Act) (p : World), b.defers = a.defers -> b.tmps.size = 163 -> (∀ s, s ∉ ([150, 151, 152, 153, 154, 155, 156, 157, 158, 159, 160, 161, 162, 6] : List Nat) -> slot b s = slot a s) -> slot b 6 = .bool true -> Fr [] w p -> Q .normal b p) : Code.wp Tryz.prog tg22R Q a w := by
 conv => arg 2; whnf
 refine wp_region_ghost (by kernel_rfl) (by kernel_rfl) [some 150, some 151, some 152, some 153, some 154, some 155, some 156, some 157, some 158, some 159, some 160, some 161, some 162, some 6] [9] [.rd (.nilIface) 1, .rd (.bool true) 1, .rd (.bool true) 1, .rd (.slice ta tn tc) 1, .rd (.string S) 1, .rd (.pointer (some ⟨kb, 3, none⟩)) 1, .rd (u3) 1, .rd (.int .i64 x) 1, .rd (.slice va 8 vc) 1, .gh 0, .rd (.string S) 1, .rd (.bool true) 1, .rd (.bool true) 1, .rd (.bool true) 1] (fun cj => undef) (fun s g p => Fr [] w p /\ (0 < s -> Bs (fun _ => False) p (g 0) row)) (by kernel_rfl) (by rfl) (by rw [hsz]; rfl) (by kernel_rfl) (by kernel_rfl) (by decide) ?_ ⟨?_, ?_, ?_, ?_, ?_, ?_, ?_, ?_, ?_, ?_, ?_, ?_, ?_, ?_, trivial⟩ ?_
 ·intro w1 hw1
  exact ⟨fun _ => undef, ⟨hw1, fun hk => absurd hk (by decide)⟩⟩
 ·refine ⟨⟨150, rfl⟩, .inl rfl, fun b p s g hs hlow hS h => ?_⟩
  have e0 := h.eo (by decide) h10
  refine gw0 rfl rfl ?_
  obtain ⟨ρ, hρ, ec⟩ := evx b
  rw [hρ] at e0 ⊢
  unfold execOp; simp [go_sem, e0, ec]
 ·refine ⟨⟨151, rfl⟩, .inl rfl, fun b p s g hs hlow hS h => ?_⟩
  have e0 := h.er 0 150 (by kernel_rfl) rfl rfl
  refine gw0 rfl rfl ?_
  obtain ⟨ρ, hρ, ec⟩ := evx b
  rw [hρ] at e0 ⊢
  unfold execOp; simp [go_sem, e0, ec]
 ·refine ⟨⟨152, rfl⟩, .inl rfl, fun b p s g hs hlow hS h => ?_⟩
  have e0 := h.er 1 151 (by kernel_rfl) rfl rfl
  refine gw0 rfl rfl ?_
  obtain ⟨ρ, hρ, ec⟩ := evx b
  rw [hρ] at e0 ⊢
  unfold execOp; simp [go_sem, e0, ec]
 ·refine ⟨⟨153, rfl⟩, .inl rfl, fun b p s g hs hlow hS h => ?_⟩
  have e0 := h.eo (by decide) h9
  refine ⟨_, by rfl, .inl ⟨(wanted_some 2 true 152 rfl (by rfl) (by rw [h.size, hsz]; decide) (h.rd 2 _ _ 152 (by kernel_rfl) rfl rfl)), ?_⟩⟩
  obtain ⟨ρ, hρ, ec⟩ := evx b
  rw [hρ] at e0 ⊢
  unfold execOp; simp [go_sem, e0, ec]
 ·refine ⟨⟨154, rfl⟩, .inl rfl, fun b p s g hs hlow hS h => ?_⟩
  have e0 := h.er 3 153 (by kernel_rfl) rfl rfl
  obtain ⟨hf, q0⟩ := hS
  exact ⟨_, by rfl, .inl ⟨(wanted_some 2 true 152 rfl (by rfl) (by rw [h.size, hsz]; decide) (h.rd 2 _ _ 152 (by kernel_rfl) rfl rfl)), run_strO (src := 22) (dst := 9) Tryz.underlying22 Tryz.underlying5 Tryz.underlying9 (.tmp 153) rfl e0 (hT.keep hf (by simp)) S hS⟩⟩
 ·refine ⟨⟨155, rfl⟩, .inl rfl, fun b p s g hs hlow hS h => ?_⟩
  have e0 := h.eo (by decide) h7
  refine ⟨_, by rfl, .inl ⟨(wanted_some 2 true 152 rfl (by rfl) (by rw [h.size, hsz]; decide) (h.rd 2 _ _ 152 (by kernel_rfl) rfl rfl)), ?_⟩⟩
  obtain ⟨ρ, hρ, ec⟩ := evx b
  rw [hρ] at e0 ⊢
  unfold execOp; simp [go_sem, e0, ec, Tryz.underlying29]
 ·refine ⟨⟨156, rfl⟩, .inl rfl, fun b p s g hs hlow hS h => ?_⟩
  have e0 := h.er 5 155 (by kernel_rfl) rfl rfl
  obtain ⟨hf, q0⟩ := hS
  have c0 := (show p.cell? ⟨kb, 3, none⟩ = some (u3) from cell_keep hf (by simp) hk3)
  refine ⟨_, by rfl, .inl ⟨(wanted_some 2 true 152 rfl (by rfl) (by rw [h.size, hsz]; decide) (h.rd 2 _ _ 152 (by kernel_rfl) rfl rfl)), ?_⟩⟩
  obtain ⟨ρ, hρ, ec⟩ := evx b
  rw [hρ] at e0 ⊢
  unfold execOp; simp [go_sem, e0, ec, c0]
 ·refine ⟨⟨157, rfl⟩, .inl rfl, fun b p s g hs hlow hS h => ?_⟩
  have e0 := h.eo (by decide) h1
  refine ⟨_, by rfl, .inl ⟨(wanted_some 2 true 152 rfl (by rfl) (by rw [h.size, hsz]; decide) (h.rd 2 _ _ 152 (by kernel_rfl) rfl rfl)), ?_⟩⟩
  obtain ⟨ρ, hρ, ec⟩ := evx b
  rw [hρ] at e0 ⊢
  unfold execOp; simp [go_sem, e0, ec]
 ·refine ⟨⟨158, rfl⟩, .inl rfl, fun b p s g hs hlow hS h => ?_⟩
  have e0 := h.eo (by decide) h2
  refine ⟨_, by rfl, .inl ⟨(wanted_some 2 true 152 rfl (by rfl) (by rw [h.size, hsz]; decide) (h.rd 2 _ _ 152 (by kernel_rfl) rfl rfl)), ?_⟩⟩
  obtain ⟨ρ, hρ, ec⟩ := evx b
  rw [hρ] at e0 ⊢
  unfold execOp; simp [go_sem, e0, ec]
 ·refine ⟨rfl, .inl rfl, fun b p g hS h => ?_⟩
  have e0 := h.er 6 156 (by kernel_rfl) rfl rfl
  have e1 := h.er 7 157 (by kernel_rfl) rfl rfl
  have e2 := h.er 8 158 (by kernel_rfl) rfl rfl
  obtain ⟨hf, q0⟩ := hS
  refine opV_func _ (by rfl) (wanted_some 2 true 152 rfl (by rfl) (by rw [h.size, hsz]; decide) (h.rd 2 _ _ 152 (by kernel_rfl) rfl rfl)) 17 _ _ rfl #[u3, .int .i64 x, .slice va 8 vc] (by simp only [List.map_toArray, List.map_cons, List.map_nil, e0, e1, e2]) (by simp [go_sem]) ((htag p hf).mono ?_)
  rintro e p' ⟨u, rfl, ho, hf'⟩
  exact ⟨_, rfl, ⟨hf.trans hf', fun _ => ho.bs (by simp)⟩⟩
 ·refine ⟨⟨160, rfl⟩, .inl rfl, fun b p s g hs hlow hS h => ?_⟩
  have e0 := (show b.eval (.tmp 159) = g 0 from h.gh 9 _ 159 (by kernel_rfl) rfl rfl)
  obtain ⟨hf, q0⟩ := hS
  exact ⟨_, by rfl, .inl ⟨(wanted_some 2 true 152 rfl (by rfl) (by rw [h.size, hsz]; decide) (h.rd 2 _ _ 152 (by kernel_rfl) rfl rfl)), run_strO (src := 22) (dst := 9) Tryz.underlying22 Tryz.underlying5 Tryz.underlying9 (.tmp 159) rfl e0 (q0 (hlow 0 9 rfl (by kernel_rfl))) S hS⟩⟩
 ·refine ⟨⟨161, rfl⟩, .inl rfl, fun b p s g hs hlow hS h => ?_⟩
  have e0 := h.er 4 154 (by kernel_rfl) rfl rfl
  have e1 := h.er 10 160 (by kernel_rfl) rfl rfl
  refine ⟨_, by rfl, .inl ⟨(wanted_some 2 true 152 rfl (by rfl) (by rw [h.size, hsz]; decide) (h.rd 2 _ _ 152 (by kernel_rfl) rfl rfl)), ?_⟩⟩
  obtain ⟨ρ, hρ, ec⟩ := evx b
  rw [hρ] at e0 e1 ⊢
  unfold execOp; simp [go_sem, e0, e1, ec]
 ·refine ⟨⟨162, rfl⟩, .inl rfl, fun b p s g hs hlow hS h => ?_⟩
  have e0 := h.er 2 152 (by kernel_rfl) rfl rfl
  have e1 := h.er 11 161 (by kernel_rfl) rfl rfl
  refine gw0 rfl rfl ?_
  obtain ⟨ρ, hρ, ec⟩ := evx b
  rw [hρ] at e0 e1 ⊢
  unfold execOp; simp [go_sem, e0, e1, ec]
 ·refine ⟨⟨6, rfl⟩, .inl rfl, fun b p s g hs hlow hS h => ?_⟩
  have e0 := h.er 12 162 (by kernel_rfl) rfl rfl
  refine gw0 rfl rfl ?_
  obtain ⟨ρ, hρ, ec⟩ := evx b
  rw [hρ] at e0 ⊢
  unfold execOp; simp [go_sem, e0, ec]
 ·intro b p h1 h2 h3 h4 h5
  obtain ⟨g, h4, h6⟩ := h4
  have r6 : slot b 6 = .bool true := h5 13 (.bool true) _ 6 rfl rfl
  exact hQ b p h1 (h2.trans hsz) (fun s hs => h3 s (fun hm => hs (by simpa using hm))) r6 h4.1
end Go.Proofs.YtnafknkchbfpaaaGreatDoor
