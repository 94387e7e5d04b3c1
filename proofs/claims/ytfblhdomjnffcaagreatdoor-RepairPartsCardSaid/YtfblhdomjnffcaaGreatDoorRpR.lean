/-
  The law RepairParts: its drawn regions. (printed by genrpt.py)
-/
import Derived.Test.YtfblhdomjnffcaaGreatDoorGB
import Derived.Test.YtfblhdomjnffcaaGreatDoorStr
import Derived.Test.YtfblhdomjnffcaaGreatDoorGD
import Derived.Test.YtfblhdomjnffcaaGreatDoorOwb
namespace Go.Proofs.YtfblhdomjnffcaaGreatDoor
open Go.RowKit Go.Bl
set_option linter.unusedVariables false
set_option maxRecDepth 100000 in
theorem frame187 (a : Go.Act) (hs : a.tmps.size = 187) (hd : a.defers = []) : a = ⟨(slot a 0 :: slot a 1 :: slot a 2 :: slot a 3 :: slot a 4 :: slot a 5 :: slot a 6 :: slot a 7 :: slot a 8 :: slot a 9 :: slot a 10 :: slot a 11 :: slot a 12 :: slot a 13 :: slot a 14 :: slot a 15 :: slot a 16 :: slot a 17 :: slot a 18 :: slot a 19 :: slot a 20 :: slot a 21 :: slot a 22 :: slot a 23 :: slot a 24 :: slot a 25 :: slot a 26 :: slot a 27 :: slot a 28 :: slot a 29 :: slot a 30 :: slot a 31 :: slot a 32 :: slot a 33 :: slot a 34 :: slot a 35 :: slot a 36 :: slot a 37 :: slot a 38 :: slot a 39 :: slot a 40 :: slot a 41 :: slot a 42 :: slot a 43 :: slot a 44 :: slot a 45 :: slot a 46 :: slot a 47 :: slot a 48 :: slot a 49 :: slot a 50 :: slot a 51 :: slot a 52 :: slot a 53 :: slot a 54 :: slot a 55 :: slot a 56 :: slot a 57 :: slot a 58 :: slot a 59 :: slot a 60 :: slot a 61 :: slot a 62 :: slot a 63 :: slot a 64 :: slot a 65 :: slot a 66 :: slot a 67 :: slot a 68 :: slot a 69 :: slot a 70 :: slot a 71 :: slot a 72 :: slot a 73 :: slot a 74 :: slot a 75 :: slot a 76 :: slot a 77 :: slot a 78 :: slot a 79 :: slot a 80 :: slot a 81 :: slot a 82 :: slot a 83 :: slot a 84 :: slot a 85 :: slot a 86 :: slot a 87 :: slot a 88 :: slot a 89 :: slot a 90 :: slot a 91 :: slot a 92 :: slot a 93 :: slot a 94 :: slot a 95 :: slot a 96 :: slot a 97 :: slot a 98 :: slot a 99 :: slot a 100 :: slot a 101 :: slot a 102 :: slot a 103 :: slot a 104 :: slot a 105 :: slot a 106 :: slot a 107 :: slot a 108 :: slot a 109 :: slot a 110 :: slot a 111 :: slot a 112 :: slot a 113 :: slot a 114 :: slot a 115 :: slot a 116 :: slot a 117 :: slot a 118 :: slot a 119 :: slot a 120 :: slot a 121 :: slot a 122 :: slot a 123 :: slot a 124 :: slot a 125 :: slot a 126 :: slot a 127 :: slot a 128 :: slot a 129 :: slot a 130 :: slot a 131 :: slot a 132 :: slot a 133 :: slot a 134 :: slot a 135 :: slot a 136 :: slot a 137 :: slot a 138 :: slot a 139 :: slot a 140 :: slot a 141 :: slot a 142 :: slot a 143 :: slot a 144 :: slot a 145 :: slot a 146 :: slot a 147 :: slot a 148 :: slot a 149 :: slot a 150 :: slot a 151 :: slot a 152 :: slot a 153 :: slot a 154 :: slot a 155 :: slot a 156 :: slot a 157 :: slot a 158 :: slot a 159 :: slot a 160 :: slot a 161 :: slot a 162 :: slot a 163 :: slot a 164 :: slot a 165 :: slot a 166 :: slot a 167 :: slot a 168 :: slot a 169 :: slot a 170 :: slot a 171 :: slot a 172 :: slot a 173 :: slot a 174 :: slot a 175 :: slot a 176 :: slot a 177 :: slot a 178 :: slot a 179 :: slot a 180 :: slot a 181 :: slot a 182 :: slot a 183 :: slot a 184 :: slot a 185 :: slot a 186 :: []).toArray, []⟩ := frameX a 187 hs hd

noncomputable def rpt_root0R : Code := ((Tryz.f3.body.bind (findRegionC 27)).getD .skip)
set_option maxRecDepth 1000000 in
set_option maxHeartbeats 8000000 in
theorem rpt_root0 (w : World) (a : Go.Act) (hsz : a.tmps.size = 187) (fb un uc : Nat) (ua : Option Addr) (n : Int) (p0 : Nat) (x y : UInt8) (hc1 : w.cell? ⟨fb, 1, none⟩ = some (.slice ua un uc)) (hpw : (∀ p, Fr [] w p → Calls Tryz.prog 14 #[.int .i64 n, .int .i64 (p0 : Int)] p fun e w' => e = .returned (.int .u8 (x.toNat : Int)) ∧ Fr [] p w')) (hin : (∀ p, Fr [] w p → Calls Tryz.prog 13 #[.int .u8 (x.toNat : Int)] p fun e w' => e = .returned (.int .u8 (y.toNat : Int)) ∧ Fr [] p w')) (hev : (∀ p, Fr [] w p → Calls Tryz.prog 12 #[.slice ua un uc, .int .u8 (y.toNat : Int)] p fun e w' => e = .returned (.int .u8 0) ∧ Fr [] p w')) (h3 : slot a 3 = .pointer (some ⟨fb, 0, none⟩)) (h7 : slot a 7 = .int .i64 n) (h16 : slot a 16 = .int .i64 (p0 : Int)) (Q : Exit → Go.Act → World → Prop)
    (hQ : ∀ (b : Go.Act) (p : World), b.defers = a.defers → b.tmps.size = 187 → (∀ s, s ∉ ([98, 99, 100, 101, 102, 103, 104, 105] : List Nat) → slot b s = slot a s) → slot b 105 = .bool true → Fr [] w p → Q .normal b p) : Code.wp Tryz.prog rpt_root0R Q a w := by
  conv => arg 2; whnf
  refine wp_region_ghost (by kernel_rfl) (by kernel_rfl) [some 98, some 99, some 100, some 101, some 102, some 103, some 104, some 105] [4, 5, 6] [.rd (.pointer (some ⟨fb, 1, none⟩)) 3, .rd (.slice ua un uc) 3, .rd (.int .i64 n) 3, .rd (.int .i64 (p0 : Int)) 3, .st 0, .st 1, .st 2, .rd (.bool true) 3] (fun cj => if cj = 0 then (.int .u8 (x.toNat : Int)) else if cj = 1 then (.int .u8 (y.toNat : Int)) else if cj = 2 then (.int .u8 0) else undef) (fun s g p => Fr [] w p) (by kernel_rfl) (by rfl) (by rw [hsz]; rfl) (by kernel_rfl) (by kernel_rfl) (by decide) ?_ ⟨?_, ?_, ?_, ?_, ?_, ?_, ?_, ?_, trivial⟩ ?_
  · intro w1 hw1
    exact ⟨fun _ => undef, hw1⟩
  · refine ⟨⟨98, rfl⟩, .inl rfl, fun b p s g hs hlow hS h => ?_⟩
    have e0 := (show b.eval (.tmp 3) = .pointer (some ⟨fb, 0, none⟩) from (h.old 3 (by decide)).trans h3)
    have ec : ∀ v, b.eval (.const v) = v := fun _ => rfl
    refine ⟨_, by simp only [List.getElem?_toArray, List.getElem?_cons_succ, List.getElem?_cons_zero]; rfl, .inl ⟨(wanted_none rfl), ?_⟩⟩
    obtain ⟨ρ, hρ⟩ : ∃ ρ, b.eval = ρ := ⟨_, rfl⟩
    rw [hρ] at e0 ec ⊢
    unfold execOp; simp [go_sem, e0, ec]
  · refine ⟨⟨99, rfl⟩, .inl rfl, fun b p s g hs hlow hS h => ?_⟩
    have e0 := (show b.eval (.tmp 98) = .pointer (some ⟨fb, 1, none⟩) from h.rd 0 _ _ 98 (by kernel_rfl) rfl rfl)
    have hf := hS
    have c0 := (show p.cell? ⟨fb, 1, none⟩ = some (.slice ua un uc) from (cell_mono hf hc1))
    have ec : ∀ v, b.eval (.const v) = v := fun _ => rfl
    refine ⟨_, by simp only [List.getElem?_toArray, List.getElem?_cons_succ, List.getElem?_cons_zero]; rfl, .inl ⟨(wanted_none rfl), ?_⟩⟩
    obtain ⟨ρ, hρ⟩ : ∃ ρ, b.eval = ρ := ⟨_, rfl⟩
    rw [hρ] at e0 ec ⊢
    unfold execOp; simp [go_sem, e0, ec, c0]
  · refine ⟨⟨100, rfl⟩, .inl rfl, fun b p s g hs hlow hS h => ?_⟩
    have e0 := (show b.eval (.tmp 7) = .int .i64 n from (h.old 7 (by decide)).trans h7)
    have ec : ∀ v, b.eval (.const v) = v := fun _ => rfl
    refine ⟨_, by simp only [List.getElem?_toArray, List.getElem?_cons_succ, List.getElem?_cons_zero]; rfl, .inl ⟨(wanted_none rfl), ?_⟩⟩
    obtain ⟨ρ, hρ⟩ : ∃ ρ, b.eval = ρ := ⟨_, rfl⟩
    rw [hρ] at e0 ec ⊢
    unfold execOp; simp [go_sem, e0, ec]
  · refine ⟨⟨101, rfl⟩, .inl rfl, fun b p s g hs hlow hS h => ?_⟩
    have e0 := (show b.eval (.tmp 16) = .int .i64 (p0 : Int) from (h.old 16 (by decide)).trans h16)
    have ec : ∀ v, b.eval (.const v) = v := fun _ => rfl
    refine ⟨_, by simp only [List.getElem?_toArray, List.getElem?_cons_succ, List.getElem?_cons_zero]; rfl, .inl ⟨(wanted_none rfl), ?_⟩⟩
    obtain ⟨ρ, hρ⟩ : ∃ ρ, b.eval = ρ := ⟨_, rfl⟩
    rw [hρ] at e0 ec ⊢
    unfold execOp; simp [go_sem, e0, ec]
  · refine ⟨rfl, .inl rfl, fun b p g hS h => ?_⟩
    have e0 := (show b.eval (.tmp 100) = .int .i64 n from h.rd 2 _ _ 100 (by kernel_rfl) rfl rfl)
    have e1 := (show b.eval (.tmp 101) = .int .i64 (p0 : Int) from h.rd 3 _ _ 101 (by kernel_rfl) rfl rfl)
    have hf := hS
    refine opV_func _ (by simp only [List.getElem?_toArray, List.getElem?_cons_succ, List.getElem?_cons_zero]; rfl) (wanted_none rfl) 14 _ _ rfl #[.int .i64 n, .int .i64 (p0 : Int)] (by simp only [List.map_toArray, List.map_cons, List.map_nil, e0, e1]) (by simp [go_sem]) ((hpw p hf).mono ?_)
    rintro e p' ⟨rfl, hf'⟩
    exact ⟨_, rfl, hf.trans hf', .inr rfl⟩
  · refine ⟨rfl, .inr ⟨4, rfl, by kernel_rfl⟩, fun b p g hS h => ?_⟩
    have e0 := (show b.eval (.tmp 102) = .int .u8 (x.toNat : Int) from h.st 4 _ 102 (by kernel_rfl) rfl rfl)
    have hf := hS
    refine opV_func _ (by simp only [List.getElem?_toArray, List.getElem?_cons_succ, List.getElem?_cons_zero]; rfl) (wanted_none rfl) 13 _ _ rfl #[.int .u8 (x.toNat : Int)] (by simp only [List.map_toArray, List.map_cons, List.map_nil, e0]) (by simp [go_sem]) ((hin p hf).mono ?_)
    rintro e p' ⟨rfl, hf'⟩
    exact ⟨_, rfl, hf.trans hf', .inr rfl⟩
  · refine ⟨rfl, .inr ⟨5, rfl, by kernel_rfl⟩, fun b p g hS h => ?_⟩
    have e0 := (show b.eval (.tmp 99) = .slice ua un uc from h.rd 1 _ _ 99 (by kernel_rfl) rfl rfl)
    have e1 := (show b.eval (.tmp 103) = .int .u8 (y.toNat : Int) from h.st 5 _ 103 (by kernel_rfl) rfl rfl)
    have hf := hS
    refine opV_func _ (by simp only [List.getElem?_toArray, List.getElem?_cons_succ, List.getElem?_cons_zero]; rfl) (wanted_none rfl) 12 _ _ rfl #[.slice ua un uc, .int .u8 (y.toNat : Int)] (by simp only [List.map_toArray, List.map_cons, List.map_nil, e0, e1]) (by simp [go_sem]) ((hev p hf).mono ?_)
    rintro e p' ⟨rfl, hf'⟩
    exact ⟨_, rfl, hf.trans hf', .inr rfl⟩
  · refine ⟨⟨105, rfl⟩, .inl rfl, fun b p s g hs hlow hS h => ?_⟩
    have e0 := (show b.eval (.tmp 104) = .int .u8 0 from h.st 6 _ 104 (by kernel_rfl) rfl rfl)
    have ec : ∀ v, b.eval (.const v) = v := fun _ => rfl
    refine ⟨_, by simp only [List.getElem?_toArray, List.getElem?_cons_succ, List.getElem?_cons_zero]; rfl, .inl ⟨(wanted_none rfl), ?_⟩⟩
    obtain ⟨ρ, hρ⟩ : ∃ ρ, b.eval = ρ := ⟨_, rfl⟩
    rw [hρ] at e0 ec ⊢
    unfold execOp; simp [go_sem, e0, ec]
  · intro b p h1 h2 h3 h4 h5
    obtain ⟨g, h4, h6⟩ := h4
    have r105 : slot b 105 = .bool true := h5 7 (.bool true) _ 105 rfl rfl
    exact hQ b p h1 (h2.trans hsz) (fun s hs => h3 s (fun hm => hs (by simpa using hm))) r105 h4

noncomputable def rpt_root1R : Code := ((Tryz.f3.body.bind (findRegionC 27)).getD .skip)
set_option maxRecDepth 1000000 in
set_option maxHeartbeats 8000000 in
theorem rpt_root1 (w : World) (a : Go.Act) (hsz : a.tmps.size = 187) (fb un uc : Nat) (ua : Option Addr) (n : Int) (p0 : Nat) (x y z : UInt8) (hz : z.toNat ≠ 0) (hc1 : w.cell? ⟨fb, 1, none⟩ = some (.slice ua un uc)) (hpw : (∀ p, Fr [] w p → Calls Tryz.prog 14 #[.int .i64 n, .int .i64 (p0 : Int)] p fun e w' => e = .returned (.int .u8 (x.toNat : Int)) ∧ Fr [] p w')) (hin : (∀ p, Fr [] w p → Calls Tryz.prog 13 #[.int .u8 (x.toNat : Int)] p fun e w' => e = .returned (.int .u8 (y.toNat : Int)) ∧ Fr [] p w')) (hev : (∀ p, Fr [] w p → Calls Tryz.prog 12 #[.slice ua un uc, .int .u8 (y.toNat : Int)] p fun e w' => e = .returned (.int .u8 (z.toNat : Int)) ∧ Fr [] p w')) (h3 : slot a 3 = .pointer (some ⟨fb, 0, none⟩)) (h7 : slot a 7 = .int .i64 n) (h16 : slot a 16 = .int .i64 (p0 : Int)) (Q : Exit → Go.Act → World → Prop)
    (hQ : ∀ (b : Go.Act) (p : World), b.defers = a.defers → b.tmps.size = 187 → (∀ s, s ∉ ([98, 99, 100, 101, 102, 103, 104, 105] : List Nat) → slot b s = slot a s) → slot b 105 = .bool false → Fr [] w p → Q .normal b p) : Code.wp Tryz.prog rpt_root1R Q a w := by
  conv => arg 2; whnf
  refine wp_region_ghost (by kernel_rfl) (by kernel_rfl) [some 98, some 99, some 100, some 101, some 102, some 103, some 104, some 105] [4, 5, 6] [.rd (.pointer (some ⟨fb, 1, none⟩)) 3, .rd (.slice ua un uc) 3, .rd (.int .i64 n) 3, .rd (.int .i64 (p0 : Int)) 3, .st 0, .st 1, .st 2, .rd (.bool false) 3] (fun cj => if cj = 0 then (.int .u8 (x.toNat : Int)) else if cj = 1 then (.int .u8 (y.toNat : Int)) else if cj = 2 then (.int .u8 (z.toNat : Int)) else undef) (fun s g p => Fr [] w p) (by kernel_rfl) (by rfl) (by rw [hsz]; rfl) (by kernel_rfl) (by kernel_rfl) (by decide) ?_ ⟨?_, ?_, ?_, ?_, ?_, ?_, ?_, ?_, trivial⟩ ?_
  · intro w1 hw1
    exact ⟨fun _ => undef, hw1⟩
  · refine ⟨⟨98, rfl⟩, .inl rfl, fun b p s g hs hlow hS h => ?_⟩
    have e0 := (show b.eval (.tmp 3) = .pointer (some ⟨fb, 0, none⟩) from (h.old 3 (by decide)).trans h3)
    have ec : ∀ v, b.eval (.const v) = v := fun _ => rfl
    refine ⟨_, by simp only [List.getElem?_toArray, List.getElem?_cons_succ, List.getElem?_cons_zero]; rfl, .inl ⟨(wanted_none rfl), ?_⟩⟩
    obtain ⟨ρ, hρ⟩ : ∃ ρ, b.eval = ρ := ⟨_, rfl⟩
    rw [hρ] at e0 ec ⊢
    unfold execOp; simp [go_sem, e0, ec]
  · refine ⟨⟨99, rfl⟩, .inl rfl, fun b p s g hs hlow hS h => ?_⟩
    have e0 := (show b.eval (.tmp 98) = .pointer (some ⟨fb, 1, none⟩) from h.rd 0 _ _ 98 (by kernel_rfl) rfl rfl)
    have hf := hS
    have c0 := (show p.cell? ⟨fb, 1, none⟩ = some (.slice ua un uc) from (cell_mono hf hc1))
    have ec : ∀ v, b.eval (.const v) = v := fun _ => rfl
    refine ⟨_, by simp only [List.getElem?_toArray, List.getElem?_cons_succ, List.getElem?_cons_zero]; rfl, .inl ⟨(wanted_none rfl), ?_⟩⟩
    obtain ⟨ρ, hρ⟩ : ∃ ρ, b.eval = ρ := ⟨_, rfl⟩
    rw [hρ] at e0 ec ⊢
    unfold execOp; simp [go_sem, e0, ec, c0]
  · refine ⟨⟨100, rfl⟩, .inl rfl, fun b p s g hs hlow hS h => ?_⟩
    have e0 := (show b.eval (.tmp 7) = .int .i64 n from (h.old 7 (by decide)).trans h7)
    have ec : ∀ v, b.eval (.const v) = v := fun _ => rfl
    refine ⟨_, by simp only [List.getElem?_toArray, List.getElem?_cons_succ, List.getElem?_cons_zero]; rfl, .inl ⟨(wanted_none rfl), ?_⟩⟩
    obtain ⟨ρ, hρ⟩ : ∃ ρ, b.eval = ρ := ⟨_, rfl⟩
    rw [hρ] at e0 ec ⊢
    unfold execOp; simp [go_sem, e0, ec]
  · refine ⟨⟨101, rfl⟩, .inl rfl, fun b p s g hs hlow hS h => ?_⟩
    have e0 := (show b.eval (.tmp 16) = .int .i64 (p0 : Int) from (h.old 16 (by decide)).trans h16)
    have ec : ∀ v, b.eval (.const v) = v := fun _ => rfl
    refine ⟨_, by simp only [List.getElem?_toArray, List.getElem?_cons_succ, List.getElem?_cons_zero]; rfl, .inl ⟨(wanted_none rfl), ?_⟩⟩
    obtain ⟨ρ, hρ⟩ : ∃ ρ, b.eval = ρ := ⟨_, rfl⟩
    rw [hρ] at e0 ec ⊢
    unfold execOp; simp [go_sem, e0, ec]
  · refine ⟨rfl, .inl rfl, fun b p g hS h => ?_⟩
    have e0 := (show b.eval (.tmp 100) = .int .i64 n from h.rd 2 _ _ 100 (by kernel_rfl) rfl rfl)
    have e1 := (show b.eval (.tmp 101) = .int .i64 (p0 : Int) from h.rd 3 _ _ 101 (by kernel_rfl) rfl rfl)
    have hf := hS
    refine opV_func _ (by simp only [List.getElem?_toArray, List.getElem?_cons_succ, List.getElem?_cons_zero]; rfl) (wanted_none rfl) 14 _ _ rfl #[.int .i64 n, .int .i64 (p0 : Int)] (by simp only [List.map_toArray, List.map_cons, List.map_nil, e0, e1]) (by simp [go_sem]) ((hpw p hf).mono ?_)
    rintro e p' ⟨rfl, hf'⟩
    exact ⟨_, rfl, hf.trans hf', .inr rfl⟩
  · refine ⟨rfl, .inr ⟨4, rfl, by kernel_rfl⟩, fun b p g hS h => ?_⟩
    have e0 := (show b.eval (.tmp 102) = .int .u8 (x.toNat : Int) from h.st 4 _ 102 (by kernel_rfl) rfl rfl)
    have hf := hS
    refine opV_func _ (by simp only [List.getElem?_toArray, List.getElem?_cons_succ, List.getElem?_cons_zero]; rfl) (wanted_none rfl) 13 _ _ rfl #[.int .u8 (x.toNat : Int)] (by simp only [List.map_toArray, List.map_cons, List.map_nil, e0]) (by simp [go_sem]) ((hin p hf).mono ?_)
    rintro e p' ⟨rfl, hf'⟩
    exact ⟨_, rfl, hf.trans hf', .inr rfl⟩
  · refine ⟨rfl, .inr ⟨5, rfl, by kernel_rfl⟩, fun b p g hS h => ?_⟩
    have e0 := (show b.eval (.tmp 99) = .slice ua un uc from h.rd 1 _ _ 99 (by kernel_rfl) rfl rfl)
    have e1 := (show b.eval (.tmp 103) = .int .u8 (y.toNat : Int) from h.st 5 _ 103 (by kernel_rfl) rfl rfl)
    have hf := hS
    refine opV_func _ (by simp only [List.getElem?_toArray, List.getElem?_cons_succ, List.getElem?_cons_zero]; rfl) (wanted_none rfl) 12 _ _ rfl #[.slice ua un uc, .int .u8 (y.toNat : Int)] (by simp only [List.map_toArray, List.map_cons, List.map_nil, e0, e1]) (by simp [go_sem]) ((hev p hf).mono ?_)
    rintro e p' ⟨rfl, hf'⟩
    exact ⟨_, rfl, hf.trans hf', .inr rfl⟩
  · refine ⟨⟨105, rfl⟩, .inl rfl, fun b p s g hs hlow hS h => ?_⟩
    have e0 := (show b.eval (.tmp 104) = .int .u8 (z.toNat : Int) from h.st 6 _ 104 (by kernel_rfl) rfl rfl)
    have ec : ∀ v, b.eval (.const v) = v := fun _ => rfl
    refine ⟨_, by simp only [List.getElem?_toArray, List.getElem?_cons_succ, List.getElem?_cons_zero]; rfl, .inl ⟨(wanted_none rfl), ?_⟩⟩
    obtain ⟨ρ, hρ⟩ : ∃ ρ, b.eval = ρ := ⟨_, rfl⟩
    rw [hρ] at e0 ec ⊢
    unfold execOp; simp [go_sem, e0, ec, show ¬ (z.toNat : Int) = 0 by omega, show ¬ z.toNat = 0 by omega]
  · intro b p h1 h2 h3 h4 h5
    obtain ⟨g, h4, h6⟩ := h4
    have r105 : slot b 105 = .bool false := h5 7 (.bool false) _ 105 rfl rfl
    exact hQ b p h1 (h2.trans hsz) (fun s hs => h3 s (fun hm => hs (by simpa using hm))) r105 h4

noncomputable def rpt_accR : Code := ((Tryz.f3.body.bind (findRegionC 41)).getD .skip)
set_option maxRecDepth 1000000 in
set_option maxHeartbeats 8000000 in
theorem rpt_acc (w : World) (a : Go.Act) (hsz : a.tmps.size = 187) (fb un uc ub uo i j : Nat) (a0 y c gq m : UInt8) (hi : i < un) (hij : i = j + 1) (hun : un ≤ 1000) (hc1 : w.cell? ⟨fb, 1, none⟩ = some (.slice (some ⟨ub, uo, none⟩) un uc)) (hc : w.cell? ⟨ub, uo + i, none⟩ = some (.int .u8 (c.toNat : Int))) (hpw : (∀ p, Fr [] w p → Calls Tryz.prog 16 #[.int .u8 (y.toNat : Int), .int .i64 (j : Int)] p fun e w' => e = .returned (.int .u8 (gq.toNat : Int)) ∧ Fr [] p w')) (hmu : (∀ p, Fr [] w p → Calls Tryz.prog 15 #[.int .u8 (c.toNat : Int), .int .u8 (gq.toNat : Int)] p fun e w' => e = .returned (.int .u8 (m.toNat : Int)) ∧ Fr [] p w')) (h3 : slot a 3 = .pointer (some ⟨fb, 0, none⟩)) (h18 : slot a 18 = .int .u8 (y.toNat : Int)) (h19 : slot a 19 = .int .u8 (a0.toNat : Int)) (h20 : slot a 20 = .int .i64 (i : Int)) (Q : Exit → Go.Act → World → Prop)
    (hQ : ∀ (b : Go.Act) (p : World), b.defers = a.defers → b.tmps.size = 187 → (∀ s, s ∉ ([150, 151, 152, 153, 154, 155, 156, 157, 158, 159, 160, 161, 19] : List Nat) → slot b s = slot a s) → slot b 19 = .int .u8 ((a0 ^^^ m).toNat : Int) → Fr [] w p → Q .normal b p) : Code.wp Tryz.prog rpt_accR Q a w := by
  conv => arg 2; whnf
  refine wp_region_ghost (by kernel_rfl) (by kernel_rfl) [some 150, some 151, some 152, some 153, some 154, some 155, some 156, some 157, some 158, some 159, some 160, some 161, some 19] [9, 10] [.rd (.int .u8 (a0.toNat : Int)) 2, .rd (.pointer (some ⟨fb, 1, none⟩)) 2, .rd (.slice (some ⟨ub, uo, none⟩) un uc) 2, .rd (.int .i64 (i : Int)) 2, .rd (.pointer (some ⟨ub, uo + i, none⟩)) 2, .rd (.int .u8 (c.toNat : Int)) 2, .rd (.int .u8 (y.toNat : Int)) 2, .rd (.int .i64 (i : Int)) 2, .rd (.int .i64 (j : Int)) 2, .st 0, .st 1, .rd (.int .u8 ((a0 ^^^ m).toNat : Int)) 2, .rd (.int .u8 ((a0 ^^^ m).toNat : Int)) 2] (fun cj => if cj = 0 then (.int .u8 (gq.toNat : Int)) else if cj = 1 then (.int .u8 (m.toNat : Int)) else undef) (fun s g p => Fr [] w p) (by kernel_rfl) (by rfl) (by rw [hsz]; rfl) (by kernel_rfl) (by kernel_rfl) (by decide) ?_ ⟨?_, ?_, ?_, ?_, ?_, ?_, ?_, ?_, ?_, ?_, ?_, ?_, ?_, trivial⟩ ?_
  · intro w1 hw1
    exact ⟨fun _ => undef, hw1⟩
  · refine ⟨⟨150, rfl⟩, .inl rfl, fun b p s g hs hlow hS h => ?_⟩
    have e0 := (show b.eval (.tmp 19) = .int .u8 (a0.toNat : Int) from (h.un 12 19 (by kernel_rfl) rfl).trans h19)
    have ec : ∀ v, b.eval (.const v) = v := fun _ => rfl
    refine ⟨_, by simp only [List.getElem?_toArray, List.getElem?_cons_succ, List.getElem?_cons_zero]; rfl, .inl ⟨(wanted_none rfl), ?_⟩⟩
    obtain ⟨ρ, hρ⟩ : ∃ ρ, b.eval = ρ := ⟨_, rfl⟩
    rw [hρ] at e0 ec ⊢
    unfold execOp; simp [go_sem, e0, ec]
  · refine ⟨⟨151, rfl⟩, .inl rfl, fun b p s g hs hlow hS h => ?_⟩
    have e0 := (show b.eval (.tmp 3) = .pointer (some ⟨fb, 0, none⟩) from (h.old 3 (by decide)).trans h3)
    have ec : ∀ v, b.eval (.const v) = v := fun _ => rfl
    refine ⟨_, by simp only [List.getElem?_toArray, List.getElem?_cons_succ, List.getElem?_cons_zero]; rfl, .inl ⟨(wanted_none rfl), ?_⟩⟩
    obtain ⟨ρ, hρ⟩ : ∃ ρ, b.eval = ρ := ⟨_, rfl⟩
    rw [hρ] at e0 ec ⊢
    unfold execOp; simp [go_sem, e0, ec]
  · refine ⟨⟨152, rfl⟩, .inl rfl, fun b p s g hs hlow hS h => ?_⟩
    have e0 := (show b.eval (.tmp 151) = .pointer (some ⟨fb, 1, none⟩) from h.rd 1 _ _ 151 (by kernel_rfl) rfl rfl)
    have hf := hS
    have c0 := (show p.cell? ⟨fb, 1, none⟩ = some (.slice (some ⟨ub, uo, none⟩) un uc) from (cell_mono hf hc1))
    have ec : ∀ v, b.eval (.const v) = v := fun _ => rfl
    refine ⟨_, by simp only [List.getElem?_toArray, List.getElem?_cons_succ, List.getElem?_cons_zero]; rfl, .inl ⟨(wanted_none rfl), ?_⟩⟩
    obtain ⟨ρ, hρ⟩ : ∃ ρ, b.eval = ρ := ⟨_, rfl⟩
    rw [hρ] at e0 ec ⊢
    unfold execOp; simp [go_sem, e0, ec, c0]
  · refine ⟨⟨153, rfl⟩, .inl rfl, fun b p s g hs hlow hS h => ?_⟩
    have e0 := (show b.eval (.tmp 20) = .int .i64 (i : Int) from (h.old 20 (by decide)).trans h20)
    have ec : ∀ v, b.eval (.const v) = v := fun _ => rfl
    refine ⟨_, by simp only [List.getElem?_toArray, List.getElem?_cons_succ, List.getElem?_cons_zero]; rfl, .inl ⟨(wanted_none rfl), ?_⟩⟩
    obtain ⟨ρ, hρ⟩ : ∃ ρ, b.eval = ρ := ⟨_, rfl⟩
    rw [hρ] at e0 ec ⊢
    unfold execOp; simp [go_sem, e0, ec]
  · refine ⟨⟨154, rfl⟩, .inl rfl, fun b p s g hs hlow hS h => ?_⟩
    have e0 := (show b.eval (.tmp 152) = .slice (some ⟨ub, uo, none⟩) un uc from h.rd 2 _ _ 152 (by kernel_rfl) rfl rfl)
    have e1 := (show b.eval (.tmp 153) = .int .i64 (i : Int) from h.rd 3 _ _ 153 (by kernel_rfl) rfl rfl)
    have ec : ∀ v, b.eval (.const v) = v := fun _ => rfl
    refine ⟨_, by simp only [List.getElem?_toArray, List.getElem?_cons_succ, List.getElem?_cons_zero]; rfl, .inl ⟨(wanted_none rfl), ?_⟩⟩
    obtain ⟨ρ, hρ⟩ : ∃ ρ, b.eval = ρ := ⟨_, rfl⟩
    rw [hρ] at e0 e1 ec ⊢
    unfold execOp; simp [go_sem, e0, e1, ec, show (i : Int) < un by omega, show i < un by omega]
  · refine ⟨⟨155, rfl⟩, .inl rfl, fun b p s g hs hlow hS h => ?_⟩
    have e0 := (show b.eval (.tmp 154) = .pointer (some ⟨ub, uo + i, none⟩) from h.rd 4 _ _ 154 (by kernel_rfl) rfl rfl)
    have hf := hS
    have c0 := (show p.cell? ⟨ub, uo + i, none⟩ = some (.int .u8 (c.toNat : Int)) from (cell_mono hf hc))
    have ec : ∀ v, b.eval (.const v) = v := fun _ => rfl
    refine ⟨_, by simp only [List.getElem?_toArray, List.getElem?_cons_succ, List.getElem?_cons_zero]; rfl, .inl ⟨(wanted_none rfl), ?_⟩⟩
    obtain ⟨ρ, hρ⟩ : ∃ ρ, b.eval = ρ := ⟨_, rfl⟩
    rw [hρ] at e0 ec ⊢
    unfold execOp; simp [go_sem, e0, ec, c0]
  · refine ⟨⟨156, rfl⟩, .inl rfl, fun b p s g hs hlow hS h => ?_⟩
    have e0 := (show b.eval (.tmp 18) = .int .u8 (y.toNat : Int) from (h.old 18 (by decide)).trans h18)
    have ec : ∀ v, b.eval (.const v) = v := fun _ => rfl
    refine ⟨_, by simp only [List.getElem?_toArray, List.getElem?_cons_succ, List.getElem?_cons_zero]; rfl, .inl ⟨(wanted_none rfl), ?_⟩⟩
    obtain ⟨ρ, hρ⟩ : ∃ ρ, b.eval = ρ := ⟨_, rfl⟩
    rw [hρ] at e0 ec ⊢
    unfold execOp; simp [go_sem, e0, ec]
  · refine ⟨⟨157, rfl⟩, .inl rfl, fun b p s g hs hlow hS h => ?_⟩
    have e0 := (show b.eval (.tmp 20) = .int .i64 (i : Int) from (h.old 20 (by decide)).trans h20)
    have ec : ∀ v, b.eval (.const v) = v := fun _ => rfl
    refine ⟨_, by simp only [List.getElem?_toArray, List.getElem?_cons_succ, List.getElem?_cons_zero]; rfl, .inl ⟨(wanted_none rfl), ?_⟩⟩
    obtain ⟨ρ, hρ⟩ : ∃ ρ, b.eval = ρ := ⟨_, rfl⟩
    rw [hρ] at e0 ec ⊢
    unfold execOp; simp [go_sem, e0, ec]
  · refine ⟨⟨158, rfl⟩, .inl rfl, fun b p s g hs hlow hS h => ?_⟩
    have e0 := (show b.eval (.tmp 157) = .int .i64 (i : Int) from h.rd 7 _ _ 157 (by kernel_rfl) rfl rfl)
    have ec : ∀ v, b.eval (.const v) = v := fun _ => rfl
    refine ⟨_, by simp only [List.getElem?_toArray, List.getElem?_cons_succ, List.getElem?_cons_zero]; rfl, .inl ⟨(wanted_none rfl), ?_⟩⟩
    obtain ⟨ρ, hρ⟩ : ∃ ρ, b.eval = ρ := ⟨_, rfl⟩
    rw [hρ] at e0 ec ⊢
    unfold execOp; simp [go_sem, e0, ec, show (i : Int) - 1 = (j : Int) by omega, show IntKind.i64.wrap (j : Int) = (j : Int) by rw [IntKind.wrap_i64]; omega]
  · refine ⟨rfl, .inl rfl, fun b p g hS h => ?_⟩
    have e0 := (show b.eval (.tmp 156) = .int .u8 (y.toNat : Int) from h.rd 6 _ _ 156 (by kernel_rfl) rfl rfl)
    have e1 := (show b.eval (.tmp 158) = .int .i64 (j : Int) from h.rd 8 _ _ 158 (by kernel_rfl) rfl rfl)
    have hf := hS
    refine opV_func _ (by simp only [List.getElem?_toArray, List.getElem?_cons_succ, List.getElem?_cons_zero]; rfl) (wanted_none rfl) 16 _ _ rfl #[.int .u8 (y.toNat : Int), .int .i64 (j : Int)] (by simp only [List.map_toArray, List.map_cons, List.map_nil, e0, e1]) (by simp [go_sem]) ((hpw p hf).mono ?_)
    rintro e p' ⟨rfl, hf'⟩
    exact ⟨_, rfl, hf.trans hf', .inr rfl⟩
  · refine ⟨rfl, .inr ⟨9, rfl, by kernel_rfl⟩, fun b p g hS h => ?_⟩
    have e0 := (show b.eval (.tmp 155) = .int .u8 (c.toNat : Int) from h.rd 5 _ _ 155 (by kernel_rfl) rfl rfl)
    have e1 := (show b.eval (.tmp 159) = .int .u8 (gq.toNat : Int) from h.st 9 _ 159 (by kernel_rfl) rfl rfl)
    have hf := hS
    refine opV_func _ (by simp only [List.getElem?_toArray, List.getElem?_cons_succ, List.getElem?_cons_zero]; rfl) (wanted_none rfl) 15 _ _ rfl #[.int .u8 (c.toNat : Int), .int .u8 (gq.toNat : Int)] (by simp only [List.map_toArray, List.map_cons, List.map_nil, e0, e1]) (by simp [go_sem]) ((hmu p hf).mono ?_)
    rintro e p' ⟨rfl, hf'⟩
    exact ⟨_, rfl, hf.trans hf', .inr rfl⟩
  · refine ⟨⟨161, rfl⟩, .inl rfl, fun b p s g hs hlow hS h => ?_⟩
    have e0 := (show b.eval (.tmp 150) = .int .u8 (a0.toNat : Int) from h.rd 0 _ _ 150 (by kernel_rfl) rfl rfl)
    have e1 := (show b.eval (.tmp 160) = .int .u8 (m.toNat : Int) from h.st 10 _ 160 (by kernel_rfl) rfl rfl)
    have ec : ∀ v, b.eval (.const v) = v := fun _ => rfl
    refine ⟨_, by simp only [List.getElem?_toArray, List.getElem?_cons_succ, List.getElem?_cons_zero]; rfl, .inl ⟨(wanted_none rfl), ?_⟩⟩
    obtain ⟨ρ, hρ⟩ : ∃ ρ, b.eval = ρ := ⟨_, rfl⟩
    rw [hρ] at e0 e1 ec ⊢
    unfold execOp; simp [go_sem, e0, e1, ec, u8_xor_u]
  · refine ⟨⟨19, rfl⟩, .inl rfl, fun b p s g hs hlow hS h => ?_⟩
    have e0 := (show b.eval (.tmp 161) = .int .u8 ((a0 ^^^ m).toNat : Int) from h.rd 11 _ _ 161 (by kernel_rfl) rfl rfl)
    have ec : ∀ v, b.eval (.const v) = v := fun _ => rfl
    refine ⟨_, by simp only [List.getElem?_toArray, List.getElem?_cons_succ, List.getElem?_cons_zero]; rfl, .inl ⟨(wanted_none rfl), ?_⟩⟩
    obtain ⟨ρ, hρ⟩ : ∃ ρ, b.eval = ρ := ⟨_, rfl⟩
    rw [hρ] at e0 ec ⊢
    unfold execOp; simp [go_sem, e0, ec]
  · intro b p h1 h2 h3 h4 h5
    obtain ⟨g, h4, h6⟩ := h4
    have r19 : slot b 19 = .int .u8 ((a0 ^^^ m).toNat : Int) := h5 12 (.int .u8 ((a0 ^^^ m).toNat : Int)) _ 19 rfl rfl
    exact hQ b p h1 (h2.trans hsz) (fun s hs => h3 s (fun hm => hs (by simpa using hm))) r19 h4
end Go.Proofs.YtfblhdomjnffcaaGreatDoor
