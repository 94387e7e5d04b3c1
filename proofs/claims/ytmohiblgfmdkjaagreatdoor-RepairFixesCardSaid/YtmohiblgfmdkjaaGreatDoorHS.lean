/-
  Layer 4: the document's Solve: drawn regions. (printed by gensol.py)
  Layer 4: helpers of the document's Solve: powers and inverses, a matrix in memory.
-/
import Derived.Test.YtmohiblgfmdkjaaGreatDoorGB
import Derived.Test.YtmohiblgfmdkjaaGreatDoorRmu
import Derived.Test.YtmohiblgfmdkjaaGreatDoorHW
import Derived.Test.YtmohiblgfmdkjaaGreatDoorGD
import Derived.Test.YtmohiblgfmdkjaaGreatDoorGF
import Derived.Test.YtmohiblgfmdkjaaGreatDoorHY
import Derived.Test.YtmohiblgfmdkjaaGreatDoorHG
namespace Go.Proofs.YtmohiblgfmdkjaaGreatDoor
open Go.RowKit Go.Bl
set_option linter.unusedVariables false
set_option maxRecDepth 100000 in
theorem frame209 (a : Go.Act) (hs : a.tmps.size = 209) (hd : a.defers = []) : a = ⟨(slot a 0 :: slot a 1 :: slot a 2 :: slot a 3 :: slot a 4 :: slot a 5 :: slot a 6 :: slot a 7 :: slot a 8 :: slot a 9 :: slot a 10 :: slot a 11 :: slot a 12 :: slot a 13 :: slot a 14 :: slot a 15 :: slot a 16 :: slot a 17 :: slot a 18 :: slot a 19 :: slot a 20 :: slot a 21 :: slot a 22 :: slot a 23 :: slot a 24 :: slot a 25 :: slot a 26 :: slot a 27 :: slot a 28 :: slot a 29 :: slot a 30 :: slot a 31 :: slot a 32 :: slot a 33 :: slot a 34 :: slot a 35 :: slot a 36 :: slot a 37 :: slot a 38 :: slot a 39 :: slot a 40 :: slot a 41 :: slot a 42 :: slot a 43 :: slot a 44 :: slot a 45 :: slot a 46 :: slot a 47 :: slot a 48 :: slot a 49 :: slot a 50 :: slot a 51 :: slot a 52 :: slot a 53 :: slot a 54 :: slot a 55 :: slot a 56 :: slot a 57 :: slot a 58 :: slot a 59 :: slot a 60 :: slot a 61 :: slot a 62 :: slot a 63 :: slot a 64 :: slot a 65 :: slot a 66 :: slot a 67 :: slot a 68 :: slot a 69 :: slot a 70 :: slot a 71 :: slot a 72 :: slot a 73 :: slot a 74 :: slot a 75 :: slot a 76 :: slot a 77 :: slot a 78 :: slot a 79 :: slot a 80 :: slot a 81 :: slot a 82 :: slot a 83 :: slot a 84 :: slot a 85 :: slot a 86 :: slot a 87 :: slot a 88 :: slot a 89 :: slot a 90 :: slot a 91 :: slot a 92 :: slot a 93 :: slot a 94 :: slot a 95 :: slot a 96 :: slot a 97 :: slot a 98 :: slot a 99 :: slot a 100 :: slot a 101 :: slot a 102 :: slot a 103 :: slot a 104 :: slot a 105 :: slot a 106 :: slot a 107 :: slot a 108 :: slot a 109 :: slot a 110 :: slot a 111 :: slot a 112 :: slot a 113 :: slot a 114 :: slot a 115 :: slot a 116 :: slot a 117 :: slot a 118 :: slot a 119 :: slot a 120 :: slot a 121 :: slot a 122 :: slot a 123 :: slot a 124 :: slot a 125 :: slot a 126 :: slot a 127 :: slot a 128 :: slot a 129 :: slot a 130 :: slot a 131 :: slot a 132 :: slot a 133 :: slot a 134 :: slot a 135 :: slot a 136 :: slot a 137 :: slot a 138 :: slot a 139 :: slot a 140 :: slot a 141 :: slot a 142 :: slot a 143 :: slot a 144 :: slot a 145 :: slot a 146 :: slot a 147 :: slot a 148 :: slot a 149 :: slot a 150 :: slot a 151 :: slot a 152 :: slot a 153 :: slot a 154 :: slot a 155 :: slot a 156 :: slot a 157 :: slot a 158 :: slot a 159 :: slot a 160 :: slot a 161 :: slot a 162 :: slot a 163 :: slot a 164 :: slot a 165 :: slot a 166 :: slot a 167 :: slot a 168 :: slot a 169 :: slot a 170 :: slot a 171 :: slot a 172 :: slot a 173 :: slot a 174 :: slot a 175 :: slot a 176 :: slot a 177 :: slot a 178 :: slot a 179 :: slot a 180 :: slot a 181 :: slot a 182 :: slot a 183 :: slot a 184 :: slot a 185 :: slot a 186 :: slot a 187 :: slot a 188 :: slot a 189 :: slot a 190 :: slot a 191 :: slot a 192 :: slot a 193 :: slot a 194 :: slot a 195 :: slot a 196 :: slot a 197 :: slot a 198 :: slot a 199 :: slot a 200 :: slot a 201 :: slot a 202 :: slot a 203 :: slot a 204 :: slot a 205 :: slot a 206 :: slot a 207 :: slot a 208 :: []).toArray, []⟩ := frameX a 209 hs hd

noncomputable def sol_swapR : Code := ((Tryz.f60.body.bind (findRegionC 16)).getD .skip)
set_option maxRecDepth 1000000 in
set_option maxHeartbeats 8000000 in
theorem sol_swap (w : World) (a : Go.Act) (hsz : a.tmps.size = 209) (lb n lc at_ k B : Nat) (us : List Value) (ua uk : Value) (hus : OwnV 22 B w (.slice (some ⟨lb, 0, none⟩) n lc) us) (hul : us.length = n) (hkn : k < n) (han : at_ < n) (hk : us[k]? = some uk) (ha : us[at_]? = some ua) (o1 : uk.oneCell' = true) (o2 : ua.oneCell' = true) (h6 : slot a 6 = .slice (some ⟨lb, 0, none⟩) n lc) (h10 : slot a 10 = .int .i64 (at_ : Int)) (h12 : slot a 12 = .int .i64 (k : Int)) (Q : Exit → Go.Act → World → Prop)
    (hQ : ∀ (b : Go.Act) (p : World), b.defers = a.defers → b.tmps.size = 209 → (∀ s, s ∉ ([69, 70, 71, 72, 73, 74, 75, 76, 77, 78, 79, 80, 81, 82] : List Nat) → slot b s = slot a s) → Fr [lb] w p → OwnV 22 B p (.slice (some ⟨lb, 0, none⟩) n lc) ((us.set at_ uk).set k ua) → Q .normal b p) : Code.wp Tryz.prog sol_swapR Q a w := by
  conv => arg 2; whnf
  refine wp_region_ghost (by kernel_rfl) (by kernel_rfl) [some 69, some 70, some 71, some 72, some 73, some 74, some 75, some 76, some 77, some 78, some 79, some 80, some 81, none, some 82, none] [13, 15] [.rd (.slice (some ⟨lb, 0, none⟩) n lc) 2, .rd (.int .i64 (at_ : Int)) 2, .rd (.slice (some ⟨lb, 0, none⟩) n lc) 2, .rd (.int .i64 (k : Int)) 2, .rd (.slice (some ⟨lb, 0, none⟩) n lc) 2, .rd (.int .i64 (k : Int)) 2, .rd (.pointer (some ⟨lb, k, none⟩)) 2, .rd (uk) 0, .rd (.slice (some ⟨lb, 0, none⟩) n lc) 2, .rd (.int .i64 (at_ : Int)) 2, .rd (.pointer (some ⟨lb, at_, none⟩)) 2, .rd (ua) 0, .rd (.pointer (some ⟨lb, at_, none⟩)) 2, .st 0, .rd (.pointer (some ⟨lb, k, none⟩)) 2, .st 1] (fun cj => undef) (fun s g p => Fr [lb] w p ∧ (s ≤ 0 → OwnV 22 B p (.slice (some ⟨lb, 0, none⟩) n lc) us) ∧ (0 < s → s ≤ 1 → OwnV 22 B p (.slice (some ⟨lb, 0, none⟩) n lc) (us.set at_ uk)) ∧ (1 < s → OwnV 22 B p (.slice (some ⟨lb, 0, none⟩) n lc) ((us.set at_ uk).set k ua))) (by kernel_rfl) (by rfl) (by rw [hsz]; rfl) (by kernel_rfl) (by kernel_rfl) (by decide) ?_ ⟨?_, ?_, ?_, ?_, ?_, ?_, ?_, ?_, ?_, ?_, ?_, ?_, ?_, ?_, ?_, ?_, trivial⟩ ?_
  · intro w1 hw1
    exact ⟨fun _ => undef, ⟨(hw1).weak, fun _ => OwnV.keep hus hw1 (by simp), fun hk _ => absurd hk (by decide), fun hk => absurd hk (by decide)⟩⟩
  · refine ⟨⟨69, rfl⟩, .inl rfl, fun b p s g hs hlow hS h => ?_⟩
    have e0 := (show b.eval (.tmp 6) = .slice (some ⟨lb, 0, none⟩) n lc from (h.old 6 (by decide)).trans h6)
    have ec : ∀ v, b.eval (.const v) = v := fun _ => rfl
    refine ⟨_, by simp only [List.getElem?_toArray, List.getElem?_cons_succ, List.getElem?_cons_zero]; rfl, .inl ⟨(wanted_none rfl), ?_⟩⟩
    obtain ⟨ρ, hρ⟩ : ∃ ρ, b.eval = ρ := ⟨_, rfl⟩
    rw [hρ] at e0 ec ⊢
    unfold execOp; simp [go_sem, e0, ec]
  · refine ⟨⟨70, rfl⟩, .inl rfl, fun b p s g hs hlow hS h => ?_⟩
    have e0 := (show b.eval (.tmp 10) = .int .i64 (at_ : Int) from (h.old 10 (by decide)).trans h10)
    have ec : ∀ v, b.eval (.const v) = v := fun _ => rfl
    refine ⟨_, by simp only [List.getElem?_toArray, List.getElem?_cons_succ, List.getElem?_cons_zero]; rfl, .inl ⟨(wanted_none rfl), ?_⟩⟩
    obtain ⟨ρ, hρ⟩ : ∃ ρ, b.eval = ρ := ⟨_, rfl⟩
    rw [hρ] at e0 ec ⊢
    unfold execOp; simp [go_sem, e0, ec]
  · refine ⟨⟨71, rfl⟩, .inl rfl, fun b p s g hs hlow hS h => ?_⟩
    have e0 := (show b.eval (.tmp 6) = .slice (some ⟨lb, 0, none⟩) n lc from (h.old 6 (by decide)).trans h6)
    have ec : ∀ v, b.eval (.const v) = v := fun _ => rfl
    refine ⟨_, by simp only [List.getElem?_toArray, List.getElem?_cons_succ, List.getElem?_cons_zero]; rfl, .inl ⟨(wanted_none rfl), ?_⟩⟩
    obtain ⟨ρ, hρ⟩ : ∃ ρ, b.eval = ρ := ⟨_, rfl⟩
    rw [hρ] at e0 ec ⊢
    unfold execOp; simp [go_sem, e0, ec]
  · refine ⟨⟨72, rfl⟩, .inl rfl, fun b p s g hs hlow hS h => ?_⟩
    have e0 := (show b.eval (.tmp 12) = .int .i64 (k : Int) from (h.old 12 (by decide)).trans h12)
    have ec : ∀ v, b.eval (.const v) = v := fun _ => rfl
    refine ⟨_, by simp only [List.getElem?_toArray, List.getElem?_cons_succ, List.getElem?_cons_zero]; rfl, .inl ⟨(wanted_none rfl), ?_⟩⟩
    obtain ⟨ρ, hρ⟩ : ∃ ρ, b.eval = ρ := ⟨_, rfl⟩
    rw [hρ] at e0 ec ⊢
    unfold execOp; simp [go_sem, e0, ec]
  · refine ⟨⟨73, rfl⟩, .inl rfl, fun b p s g hs hlow hS h => ?_⟩
    have e0 := (show b.eval (.tmp 6) = .slice (some ⟨lb, 0, none⟩) n lc from (h.old 6 (by decide)).trans h6)
    have ec : ∀ v, b.eval (.const v) = v := fun _ => rfl
    refine ⟨_, by simp only [List.getElem?_toArray, List.getElem?_cons_succ, List.getElem?_cons_zero]; rfl, .inl ⟨(wanted_none rfl), ?_⟩⟩
    obtain ⟨ρ, hρ⟩ : ∃ ρ, b.eval = ρ := ⟨_, rfl⟩
    rw [hρ] at e0 ec ⊢
    unfold execOp; simp [go_sem, e0, ec]
  · refine ⟨⟨74, rfl⟩, .inl rfl, fun b p s g hs hlow hS h => ?_⟩
    have e0 := (show b.eval (.tmp 12) = .int .i64 (k : Int) from (h.old 12 (by decide)).trans h12)
    have ec : ∀ v, b.eval (.const v) = v := fun _ => rfl
    refine ⟨_, by simp only [List.getElem?_toArray, List.getElem?_cons_succ, List.getElem?_cons_zero]; rfl, .inl ⟨(wanted_none rfl), ?_⟩⟩
    obtain ⟨ρ, hρ⟩ : ∃ ρ, b.eval = ρ := ⟨_, rfl⟩
    rw [hρ] at e0 ec ⊢
    unfold execOp; simp [go_sem, e0, ec]
  · refine ⟨⟨75, rfl⟩, .inl rfl, fun b p s g hs hlow hS h => ?_⟩
    have e0 := (show b.eval (.tmp 73) = .slice (some ⟨lb, 0, none⟩) n lc from h.rd 4 _ _ 73 (by kernel_rfl) rfl rfl)
    have e1 := (show b.eval (.tmp 74) = .int .i64 (k : Int) from h.rd 5 _ _ 74 (by kernel_rfl) rfl rfl)
    have ec : ∀ v, b.eval (.const v) = v := fun _ => rfl
    refine ⟨_, by simp only [List.getElem?_toArray, List.getElem?_cons_succ, List.getElem?_cons_zero]; rfl, .inl ⟨(wanted_none rfl), ?_⟩⟩
    obtain ⟨ρ, hρ⟩ : ∃ ρ, b.eval = ρ := ⟨_, rfl⟩
    rw [hρ] at e0 e1 ec ⊢
    unfold execOp; simp [go_sem, e0, e1, ec, show (k : Int) < n by omega, show k < n by omega]
  · refine ⟨⟨76, rfl⟩, .inr ⟨13, rfl, by kernel_rfl⟩, fun b p s g hs hlow hS h => ?_⟩
    have e0 := (show b.eval (.tmp 75) = .pointer (some ⟨lb, k, none⟩) from h.rd 6 _ _ 75 (by kernel_rfl) rfl rfl)
    obtain ⟨hf, m0, m1, m2⟩ := hS
    have c0 := (show p.cell? ⟨lb, k, none⟩ = some (uk) from (own_cellV (m0 hs) hk))
    have ec : ∀ v, b.eval (.const v) = v := fun _ => rfl
    refine ⟨_, by simp only [List.getElem?_toArray, List.getElem?_cons_succ, List.getElem?_cons_zero]; rfl, .inl ⟨(wanted_none rfl), ?_⟩⟩
    obtain ⟨ρ, hρ⟩ : ∃ ρ, b.eval = ρ := ⟨_, rfl⟩
    rw [hρ] at e0 ec ⊢
    unfold execOp; simp [go_sem, e0, ec, c0]
  · refine ⟨⟨77, rfl⟩, .inl rfl, fun b p s g hs hlow hS h => ?_⟩
    have e0 := (show b.eval (.tmp 6) = .slice (some ⟨lb, 0, none⟩) n lc from (h.old 6 (by decide)).trans h6)
    have ec : ∀ v, b.eval (.const v) = v := fun _ => rfl
    refine ⟨_, by simp only [List.getElem?_toArray, List.getElem?_cons_succ, List.getElem?_cons_zero]; rfl, .inl ⟨(wanted_none rfl), ?_⟩⟩
    obtain ⟨ρ, hρ⟩ : ∃ ρ, b.eval = ρ := ⟨_, rfl⟩
    rw [hρ] at e0 ec ⊢
    unfold execOp; simp [go_sem, e0, ec]
  · refine ⟨⟨78, rfl⟩, .inl rfl, fun b p s g hs hlow hS h => ?_⟩
    have e0 := (show b.eval (.tmp 10) = .int .i64 (at_ : Int) from (h.old 10 (by decide)).trans h10)
    have ec : ∀ v, b.eval (.const v) = v := fun _ => rfl
    refine ⟨_, by simp only [List.getElem?_toArray, List.getElem?_cons_succ, List.getElem?_cons_zero]; rfl, .inl ⟨(wanted_none rfl), ?_⟩⟩
    obtain ⟨ρ, hρ⟩ : ∃ ρ, b.eval = ρ := ⟨_, rfl⟩
    rw [hρ] at e0 ec ⊢
    unfold execOp; simp [go_sem, e0, ec]
  · refine ⟨⟨79, rfl⟩, .inl rfl, fun b p s g hs hlow hS h => ?_⟩
    have e0 := (show b.eval (.tmp 77) = .slice (some ⟨lb, 0, none⟩) n lc from h.rd 8 _ _ 77 (by kernel_rfl) rfl rfl)
    have e1 := (show b.eval (.tmp 78) = .int .i64 (at_ : Int) from h.rd 9 _ _ 78 (by kernel_rfl) rfl rfl)
    have ec : ∀ v, b.eval (.const v) = v := fun _ => rfl
    refine ⟨_, by simp only [List.getElem?_toArray, List.getElem?_cons_succ, List.getElem?_cons_zero]; rfl, .inl ⟨(wanted_none rfl), ?_⟩⟩
    obtain ⟨ρ, hρ⟩ : ∃ ρ, b.eval = ρ := ⟨_, rfl⟩
    rw [hρ] at e0 e1 ec ⊢
    unfold execOp; simp [go_sem, e0, e1, ec, show (at_ : Int) < n by omega, show at_ < n by omega]
  · refine ⟨⟨80, rfl⟩, .inr ⟨13, rfl, by kernel_rfl⟩, fun b p s g hs hlow hS h => ?_⟩
    have e0 := (show b.eval (.tmp 79) = .pointer (some ⟨lb, at_, none⟩) from h.rd 10 _ _ 79 (by kernel_rfl) rfl rfl)
    obtain ⟨hf, m0, m1, m2⟩ := hS
    have c0 := (show p.cell? ⟨lb, at_, none⟩ = some (ua) from (own_cellV (m0 hs) ha))
    have ec : ∀ v, b.eval (.const v) = v := fun _ => rfl
    refine ⟨_, by simp only [List.getElem?_toArray, List.getElem?_cons_succ, List.getElem?_cons_zero]; rfl, .inl ⟨(wanted_none rfl), ?_⟩⟩
    obtain ⟨ρ, hρ⟩ : ∃ ρ, b.eval = ρ := ⟨_, rfl⟩
    rw [hρ] at e0 ec ⊢
    unfold execOp; simp [go_sem, e0, ec, c0]
  · refine ⟨⟨81, rfl⟩, .inl rfl, fun b p s g hs hlow hS h => ?_⟩
    have e0 := (show b.eval (.tmp 69) = .slice (some ⟨lb, 0, none⟩) n lc from h.rd 0 _ _ 69 (by kernel_rfl) rfl rfl)
    have e1 := (show b.eval (.tmp 70) = .int .i64 (at_ : Int) from h.rd 1 _ _ 70 (by kernel_rfl) rfl rfl)
    have ec : ∀ v, b.eval (.const v) = v := fun _ => rfl
    refine ⟨_, by simp only [List.getElem?_toArray, List.getElem?_cons_succ, List.getElem?_cons_zero]; rfl, .inl ⟨(wanted_none rfl), ?_⟩⟩
    obtain ⟨ρ, hρ⟩ : ∃ ρ, b.eval = ρ := ⟨_, rfl⟩
    rw [hρ] at e0 e1 ec ⊢
    unfold execOp; simp [go_sem, e0, e1, ec, show (at_ : Int) < n by omega, show at_ < n by omega]
  · refine ⟨rfl, .inl rfl, fun b p g hS h => ?_⟩
    have e0 := (show b.eval (.tmp 81) = .pointer (some ⟨lb, at_, none⟩) from h.rd 12 _ _ 81 (by kernel_rfl) rfl rfl)
    have e1 := (show b.eval (.tmp 76) = uk from h.rd 7 _ _ 76 (by kernel_rfl) rfl rfl)
    obtain ⟨hf, m0, m1, m2⟩ := hS
    have hp := m0 (by decide)
    refine opV_mono (K := fun _ p => Fr [lb] w p ∧ OwnV 22 B p (.slice (some ⟨lb, 0, none⟩) n lc) (us.set at_ uk)) (fun v p hv => ⟨⟨hv.1, fun hk => absurd hk (by decide), fun _ _ => hv.2, fun hk => absurd hk (by decide)⟩, .inl rfl⟩) ?_
    obtain ⟨cur, k1, k2, -, k4⟩ := own_blkV hp
    refine opV_of_wpl (K := fun _ p => Fr [lb] w p ∧ OwnV 22 B p (.slice (some ⟨lb, 0, none⟩) n lc) (us.set at_ uk)) _ (by simp only [List.getElem?_toArray, List.getElem?_cons_succ, List.getElem?_cons_zero]; rfl) ?_
    refine wpl_store_one (.tmp 81) (.tmp 76) rfl rfl (uk) e0 e1 k1 (by have := k2; omega) (by kernel_rfl) o1 ?_
    intro p1 f1 a1 _
    exact ⟨rfl, rfl, hf.trans f1, k4 p1 (at_) _ a1⟩
  · refine ⟨⟨82, rfl⟩, .inl rfl, fun b p s g hs hlow hS h => ?_⟩
    have e0 := (show b.eval (.tmp 71) = .slice (some ⟨lb, 0, none⟩) n lc from h.rd 2 _ _ 71 (by kernel_rfl) rfl rfl)
    have e1 := (show b.eval (.tmp 72) = .int .i64 (k : Int) from h.rd 3 _ _ 72 (by kernel_rfl) rfl rfl)
    have ec : ∀ v, b.eval (.const v) = v := fun _ => rfl
    refine ⟨_, by simp only [List.getElem?_toArray, List.getElem?_cons_succ, List.getElem?_cons_zero]; rfl, .inl ⟨(wanted_none rfl), ?_⟩⟩
    obtain ⟨ρ, hρ⟩ : ∃ ρ, b.eval = ρ := ⟨_, rfl⟩
    rw [hρ] at e0 e1 ec ⊢
    unfold execOp; simp [go_sem, e0, e1, ec, show (k : Int) < n by omega, show k < n by omega]
  · refine ⟨rfl, .inr ⟨13, rfl, by kernel_rfl⟩, fun b p g hS h => ?_⟩
    have e0 := (show b.eval (.tmp 82) = .pointer (some ⟨lb, k, none⟩) from h.rd 14 _ _ 82 (by kernel_rfl) rfl rfl)
    have e1 := (show b.eval (.tmp 80) = ua from h.rd 11 _ _ 80 (by kernel_rfl) rfl rfl)
    obtain ⟨hf, m0, m1, m2⟩ := hS
    have hp := m1 (by decide) (by decide)
    refine opV_mono (K := fun _ p => Fr [lb] w p ∧ OwnV 22 B p (.slice (some ⟨lb, 0, none⟩) n lc) ((us.set at_ uk).set k ua)) (fun v p hv => ⟨⟨hv.1, fun hk => absurd hk (by decide), fun _ hk => absurd hk (by decide), fun _ => hv.2⟩, .inl rfl⟩) ?_
    obtain ⟨cur, k1, k2, -, k4⟩ := own_blkV hp
    refine opV_of_wpl (K := fun _ p => Fr [lb] w p ∧ OwnV 22 B p (.slice (some ⟨lb, 0, none⟩) n lc) ((us.set at_ uk).set k ua)) _ (by simp only [List.getElem?_toArray, List.getElem?_cons_succ, List.getElem?_cons_zero]; rfl) ?_
    refine wpl_store_one (.tmp 82) (.tmp 80) rfl rfl (ua) e0 e1 k1 (by have := k2; rw [List.length_set] at this; omega) (by kernel_rfl) o2 ?_
    intro p1 f1 a1 _
    exact ⟨rfl, rfl, hf.trans f1, k4 p1 (k) _ a1⟩
  · intro b p h1 h2 h3 h4 h5
    obtain ⟨g, h4, h6⟩ := h4
    obtain ⟨hf, m0, m1, m2⟩ := h4
    exact hQ b p h1 (h2.trans hsz) (fun s hs => h3 s (fun hm => hs (by simpa using hm))) hf (m2 (by decide))

noncomputable def sol_scaleR : Code := ((Tryz.f60.body.bind (findRegionC 21)).getD .skip)
set_option maxRecDepth 1000000 in
set_option maxHeartbeats 8000000 in
theorem sol_scale (w : World) (a : Go.Act) (hsz : a.tmps.size = 209) (lb n lc at_ gb rn rc j B : Nat) (row : List UInt8) (x0 : UInt8) (hrow : OwnB 5 B w (.slice (some ⟨gb, 0, none⟩) rn rc) row) (hrl : row.length = rn) (han : at_ < n) (hj : j < rn) (hl : w.cell? ⟨lb, at_, none⟩ = some (.slice (some ⟨gb, 0, none⟩) rn rc)) (hlg : lb ≠ gb) (h6 : slot a 6 = .slice (some ⟨lb, 0, none⟩) n lc) (h10 : slot a 10 = .int .i64 (at_ : Int)) (h14 : slot a 14 = .int .i64 (j : Int)) (h13 : slot a 13 = .int .u8 ((x0).toNat : Int)) (Q : Exit → Go.Act → World → Prop)
    (hQ : ∀ (b : Go.Act) (p : World), b.defers = a.defers → b.tmps.size = 209 → (∀ s, s ∉ ([99, 100, 101, 102, 103, 104, 105, 106, 107, 108, 109, 110, 111, 112, 113] : List Nat) → slot b s = slot a s) → Fr [gb] w p → OwnB 5 B p (.slice (some ⟨gb, 0, none⟩) rn rc) (row.set j (gmul (cf row j) x0)) → Q .normal b p) : Code.wp Tryz.prog sol_scaleR Q a w := by
  conv => arg 2; whnf
  refine wp_region_ghost (by kernel_rfl) (by kernel_rfl) [some 99, some 100, some 101, some 102, some 103, some 104, some 105, some 106, some 107, some 108, some 109, some 110, some 111, some 112, some 113, none] [13, 15] [.rd (.slice (some ⟨lb, 0, none⟩) n lc) 2, .rd (.int .i64 (at_ : Int)) 2, .rd (.pointer (some ⟨lb, at_, none⟩)) 2, .rd (.slice (some ⟨gb, 0, none⟩) rn rc) 2, .rd (.int .i64 (j : Int)) 2, .rd (.slice (some ⟨lb, 0, none⟩) n lc) 2, .rd (.int .i64 (at_ : Int)) 2, .rd (.pointer (some ⟨lb, at_, none⟩)) 2, .rd (.slice (some ⟨gb, 0, none⟩) rn rc) 2, .rd (.int .i64 (j : Int)) 2, .rd (.pointer (some ⟨gb, j, none⟩)) 2, .rd (.int .u8 ((cf row j).toNat : Int)) 1, .rd (.int .u8 ((x0).toNat : Int)) 2, .st 0, .rd (.pointer (some ⟨gb, j, none⟩)) 2, .st 1] (fun cj => if cj = 0 then (.int .u8 ((gmul (cf row j) x0).toNat : Int)) else undef) (fun s g p => Fr [gb] w p ∧ (s ≤ 1 → OwnB 5 B p (.slice (some ⟨gb, 0, none⟩) rn rc) row) ∧ (1 < s → OwnB 5 B p (.slice (some ⟨gb, 0, none⟩) rn rc) (row.set j (gmul (cf row j) x0)))) (by kernel_rfl) (by rfl) (by rw [hsz]; rfl) (by kernel_rfl) (by kernel_rfl) (by decide) ?_ ⟨?_, ?_, ?_, ?_, ?_, ?_, ?_, ?_, ?_, ?_, ?_, ?_, ?_, ?_, ?_, ?_, trivial⟩ ?_
  · intro w1 hw1
    exact ⟨fun _ => undef, ⟨(hw1).weak, fun _ => OwnB.keep hrow hw1 (by simp), fun hk => absurd hk (by decide)⟩⟩
  · refine ⟨⟨99, rfl⟩, .inl rfl, fun b p s g hs hlow hS h => ?_⟩
    have e0 := (show b.eval (.tmp 6) = .slice (some ⟨lb, 0, none⟩) n lc from (h.old 6 (by decide)).trans h6)
    have ec : ∀ v, b.eval (.const v) = v := fun _ => rfl
    refine ⟨_, by simp only [List.getElem?_toArray, List.getElem?_cons_succ, List.getElem?_cons_zero]; rfl, .inl ⟨(wanted_none rfl), ?_⟩⟩
    obtain ⟨ρ, hρ⟩ : ∃ ρ, b.eval = ρ := ⟨_, rfl⟩
    rw [hρ] at e0 ec ⊢
    unfold execOp; simp [go_sem, e0, ec]
  · refine ⟨⟨100, rfl⟩, .inl rfl, fun b p s g hs hlow hS h => ?_⟩
    have e0 := (show b.eval (.tmp 10) = .int .i64 (at_ : Int) from (h.old 10 (by decide)).trans h10)
    have ec : ∀ v, b.eval (.const v) = v := fun _ => rfl
    refine ⟨_, by simp only [List.getElem?_toArray, List.getElem?_cons_succ, List.getElem?_cons_zero]; rfl, .inl ⟨(wanted_none rfl), ?_⟩⟩
    obtain ⟨ρ, hρ⟩ : ∃ ρ, b.eval = ρ := ⟨_, rfl⟩
    rw [hρ] at e0 ec ⊢
    unfold execOp; simp [go_sem, e0, ec]
  · refine ⟨⟨101, rfl⟩, .inl rfl, fun b p s g hs hlow hS h => ?_⟩
    have e0 := (show b.eval (.tmp 99) = .slice (some ⟨lb, 0, none⟩) n lc from h.rd 0 _ _ 99 (by kernel_rfl) rfl rfl)
    have e1 := (show b.eval (.tmp 100) = .int .i64 (at_ : Int) from h.rd 1 _ _ 100 (by kernel_rfl) rfl rfl)
    have ec : ∀ v, b.eval (.const v) = v := fun _ => rfl
    refine ⟨_, by simp only [List.getElem?_toArray, List.getElem?_cons_succ, List.getElem?_cons_zero]; rfl, .inl ⟨(wanted_none rfl), ?_⟩⟩
    obtain ⟨ρ, hρ⟩ : ∃ ρ, b.eval = ρ := ⟨_, rfl⟩
    rw [hρ] at e0 e1 ec ⊢
    unfold execOp; simp [go_sem, e0, e1, ec, show (at_ : Int) < n by omega, show at_ < n by omega]
  · refine ⟨⟨102, rfl⟩, .inl rfl, fun b p s g hs hlow hS h => ?_⟩
    have e0 := (show b.eval (.tmp 101) = .pointer (some ⟨lb, at_, none⟩) from h.rd 2 _ _ 101 (by kernel_rfl) rfl rfl)
    obtain ⟨hf, m0, m1⟩ := hS
    have c0 := (show p.cell? ⟨lb, at_, none⟩ = some (.slice (some ⟨gb, 0, none⟩) rn rc) from (cell_keep hf (by simpa using hlg) hl))
    have ec : ∀ v, b.eval (.const v) = v := fun _ => rfl
    refine ⟨_, by simp only [List.getElem?_toArray, List.getElem?_cons_succ, List.getElem?_cons_zero]; rfl, .inl ⟨(wanted_none rfl), ?_⟩⟩
    obtain ⟨ρ, hρ⟩ : ∃ ρ, b.eval = ρ := ⟨_, rfl⟩
    rw [hρ] at e0 ec ⊢
    unfold execOp; simp [go_sem, e0, ec, c0]
  · refine ⟨⟨103, rfl⟩, .inl rfl, fun b p s g hs hlow hS h => ?_⟩
    have e0 := (show b.eval (.tmp 14) = .int .i64 (j : Int) from (h.old 14 (by decide)).trans h14)
    have ec : ∀ v, b.eval (.const v) = v := fun _ => rfl
    refine ⟨_, by simp only [List.getElem?_toArray, List.getElem?_cons_succ, List.getElem?_cons_zero]; rfl, .inl ⟨(wanted_none rfl), ?_⟩⟩
    obtain ⟨ρ, hρ⟩ : ∃ ρ, b.eval = ρ := ⟨_, rfl⟩
    rw [hρ] at e0 ec ⊢
    unfold execOp; simp [go_sem, e0, ec]
  · refine ⟨⟨104, rfl⟩, .inl rfl, fun b p s g hs hlow hS h => ?_⟩
    have e0 := (show b.eval (.tmp 6) = .slice (some ⟨lb, 0, none⟩) n lc from (h.old 6 (by decide)).trans h6)
    have ec : ∀ v, b.eval (.const v) = v := fun _ => rfl
    refine ⟨_, by simp only [List.getElem?_toArray, List.getElem?_cons_succ, List.getElem?_cons_zero]; rfl, .inl ⟨(wanted_none rfl), ?_⟩⟩
    obtain ⟨ρ, hρ⟩ : ∃ ρ, b.eval = ρ := ⟨_, rfl⟩
    rw [hρ] at e0 ec ⊢
    unfold execOp; simp [go_sem, e0, ec]
  · refine ⟨⟨105, rfl⟩, .inl rfl, fun b p s g hs hlow hS h => ?_⟩
    have e0 := (show b.eval (.tmp 10) = .int .i64 (at_ : Int) from (h.old 10 (by decide)).trans h10)
    have ec : ∀ v, b.eval (.const v) = v := fun _ => rfl
    refine ⟨_, by simp only [List.getElem?_toArray, List.getElem?_cons_succ, List.getElem?_cons_zero]; rfl, .inl ⟨(wanted_none rfl), ?_⟩⟩
    obtain ⟨ρ, hρ⟩ : ∃ ρ, b.eval = ρ := ⟨_, rfl⟩
    rw [hρ] at e0 ec ⊢
    unfold execOp; simp [go_sem, e0, ec]
  · refine ⟨⟨106, rfl⟩, .inl rfl, fun b p s g hs hlow hS h => ?_⟩
    have e0 := (show b.eval (.tmp 104) = .slice (some ⟨lb, 0, none⟩) n lc from h.rd 5 _ _ 104 (by kernel_rfl) rfl rfl)
    have e1 := (show b.eval (.tmp 105) = .int .i64 (at_ : Int) from h.rd 6 _ _ 105 (by kernel_rfl) rfl rfl)
    have ec : ∀ v, b.eval (.const v) = v := fun _ => rfl
    refine ⟨_, by simp only [List.getElem?_toArray, List.getElem?_cons_succ, List.getElem?_cons_zero]; rfl, .inl ⟨(wanted_none rfl), ?_⟩⟩
    obtain ⟨ρ, hρ⟩ : ∃ ρ, b.eval = ρ := ⟨_, rfl⟩
    rw [hρ] at e0 e1 ec ⊢
    unfold execOp; simp [go_sem, e0, e1, ec, show (at_ : Int) < n by omega, show at_ < n by omega]
  · refine ⟨⟨107, rfl⟩, .inl rfl, fun b p s g hs hlow hS h => ?_⟩
    have e0 := (show b.eval (.tmp 106) = .pointer (some ⟨lb, at_, none⟩) from h.rd 7 _ _ 106 (by kernel_rfl) rfl rfl)
    obtain ⟨hf, m0, m1⟩ := hS
    have c0 := (show p.cell? ⟨lb, at_, none⟩ = some (.slice (some ⟨gb, 0, none⟩) rn rc) from (cell_keep hf (by simpa using hlg) hl))
    have ec : ∀ v, b.eval (.const v) = v := fun _ => rfl
    refine ⟨_, by simp only [List.getElem?_toArray, List.getElem?_cons_succ, List.getElem?_cons_zero]; rfl, .inl ⟨(wanted_none rfl), ?_⟩⟩
    obtain ⟨ρ, hρ⟩ : ∃ ρ, b.eval = ρ := ⟨_, rfl⟩
    rw [hρ] at e0 ec ⊢
    unfold execOp; simp [go_sem, e0, ec, c0]
  · refine ⟨⟨108, rfl⟩, .inl rfl, fun b p s g hs hlow hS h => ?_⟩
    have e0 := (show b.eval (.tmp 14) = .int .i64 (j : Int) from (h.old 14 (by decide)).trans h14)
    have ec : ∀ v, b.eval (.const v) = v := fun _ => rfl
    refine ⟨_, by simp only [List.getElem?_toArray, List.getElem?_cons_succ, List.getElem?_cons_zero]; rfl, .inl ⟨(wanted_none rfl), ?_⟩⟩
    obtain ⟨ρ, hρ⟩ : ∃ ρ, b.eval = ρ := ⟨_, rfl⟩
    rw [hρ] at e0 ec ⊢
    unfold execOp; simp [go_sem, e0, ec]
  · refine ⟨⟨109, rfl⟩, .inl rfl, fun b p s g hs hlow hS h => ?_⟩
    have e0 := (show b.eval (.tmp 107) = .slice (some ⟨gb, 0, none⟩) rn rc from h.rd 8 _ _ 107 (by kernel_rfl) rfl rfl)
    have e1 := (show b.eval (.tmp 108) = .int .i64 (j : Int) from h.rd 9 _ _ 108 (by kernel_rfl) rfl rfl)
    have ec : ∀ v, b.eval (.const v) = v := fun _ => rfl
    refine ⟨_, by simp only [List.getElem?_toArray, List.getElem?_cons_succ, List.getElem?_cons_zero]; rfl, .inl ⟨(wanted_none rfl), ?_⟩⟩
    obtain ⟨ρ, hρ⟩ : ∃ ρ, b.eval = ρ := ⟨_, rfl⟩
    rw [hρ] at e0 e1 ec ⊢
    unfold execOp; simp [go_sem, e0, e1, ec, show (j : Int) < rn by omega, show j < rn by omega]
  · refine ⟨⟨110, rfl⟩, .inr ⟨15, rfl, by kernel_rfl⟩, fun b p s g hs hlow hS h => ?_⟩
    have e0 := (show b.eval (.tmp 109) = .pointer (some ⟨gb, j, none⟩) from h.rd 10 _ _ 109 (by kernel_rfl) rfl rfl)
    obtain ⟨hf, m0, m1⟩ := hS
    have c0 := (show p.cell? ⟨gb, j, none⟩ = some (.int .u8 ((cf row j).toNat : Int)) from (own_cellB (m0 hs) (i := j) (by omega)))
    have ec : ∀ v, b.eval (.const v) = v := fun _ => rfl
    refine ⟨_, by simp only [List.getElem?_toArray, List.getElem?_cons_succ, List.getElem?_cons_zero]; rfl, .inl ⟨(wanted_none rfl), ?_⟩⟩
    obtain ⟨ρ, hρ⟩ : ∃ ρ, b.eval = ρ := ⟨_, rfl⟩
    rw [hρ] at e0 ec ⊢
    unfold execOp; simp [go_sem, e0, ec, c0]
  · refine ⟨⟨111, rfl⟩, .inl rfl, fun b p s g hs hlow hS h => ?_⟩
    have e0 := (show b.eval (.tmp 13) = .int .u8 ((x0).toNat : Int) from (h.old 13 (by decide)).trans h13)
    have ec : ∀ v, b.eval (.const v) = v := fun _ => rfl
    refine ⟨_, by simp only [List.getElem?_toArray, List.getElem?_cons_succ, List.getElem?_cons_zero]; rfl, .inl ⟨(wanted_none rfl), ?_⟩⟩
    obtain ⟨ρ, hρ⟩ : ∃ ρ, b.eval = ρ := ⟨_, rfl⟩
    rw [hρ] at e0 ec ⊢
    unfold execOp; simp [go_sem, e0, ec]
  · refine ⟨rfl, .inl rfl, fun b p g hS h => ?_⟩
    have e0 := (show b.eval (.tmp 110) = .int .u8 ((cf row j).toNat : Int) from h.rd 11 _ _ 110 (by kernel_rfl) rfl rfl)
    have e1 := (show b.eval (.tmp 111) = .int .u8 ((x0).toNat : Int) from h.rd 12 _ _ 111 (by kernel_rfl) rfl rfl)
    obtain ⟨hf, m0, m1⟩ := hS
    refine opV_func _ (by simp only [List.getElem?_toArray, List.getElem?_cons_succ, List.getElem?_cons_zero]; rfl) (wanted_none rfl) 57 _ _ rfl #[.int .u8 ((cf row j).toNat : Int), .int .u8 ((x0).toNat : Int)] (by simp only [List.map_toArray, List.map_cons, List.map_nil, e0, e1]) (by simp [go_sem]) ((rmul_any p (cf row j) x0).mono ?_)
    rintro e p' ⟨rfl, hf'⟩
    exact ⟨_, rfl, ⟨hf.trans (hf').weak, fun _ => OwnB.keep (m0 (by decide)) hf' (by simp), fun hk => absurd hk (by decide)⟩, .inr rfl⟩
  · refine ⟨⟨113, rfl⟩, .inl rfl, fun b p s g hs hlow hS h => ?_⟩
    have e0 := (show b.eval (.tmp 102) = .slice (some ⟨gb, 0, none⟩) rn rc from h.rd 3 _ _ 102 (by kernel_rfl) rfl rfl)
    have e1 := (show b.eval (.tmp 103) = .int .i64 (j : Int) from h.rd 4 _ _ 103 (by kernel_rfl) rfl rfl)
    have ec : ∀ v, b.eval (.const v) = v := fun _ => rfl
    refine ⟨_, by simp only [List.getElem?_toArray, List.getElem?_cons_succ, List.getElem?_cons_zero]; rfl, .inl ⟨(wanted_none rfl), ?_⟩⟩
    obtain ⟨ρ, hρ⟩ : ∃ ρ, b.eval = ρ := ⟨_, rfl⟩
    rw [hρ] at e0 e1 ec ⊢
    unfold execOp; simp [go_sem, e0, e1, ec, show (j : Int) < rn by omega, show j < rn by omega]
  · refine ⟨rfl, .inr ⟨13, rfl, by kernel_rfl⟩, fun b p g hS h => ?_⟩
    have e0 := (show b.eval (.tmp 113) = .pointer (some ⟨gb, j, none⟩) from h.rd 14 _ _ 113 (by kernel_rfl) rfl rfl)
    have e1 := (show b.eval (.tmp 112) = .int .u8 ((gmul (cf row j) x0).toNat : Int) from h.st 13 _ 112 (by kernel_rfl) rfl rfl)
    obtain ⟨hf, m0, m1⟩ := hS
    have hp := m0 (by decide)
    refine opV_mono (K := fun _ p => Fr [gb] w p ∧ OwnB 5 B p (.slice (some ⟨gb, 0, none⟩) rn rc) (row.set j (gmul (cf row j) x0))) (fun v p hv => ⟨⟨hv.1, fun hk => absurd hk (by decide), fun _ => hv.2⟩, .inl rfl⟩) ?_
    obtain ⟨cur, k1, k2, -, k4⟩ := own_blk hp
    refine opV_of_wpl (K := fun _ p => Fr [gb] w p ∧ OwnB 5 B p (.slice (some ⟨gb, 0, none⟩) rn rc) (row.set j (gmul (cf row j) x0))) _ (by simp only [List.getElem?_toArray, List.getElem?_cons_succ, List.getElem?_cons_zero]; rfl) ?_
    refine wpl_store_one (.tmp 113) (.tmp 112) rfl rfl (.int .u8 ((gmul (cf row j) x0).toNat : Int)) e0 e1 k1 (by have := k2; omega) (by kernel_rfl) rfl ?_
    intro p1 f1 a1 _
    exact ⟨rfl, rfl, hf.trans f1, k4 p1 (j) _ a1⟩
  · intro b p h1 h2 h3 h4 h5
    obtain ⟨g, h4, h6⟩ := h4
    obtain ⟨hf, m0, m1⟩ := h4
    exact hQ b p h1 (h2.trans hsz) (fun s hs => h3 s (fun hm => hs (by simpa using hm))) hf (m1 (by decide))

noncomputable def sol_elimR : Code := ((Tryz.f60.body.bind (findRegionC 31)).getD .skip)
set_option maxRecDepth 1000000 in
set_option maxHeartbeats 8000000 in
theorem sol_elim (w : World) (a : Go.Act) (hsz : a.tmps.size = 209) (lb n lc at_ gb rn rc pg pn pc i j B : Nat) (row : List UInt8) (f y : UInt8) (hrow : OwnB 5 B w (.slice (some ⟨gb, 0, none⟩) rn rc) row) (hrl : row.length = rn) (han : at_ < n) (hin : i < n) (hj : j < rn) (hjp : j < pn) (hl : w.cell? ⟨lb, i, none⟩ = some (.slice (some ⟨gb, 0, none⟩) rn rc)) (hp : w.cell? ⟨lb, at_, none⟩ = some (.slice (some ⟨pg, 0, none⟩) pn pc)) (hy : w.cell? ⟨pg, j, none⟩ = some (.int .u8 ((y).toNat : Int))) (hlg : lb ≠ gb) (hpg : pg ≠ gb) (h6 : slot a 6 = .slice (some ⟨lb, 0, none⟩) n lc) (h15 : slot a 15 = .int .i64 (i : Int)) (h17 : slot a 17 = .int .i64 (j : Int)) (h16 : slot a 16 = .int .u8 ((f).toNat : Int)) (h10 : slot a 10 = .int .i64 (at_ : Int)) (Q : Exit → Go.Act → World → Prop)
    (hQ : ∀ (b : Go.Act) (p : World), b.defers = a.defers → b.tmps.size = 209 → (∀ s, s ∉ ([142, 143, 144, 145, 146, 147, 148, 149, 150, 151, 152, 153, 154, 155, 156, 157, 158, 159, 160, 161, 162, 163, 164] : List Nat) → slot b s = slot a s) → Fr [gb] w p → OwnB 5 B p (.slice (some ⟨gb, 0, none⟩) rn rc) (row.set j (cf row j ^^^ gmul f y)) → Q .normal b p) : Code.wp Tryz.prog sol_elimR Q a w := by
  conv => arg 2; whnf
  refine wp_region_ghost (by kernel_rfl) (by kernel_rfl) [some 142, some 143, some 144, some 145, some 146, some 147, some 148, some 149, some 150, some 151, some 152, some 153, some 154, some 155, some 156, some 157, some 158, some 159, some 160, some 161, some 162, some 163, some 164, none] [20, 23] [.rd (.slice (some ⟨lb, 0, none⟩) n lc) 2, .rd (.int .i64 (i : Int)) 2, .rd (.pointer (some ⟨lb, i, none⟩)) 2, .rd (.slice (some ⟨gb, 0, none⟩) rn rc) 2, .rd (.int .i64 (j : Int)) 2, .rd (.slice (some ⟨lb, 0, none⟩) n lc) 2, .rd (.int .i64 (i : Int)) 2, .rd (.pointer (some ⟨lb, i, none⟩)) 2, .rd (.slice (some ⟨gb, 0, none⟩) rn rc) 2, .rd (.int .i64 (j : Int)) 2, .rd (.pointer (some ⟨gb, j, none⟩)) 2, .rd (.int .u8 ((cf row j).toNat : Int)) 1, .rd (.int .u8 ((f).toNat : Int)) 2, .rd (.slice (some ⟨lb, 0, none⟩) n lc) 2, .rd (.int .i64 (at_ : Int)) 2, .rd (.pointer (some ⟨lb, at_, none⟩)) 2, .rd (.slice (some ⟨pg, 0, none⟩) pn pc) 2, .rd (.int .i64 (j : Int)) 2, .rd (.pointer (some ⟨pg, j, none⟩)) 2, .rd (.int .u8 ((y).toNat : Int)) 2, .st 0, .rd (.int .u8 ((cf row j ^^^ gmul f y).toNat : Int)) 2, .rd (.pointer (some ⟨gb, j, none⟩)) 2, .st 1] (fun cj => if cj = 0 then (.int .u8 ((gmul f y).toNat : Int)) else undef) (fun s g p => Fr [gb] w p ∧ (s ≤ 1 → OwnB 5 B p (.slice (some ⟨gb, 0, none⟩) rn rc) row) ∧ (1 < s → OwnB 5 B p (.slice (some ⟨gb, 0, none⟩) rn rc) (row.set j (cf row j ^^^ gmul f y)))) (by kernel_rfl) (by rfl) (by rw [hsz]; rfl) (by kernel_rfl) (by kernel_rfl) (by decide) ?_ ⟨?_, ?_, ?_, ?_, ?_, ?_, ?_, ?_, ?_, ?_, ?_, ?_, ?_, ?_, ?_, ?_, ?_, ?_, ?_, ?_, ?_, ?_, ?_, ?_, trivial⟩ ?_
  · intro w1 hw1
    exact ⟨fun _ => undef, ⟨(hw1).weak, fun _ => OwnB.keep hrow hw1 (by simp), fun hk => absurd hk (by decide)⟩⟩
  · refine ⟨⟨142, rfl⟩, .inl rfl, fun b p s g hs hlow hS h => ?_⟩
    have e0 := (show b.eval (.tmp 6) = .slice (some ⟨lb, 0, none⟩) n lc from (h.old 6 (by decide)).trans h6)
    have ec : ∀ v, b.eval (.const v) = v := fun _ => rfl
    refine ⟨_, by simp only [List.getElem?_toArray, List.getElem?_cons_succ, List.getElem?_cons_zero]; rfl, .inl ⟨(wanted_none rfl), ?_⟩⟩
    obtain ⟨ρ, hρ⟩ : ∃ ρ, b.eval = ρ := ⟨_, rfl⟩
    rw [hρ] at e0 ec ⊢
    unfold execOp; simp [go_sem, e0, ec]
  · refine ⟨⟨143, rfl⟩, .inl rfl, fun b p s g hs hlow hS h => ?_⟩
    have e0 := (show b.eval (.tmp 15) = .int .i64 (i : Int) from (h.old 15 (by decide)).trans h15)
    have ec : ∀ v, b.eval (.const v) = v := fun _ => rfl
    refine ⟨_, by simp only [List.getElem?_toArray, List.getElem?_cons_succ, List.getElem?_cons_zero]; rfl, .inl ⟨(wanted_none rfl), ?_⟩⟩
    obtain ⟨ρ, hρ⟩ : ∃ ρ, b.eval = ρ := ⟨_, rfl⟩
    rw [hρ] at e0 ec ⊢
    unfold execOp; simp [go_sem, e0, ec]
  · refine ⟨⟨144, rfl⟩, .inl rfl, fun b p s g hs hlow hS h => ?_⟩
    have e0 := (show b.eval (.tmp 142) = .slice (some ⟨lb, 0, none⟩) n lc from h.rd 0 _ _ 142 (by kernel_rfl) rfl rfl)
    have e1 := (show b.eval (.tmp 143) = .int .i64 (i : Int) from h.rd 1 _ _ 143 (by kernel_rfl) rfl rfl)
    have ec : ∀ v, b.eval (.const v) = v := fun _ => rfl
    refine ⟨_, by simp only [List.getElem?_toArray, List.getElem?_cons_succ, List.getElem?_cons_zero]; rfl, .inl ⟨(wanted_none rfl), ?_⟩⟩
    obtain ⟨ρ, hρ⟩ : ∃ ρ, b.eval = ρ := ⟨_, rfl⟩
    rw [hρ] at e0 e1 ec ⊢
    unfold execOp; simp [go_sem, e0, e1, ec, show (i : Int) < n by omega, show i < n by omega]
  · refine ⟨⟨145, rfl⟩, .inl rfl, fun b p s g hs hlow hS h => ?_⟩
    have e0 := (show b.eval (.tmp 144) = .pointer (some ⟨lb, i, none⟩) from h.rd 2 _ _ 144 (by kernel_rfl) rfl rfl)
    obtain ⟨hf, m0, m1⟩ := hS
    have c0 := (show p.cell? ⟨lb, i, none⟩ = some (.slice (some ⟨gb, 0, none⟩) rn rc) from (cell_keep hf (by simpa using hlg) hl))
    have ec : ∀ v, b.eval (.const v) = v := fun _ => rfl
    refine ⟨_, by simp only [List.getElem?_toArray, List.getElem?_cons_succ, List.getElem?_cons_zero]; rfl, .inl ⟨(wanted_none rfl), ?_⟩⟩
    obtain ⟨ρ, hρ⟩ : ∃ ρ, b.eval = ρ := ⟨_, rfl⟩
    rw [hρ] at e0 ec ⊢
    unfold execOp; simp [go_sem, e0, ec, c0]
  · refine ⟨⟨146, rfl⟩, .inl rfl, fun b p s g hs hlow hS h => ?_⟩
    have e0 := (show b.eval (.tmp 17) = .int .i64 (j : Int) from (h.old 17 (by decide)).trans h17)
    have ec : ∀ v, b.eval (.const v) = v := fun _ => rfl
    refine ⟨_, by simp only [List.getElem?_toArray, List.getElem?_cons_succ, List.getElem?_cons_zero]; rfl, .inl ⟨(wanted_none rfl), ?_⟩⟩
    obtain ⟨ρ, hρ⟩ : ∃ ρ, b.eval = ρ := ⟨_, rfl⟩
    rw [hρ] at e0 ec ⊢
    unfold execOp; simp [go_sem, e0, ec]
  · refine ⟨⟨147, rfl⟩, .inl rfl, fun b p s g hs hlow hS h => ?_⟩
    have e0 := (show b.eval (.tmp 6) = .slice (some ⟨lb, 0, none⟩) n lc from (h.old 6 (by decide)).trans h6)
    have ec : ∀ v, b.eval (.const v) = v := fun _ => rfl
    refine ⟨_, by simp only [List.getElem?_toArray, List.getElem?_cons_succ, List.getElem?_cons_zero]; rfl, .inl ⟨(wanted_none rfl), ?_⟩⟩
    obtain ⟨ρ, hρ⟩ : ∃ ρ, b.eval = ρ := ⟨_, rfl⟩
    rw [hρ] at e0 ec ⊢
    unfold execOp; simp [go_sem, e0, ec]
  · refine ⟨⟨148, rfl⟩, .inl rfl, fun b p s g hs hlow hS h => ?_⟩
    have e0 := (show b.eval (.tmp 15) = .int .i64 (i : Int) from (h.old 15 (by decide)).trans h15)
    have ec : ∀ v, b.eval (.const v) = v := fun _ => rfl
    refine ⟨_, by simp only [List.getElem?_toArray, List.getElem?_cons_succ, List.getElem?_cons_zero]; rfl, .inl ⟨(wanted_none rfl), ?_⟩⟩
    obtain ⟨ρ, hρ⟩ : ∃ ρ, b.eval = ρ := ⟨_, rfl⟩
    rw [hρ] at e0 ec ⊢
    unfold execOp; simp [go_sem, e0, ec]
  · refine ⟨⟨149, rfl⟩, .inl rfl, fun b p s g hs hlow hS h => ?_⟩
    have e0 := (show b.eval (.tmp 147) = .slice (some ⟨lb, 0, none⟩) n lc from h.rd 5 _ _ 147 (by kernel_rfl) rfl rfl)
    have e1 := (show b.eval (.tmp 148) = .int .i64 (i : Int) from h.rd 6 _ _ 148 (by kernel_rfl) rfl rfl)
    have ec : ∀ v, b.eval (.const v) = v := fun _ => rfl
    refine ⟨_, by simp only [List.getElem?_toArray, List.getElem?_cons_succ, List.getElem?_cons_zero]; rfl, .inl ⟨(wanted_none rfl), ?_⟩⟩
    obtain ⟨ρ, hρ⟩ : ∃ ρ, b.eval = ρ := ⟨_, rfl⟩
    rw [hρ] at e0 e1 ec ⊢
    unfold execOp; simp [go_sem, e0, e1, ec, show (i : Int) < n by omega, show i < n by omega]
  · refine ⟨⟨150, rfl⟩, .inl rfl, fun b p s g hs hlow hS h => ?_⟩
    have e0 := (show b.eval (.tmp 149) = .pointer (some ⟨lb, i, none⟩) from h.rd 7 _ _ 149 (by kernel_rfl) rfl rfl)
    obtain ⟨hf, m0, m1⟩ := hS
    have c0 := (show p.cell? ⟨lb, i, none⟩ = some (.slice (some ⟨gb, 0, none⟩) rn rc) from (cell_keep hf (by simpa using hlg) hl))
    have ec : ∀ v, b.eval (.const v) = v := fun _ => rfl
    refine ⟨_, by simp only [List.getElem?_toArray, List.getElem?_cons_succ, List.getElem?_cons_zero]; rfl, .inl ⟨(wanted_none rfl), ?_⟩⟩
    obtain ⟨ρ, hρ⟩ : ∃ ρ, b.eval = ρ := ⟨_, rfl⟩
    rw [hρ] at e0 ec ⊢
    unfold execOp; simp [go_sem, e0, ec, c0]
  · refine ⟨⟨151, rfl⟩, .inl rfl, fun b p s g hs hlow hS h => ?_⟩
    have e0 := (show b.eval (.tmp 17) = .int .i64 (j : Int) from (h.old 17 (by decide)).trans h17)
    have ec : ∀ v, b.eval (.const v) = v := fun _ => rfl
    refine ⟨_, by simp only [List.getElem?_toArray, List.getElem?_cons_succ, List.getElem?_cons_zero]; rfl, .inl ⟨(wanted_none rfl), ?_⟩⟩
    obtain ⟨ρ, hρ⟩ : ∃ ρ, b.eval = ρ := ⟨_, rfl⟩
    rw [hρ] at e0 ec ⊢
    unfold execOp; simp [go_sem, e0, ec]
  · refine ⟨⟨152, rfl⟩, .inl rfl, fun b p s g hs hlow hS h => ?_⟩
    have e0 := (show b.eval (.tmp 150) = .slice (some ⟨gb, 0, none⟩) rn rc from h.rd 8 _ _ 150 (by kernel_rfl) rfl rfl)
    have e1 := (show b.eval (.tmp 151) = .int .i64 (j : Int) from h.rd 9 _ _ 151 (by kernel_rfl) rfl rfl)
    have ec : ∀ v, b.eval (.const v) = v := fun _ => rfl
    refine ⟨_, by simp only [List.getElem?_toArray, List.getElem?_cons_succ, List.getElem?_cons_zero]; rfl, .inl ⟨(wanted_none rfl), ?_⟩⟩
    obtain ⟨ρ, hρ⟩ : ∃ ρ, b.eval = ρ := ⟨_, rfl⟩
    rw [hρ] at e0 e1 ec ⊢
    unfold execOp; simp [go_sem, e0, e1, ec, show (j : Int) < rn by omega, show j < rn by omega]
  · refine ⟨⟨153, rfl⟩, .inr ⟨23, rfl, by kernel_rfl⟩, fun b p s g hs hlow hS h => ?_⟩
    have e0 := (show b.eval (.tmp 152) = .pointer (some ⟨gb, j, none⟩) from h.rd 10 _ _ 152 (by kernel_rfl) rfl rfl)
    obtain ⟨hf, m0, m1⟩ := hS
    have c0 := (show p.cell? ⟨gb, j, none⟩ = some (.int .u8 ((cf row j).toNat : Int)) from (own_cellB (m0 hs) (i := j) (by omega)))
    have ec : ∀ v, b.eval (.const v) = v := fun _ => rfl
    refine ⟨_, by simp only [List.getElem?_toArray, List.getElem?_cons_succ, List.getElem?_cons_zero]; rfl, .inl ⟨(wanted_none rfl), ?_⟩⟩
    obtain ⟨ρ, hρ⟩ : ∃ ρ, b.eval = ρ := ⟨_, rfl⟩
    rw [hρ] at e0 ec ⊢
    unfold execOp; simp [go_sem, e0, ec, c0]
  · refine ⟨⟨154, rfl⟩, .inl rfl, fun b p s g hs hlow hS h => ?_⟩
    have e0 := (show b.eval (.tmp 16) = .int .u8 ((f).toNat : Int) from (h.old 16 (by decide)).trans h16)
    have ec : ∀ v, b.eval (.const v) = v := fun _ => rfl
    refine ⟨_, by simp only [List.getElem?_toArray, List.getElem?_cons_succ, List.getElem?_cons_zero]; rfl, .inl ⟨(wanted_none rfl), ?_⟩⟩
    obtain ⟨ρ, hρ⟩ : ∃ ρ, b.eval = ρ := ⟨_, rfl⟩
    rw [hρ] at e0 ec ⊢
    unfold execOp; simp [go_sem, e0, ec]
  · refine ⟨⟨155, rfl⟩, .inl rfl, fun b p s g hs hlow hS h => ?_⟩
    have e0 := (show b.eval (.tmp 6) = .slice (some ⟨lb, 0, none⟩) n lc from (h.old 6 (by decide)).trans h6)
    have ec : ∀ v, b.eval (.const v) = v := fun _ => rfl
    refine ⟨_, by simp only [List.getElem?_toArray, List.getElem?_cons_succ, List.getElem?_cons_zero]; rfl, .inl ⟨(wanted_none rfl), ?_⟩⟩
    obtain ⟨ρ, hρ⟩ : ∃ ρ, b.eval = ρ := ⟨_, rfl⟩
    rw [hρ] at e0 ec ⊢
    unfold execOp; simp [go_sem, e0, ec]
  · refine ⟨⟨156, rfl⟩, .inl rfl, fun b p s g hs hlow hS h => ?_⟩
    have e0 := (show b.eval (.tmp 10) = .int .i64 (at_ : Int) from (h.old 10 (by decide)).trans h10)
    have ec : ∀ v, b.eval (.const v) = v := fun _ => rfl
    refine ⟨_, by simp only [List.getElem?_toArray, List.getElem?_cons_succ, List.getElem?_cons_zero]; rfl, .inl ⟨(wanted_none rfl), ?_⟩⟩
    obtain ⟨ρ, hρ⟩ : ∃ ρ, b.eval = ρ := ⟨_, rfl⟩
    rw [hρ] at e0 ec ⊢
    unfold execOp; simp [go_sem, e0, ec]
  · refine ⟨⟨157, rfl⟩, .inl rfl, fun b p s g hs hlow hS h => ?_⟩
    have e0 := (show b.eval (.tmp 155) = .slice (some ⟨lb, 0, none⟩) n lc from h.rd 13 _ _ 155 (by kernel_rfl) rfl rfl)
    have e1 := (show b.eval (.tmp 156) = .int .i64 (at_ : Int) from h.rd 14 _ _ 156 (by kernel_rfl) rfl rfl)
    have ec : ∀ v, b.eval (.const v) = v := fun _ => rfl
    refine ⟨_, by simp only [List.getElem?_toArray, List.getElem?_cons_succ, List.getElem?_cons_zero]; rfl, .inl ⟨(wanted_none rfl), ?_⟩⟩
    obtain ⟨ρ, hρ⟩ : ∃ ρ, b.eval = ρ := ⟨_, rfl⟩
    rw [hρ] at e0 e1 ec ⊢
    unfold execOp; simp [go_sem, e0, e1, ec, show (at_ : Int) < n by omega, show at_ < n by omega]
  · refine ⟨⟨158, rfl⟩, .inl rfl, fun b p s g hs hlow hS h => ?_⟩
    have e0 := (show b.eval (.tmp 157) = .pointer (some ⟨lb, at_, none⟩) from h.rd 15 _ _ 157 (by kernel_rfl) rfl rfl)
    obtain ⟨hf, m0, m1⟩ := hS
    have c0 := (show p.cell? ⟨lb, at_, none⟩ = some (.slice (some ⟨pg, 0, none⟩) pn pc) from (cell_keep hf (by simpa using hlg) hp))
    have ec : ∀ v, b.eval (.const v) = v := fun _ => rfl
    refine ⟨_, by simp only [List.getElem?_toArray, List.getElem?_cons_succ, List.getElem?_cons_zero]; rfl, .inl ⟨(wanted_none rfl), ?_⟩⟩
    obtain ⟨ρ, hρ⟩ : ∃ ρ, b.eval = ρ := ⟨_, rfl⟩
    rw [hρ] at e0 ec ⊢
    unfold execOp; simp [go_sem, e0, ec, c0]
  · refine ⟨⟨159, rfl⟩, .inl rfl, fun b p s g hs hlow hS h => ?_⟩
    have e0 := (show b.eval (.tmp 17) = .int .i64 (j : Int) from (h.old 17 (by decide)).trans h17)
    have ec : ∀ v, b.eval (.const v) = v := fun _ => rfl
    refine ⟨_, by simp only [List.getElem?_toArray, List.getElem?_cons_succ, List.getElem?_cons_zero]; rfl, .inl ⟨(wanted_none rfl), ?_⟩⟩
    obtain ⟨ρ, hρ⟩ : ∃ ρ, b.eval = ρ := ⟨_, rfl⟩
    rw [hρ] at e0 ec ⊢
    unfold execOp; simp [go_sem, e0, ec]
  · refine ⟨⟨160, rfl⟩, .inl rfl, fun b p s g hs hlow hS h => ?_⟩
    have e0 := (show b.eval (.tmp 158) = .slice (some ⟨pg, 0, none⟩) pn pc from h.rd 16 _ _ 158 (by kernel_rfl) rfl rfl)
    have e1 := (show b.eval (.tmp 159) = .int .i64 (j : Int) from h.rd 17 _ _ 159 (by kernel_rfl) rfl rfl)
    have ec : ∀ v, b.eval (.const v) = v := fun _ => rfl
    refine ⟨_, by simp only [List.getElem?_toArray, List.getElem?_cons_succ, List.getElem?_cons_zero]; rfl, .inl ⟨(wanted_none rfl), ?_⟩⟩
    obtain ⟨ρ, hρ⟩ : ∃ ρ, b.eval = ρ := ⟨_, rfl⟩
    rw [hρ] at e0 e1 ec ⊢
    unfold execOp; simp [go_sem, e0, e1, ec, show (j : Int) < pn by omega, show j < pn by omega]
  · refine ⟨⟨161, rfl⟩, .inl rfl, fun b p s g hs hlow hS h => ?_⟩
    have e0 := (show b.eval (.tmp 160) = .pointer (some ⟨pg, j, none⟩) from h.rd 18 _ _ 160 (by kernel_rfl) rfl rfl)
    obtain ⟨hf, m0, m1⟩ := hS
    have c0 := (show p.cell? ⟨pg, j, none⟩ = some (.int .u8 ((y).toNat : Int)) from (cell_keep hf (by simpa using hpg) hy))
    have ec : ∀ v, b.eval (.const v) = v := fun _ => rfl
    refine ⟨_, by simp only [List.getElem?_toArray, List.getElem?_cons_succ, List.getElem?_cons_zero]; rfl, .inl ⟨(wanted_none rfl), ?_⟩⟩
    obtain ⟨ρ, hρ⟩ : ∃ ρ, b.eval = ρ := ⟨_, rfl⟩
    rw [hρ] at e0 ec ⊢
    unfold execOp; simp [go_sem, e0, ec, c0]
  · refine ⟨rfl, .inl rfl, fun b p g hS h => ?_⟩
    have e0 := (show b.eval (.tmp 154) = .int .u8 ((f).toNat : Int) from h.rd 12 _ _ 154 (by kernel_rfl) rfl rfl)
    have e1 := (show b.eval (.tmp 161) = .int .u8 ((y).toNat : Int) from h.rd 19 _ _ 161 (by kernel_rfl) rfl rfl)
    obtain ⟨hf, m0, m1⟩ := hS
    refine opV_func _ (by simp only [List.getElem?_toArray, List.getElem?_cons_succ, List.getElem?_cons_zero]; rfl) (wanted_none rfl) 57 _ _ rfl #[.int .u8 ((f).toNat : Int), .int .u8 ((y).toNat : Int)] (by simp only [List.map_toArray, List.map_cons, List.map_nil, e0, e1]) (by simp [go_sem]) ((rmul_any p f y).mono ?_)
    rintro e p' ⟨rfl, hf'⟩
    exact ⟨_, rfl, ⟨hf.trans (hf').weak, fun _ => OwnB.keep (m0 (by decide)) hf' (by simp), fun hk => absurd hk (by decide)⟩, .inr rfl⟩
  · refine ⟨⟨163, rfl⟩, .inl rfl, fun b p s g hs hlow hS h => ?_⟩
    have e0 := (show b.eval (.tmp 153) = .int .u8 ((cf row j).toNat : Int) from h.rd 11 _ _ 153 (by kernel_rfl) rfl rfl)
    have e1 := (show b.eval (.tmp 162) = .int .u8 ((gmul f y).toNat : Int) from h.st 20 _ 162 (by kernel_rfl) rfl rfl)
    have ec : ∀ v, b.eval (.const v) = v := fun _ => rfl
    refine ⟨_, by simp only [List.getElem?_toArray, List.getElem?_cons_succ, List.getElem?_cons_zero]; rfl, .inl ⟨(wanted_none rfl), ?_⟩⟩
    obtain ⟨ρ, hρ⟩ : ∃ ρ, b.eval = ρ := ⟨_, rfl⟩
    rw [hρ] at e0 e1 ec ⊢
    unfold execOp; simp [go_sem, e0, e1, ec, u8_xor_u]
  · refine ⟨⟨164, rfl⟩, .inl rfl, fun b p s g hs hlow hS h => ?_⟩
    have e0 := (show b.eval (.tmp 145) = .slice (some ⟨gb, 0, none⟩) rn rc from h.rd 3 _ _ 145 (by kernel_rfl) rfl rfl)
    have e1 := (show b.eval (.tmp 146) = .int .i64 (j : Int) from h.rd 4 _ _ 146 (by kernel_rfl) rfl rfl)
    have ec : ∀ v, b.eval (.const v) = v := fun _ => rfl
    refine ⟨_, by simp only [List.getElem?_toArray, List.getElem?_cons_succ, List.getElem?_cons_zero]; rfl, .inl ⟨(wanted_none rfl), ?_⟩⟩
    obtain ⟨ρ, hρ⟩ : ∃ ρ, b.eval = ρ := ⟨_, rfl⟩
    rw [hρ] at e0 e1 ec ⊢
    unfold execOp; simp [go_sem, e0, e1, ec, show (j : Int) < rn by omega, show j < rn by omega]
  · refine ⟨rfl, .inr ⟨20, rfl, by kernel_rfl⟩, fun b p g hS h => ?_⟩
    have e0 := (show b.eval (.tmp 164) = .pointer (some ⟨gb, j, none⟩) from h.rd 22 _ _ 164 (by kernel_rfl) rfl rfl)
    have e1 := (show b.eval (.tmp 163) = .int .u8 ((cf row j ^^^ gmul f y).toNat : Int) from h.rd 21 _ _ 163 (by kernel_rfl) rfl rfl)
    obtain ⟨hf, m0, m1⟩ := hS
    have hp := m0 (by decide)
    refine opV_mono (K := fun _ p => Fr [gb] w p ∧ OwnB 5 B p (.slice (some ⟨gb, 0, none⟩) rn rc) (row.set j (cf row j ^^^ gmul f y))) (fun v p hv => ⟨⟨hv.1, fun hk => absurd hk (by decide), fun _ => hv.2⟩, .inl rfl⟩) ?_
    obtain ⟨cur, k1, k2, -, k4⟩ := own_blk hp
    refine opV_of_wpl (K := fun _ p => Fr [gb] w p ∧ OwnB 5 B p (.slice (some ⟨gb, 0, none⟩) rn rc) (row.set j (cf row j ^^^ gmul f y))) _ (by simp only [List.getElem?_toArray, List.getElem?_cons_succ, List.getElem?_cons_zero]; rfl) ?_
    refine wpl_store_one (.tmp 164) (.tmp 163) rfl rfl (.int .u8 ((cf row j ^^^ gmul f y).toNat : Int)) e0 e1 k1 (by have := k2; omega) (by kernel_rfl) rfl ?_
    intro p1 f1 a1 _
    exact ⟨rfl, rfl, hf.trans f1, k4 p1 (j) _ a1⟩
  · intro b p h1 h2 h3 h4 h5
    obtain ⟨g, h4, h6⟩ := h4
    obtain ⟨hf, m0, m1⟩ := h4
    exact hQ b p h1 (h2.trans hsz) (fun s hs => h3 s (fun hm => hs (by simpa using hm))) hf (m1 (by decide))
end Go.Proofs.YtmohiblgfmdkjaaGreatDoor
namespace Go.Proofs.YtmohiblgfmdkjaaGreatDoor
open Go.RowKit Go.Bl
set_option linter.unusedVariables false

theorem own_keepT {e te : TypeId} {base base' : Nat} {w w' : World} {v o : Value} {xs : List UInt8} {us : List Value} (h : OwnB e base w v xs) (ho : OwnV te base' w o us) (hne : te ≠ e) (hg : w.grownBy w' o.ownBlock) : OwnB e base w' v xs := by
  refine own_keep (S := o.ownBlock.toList) h (Fr.grown hg (by intro k hk; simp [hk])) ?_
  intro g hg2 hg3
  rcases h.2 with ⟨rfl, -⟩ | ⟨g', cap, cur, rfl, hbg, hh, -⟩
  · simp [Value.ownBlock] at hg2
  · simp only [Value.ownBlock, Option.some.injEq] at hg2
    subst hg2
    exact own_neT ho hh (Ne.symm hne) (by simpa using hg3)
def slW (g W c : Nat) : Value := .slice (some ⟨g, 0, none⟩) W c
/-- a matrix in memory: a row of rows, each of W bytes in a block of its own -/
structure Mat (B : Nat) (w : World) (lb n lc W : Nat) (us : List Value) (m : List (List UInt8)) : Prop where
  list : OwnV 22 B w (slW lb n lc) us
  ln : us.length = n
  lm : m.length = n
  rows : ∀ i, i < n → ∃ g c, us[i]? = some (slW g W c) ∧ OwnB 5 B w (slW g W c) (rw_ m i) ∧ (rw_ m i).length = W
  apart : ∀ (i k g c g' c' : Nat), us[i]? = some (slW g W c) → us[k]? = some (slW g' W c') → i ≠ k → g ≠ g'
theorem Mat.row {B : Nat} {w : World} {lb n lc W : Nat} {us : List Value} {m : List (List UInt8)} (h : Mat B w lb n lc W us m) (hW : 0 < W) (i : Nat) (hi : i < n) :
    ∃ g c, us[i]? = some (slW g W c) ∧ w.cell? ⟨lb, i, none⟩ = some (slW g W c) ∧ OwnB 5 B w (slW g W c) (rw_ m i) ∧ (rw_ m i).length = W ∧ lb ≠ g ∧ B ≤ g ∧ g < w.heap.size ∧ W ≤ c ∧ c ≤ 2 ^ 63 - 1 := by
  obtain ⟨g, c, h1, h2, h3⟩ := h.rows i hi
  obtain ⟨cur, k1, -, -, -⟩ := own_blkV h.list
  obtain ⟨cur2, k2, -, -, -⟩ := own_blk h2
  refine ⟨g, c, h1, own_cellV h.list h1, h2, h3, ?_, ?_, k2.lt, ?_⟩
  · rintro rfl
    have := k1.symm.trans k2
    simp at this
  · exact (h2.lt g (by simp [slW, Value.ownBlock])).1
  · obtain ⟨a, c', e, e1, e2, -⟩ := h2.bs (A := fun _ => False) (by simp)
    unfold slW at e
    cases e
    unfold maxLen at e2
    omega
theorem Mat.keep0 {B : Nat} {w w' : World} {lb n lc W : Nat} {us : List Value} {m : List (List UInt8)} (h : Mat B w lb n lc W us m) (hf : Fr [] w w') : Mat B w' lb n lc W us m :=
  ⟨h.list.keep0 hf, h.ln, h.lm, fun i hi => by obtain ⟨g, c, h1, h2, h3⟩ := h.rows i hi; exact ⟨g, c, h1, h2.keep hf (by simp), h3⟩, h.apart⟩
theorem own_keep1 {e : TypeId} {base : Nat} {w w' : World} {g W c : Nat} {xs : List UInt8} {b : Nat} (h : OwnB e base w (slW g W c) xs) (hf : Fr [b] w w') (hne : g ≠ b) : OwnB e base w' (slW g W c) xs := by
  refine own_keep h hf ?_
  intro k hk
  simp only [slW, Value.ownBlock, Option.some.injEq] at hk
  subst hk
  simpa using hne
/-- a row is turned -/
theorem Mat.set {B : Nat} {w w' : World} {lb n lc W : Nat} {us : List Value} {m : List (List UInt8)} (h : Mat B w lb n lc W us m) (hW : 0 < W) {i g c : Nat} {r : List UInt8} (hi : i < n) (hu : us[i]? = some (slW g W c)) (hf : Fr [g] w w') (ho : OwnB 5 B w' (slW g W c) r) (hr : r.length = W) : Mat B w' lb n lc W us (m.set i r) := by
  obtain ⟨g', c', h1, -, -, -, h4, -⟩ := h.row hW i hi
  rw [hu] at h1
  unfold slW at h1
  cases h1
  refine ⟨own_keep h.list hf ?_, h.ln, by rw [List.length_set, h.lm], fun k hk => ?_, h.apart⟩
  · intro k hk
    simp only [slW, Value.ownBlock, Option.some.injEq] at hk
    subst hk
    simpa using h4
  · rw [rw_set _ _ _ _ (by rw [h.lm]; exact hi)]
    by_cases hki : k = i
    · subst hki
      rw [if_pos rfl]
      exact ⟨g, c, hu, ho, hr⟩
    · rw [if_neg hki]
      obtain ⟨g', c', k1, k2, k3⟩ := h.rows k hk
      exact ⟨g', c', k1, own_keep1 k2 hf (h.apart k i g' c' g c k1 hu hki), k3⟩
/-- two rows change places -/
theorem Mat.swap {B : Nat} {w w' : World} {lb n lc W : Nat} {us : List Value} {m : List (List UInt8)} (h : Mat B w lb n lc W us m) (hW : 0 < W) {i k : Nat} {ui uk : Value} (hi : i < n) (hk : k < n) (hui : us[i]? = some ui) (huk : us[k]? = some uk) (hf : Fr [lb] w w')
    (ho : OwnV 22 B w' (slW lb n lc) ((us.set i uk).set k ui)) : Mat B w' lb n lc W ((us.set i uk).set k ui) (swapR m i k) := by
  have hget : ∀ j, ((us.set i uk).set k ui)[j]? = if j = k then some ui else if j = i then some uk else us[j]? := fun j => by
    rw [List.getElem?_set, List.getElem?_set]
    have := h.ln
    by_cases h1 : k = j
    · subst h1; simp [this, hk]
    · rw [if_neg h1, if_neg (Ne.symm h1)]
      by_cases h2 : i = j
      · subst h2; simp [this, hi]
      · rw [if_neg h2, if_neg (Ne.symm h2)]
  -- where the row at place j stood
  have hsrc : ∀ j, j < n → ∃ s, s < n ∧ ((us.set i uk).set k ui)[j]? = us[s]? ∧ rw_ (swapR m i k) j = rw_ m s ∧ (s = if j = k then i else if j = i then k else j) := fun j hj => by
    rw [hget, swapR_rw m i k (by rw [h.lm]; exact hi) (by rw [h.lm]; exact hk)]
    by_cases h1 : j = k
    · rw [if_pos h1, if_pos h1]; exact ⟨i, hi, hui.symm, rfl, by rw [if_pos h1]⟩
    · rw [if_neg h1, if_neg h1]
      by_cases h2 : j = i
      · rw [if_pos h2, if_pos h2]; exact ⟨k, hk, huk.symm, rfl, by rw [if_neg h1, if_pos h2]⟩
      · rw [if_neg h2, if_neg h2]; exact ⟨j, hj, rfl, rfl, by rw [if_neg h1, if_neg h2]⟩
  refine ⟨ho, by simp [h.ln], by rw [swapR_len, h.lm], fun j hj => ?_, fun a b g c g' c' ha hb hne => ?_⟩
  · obtain ⟨s, hs, e1, e2, -⟩ := hsrc j hj
    obtain ⟨g, c, k1, -, k2, k3, k4, -⟩ := h.row hW s hs
    exact ⟨g, c, by rw [e1, k1], by rw [e2]; exact own_keep1 k2 hf (Ne.symm k4), by rw [e2]; exact k3⟩
  · have hla : a < n := by have := (List.getElem?_eq_some_iff.1 ha).1; simp [h.ln] at this; exact this
    have hlb : b < n := by have := (List.getElem?_eq_some_iff.1 hb).1; simp [h.ln] at this; exact this
    obtain ⟨s, hs, e1, -, e3⟩ := hsrc a hla
    obtain ⟨t, ht, f1, -, f3⟩ := hsrc b hlb
    rw [e1] at ha
    rw [f1] at hb
    refine h.apart s t g c g' c' ha hb ?_
    rw [e3, f3]
    intro e
    (repeat' split at e) <;> omega
/-- one row more -/
theorem Mat.snoc {B : Nat} {w w1 w2 : World} {lb k lc W g c : Nat} {us : List Value} {m : List (List UInt8)} {r : List UInt8} {v' : Value} (h : Mat B w lb k lc W us m) (hW : 0 < W) (hf : Fr [] w w1) (hg : w.heap.size ≤ g) (ho : OwnB 5 B w1 (slW g W c) r) (hr : r.length = W)
    (hv : OwnV 22 B w2 v' (us ++ [slW g W c])) (hgr : w1.grownBy w2 (slW lb k lc).ownBlock) : ∃ lb' lc', v' = slW lb' (k + 1) lc' ∧ Mat B w2 lb' (k + 1) lc' W (us ++ [slW g W c]) (m ++ [r]) := by
  have hl1 : OwnV 22 B w1 (slW lb k lc) us := h.list.keep0 hf
  have hl := h.ln
  obtain ⟨lb', lc', rfl⟩ : ∃ lb' lc', v' = slW lb' (k + 1) lc' := by
    rcases hv.2 with ⟨-, h2⟩ | ⟨g', cap, cur, rfl, -⟩
    · simp at h2
    · exact ⟨g', cap, by unfold slW; rw [List.length_append, hl]; rfl⟩
  refine ⟨lb', lc', rfl, hv, by simp [hl], by simp [h.lm], fun i hi => ?_, fun a b ga ca gb cb ha hb hne => ?_⟩
  · rcases Nat.lt_or_ge i k with hik | hik
    · obtain ⟨g1, c1, k1, k2, k3⟩ := h.rows i hik
      refine ⟨g1, c1, by rw [List.getElem?_append_left (by omega)]; exact k1, ?_, ?_⟩
      · have e : rw_ (m ++ [r]) i = rw_ m i := by
          unfold rw_
          rw [List.getD_eq_getElem?_getD, List.getElem?_append_left (by rw [h.lm]; exact hik)]; rfl
        rw [e]
        exact own_keepT (k2.keep hf (by simp)) hl1 (by decide) hgr
      · have e : rw_ (m ++ [r]) i = rw_ m i := by
          unfold rw_
          rw [List.getD_eq_getElem?_getD, List.getElem?_append_left (by rw [h.lm]; exact hik)]; rfl
        rw [e]; exact k3
    · obtain rfl : i = k := by omega
      have e : rw_ (m ++ [r]) i = r := by
        unfold rw_
        rw [List.getD_eq_getElem?_getD, List.getElem?_append_right (by rw [h.lm]; exact Nat.le_refl _), h.lm, Nat.sub_self]; rfl
      refine ⟨g, c, by rw [List.getElem?_append_right (by omega), hl, Nat.sub_self]; rfl, ?_, by rw [e]; exact hr⟩
      rw [e]
      exact own_keepT ho hl1 (by decide) hgr
  · have hold : ∀ j gj cj, (us ++ [slW g W c])[j]? = some (slW gj W cj) → (j < k ∧ us[j]? = some (slW gj W cj) ∧ gj < w.heap.size) ∨ (j = k ∧ gj = g) := fun j gj cj hj => by
      rcases Nat.lt_or_ge j k with hjk | hjk
      · rw [List.getElem?_append_left (by omega)] at hj
        refine .inl ⟨hjk, hj, ?_⟩
        obtain ⟨g1, c1, k1, -, -, -, -, -, k2, -⟩ := h.row hW j hjk
        rw [hj] at k1
        unfold slW at k1
        cases k1
        exact k2
      · rw [List.getElem?_append_right (by omega)] at hj
        have h0 : j - us.length = 0 := by have := (List.getElem?_eq_some_iff.1 hj).1; simp at this; omega
        rw [h0] at hj
        simp only [List.getElem?_cons_zero, Option.some.injEq] at hj
        unfold slW at hj
        cases hj
        exact .inr ⟨by omega, rfl⟩
    rcases hold a ga ca ha with ⟨a1, a2, a3⟩ | ⟨a1, a2⟩ <;> rcases hold b gb cb hb with ⟨b1, b2, b3⟩ | ⟨b1, b2⟩
    · exact h.apart a b ga ca gb cb a2 b2 hne
    · omega
    · omega
    · omega
/-- a row of integers grows beside it -/
theorem Mat.grownI {B : Nat} {w w' : World} {lb n lc W : Nat} {us : List Value} {m : List (List UInt8)} (h : Mat B w lb n lc W us m) {base : Nat} {v : Value} {xs : List Int} (ho : OwnI 3 base w v xs) (hg : w.grownBy w' v.ownBlock) : Mat B w' lb n lc W us m := by
  have hf : Fr v.ownBlock.toList w w' := Fr.grown hg (by intro k hk; simp [hk])
  refine ⟨own_keep h.list hf ?_, h.ln, h.lm, fun i hi => ?_, h.apart⟩
  · intro g hg1 hg2
    simp only [slW, Value.ownBlock, Option.some.injEq] at hg1
    subst hg1
    obtain ⟨cur, k1, -, -, -⟩ := own_blkV h.list
    exact own_neT ho k1 (by decide) (by simpa using hg2)
  · obtain ⟨g, c, k1, k2, k3⟩ := h.rows i hi
    refine ⟨g, c, k1, own_keep k2 hf ?_, k3⟩
    intro g' hg1 hg2
    simp only [slW, Value.ownBlock, Option.some.injEq] at hg1
    subst hg1
    obtain ⟨cur, q1, -, -, -⟩ := own_blk k2
    exact own_neT ho q1 (by decide) (by simpa using hg2)
end Go.Proofs.YtmohiblgfmdkjaaGreatDoor
