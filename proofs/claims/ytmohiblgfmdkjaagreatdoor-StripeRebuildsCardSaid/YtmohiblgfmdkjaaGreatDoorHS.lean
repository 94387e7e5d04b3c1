import Derived.Test.YtmohiblgfmdkjaaGreatDoorGB
import Derived.Test.YtmohiblgfmdkjaaGreatDoorRmu
import Derived.Test.YtmohiblgfmdkjaaGreatDoorHW
import Derived.Test.YtmohiblgfmdkjaaGreatDoorGD
import Derived.Test.YtmohiblgfmdkjaaGreatDoorGF
import Derived.Test.YtmohiblgfmdkjaaGreatDoorHY
import Derived.Test.YtmohiblgfmdkjaaGreatDoorHG
import Derived.Test.YtmohiblgfmdkjaaGreatDoorHR
import Derived.Test.YtmohiblgfmdkjaaGreatDoorJM
namespace Go.Proofs.YtmohiblgfmdkjaaGreatDoor
open Go.RowKit Go.Bl
set_option linter.unusedVariables false
noncomputable def sol_swapR : Code := ((Tryz.f60.body.bind (findRegionC 16)).getD .skip)
set_option maxRecDepth 1000000 in
set_option maxHeartbeats 8000000 in
theorem sol_swap (w : World) (a : Go.Act) (hsz : a.tmps.size = 209) (lb n lc at_ k B : Nat) (us : List Value) (ua uk : Value) (hus : OwnV 22 B w (.slice (some ⟨lb, 0, none⟩) n lc) us) (hul : us.length = n) (hkn : k < n) (han : at_ < n) (hk : us[k]? = some uk) (ha : us[at_]? = some ua) (o1 : uk.oneCell' = true) (o2 : ua.oneCell' = true) (h6 : slot a 6 = .slice (some ⟨lb, 0, none⟩) n lc) (h10 : slot a 10 = .int .i64 (at_ : Int)) (h12 : slot a 12 = .int .i64 (k : Int)) (Q : Exit → Go.Act → World → Prop)
    (hQ : ∀ (b : Go.Act) (p : World), b.defers = a.defers → b.tmps.size = 209 → (∀ s, s ∉ ([69, 70, 71, 72, 73, 74, 75, 76, 77, 78, 79, 80, 81, 82] : List Nat) → slot b s = slot a s) → Fr [lb] w p → OwnV 22 B p (.slice (some ⟨lb, 0, none⟩) n lc) ((us.set at_ uk).set k ua) → Q .normal b p) : Code.wp Tryz.prog sol_swapR Q a w := by
  conv => arg 2; whnf
  refine wp_region_ghost (by kernel_rfl) (by kernel_rfl) [some 69, some 70, some 71, some 72, some 73, some 74, some 75, some 76, some 77, some 78, some 79, some 80, some 81, none, some 82, none] [13, 15] [.rd (.slice (some ⟨lb, 0, none⟩) n lc) 2, .rd (.int .i64 (at_ : Int)) 2, .rd (.slice (some ⟨lb, 0, none⟩) n lc) 2, .rd (.int .i64 (k : Int)) 2, .rd (.slice (some ⟨lb, 0, none⟩) n lc) 2, .rd (.int .i64 (k : Int)) 2, .rd (.pointer (some ⟨lb, k, none⟩)) 2, .rd (uk) 0, .rd (.slice (some ⟨lb, 0, none⟩) n lc) 2, .rd (.int .i64 (at_ : Int)) 2, .rd (.pointer (some ⟨lb, at_, none⟩)) 2, .rd (ua) 0, .rd (.pointer (some ⟨lb, at_, none⟩)) 2, .st 0, .rd (.pointer (some ⟨lb, k, none⟩)) 2, .st 1] (fun cj => undef) (fun s g p => Fr [lb] w p ∧ (s ≤ 0 → OwnV 22 B p (.slice (some ⟨lb, 0, none⟩) n lc) us) ∧ (0 < s → s ≤ 1 → OwnV 22 B p (.slice (some ⟨lb, 0, none⟩) n lc) (us.set at_ uk)) ∧ (1 < s → OwnV 22 B p (.slice (some ⟨lb, 0, none⟩) n lc) ((us.set at_ uk).set k ua))) (by kernel_rfl) (by rfl) (by rw [hsz]; rfl) (by kernel_rfl) (by kernel_rfl) (by decide) ?_ ⟨?_, ?_, ?_, ?_, ?_, ?_, ?_, ?_, ?_, ?_, ?_, ?_, ?_, ?_, ?_, ?_, trivial⟩ ?_
  · intro w1 hw1
    exact ⟨fun _ => undef, ⟨(hw1).weak, fun _ => OwnV.keep hus hw1 (by simp), fun hk _ => absurd hk (by decide), fun hk => absurd hk (by decide)⟩⟩
  · refine ⟨⟨69, rfl⟩, .inl rfl, fun b p s g hs hlow hS h => ?_⟩
    have e0 := (show b.eval (.tmp 6) = .slice (some ⟨lb, 0, none⟩) n lc from (h.old 6 (by decide)).trans h6)
    have ec : ∀ v, b.eval (.const v) = v := fun _ => rfl
    refine ⟨_, by simp only [List.getElem?_toArray, List.getElem?_cons_succ, List.getElem?_cons_zero]; rfl, .inl ⟨(wanted_none rfl), ?_⟩⟩
    obtain ⟨ρ, hρ⟩ : ∃ ρ, b.eval = ρ := ⟨_, rfl⟩
    rw [hρ] at e0 ec ⊢
    unfold execOp; simp [go_sem, e0, ec]
  · refine ⟨⟨70, rfl⟩, .inl rfl, fun b p s g hs hlow hS h => ?_⟩
    have e0 := (show b.eval (.tmp 10) = .int .i64 (at_ : Int) from (h.old 10 (by decide)).trans h10)
    have ec : ∀ v, b.eval (.const v) = v := fun _ => rfl
    refine ⟨_, by simp only [List.getElem?_toArray, List.getElem?_cons_succ, List.getElem?_cons_zero]; rfl, .inl ⟨(wanted_none rfl), ?_⟩⟩
    obtain ⟨ρ, hρ⟩ : ∃ ρ, b.eval = ρ := ⟨_, rfl⟩
    rw [hρ] at e0 ec ⊢
    unfold execOp; simp [go_sem, e0, ec]
  · refine ⟨⟨71, rfl⟩, .inl rfl, fun b p s g hs hlow hS h => ?_⟩
    have e0 := (show b.eval (.tmp 6) = .slice (some ⟨lb, 0, none⟩) n lc from (h.old 6 (by decide)).trans h6)
    have ec : ∀ v, b.eval (.const v) = v := fun _ => rfl
    refine ⟨_, by simp only [List.getElem?_toArray, List.getElem?_cons_succ, List.getElem?_cons_zero]; rfl, .inl ⟨(wanted_none rfl), ?_⟩⟩
    obtain ⟨ρ, hρ⟩ : ∃ ρ, b.eval = ρ := ⟨_, rfl⟩
    rw [hρ] at e0 ec ⊢
    unfold execOp; simp [go_sem, e0, ec]
  · refine ⟨⟨72, rfl⟩, .inl rfl, fun b p s g hs hlow hS h => ?_⟩
    have e0 := (show b.eval (.tmp 12) = .int .i64 (k : Int) from (h.old 12 (by decide)).trans h12)
    have ec : ∀ v, b.eval (.const v) = v := fun _ => rfl
    refine ⟨_, by simp only [List.getElem?_toArray, List.getElem?_cons_succ, List.getElem?_cons_zero]; rfl, .inl ⟨(wanted_none rfl), ?_⟩⟩
    obtain ⟨ρ, hρ⟩ : ∃ ρ, b.eval = ρ := ⟨_, rfl⟩
    rw [hρ] at e0 ec ⊢
    unfold execOp; simp [go_sem, e0, ec]
  · refine ⟨⟨73, rfl⟩, .inl rfl, fun b p s g hs hlow hS h => ?_⟩
    have e0 := (show b.eval (.tmp 6) = .slice (some ⟨lb, 0, none⟩) n lc from (h.old 6 (by decide)).trans h6)
    have ec : ∀ v, b.eval (.const v) = v := fun _ => rfl
    refine ⟨_, by simp only [List.getElem?_toArray, List.getElem?_cons_succ, List.getElem?_cons_zero]; rfl, .inl ⟨(wanted_none rfl), ?_⟩⟩
    obtain ⟨ρ, hρ⟩ : ∃ ρ, b.eval = ρ := ⟨_, rfl⟩
    rw [hρ] at e0 ec ⊢
    unfold execOp; simp [go_sem, e0, ec]
  · refine ⟨⟨74, rfl⟩, .inl rfl, fun b p s g hs hlow hS h => ?_⟩
    have e0 := (show b.eval (.tmp 12) = .int .i64 (k : Int) from (h.old 12 (by decide)).trans h12)
    have ec : ∀ v, b.eval (.const v) = v := fun _ => rfl
    refine ⟨_, by simp only [List.getElem?_toArray, List.getElem?_cons_succ, List.getElem?_cons_zero]; rfl, .inl ⟨(wanted_none rfl), ?_⟩⟩
    obtain ⟨ρ, hρ⟩ : ∃ ρ, b.eval = ρ := ⟨_, rfl⟩
    rw [hρ] at e0 ec ⊢
    unfold execOp; simp [go_sem, e0, ec]
  · refine ⟨⟨75, rfl⟩, .inl rfl, fun b p s g hs hlow hS h => ?_⟩
    have e0 := (show b.eval (.tmp 73) = .slice (some ⟨lb, 0, none⟩) n lc from h.rd 4 _ _ 73 (by kernel_rfl) rfl rfl)
    have e1 := (show b.eval (.tmp 74) = .int .i64 (k : Int) from h.rd 5 _ _ 74 (by kernel_rfl) rfl rfl)
    have ec : ∀ v, b.eval (.const v) = v := fun _ => rfl
    refine ⟨_, by simp only [List.getElem?_toArray, List.getElem?_cons_succ, List.getElem?_cons_zero]; rfl, .inl ⟨(wanted_none rfl), ?_⟩⟩
    obtain ⟨ρ, hρ⟩ : ∃ ρ, b.eval = ρ := ⟨_, rfl⟩
    rw [hρ] at e0 e1 ec ⊢
    unfold execOp; simp [go_sem, e0, e1, ec, show (k : Int) < n by omega, show k < n by omega]
  · refine ⟨⟨76, rfl⟩, .inr ⟨13, rfl, by kernel_rfl⟩, fun b p s g hs hlow hS h => ?_⟩
    have e0 := (show b.eval (.tmp 75) = .pointer (some ⟨lb, k, none⟩) from h.rd 6 _ _ 75 (by kernel_rfl) rfl rfl)
    obtain ⟨hf, m0, m1, m2⟩ := hS
    have c0 := (show p.cell? ⟨lb, k, none⟩ = some (uk) from (own_cellV (m0 hs) hk))
    have ec : ∀ v, b.eval (.const v) = v := fun _ => rfl
    refine ⟨_, by simp only [List.getElem?_toArray, List.getElem?_cons_succ, List.getElem?_cons_zero]; rfl, .inl ⟨(wanted_none rfl), ?_⟩⟩
    obtain ⟨ρ, hρ⟩ : ∃ ρ, b.eval = ρ := ⟨_, rfl⟩
    rw [hρ] at e0 ec ⊢
    unfold execOp; simp [go_sem, e0, ec, c0]
  · refine ⟨⟨77, rfl⟩, .inl rfl, fun b p s g hs hlow hS h => ?_⟩
    have e0 := (show b.eval (.tmp 6) = .slice (some ⟨lb, 0, none⟩) n lc from (h.old 6 (by decide)).trans h6)
    have ec : ∀ v, b.eval (.const v) = v := fun _ => rfl
    refine ⟨_, by simp only [List.getElem?_toArray, List.getElem?_cons_succ, List.getElem?_cons_zero]; rfl, .inl ⟨(wanted_none rfl), ?_⟩⟩
    obtain ⟨ρ, hρ⟩ : ∃ ρ, b.eval = ρ := ⟨_, rfl⟩
    rw [hρ] at e0 ec ⊢
    unfold execOp; simp [go_sem, e0, ec]
  · refine ⟨⟨78, rfl⟩, .inl rfl, fun b p s g hs hlow hS h => ?_⟩
    have e0 := (show b.eval (.tmp 10) = .int .i64 (at_ : Int) from (h.old 10 (by decide)).trans h10)
    have ec : ∀ v, b.eval (.const v) = v := fun _ => rfl
    refine ⟨_, by simp only [List.getElem?_toArray, List.getElem?_cons_succ, List.getElem?_cons_zero]; rfl, .inl ⟨(wanted_none rfl), ?_⟩⟩
    obtain ⟨ρ, hρ⟩ : ∃ ρ, b.eval = ρ := ⟨_, rfl⟩
    rw [hρ] at e0 ec ⊢
    unfold execOp; simp [go_sem, e0, ec]
  · refine ⟨⟨79, rfl⟩, .inl rfl, fun b p s g hs hlow hS h => ?_⟩
    have e0 := (show b.eval (.tmp 77) = .slice (some ⟨lb, 0, none⟩) n lc from h.rd 8 _ _ 77 (by kernel_rfl) rfl rfl)
    have e1 := (show b.eval (.tmp 78) = .int .i64 (at_ : Int) from h.rd 9 _ _ 78 (by kernel_rfl) rfl rfl)
    have ec : ∀ v, b.eval (.const v) = v := fun _ => rfl
    refine ⟨_, by simp only [List.getElem?_toArray, List.getElem?_cons_succ, List.getElem?_cons_zero]; rfl, .inl ⟨(wanted_none rfl), ?_⟩⟩
    obtain ⟨ρ, hρ⟩ : ∃ ρ, b.eval = ρ := ⟨_, rfl⟩
    rw [hρ] at e0 e1 ec ⊢
    unfold execOp; simp [go_sem, e0, e1, ec, show (at_ : Int) < n by omega, show at_ < n by omega]
  · refine ⟨⟨80, rfl⟩, .inr ⟨13, rfl, by kernel_rfl⟩, fun b p s g hs hlow hS h => ?_⟩
    have e0 := (show b.eval (.tmp 79) = .pointer (some ⟨lb, at_, none⟩) from h.rd 10 _ _ 79 (by kernel_rfl) rfl rfl)
    obtain ⟨hf, m0, m1, m2⟩ := hS
    have c0 := (show p.cell? ⟨lb, at_, none⟩ = some (ua) from (own_cellV (m0 hs) ha))
    have ec : ∀ v, b.eval (.const v) = v := fun _ => rfl
    refine ⟨_, by simp only [List.getElem?_toArray, List.getElem?_cons_succ, List.getElem?_cons_zero]; rfl, .inl ⟨(wanted_none rfl), ?_⟩⟩
    obtain ⟨ρ, hρ⟩ : ∃ ρ, b.eval = ρ := ⟨_, rfl⟩
    rw [hρ] at e0 ec ⊢
    unfold execOp; simp [go_sem, e0, ec, c0]
  · refine ⟨⟨81, rfl⟩, .inl rfl, fun b p s g hs hlow hS h => ?_⟩
    have e0 := (show b.eval (.tmp 69) = .slice (some ⟨lb, 0, none⟩) n lc from h.rd 0 _ _ 69 (by kernel_rfl) rfl rfl)
    have e1 := (show b.eval (.tmp 70) = .int .i64 (at_ : Int) from h.rd 1 _ _ 70 (by kernel_rfl) rfl rfl)
    have ec : ∀ v, b.eval (.const v) = v := fun _ => rfl
    refine ⟨_, by simp only [List.getElem?_toArray, List.getElem?_cons_succ, List.getElem?_cons_zero]; rfl, .inl ⟨(wanted_none rfl), ?_⟩⟩
    obtain ⟨ρ, hρ⟩ : ∃ ρ, b.eval = ρ := ⟨_, rfl⟩
    rw [hρ] at e0 e1 ec ⊢
    unfold execOp; simp [go_sem, e0, e1, ec, show (at_ : Int) < n by omega, show at_ < n by omega]
  · refine ⟨rfl, .inl rfl, fun b p g hS h => ?_⟩
    have e0 := (show b.eval (.tmp 81) = .pointer (some ⟨lb, at_, none⟩) from h.rd 12 _ _ 81 (by kernel_rfl) rfl rfl)
    have e1 := (show b.eval (.tmp 76) = uk from h.rd 7 _ _ 76 (by kernel_rfl) rfl rfl)
    obtain ⟨hf, m0, m1, m2⟩ := hS
    have hp := m0 (by decide)
    refine opV_mono (K := fun _ p => Fr [lb] w p ∧ OwnV 22 B p (.slice (some ⟨lb, 0, none⟩) n lc) (us.set at_ uk)) (fun v p hv => ⟨⟨hv.1, fun hk => absurd hk (by decide), fun _ _ => hv.2, fun hk => absurd hk (by decide)⟩, .inl rfl⟩) ?_
    obtain ⟨cur, k1, k2, -, k4⟩ := own_blkV hp
    refine opV_of_wpl (K := fun _ p => Fr [lb] w p ∧ OwnV 22 B p (.slice (some ⟨lb, 0, none⟩) n lc) (us.set at_ uk)) _ (by simp only [List.getElem?_toArray, List.getElem?_cons_succ, List.getElem?_cons_zero]; rfl) ?_
    refine wpl_store_one (.tmp 81) (.tmp 76) rfl rfl (uk) e0 e1 k1 (by have := k2; omega) (by kernel_rfl) o1 ?_
    intro p1 f1 a1 _
    exact ⟨rfl, rfl, hf.trans f1, k4 p1 (at_) _ a1⟩
  · refine ⟨⟨82, rfl⟩, .inl rfl, fun b p s g hs hlow hS h => ?_⟩
    have e0 := (show b.eval (.tmp 71) = .slice (some ⟨lb, 0, none⟩) n lc from h.rd 2 _ _ 71 (by kernel_rfl) rfl rfl)
    have e1 := (show b.eval (.tmp 72) = .int .i64 (k : Int) from h.rd 3 _ _ 72 (by kernel_rfl) rfl rfl)
    have ec : ∀ v, b.eval (.const v) = v := fun _ => rfl
    refine ⟨_, by simp only [List.getElem?_toArray, List.getElem?_cons_succ, List.getElem?_cons_zero]; rfl, .inl ⟨(wanted_none rfl), ?_⟩⟩
    obtain ⟨ρ, hρ⟩ : ∃ ρ, b.eval = ρ := ⟨_, rfl⟩
    rw [hρ] at e0 e1 ec ⊢
    unfold execOp; simp [go_sem, e0, e1, ec, show (k : Int) < n by omega, show k < n by omega]
  · refine ⟨rfl, .inr ⟨13, rfl, by kernel_rfl⟩, fun b p g hS h => ?_⟩
    have e0 := (show b.eval (.tmp 82) = .pointer (some ⟨lb, k, none⟩) from h.rd 14 _ _ 82 (by kernel_rfl) rfl rfl)
    have e1 := (show b.eval (.tmp 80) = ua from h.rd 11 _ _ 80 (by kernel_rfl) rfl rfl)
    obtain ⟨hf, m0, m1, m2⟩ := hS
    have hp := m1 (by decide) (by decide)
    refine opV_mono (K := fun _ p => Fr [lb] w p ∧ OwnV 22 B p (.slice (some ⟨lb, 0, none⟩) n lc) ((us.set at_ uk).set k ua)) (fun v p hv => ⟨⟨hv.1, fun hk => absurd hk (by decide), fun _ hk => absurd hk (by decide), fun _ => hv.2⟩, .inl rfl⟩) ?_
    obtain ⟨cur, k1, k2, -, k4⟩ := own_blkV hp
    refine opV_of_wpl (K := fun _ p => Fr [lb] w p ∧ OwnV 22 B p (.slice (some ⟨lb, 0, none⟩) n lc) ((us.set at_ uk).set k ua)) _ (by simp only [List.getElem?_toArray, List.getElem?_cons_succ, List.getElem?_cons_zero]; rfl) ?_
    refine wpl_store_one (.tmp 82) (.tmp 80) rfl rfl (ua) e0 e1 k1 (by have := k2; rw [List.length_set] at this; omega) (by kernel_rfl) o2 ?_
    intro p1 f1 a1 _
    exact ⟨rfl, rfl, hf.trans f1, k4 p1 (k) _ a1⟩
  · intro b p h1 h2 h3 h4 h5
    obtain ⟨g, h4, h6⟩ := h4
    obtain ⟨hf, m0, m1, m2⟩ := h4
    exact hQ b p h1 (h2.trans hsz) (fun s hs => h3 s (fun hm => hs (by simpa using hm))) hf (m2 (by decide))
noncomputable def sol_scaleR : Code := ((Tryz.f60.body.bind (findRegionC 21)).getD .skip)
set_option maxRecDepth 1000000 in
set_option maxHeartbeats 8000000 in
theorem sol_scale (w : World) (a : Go.Act) (hsz : a.tmps.size = 209) (lb n lc at_ gb rn rc j B : Nat) (row : List UInt8) (x0 : UInt8) (hrow : OwnB 5 B w (.slice (some ⟨gb, 0, none⟩) rn rc) row) (hrl : row.length = rn) (han : at_ < n) (hj : j < rn) (hl : w.cell? ⟨lb, at_, none⟩ = some (.slice (some ⟨gb, 0, none⟩) rn rc)) (hlg : lb ≠ gb) (h6 : slot a 6 = .slice (some ⟨lb, 0, none⟩) n lc) (h10 : slot a 10 = .int .i64 (at_ : Int)) (h14 : slot a 14 = .int .i64 (j : Int)) (h13 : slot a 13 = .int .u8 ((x0).toNat : Int)) (Q : Exit → Go.Act → World → Prop)
    (hQ : ∀ (b : Go.Act) (p : World), b.defers = a.defers → b.tmps.size = 209 → (∀ s, s ∉ ([99, 100, 101, 102, 103, 104, 105, 106, 107, 108, 109, 110, 111, 112, 113] : List Nat) → slot b s = slot a s) → Fr [gb] w p → OwnB 5 B p (.slice (some ⟨gb, 0, none⟩) rn rc) (row.set j (gmul (cf row j) x0)) → Q .normal b p) : Code.wp Tryz.prog sol_scaleR Q a w := by
  conv => arg 2; whnf
  refine wp_region_ghost (by kernel_rfl) (by kernel_rfl) [some 99, some 100, some 101, some 102, some 103, some 104, some 105, some 106, some 107, some 108, some 109, some 110, some 111, some 112, some 113, none] [13, 15] [.rd (.slice (some ⟨lb, 0, none⟩) n lc) 2, .rd (.int .i64 (at_ : Int)) 2, .rd (.pointer (some ⟨lb, at_, none⟩)) 2, .rd (.slice (some ⟨gb, 0, none⟩) rn rc) 2, .rd (.int .i64 (j : Int)) 2, .rd (.slice (some ⟨lb, 0, none⟩) n lc) 2, .rd (.int .i64 (at_ : Int)) 2, .rd (.pointer (some ⟨lb, at_, none⟩)) 2, .rd (.slice (some ⟨gb, 0, none⟩) rn rc) 2, .rd (.int .i64 (j : Int)) 2, .rd (.pointer (some ⟨gb, j, none⟩)) 2, .rd (.int .u8 ((cf row j).toNat : Int)) 1, .rd (.int .u8 ((x0).toNat : Int)) 2, .st 0, .rd (.pointer (some ⟨gb, j, none⟩)) 2, .st 1] (fun cj => if cj = 0 then (.int .u8 ((gmul (cf row j) x0).toNat : Int)) else undef) (fun s g p => Fr [gb] w p ∧ (s ≤ 1 → OwnB 5 B p (.slice (some ⟨gb, 0, none⟩) rn rc) row) ∧ (1 < s → OwnB 5 B p (.slice (some ⟨gb, 0, none⟩) rn rc) (row.set j (gmul (cf row j) x0)))) (by kernel_rfl) (by rfl) (by rw [hsz]; rfl) (by kernel_rfl) (by kernel_rfl) (by decide) ?_ ⟨?_, ?_, ?_, ?_, ?_, ?_, ?_, ?_, ?_, ?_, ?_, ?_, ?_, ?_, ?_, ?_, trivial⟩ ?_
  · intro w1 hw1
    exact ⟨fun _ => undef, ⟨(hw1).weak, fun _ => OwnB.keep hrow hw1 (by simp), fun hk => absurd hk (by decide)⟩⟩
  · refine ⟨⟨99, rfl⟩, .inl rfl, fun b p s g hs hlow hS h => ?_⟩
    have e0 := (show b.eval (.tmp 6) = .slice (some ⟨lb, 0, none⟩) n lc from (h.old 6 (by decide)).trans h6)
    have ec : ∀ v, b.eval (.const v) = v := fun _ => rfl
    refine ⟨_, by simp only [List.getElem?_toArray, List.getElem?_cons_succ, List.getElem?_cons_zero]; rfl, .inl ⟨(wanted_none rfl), ?_⟩⟩
    obtain ⟨ρ, hρ⟩ : ∃ ρ, b.eval = ρ := ⟨_, rfl⟩
    rw [hρ] at e0 ec ⊢
    unfold execOp; simp [go_sem, e0, ec]
  · refine ⟨⟨100, rfl⟩, .inl rfl, fun b p s g hs hlow hS h => ?_⟩
    have e0 := (show b.eval (.tmp 10) = .int .i64 (at_ : Int) from (h.old 10 (by decide)).trans h10)
    have ec : ∀ v, b.eval (.const v) = v := fun _ => rfl
    refine ⟨_, by simp only [List.getElem?_toArray, List.getElem?_cons_succ, List.getElem?_cons_zero]; rfl, .inl ⟨(wanted_none rfl), ?_⟩⟩
    obtain ⟨ρ, hρ⟩ : ∃ ρ, b.eval = ρ := ⟨_, rfl⟩
    rw [hρ] at e0 ec ⊢
    unfold execOp; simp [go_sem, e0, ec]
  · refine ⟨⟨101, rfl⟩, .inl rfl, fun b p s g hs hlow hS h => ?_⟩
    have e0 := (show b.eval (.tmp 99) = .slice (some ⟨lb, 0, none⟩) n lc from h.rd 0 _ _ 99 (by kernel_rfl) rfl rfl)
    have e1 := (show b.eval (.tmp 100) = .int .i64 (at_ : Int) from h.rd 1 _ _ 100 (by kernel_rfl) rfl rfl)
    have ec : ∀ v, b.eval (.const v) = v := fun _ => rfl
    refine ⟨_, by simp only [List.getElem?_toArray, List.getElem?_cons_succ, List.getElem?_cons_zero]; rfl, .inl ⟨(wanted_none rfl), ?_⟩⟩
    obtain ⟨ρ, hρ⟩ : ∃ ρ, b.eval = ρ := ⟨_, rfl⟩
    rw [hρ] at e0 e1 ec ⊢
    unfold execOp; simp [go_sem, e0, e1, ec, show (at_ : Int) < n by omega, show at_ < n by omega]
  · refine ⟨⟨102, rfl⟩, .inl rfl, fun b p s g hs hlow hS h => ?_⟩
    have e0 := (show b.eval (.tmp 101) = .pointer (some ⟨lb, at_, none⟩) from h.rd 2 _ _ 101 (by kernel_rfl) rfl rfl)
    obtain ⟨hf, m0, m1⟩ := hS
    have c0 := (show p.cell? ⟨lb, at_, none⟩ = some (.slice (some ⟨gb, 0, none⟩) rn rc) from (cell_keep hf (by simpa using hlg) hl))
    have ec : ∀ v, b.eval (.const v) = v := fun _ => rfl
    refine ⟨_, by simp only [List.getElem?_toArray, List.getElem?_cons_succ, List.getElem?_cons_zero]; rfl, .inl ⟨(wanted_none rfl), ?_⟩⟩
    obtain ⟨ρ, hρ⟩ : ∃ ρ, b.eval = ρ := ⟨_, rfl⟩
    rw [hρ] at e0 ec ⊢
    unfold execOp; simp [go_sem, e0, ec, c0]
  · refine ⟨⟨103, rfl⟩, .inl rfl, fun b p s g hs hlow hS h => ?_⟩
    have e0 := (show b.eval (.tmp 14) = .int .i64 (j : Int) from (h.old 14 (by decide)).trans h14)
    have ec : ∀ v, b.eval (.const v) = v := fun _ => rfl
    refine ⟨_, by simp only [List.getElem?_toArray, List.getElem?_cons_succ, List.getElem?_cons_zero]; rfl, .inl ⟨(wanted_none rfl), ?_⟩⟩
    obtain ⟨ρ, hρ⟩ : ∃ ρ, b.eval = ρ := ⟨_, rfl⟩
    rw [hρ] at e0 ec ⊢
    unfold execOp; simp [go_sem, e0, ec]
  · refine ⟨⟨104, rfl⟩, .inl rfl, fun b p s g hs hlow hS h => ?_⟩
    have e0 := (show b.eval (.tmp 6) = .slice (some ⟨lb, 0, none⟩) n lc from (h.old 6 (by decide)).trans h6)
    have ec : ∀ v, b.eval (.const v) = v := fun _ => rfl
    refine ⟨_, by simp only [List.getElem?_toArray, List.getElem?_cons_succ, List.getElem?_cons_zero]; rfl, .inl ⟨(wanted_none rfl), ?_⟩⟩
    obtain ⟨ρ, hρ⟩ : ∃ ρ, b.eval = ρ := ⟨_, rfl⟩
    rw [hρ] at e0 ec ⊢
    unfold execOp; simp [go_sem, e0, ec]
  · refine ⟨⟨105, rfl⟩, .inl rfl, fun b p s g hs hlow hS h => ?_⟩
    have e0 := (show b.eval (.tmp 10) = .int .i64 (at_ : Int) from (h.old 10 (by decide)).trans h10)
    have ec : ∀ v, b.eval (.const v) = v := fun _ => rfl
    refine ⟨_, by simp only [List.getElem?_toArray, List.getElem?_cons_succ, List.getElem?_cons_zero]; rfl, .inl ⟨(wanted_none rfl), ?_⟩⟩
    obtain ⟨ρ, hρ⟩ : ∃ ρ, b.eval = ρ := ⟨_, rfl⟩
    rw [hρ] at e0 ec ⊢
    unfold execOp; simp [go_sem, e0, ec]
  · refine ⟨⟨106, rfl⟩, .inl rfl, fun b p s g hs hlow hS h => ?_⟩
    have e0 := (show b.eval (.tmp 104) = .slice (some ⟨lb, 0, none⟩) n lc from h.rd 5 _ _ 104 (by kernel_rfl) rfl rfl)
    have e1 := (show b.eval (.tmp 105) = .int .i64 (at_ : Int) from h.rd 6 _ _ 105 (by kernel_rfl) rfl rfl)
    have ec : ∀ v, b.eval (.const v) = v := fun _ => rfl
    refine ⟨_, by simp only [List.getElem?_toArray, List.getElem?_cons_succ, List.getElem?_cons_zero]; rfl, .inl ⟨(wanted_none rfl), ?_⟩⟩
    obtain ⟨ρ, hρ⟩ : ∃ ρ, b.eval = ρ := ⟨_, rfl⟩
    rw [hρ] at e0 e1 ec ⊢
    unfold execOp; simp [go_sem, e0, e1, ec, show (at_ : Int) < n by omega, show at_ < n by omega]
  · refine ⟨⟨107, rfl⟩, .inl rfl, fun b p s g hs hlow hS h => ?_⟩
    have e0 := (show b.eval (.tmp 106) = .pointer (some ⟨lb, at_, none⟩) from h.rd 7 _ _ 106 (by kernel_rfl) rfl rfl)
    obtain ⟨hf, m0, m1⟩ := hS
    have c0 := (show p.cell? ⟨lb, at_, none⟩ = some (.slice (some ⟨gb, 0, none⟩) rn rc) from (cell_keep hf (by simpa using hlg) hl))
    have ec : ∀ v, b.eval (.const v) = v := fun _ => rfl
    refine ⟨_, by simp only [List.getElem?_toArray, List.getElem?_cons_succ, List.getElem?_cons_zero]; rfl, .inl ⟨(wanted_none rfl), ?_⟩⟩
    obtain ⟨ρ, hρ⟩ : ∃ ρ, b.eval = ρ := ⟨_, rfl⟩
    rw [hρ] at e0 ec ⊢
    unfold execOp; simp [go_sem, e0, ec, c0]
  · refine ⟨⟨108, rfl⟩, .inl rfl, fun b p s g hs hlow hS h => ?_⟩
    have e0 := (show b.eval (.tmp 14) = .int .i64 (j : Int) from (h.old 14 (by decide)).trans h14)
    have ec : ∀ v, b.eval (.const v) = v := fun _ => rfl
    refine ⟨_, by simp only [List.getElem?_toArray, List.getElem?_cons_succ, List.getElem?_cons_zero]; rfl, .inl ⟨(wanted_none rfl), ?_⟩⟩
    obtain ⟨ρ, hρ⟩ : ∃ ρ, b.eval = ρ := ⟨_, rfl⟩
    rw [hρ] at e0 ec ⊢
    unfold execOp; simp [go_sem, e0, ec]
  · refine ⟨⟨109, rfl⟩, .inl rfl, fun b p s g hs hlow hS h => ?_⟩
    have e0 := (show b.eval (.tmp 107) = .slice (some ⟨gb, 0, none⟩) rn rc from h.rd 8 _ _ 107 (by kernel_rfl) rfl rfl)
    have e1 := (show b.eval (.tmp 108) = .int .i64 (j : Int) from h.rd 9 _ _ 108 (by kernel_rfl) rfl rfl)
    have ec : ∀ v, b.eval (.const v) = v := fun _ => rfl
    refine ⟨_, by simp only [List.getElem?_toArray, List.getElem?_cons_succ, List.getElem?_cons_zero]; rfl, .inl ⟨(wanted_none rfl), ?_⟩⟩
    obtain ⟨ρ, hρ⟩ : ∃ ρ, b.eval = ρ := ⟨_, rfl⟩
    rw [hρ] at e0 e1 ec ⊢
    unfold execOp; simp [go_sem, e0, e1, ec, show (j : Int) < rn by omega, show j < rn by omega]
  · refine ⟨⟨110, rfl⟩, .inr ⟨15, rfl, by kernel_rfl⟩, fun b p s g hs hlow hS h => ?_⟩
    have e0 := (show b.eval (.tmp 109) = .pointer (some ⟨gb, j, none⟩) from h.rd 10 _ _ 109 (by kernel_rfl) rfl rfl)
    obtain ⟨hf, m0, m1⟩ := hS
    have c0 := (show p.cell? ⟨gb, j, none⟩ = some (.int .u8 ((cf row j).toNat : Int)) from (own_cellB (m0 hs) (i := j) (by omega)))
    have ec : ∀ v, b.eval (.const v) = v := fun _ => rfl
    refine ⟨_, by simp only [List.getElem?_toArray, List.getElem?_cons_succ, List.getElem?_cons_zero]; rfl, .inl ⟨(wanted_none rfl), ?_⟩⟩
    obtain ⟨ρ, hρ⟩ : ∃ ρ, b.eval = ρ := ⟨_, rfl⟩
    rw [hρ] at e0 ec ⊢
    unfold execOp; simp [go_sem, e0, ec, c0]
  · refine ⟨⟨111, rfl⟩, .inl rfl, fun b p s g hs hlow hS h => ?_⟩
    have e0 := (show b.eval (.tmp 13) = .int .u8 ((x0).toNat : Int) from (h.old 13 (by decide)).trans h13)
    have ec : ∀ v, b.eval (.const v) = v := fun _ => rfl
    refine ⟨_, by simp only [List.getElem?_toArray, List.getElem?_cons_succ, List.getElem?_cons_zero]; rfl, .inl ⟨(wanted_none rfl), ?_⟩⟩
    obtain ⟨ρ, hρ⟩ : ∃ ρ, b.eval = ρ := ⟨_, rfl⟩
    rw [hρ] at e0 ec ⊢
    unfold execOp; simp [go_sem, e0, ec]
  · refine ⟨rfl, .inl rfl, fun b p g hS h => ?_⟩
    have e0 := (show b.eval (.tmp 110) = .int .u8 ((cf row j).toNat : Int) from h.rd 11 _ _ 110 (by kernel_rfl) rfl rfl)
    have e1 := (show b.eval (.tmp 111) = .int .u8 ((x0).toNat : Int) from h.rd 12 _ _ 111 (by kernel_rfl) rfl rfl)
    obtain ⟨hf, m0, m1⟩ := hS
    refine opV_func _ (by simp only [List.getElem?_toArray, List.getElem?_cons_succ, List.getElem?_cons_zero]; rfl) (wanted_none rfl) 57 _ _ rfl #[.int .u8 ((cf row j).toNat : Int), .int .u8 ((x0).toNat : Int)] (by simp only [List.map_toArray, List.map_cons, List.map_nil, e0, e1]) (by simp [go_sem]) ((rmul_any p (cf row j) x0).mono ?_)
    rintro e p' ⟨rfl, hf'⟩
    exact ⟨_, rfl, ⟨hf.trans (hf').weak, fun _ => OwnB.keep (m0 (by decide)) hf' (by simp), fun hk => absurd hk (by decide)⟩, .inr rfl⟩
  · refine ⟨⟨113, rfl⟩, .inl rfl, fun b p s g hs hlow hS h => ?_⟩
    have e0 := (show b.eval (.tmp 102) = .slice (some ⟨gb, 0, none⟩) rn rc from h.rd 3 _ _ 102 (by kernel_rfl) rfl rfl)
    have e1 := (show b.eval (.tmp 103) = .int .i64 (j : Int) from h.rd 4 _ _ 103 (by kernel_rfl) rfl rfl)
    have ec : ∀ v, b.eval (.const v) = v := fun _ => rfl
    refine ⟨_, by simp only [List.getElem?_toArray, List.getElem?_cons_succ, List.getElem?_cons_zero]; rfl, .inl ⟨(wanted_none rfl), ?_⟩⟩
    obtain ⟨ρ, hρ⟩ : ∃ ρ, b.eval = ρ := ⟨_, rfl⟩
    rw [hρ] at e0 e1 ec ⊢
    unfold execOp; simp [go_sem, e0, e1, ec, show (j : Int) < rn by omega, show j < rn by omega]
  · refine ⟨rfl, .inr ⟨13, rfl, by kernel_rfl⟩, fun b p g hS h => ?_⟩
    have e0 := (show b.eval (.tmp 113) = .pointer (some ⟨gb, j, none⟩) from h.rd 14 _ _ 113 (by kernel_rfl) rfl rfl)
    have e1 := (show b.eval (.tmp 112) = .int .u8 ((gmul (cf row j) x0).toNat : Int) from h.st 13 _ 112 (by kernel_rfl) rfl rfl)
    obtain ⟨hf, m0, m1⟩ := hS
    have hp := m0 (by decide)
    refine opV_mono (K := fun _ p => Fr [gb] w p ∧ OwnB 5 B p (.slice (some ⟨gb, 0, none⟩) rn rc) (row.set j (gmul (cf row j) x0))) (fun v p hv => ⟨⟨hv.1, fun hk => absurd hk (by decide), fun _ => hv.2⟩, .inl rfl⟩) ?_
    obtain ⟨cur, k1, k2, -, k4⟩ := own_blk hp
    refine opV_of_wpl (K := fun _ p => Fr [gb] w p ∧ OwnB 5 B p (.slice (some ⟨gb, 0, none⟩) rn rc) (row.set j (gmul (cf row j) x0))) _ (by simp only [List.getElem?_toArray, List.getElem?_cons_succ, List.getElem?_cons_zero]; rfl) ?_
    refine wpl_store_one (.tmp 113) (.tmp 112) rfl rfl (.int .u8 ((gmul (cf row j) x0).toNat : Int)) e0 e1 k1 (by have := k2; omega) (by kernel_rfl) rfl ?_
    intro p1 f1 a1 _
    exact ⟨rfl, rfl, hf.trans f1, k4 p1 (j) _ a1⟩
  · intro b p h1 h2 h3 h4 h5
    obtain ⟨g, h4, h6⟩ := h4
    obtain ⟨hf, m0, m1⟩ := h4
    exact hQ b p h1 (h2.trans hsz) (fun s hs => h3 s (fun hm => hs (by simpa using hm))) hf (m1 (by decide))
noncomputable def sol_elimR : Code := ((Tryz.f60.body.bind (findRegionC 31)).getD .skip)
set_option maxRecDepth 1000000 in
set_option maxHeartbeats 8000000 in
theorem sol_elim (w : World) (a : Go.Act) (hsz : a.tmps.size = 209) (lb n lc at_ gb rn rc pg pn pc i j B : Nat) (row : List UInt8) (f y : UInt8) (hrow : OwnB 5 B w (.slice (some ⟨gb, 0, none⟩) rn rc) row) (hrl : row.length = rn) (han : at_ < n) (hin : i < n) (hj : j < rn) (hjp : j < pn) (hl : w.cell? ⟨lb, i, none⟩ = some (.slice (some ⟨gb, 0, none⟩) rn rc)) (hp : w.cell? ⟨lb, at_, none⟩ = some (.slice (some ⟨pg, 0, none⟩) pn pc)) (hy : w.cell? ⟨pg, j, none⟩ = some (.int .u8 ((y).toNat : Int))) (hlg : lb ≠ gb) (hpg : pg ≠ gb) (h6 : slot a 6 = .slice (some ⟨lb, 0, none⟩) n lc) (h15 : slot a 15 = .int .i64 (i : Int)) (h17 : slot a 17 = .int .i64 (j : Int)) (h16 : slot a 16 = .int .u8 ((f).toNat : Int)) (h10 : slot a 10 = .int .i64 (at_ : Int)) (Q : Exit → Go.Act → World → Prop)
    (hQ : ∀ (b : Go.Act) (p : World), b.defers = a.defers → b.tmps.size = 209 → (∀ s, s ∉ ([142, 143, 144, 145, 146, 147, 148, 149, 150, 151, 152, 153, 154, 155, 156, 157, 158, 159, 160, 161, 162, 163, 164] : List Nat) → slot b s = slot a s) → Fr [gb] w p → OwnB 5 B p (.slice (some ⟨gb, 0, none⟩) rn rc) (row.set j (cf row j ^^^ gmul f y)) → Q .normal b p) : Code.wp Tryz.prog sol_elimR Q a w := by
  conv => arg 2; whnf
  refine wp_region_ghost (by kernel_rfl) (by kernel_rfl) [some 142, some 143, some 144, some 145, some 146, some 147, some 148, some 149, some 150, some 151, some 152, some 153, some 154, some 155, some 156, some 157, some 158, some 159, some 160, some 161, some 162, some 163, some 164, none] [20, 23] [.rd (.slice (some ⟨lb, 0, none⟩) n lc) 2, .rd (.int .i64 (i : Int)) 2, .rd (.pointer (some ⟨lb, i, none⟩)) 2, .rd (.slice (some ⟨gb, 0, none⟩) rn rc) 2, .rd (.int .i64 (j : Int)) 2, .rd (.slice (some ⟨lb, 0, none⟩) n lc) 2, .rd (.int .i64 (i : Int)) 2, .rd (.pointer (some ⟨lb, i, none⟩)) 2, .rd (.slice (some ⟨gb, 0, none⟩) rn rc) 2, .rd (.int .i64 (j : Int)) 2, .rd (.pointer (some ⟨gb, j, none⟩)) 2, .rd (.int .u8 ((cf row j).toNat : Int)) 1, .rd (.int .u8 ((f).toNat : Int)) 2, .rd (.slice (some ⟨lb, 0, none⟩) n lc) 2, .rd (.int .i64 (at_ : Int)) 2, .rd (.pointer (some ⟨lb, at_, none⟩)) 2, .rd (.slice (some ⟨pg, 0, none⟩) pn pc) 2, .rd (.int .i64 (j : Int)) 2, .rd (.pointer (some ⟨pg, j, none⟩)) 2, .rd (.int .u8 ((y).toNat : Int)) 2, .st 0, .rd (.int .u8 ((cf row j ^^^ gmul f y).toNat : Int)) 2, .rd (.pointer (some ⟨gb, j, none⟩)) 2, .st 1] (fun cj => if cj = 0 then (.int .u8 ((gmul f y).toNat : Int)) else undef) (fun s g p => Fr [gb] w p ∧ (s ≤ 1 → OwnB 5 B p (.slice (some ⟨gb, 0, none⟩) rn rc) row) ∧ (1 < s → OwnB 5 B p (.slice (some ⟨gb, 0, none⟩) rn rc) (row.set j (cf row j ^^^ gmul f y)))) (by kernel_rfl) (by rfl) (by rw [hsz]; rfl) (by kernel_rfl) (by kernel_rfl) (by decide) ?_ ⟨?_, ?_, ?_, ?_, ?_, ?_, ?_, ?_, ?_, ?_, ?_, ?_, ?_, ?_, ?_, ?_, ?_, ?_, ?_, ?_, ?_, ?_, ?_, ?_, trivial⟩ ?_
  · intro w1 hw1
    exact ⟨fun _ => undef, ⟨(hw1).weak, fun _ => OwnB.keep hrow hw1 (by simp), fun hk => absurd hk (by decide)⟩⟩
  · refine ⟨⟨142, rfl⟩, .inl rfl, fun b p s g hs hlow hS h => ?_⟩
    have e0 := (show b.eval (.tmp 6) = .slice (some ⟨lb, 0, none⟩) n lc from (h.old 6 (by decide)).trans h6)
    have ec : ∀ v, b.eval (.const v) = v := fun _ => rfl
    refine ⟨_, by simp only [List.getElem?_toArray, List.getElem?_cons_succ, List.getElem?_cons_zero]; rfl, .inl ⟨(wanted_none rfl), ?_⟩⟩
    obtain ⟨ρ, hρ⟩ : ∃ ρ, b.eval = ρ := ⟨_, rfl⟩
    rw [hρ] at e0 ec ⊢
    unfold execOp; simp [go_sem, e0, ec]
  · refine ⟨⟨143, rfl⟩, .inl rfl, fun b p s g hs hlow hS h => ?_⟩
    have e0 := (show b.eval (.tmp 15) = .int .i64 (i : Int) from (h.old 15 (by decide)).trans h15)
    have ec : ∀ v, b.eval (.const v) = v := fun _ => rfl
    refine ⟨_, by simp only [List.getElem?_toArray, List.getElem?_cons_succ, List.getElem?_cons_zero]; rfl, .inl ⟨(wanted_none rfl), ?_⟩⟩
    obtain ⟨ρ, hρ⟩ : ∃ ρ, b.eval = ρ := ⟨_, rfl⟩
    rw [hρ] at e0 ec ⊢
    unfold execOp; simp [go_sem, e0, ec]
  · refine ⟨⟨144, rfl⟩, .inl rfl, fun b p s g hs hlow hS h => ?_⟩
    have e0 := (show b.eval (.tmp 142) = .slice (some ⟨lb, 0, none⟩) n lc from h.rd 0 _ _ 142 (by kernel_rfl) rfl rfl)
    have e1 := (show b.eval (.tmp 143) = .int .i64 (i : Int) from h.rd 1 _ _ 143 (by kernel_rfl) rfl rfl)
    have ec : ∀ v, b.eval (.const v) = v := fun _ => rfl
    refine ⟨_, by simp only [List.getElem?_toArray, List.getElem?_cons_succ, List.getElem?_cons_zero]; rfl, .inl ⟨(wanted_none rfl), ?_⟩⟩
    obtain ⟨ρ, hρ⟩ : ∃ ρ, b.eval = ρ := ⟨_, rfl⟩
    rw [hρ] at e0 e1 ec ⊢
    unfold execOp; simp [go_sem, e0, e1, ec, show (i : Int) < n by omega, show i < n by omega]
  · refine ⟨⟨145, rfl⟩, .inl rfl, fun b p s g hs hlow hS h => ?_⟩
    have e0 := (show b.eval (.tmp 144) = .pointer (some ⟨lb, i, none⟩) from h.rd 2 _ _ 144 (by kernel_rfl) rfl rfl)
    obtain ⟨hf, m0, m1⟩ := hS
    have c0 := (show p.cell? ⟨lb, i, none⟩ = some (.slice (some ⟨gb, 0, none⟩) rn rc) from (cell_keep hf (by simpa using hlg) hl))
    have ec : ∀ v, b.eval (.const v) = v := fun _ => rfl
    refine ⟨_, by simp only [List.getElem?_toArray, List.getElem?_cons_succ, List.getElem?_cons_zero]; rfl, .inl ⟨(wanted_none rfl), ?_⟩⟩
    obtain ⟨ρ, hρ⟩ : ∃ ρ, b.eval = ρ := ⟨_, rfl⟩
    rw [hρ] at e0 ec ⊢
    unfold execOp; simp [go_sem, e0, ec, c0]
  · refine ⟨⟨146, rfl⟩, .inl rfl, fun b p s g hs hlow hS h => ?_⟩
    have e0 := (show b.eval (.tmp 17) = .int .i64 (j : Int) from (h.old 17 (by decide)).trans h17)
    have ec : ∀ v, b.eval (.const v) = v := fun _ => rfl
    refine ⟨_, by simp only [List.getElem?_toArray, List.getElem?_cons_succ, List.getElem?_cons_zero]; rfl, .inl ⟨(wanted_none rfl), ?_⟩⟩
    obtain ⟨ρ, hρ⟩ : ∃ ρ, b.eval = ρ := ⟨_, rfl⟩
    rw [hρ] at e0 ec ⊢
    unfold execOp; simp [go_sem, e0, ec]
  · refine ⟨⟨147, rfl⟩, .inl rfl, fun b p s g hs hlow hS h => ?_⟩
    have e0 := (show b.eval (.tmp 6) = .slice (some ⟨lb, 0, none⟩) n lc from (h.old 6 (by decide)).trans h6)
    have ec : ∀ v, b.eval (.const v) = v := fun _ => rfl
    refine ⟨_, by simp only [List.getElem?_toArray, List.getElem?_cons_succ, List.getElem?_cons_zero]; rfl, .inl ⟨(wanted_none rfl), ?_⟩⟩
    obtain ⟨ρ, hρ⟩ : ∃ ρ, b.eval = ρ := ⟨_, rfl⟩
    rw [hρ] at e0 ec ⊢
    unfold execOp; simp [go_sem, e0, ec]
  · refine ⟨⟨148, rfl⟩, .inl rfl, fun b p s g hs hlow hS h => ?_⟩
    have e0 := (show b.eval (.tmp 15) = .int .i64 (i : Int) from (h.old 15 (by decide)).trans h15)
    have ec : ∀ v, b.eval (.const v) = v := fun _ => rfl
    refine ⟨_, by simp only [List.getElem?_toArray, List.getElem?_cons_succ, List.getElem?_cons_zero]; rfl, .inl ⟨(wanted_none rfl), ?_⟩⟩
    obtain ⟨ρ, hρ⟩ : ∃ ρ, b.eval = ρ := ⟨_, rfl⟩
    rw [hρ] at e0 ec ⊢
    unfold execOp; simp [go_sem, e0, ec]
  · refine ⟨⟨149, rfl⟩, .inl rfl, fun b p s g hs hlow hS h => ?_⟩
    have e0 := (show b.eval (.tmp 147) = .slice (some ⟨lb, 0, none⟩) n lc from h.rd 5 _ _ 147 (by kernel_rfl) rfl rfl)
    have e1 := (show b.eval (.tmp 148) = .int .i64 (i : Int) from h.rd 6 _ _ 148 (by kernel_rfl) rfl rfl)
    have ec : ∀ v, b.eval (.const v) = v := fun _ => rfl
    refine ⟨_, by simp only [List.getElem?_toArray, List.getElem?_cons_succ, List.getElem?_cons_zero]; rfl, .inl ⟨(wanted_none rfl), ?_⟩⟩
    obtain ⟨ρ, hρ⟩ : ∃ ρ, b.eval = ρ := ⟨_, rfl⟩
    rw [hρ] at e0 e1 ec ⊢
    unfold execOp; simp [go_sem, e0, e1, ec, show (i : Int) < n by omega, show i < n by omega]
  · refine ⟨⟨150, rfl⟩, .inl rfl, fun b p s g hs hlow hS h => ?_⟩
    have e0 := (show b.eval (.tmp 149) = .pointer (some ⟨lb, i, none⟩) from h.rd 7 _ _ 149 (by kernel_rfl) rfl rfl)
    obtain ⟨hf, m0, m1⟩ := hS
    have c0 := (show p.cell? ⟨lb, i, none⟩ = some (.slice (some ⟨gb, 0, none⟩) rn rc) from (cell_keep hf (by simpa using hlg) hl))
    have ec : ∀ v, b.eval (.const v) = v := fun _ => rfl
    refine ⟨_, by simp only [List.getElem?_toArray, List.getElem?_cons_succ, List.getElem?_cons_zero]; rfl, .inl ⟨(wanted_none rfl), ?_⟩⟩
    obtain ⟨ρ, hρ⟩ : ∃ ρ, b.eval = ρ := ⟨_, rfl⟩
    rw [hρ] at e0 ec ⊢
    unfold execOp; simp [go_sem, e0, ec, c0]
  · refine ⟨⟨151, rfl⟩, .inl rfl, fun b p s g hs hlow hS h => ?_⟩
    have e0 := (show b.eval (.tmp 17) = .int .i64 (j : Int) from (h.old 17 (by decide)).trans h17)
    have ec : ∀ v, b.eval (.const v) = v := fun _ => rfl
    refine ⟨_, by simp only [List.getElem?_toArray, List.getElem?_cons_succ, List.getElem?_cons_zero]; rfl, .inl ⟨(wanted_none rfl), ?_⟩⟩
    obtain ⟨ρ, hρ⟩ : ∃ ρ, b.eval = ρ := ⟨_, rfl⟩
    rw [hρ] at e0 ec ⊢
    unfold execOp; simp [go_sem, e0, ec]
  · refine ⟨⟨152, rfl⟩, .inl rfl, fun b p s g hs hlow hS h => ?_⟩
    have e0 := (show b.eval (.tmp 150) = .slice (some ⟨gb, 0, none⟩) rn rc from h.rd 8 _ _ 150 (by kernel_rfl) rfl rfl)
    have e1 := (show b.eval (.tmp 151) = .int .i64 (j : Int) from h.rd 9 _ _ 151 (by kernel_rfl) rfl rfl)
    have ec : ∀ v, b.eval (.const v) = v := fun _ => rfl
    refine ⟨_, by simp only [List.getElem?_toArray, List.getElem?_cons_succ, List.getElem?_cons_zero]; rfl, .inl ⟨(wanted_none rfl), ?_⟩⟩
    obtain ⟨ρ, hρ⟩ : ∃ ρ, b.eval = ρ := ⟨_, rfl⟩
    rw [hρ] at e0 e1 ec ⊢
    unfold execOp; simp [go_sem, e0, e1, ec, show (j : Int) < rn by omega, show j < rn by omega]
  · refine ⟨⟨153, rfl⟩, .inr ⟨23, rfl, by kernel_rfl⟩, fun b p s g hs hlow hS h => ?_⟩
    have e0 := (show b.eval (.tmp 152) = .pointer (some ⟨gb, j, none⟩) from h.rd 10 _ _ 152 (by kernel_rfl) rfl rfl)
    obtain ⟨hf, m0, m1⟩ := hS
    have c0 := (show p.cell? ⟨gb, j, none⟩ = some (.int .u8 ((cf row j).toNat : Int)) from (own_cellB (m0 hs) (i := j) (by omega)))
    have ec : ∀ v, b.eval (.const v) = v := fun _ => rfl
    refine ⟨_, by simp only [List.getElem?_toArray, List.getElem?_cons_succ, List.getElem?_cons_zero]; rfl, .inl ⟨(wanted_none rfl), ?_⟩⟩
    obtain ⟨ρ, hρ⟩ : ∃ ρ, b.eval = ρ := ⟨_, rfl⟩
    rw [hρ] at e0 ec ⊢
    unfold execOp; simp [go_sem, e0, ec, c0]
  · refine ⟨⟨154, rfl⟩, .inl rfl, fun b p s g hs hlow hS h => ?_⟩
    have e0 := (show b.eval (.tmp 16) = .int .u8 ((f).toNat : Int) from (h.old 16 (by decide)).trans h16)
    have ec : ∀ v, b.eval (.const v) = v := fun _ => rfl
    refine ⟨_, by simp only [List.getElem?_toArray, List.getElem?_cons_succ, List.getElem?_cons_zero]; rfl, .inl ⟨(wanted_none rfl), ?_⟩⟩
    obtain ⟨ρ, hρ⟩ : ∃ ρ, b.eval = ρ := ⟨_, rfl⟩
    rw [hρ] at e0 ec ⊢
    unfold execOp; simp [go_sem, e0, ec]
  · refine ⟨⟨155, rfl⟩, .inl rfl, fun b p s g hs hlow hS h => ?_⟩
    have e0 := (show b.eval (.tmp 6) = .slice (some ⟨lb, 0, none⟩) n lc from (h.old 6 (by decide)).trans h6)
    have ec : ∀ v, b.eval (.const v) = v := fun _ => rfl
    refine ⟨_, by simp only [List.getElem?_toArray, List.getElem?_cons_succ, List.getElem?_cons_zero]; rfl, .inl ⟨(wanted_none rfl), ?_⟩⟩
    obtain ⟨ρ, hρ⟩ : ∃ ρ, b.eval = ρ := ⟨_, rfl⟩
    rw [hρ] at e0 ec ⊢
    unfold execOp; simp [go_sem, e0, ec]
  · refine ⟨⟨156, rfl⟩, .inl rfl, fun b p s g hs hlow hS h => ?_⟩
    have e0 := (show b.eval (.tmp 10) = .int .i64 (at_ : Int) from (h.old 10 (by decide)).trans h10)
    have ec : ∀ v, b.eval (.const v) = v := fun _ => rfl
    refine ⟨_, by simp only [List.getElem?_toArray, List.getElem?_cons_succ, List.getElem?_cons_zero]; rfl, .inl ⟨(wanted_none rfl), ?_⟩⟩
    obtain ⟨ρ, hρ⟩ : ∃ ρ, b.eval = ρ := ⟨_, rfl⟩
    rw [hρ] at e0 ec ⊢
    unfold execOp; simp [go_sem, e0, ec]
  · refine ⟨⟨157, rfl⟩, .inl rfl, fun b p s g hs hlow hS h => ?_⟩
    have e0 := (show b.eval (.tmp 155) = .slice (some ⟨lb, 0, none⟩) n lc from h.rd 13 _ _ 155 (by kernel_rfl) rfl rfl)
    have e1 := (show b.eval (.tmp 156) = .int .i64 (at_ : Int) from h.rd 14 _ _ 156 (by kernel_rfl) rfl rfl)
    have ec : ∀ v, b.eval (.const v) = v := fun _ => rfl
    refine ⟨_, by simp only [List.getElem?_toArray, List.getElem?_cons_succ, List.getElem?_cons_zero]; rfl, .inl ⟨(wanted_none rfl), ?_⟩⟩
    obtain ⟨ρ, hρ⟩ : ∃ ρ, b.eval = ρ := ⟨_, rfl⟩
    rw [hρ] at e0 e1 ec ⊢
    unfold execOp; simp [go_sem, e0, e1, ec, show (at_ : Int) < n by omega, show at_ < n by omega]
  · refine ⟨⟨158, rfl⟩, .inl rfl, fun b p s g hs hlow hS h => ?_⟩
    have e0 := (show b.eval (.tmp 157) = .pointer (some ⟨lb, at_, none⟩) from h.rd 15 _ _ 157 (by kernel_rfl) rfl rfl)
    obtain ⟨hf, m0, m1⟩ := hS
    have c0 := (show p.cell? ⟨lb, at_, none⟩ = some (.slice (some ⟨pg, 0, none⟩) pn pc) from (cell_keep hf (by simpa using hlg) hp))
    have ec : ∀ v, b.eval (.const v) = v := fun _ => rfl
    refine ⟨_, by simp only [List.getElem?_toArray, List.getElem?_cons_succ, List.getElem?_cons_zero]; rfl, .inl ⟨(wanted_none rfl), ?_⟩⟩
    obtain ⟨ρ, hρ⟩ : ∃ ρ, b.eval = ρ := ⟨_, rfl⟩
    rw [hρ] at e0 ec ⊢
    unfold execOp; simp [go_sem, e0, ec, c0]
  · refine ⟨⟨159, rfl⟩, .inl rfl, fun b p s g hs hlow hS h => ?_⟩
    have e0 := (show b.eval (.tmp 17) = .int .i64 (j : Int) from (h.old 17 (by decide)).trans h17)
    have ec : ∀ v, b.eval (.const v) = v := fun _ => rfl
    refine ⟨_, by simp only [List.getElem?_toArray, List.getElem?_cons_succ, List.getElem?_cons_zero]; rfl, .inl ⟨(wanted_none rfl), ?_⟩⟩
    obtain ⟨ρ, hρ⟩ : ∃ ρ, b.eval = ρ := ⟨_, rfl⟩
    rw [hρ] at e0 ec ⊢
    unfold execOp; simp [go_sem, e0, ec]
  · refine ⟨⟨160, rfl⟩, .inl rfl, fun b p s g hs hlow hS h => ?_⟩
    have e0 := (show b.eval (.tmp 158) = .slice (some ⟨pg, 0, none⟩) pn pc from h.rd 16 _ _ 158 (by kernel_rfl) rfl rfl)
    have e1 := (show b.eval (.tmp 159) = .int .i64 (j : Int) from h.rd 17 _ _ 159 (by kernel_rfl) rfl rfl)
    have ec : ∀ v, b.eval (.const v) = v := fun _ => rfl
    refine ⟨_, by simp only [List.getElem?_toArray, List.getElem?_cons_succ, List.getElem?_cons_zero]; rfl, .inl ⟨(wanted_none rfl), ?_⟩⟩
    obtain ⟨ρ, hρ⟩ : ∃ ρ, b.eval = ρ := ⟨_, rfl⟩
    rw [hρ] at e0 e1 ec ⊢
    unfold execOp; simp [go_sem, e0, e1, ec, show (j : Int) < pn by omega, show j < pn by omega]
  · refine ⟨⟨161, rfl⟩, .inl rfl, fun b p s g hs hlow hS h => ?_⟩
    have e0 := (show b.eval (.tmp 160) = .pointer (some ⟨pg, j, none⟩) from h.rd 18 _ _ 160 (by kernel_rfl) rfl rfl)
    obtain ⟨hf, m0, m1⟩ := hS
    have c0 := (show p.cell? ⟨pg, j, none⟩ = some (.int .u8 ((y).toNat : Int)) from (cell_keep hf (by simpa using hpg) hy))
    have ec : ∀ v, b.eval (.const v) = v := fun _ => rfl
    refine ⟨_, by simp only [List.getElem?_toArray, List.getElem?_cons_succ, List.getElem?_cons_zero]; rfl, .inl ⟨(wanted_none rfl), ?_⟩⟩
    obtain ⟨ρ, hρ⟩ : ∃ ρ, b.eval = ρ := ⟨_, rfl⟩
    rw [hρ] at e0 ec ⊢
    unfold execOp; simp [go_sem, e0, ec, c0]
  · refine ⟨rfl, .inl rfl, fun b p g hS h => ?_⟩
    have e0 := (show b.eval (.tmp 154) = .int .u8 ((f).toNat : Int) from h.rd 12 _ _ 154 (by kernel_rfl) rfl rfl)
    have e1 := (show b.eval (.tmp 161) = .int .u8 ((y).toNat : Int) from h.rd 19 _ _ 161 (by kernel_rfl) rfl rfl)
    obtain ⟨hf, m0, m1⟩ := hS
    refine opV_func _ (by simp only [List.getElem?_toArray, List.getElem?_cons_succ, List.getElem?_cons_zero]; rfl) (wanted_none rfl) 57 _ _ rfl #[.int .u8 ((f).toNat : Int), .int .u8 ((y).toNat : Int)] (by simp only [List.map_toArray, List.map_cons, List.map_nil, e0, e1]) (by simp [go_sem]) ((rmul_any p f y).mono ?_)
    rintro e p' ⟨rfl, hf'⟩
    exact ⟨_, rfl, ⟨hf.trans (hf').weak, fun _ => OwnB.keep (m0 (by decide)) hf' (by simp), fun hk => absurd hk (by decide)⟩, .inr rfl⟩
  · refine ⟨⟨163, rfl⟩, .inl rfl, fun b p s g hs hlow hS h => ?_⟩
    have e0 := (show b.eval (.tmp 153) = .int .u8 ((cf row j).toNat : Int) from h.rd 11 _ _ 153 (by kernel_rfl) rfl rfl)
    have e1 := (show b.eval (.tmp 162) = .int .u8 ((gmul f y).toNat : Int) from h.st 20 _ 162 (by kernel_rfl) rfl rfl)
    have ec : ∀ v, b.eval (.const v) = v := fun _ => rfl
    refine ⟨_, by simp only [List.getElem?_toArray, List.getElem?_cons_succ, List.getElem?_cons_zero]; rfl, .inl ⟨(wanted_none rfl), ?_⟩⟩
    obtain ⟨ρ, hρ⟩ : ∃ ρ, b.eval = ρ := ⟨_, rfl⟩
    rw [hρ] at e0 e1 ec ⊢
    unfold execOp; simp [go_sem, e0, e1, ec, u8_xor_u]
  · refine ⟨⟨164, rfl⟩, .inl rfl, fun b p s g hs hlow hS h => ?_⟩
    have e0 := (show b.eval (.tmp 145) = .slice (some ⟨gb, 0, none⟩) rn rc from h.rd 3 _ _ 145 (by kernel_rfl) rfl rfl)
    have e1 := (show b.eval (.tmp 146) = .int .i64 (j : Int) from h.rd 4 _ _ 146 (by kernel_rfl) rfl rfl)
    have ec : ∀ v, b.eval (.const v) = v := fun _ => rfl
    refine ⟨_, by simp only [List.getElem?_toArray, List.getElem?_cons_succ, List.getElem?_cons_zero]; rfl, .inl ⟨(wanted_none rfl), ?_⟩⟩
    obtain ⟨ρ, hρ⟩ : ∃ ρ, b.eval = ρ := ⟨_, rfl⟩
    rw [hρ] at e0 e1 ec ⊢
    unfold execOp; simp [go_sem, e0, e1, ec, show (j : Int) < rn by omega, show j < rn by omega]
  · refine ⟨rfl, .inr ⟨20, rfl, by kernel_rfl⟩, fun b p g hS h => ?_⟩
    have e0 := (show b.eval (.tmp 164) = .pointer (some ⟨gb, j, none⟩) from h.rd 22 _ _ 164 (by kernel_rfl) rfl rfl)
    have e1 := (show b.eval (.tmp 163) = .int .u8 ((cf row j ^^^ gmul f y).toNat : Int) from h.rd 21 _ _ 163 (by kernel_rfl) rfl rfl)
    obtain ⟨hf, m0, m1⟩ := hS
    have hp := m0 (by decide)
    refine opV_mono (K := fun _ p => Fr [gb] w p ∧ OwnB 5 B p (.slice (some ⟨gb, 0, none⟩) rn rc) (row.set j (cf row j ^^^ gmul f y))) (fun v p hv => ⟨⟨hv.1, fun hk => absurd hk (by decide), fun _ => hv.2⟩, .inl rfl⟩) ?_
    obtain ⟨cur, k1, k2, -, k4⟩ := own_blk hp
    refine opV_of_wpl (K := fun _ p => Fr [gb] w p ∧ OwnB 5 B p (.slice (some ⟨gb, 0, none⟩) rn rc) (row.set j (cf row j ^^^ gmul f y))) _ (by simp only [List.getElem?_toArray, List.getElem?_cons_succ, List.getElem?_cons_zero]; rfl) ?_
    refine wpl_store_one (.tmp 164) (.tmp 163) rfl rfl (.int .u8 ((cf row j ^^^ gmul f y).toNat : Int)) e0 e1 k1 (by have := k2; omega) (by kernel_rfl) rfl ?_
    intro p1 f1 a1 _
    exact ⟨rfl, rfl, hf.trans f1, k4 p1 (j) _ a1⟩
  · intro b p h1 h2 h3 h4 h5
    obtain ⟨g, h4, h6⟩ := h4
    obtain ⟨hf, m0, m1⟩ := h4
    exact hQ b p h1 (h2.trans hsz) (fun s hs => h3 s (fun hm => hs (by simpa using hm))) hf (m1 (by decide))
theorem own_keepT {e te : TypeId} {base base' : Nat} {w w' : World} {v o : Value} {xs : List UInt8} {us : List Value} (h : OwnB e base w v xs) (ho : OwnV te base' w o us) (hne : te ≠ e) (hg : w.grownBy w' o.ownBlock) : OwnB e base w' v xs := by
  refine own_keep (S := o.ownBlock.toList) h (Fr.grown hg (by intro k hk; simp [hk])) ?_
  intro g hg2 hg3
  rcases h.2 with ⟨rfl, -⟩ | ⟨g', cap, cur, rfl, hbg, hh, -⟩
  · simp [Value.ownBlock] at hg2
  · simp only [Value.ownBlock, Option.some.injEq] at hg2
    subst hg2
    exact own_neT ho hh (Ne.symm hne) (by simpa using hg3)
def slW (g W c : Nat) : Value := .slice (some ⟨g, 0, none⟩) W c
structure Mat (B : Nat) (w : World) (lb n lc W : Nat) (us : List Value) (m : List (List UInt8)) : Prop where
  list : OwnV 22 B w (slW lb n lc) us
  ln : us.length = n
  lm : m.length = n
  rows : ∀ i, i < n → ∃ g c, us[i]? = some (slW g W c) ∧ OwnB 5 B w (slW g W c) (rw_ m i) ∧ (rw_ m i).length = W
  apart : ∀ (i k g c g' c' : Nat), us[i]? = some (slW g W c) → us[k]? = some (slW g' W c') → i ≠ k → g ≠ g'
theorem Mat.row {B : Nat} {w : World} {lb n lc W : Nat} {us : List Value} {m : List (List UInt8)} (h : Mat B w lb n lc W us m) (hW : 0 < W) (i : Nat) (hi : i < n) :
    ∃ g c, us[i]? = some (slW g W c) ∧ w.cell? ⟨lb, i, none⟩ = some (slW g W c) ∧ OwnB 5 B w (slW g W c) (rw_ m i) ∧ (rw_ m i).length = W ∧ lb ≠ g ∧ B ≤ g ∧ g < w.heap.size ∧ W ≤ c ∧ c ≤ 2 ^ 63 - 1 := by
  obtain ⟨g, c, h1, h2, h3⟩ := h.rows i hi
  obtain ⟨cur, k1, -, -, -⟩ := own_blkV h.list
  obtain ⟨cur2, k2, -, -, -⟩ := own_blk h2
  refine ⟨g, c, h1, own_cellV h.list h1, h2, h3, ?_, ?_, k2.lt, ?_⟩
  · rintro rfl
    have := k1.symm.trans k2
    simp at this
  · exact (h2.lt g (by simp [slW, Value.ownBlock])).1
  · obtain ⟨a, c', e, e1, e2, -⟩ := h2.bs (A := fun _ => False) (by simp)
    unfold slW at e
    cases e
    unfold maxLen at e2
    omega
theorem Mat.keep0 {B : Nat} {w w' : World} {lb n lc W : Nat} {us : List Value} {m : List (List UInt8)} (h : Mat B w lb n lc W us m) (hf : Fr [] w w') : Mat B w' lb n lc W us m :=
  ⟨h.list.keep0 hf, h.ln, h.lm, fun i hi => by obtain ⟨g, c, h1, h2, h3⟩ := h.rows i hi; exact ⟨g, c, h1, h2.keep hf (by simp), h3⟩, h.apart⟩
theorem own_keep1 {e : TypeId} {base : Nat} {w w' : World} {g W c : Nat} {xs : List UInt8} {b : Nat} (h : OwnB e base w (slW g W c) xs) (hf : Fr [b] w w') (hne : g ≠ b) : OwnB e base w' (slW g W c) xs := by
  refine own_keep h hf ?_
  intro k hk
  simp only [slW, Value.ownBlock, Option.some.injEq] at hk
  subst hk
  simpa using hne
theorem Mat.set {B : Nat} {w w' : World} {lb n lc W : Nat} {us : List Value} {m : List (List UInt8)} (h : Mat B w lb n lc W us m) (hW : 0 < W) {i g c : Nat} {r : List UInt8} (hi : i < n) (hu : us[i]? = some (slW g W c)) (hf : Fr [g] w w') (ho : OwnB 5 B w' (slW g W c) r) (hr : r.length = W) : Mat B w' lb n lc W us (m.set i r) := by
  obtain ⟨g', c', h1, -, -, -, h4, -⟩ := h.row hW i hi
  rw [hu] at h1
  unfold slW at h1
  cases h1
  refine ⟨own_keep h.list hf ?_, h.ln, by rw [List.length_set, h.lm], fun k hk => ?_, h.apart⟩
  · intro k hk
    simp only [slW, Value.ownBlock, Option.some.injEq] at hk
    subst hk
    simpa using h4
  · rw [rw_set _ _ _ _ (by rw [h.lm]; exact hi)]
    by_cases hki : k = i
    · subst hki
      rw [if_pos rfl]
      exact ⟨g, c, hu, ho, hr⟩
    · rw [if_neg hki]
      obtain ⟨g', c', k1, k2, k3⟩ := h.rows k hk
      exact ⟨g', c', k1, own_keep1 k2 hf (h.apart k i g' c' g c k1 hu hki), k3⟩
theorem Mat.swap {B : Nat} {w w' : World} {lb n lc W : Nat} {us : List Value} {m : List (List UInt8)} (h : Mat B w lb n lc W us m) (hW : 0 < W) {i k : Nat} {ui uk : Value} (hi : i < n) (hk : k < n) (hui : us[i]? = some ui) (huk : us[k]? = some uk) (hf : Fr [lb] w w')
    (ho : OwnV 22 B w' (slW lb n lc) ((us.set i uk).set k ui)) : Mat B w' lb n lc W ((us.set i uk).set k ui) (swapR m i k) := by
  have hget : ∀ j, ((us.set i uk).set k ui)[j]? = if j = k then some ui else if j = i then some uk else us[j]? := fun j => by
    rw [List.getElem?_set, List.getElem?_set]
    have := h.ln
    by_cases h1 : k = j
    · subst h1; simp [this, hk]
    · rw [if_neg h1, if_neg (Ne.symm h1)]
      by_cases h2 : i = j
      · subst h2; simp [this, hi]
      · rw [if_neg h2, if_neg (Ne.symm h2)]
  have hsrc : ∀ j, j < n → ∃ s, s < n ∧ ((us.set i uk).set k ui)[j]? = us[s]? ∧ rw_ (swapR m i k) j = rw_ m s ∧ (s = if j = k then i else if j = i then k else j) := fun j hj => by
    rw [hget, swapR_rw m i k (by rw [h.lm]; exact hi) (by rw [h.lm]; exact hk)]
    by_cases h1 : j = k
    · rw [if_pos h1, if_pos h1]; exact ⟨i, hi, hui.symm, rfl, by rw [if_pos h1]⟩
    · rw [if_neg h1, if_neg h1]
      by_cases h2 : j = i
      · rw [if_pos h2, if_pos h2]; exact ⟨k, hk, huk.symm, rfl, by rw [if_neg h1, if_pos h2]⟩
      · rw [if_neg h2, if_neg h2]; exact ⟨j, hj, rfl, rfl, by rw [if_neg h1, if_neg h2]⟩
  refine ⟨ho, by simp [h.ln], by rw [swapR_len, h.lm], fun j hj => ?_, fun a b g c g' c' ha hb hne => ?_⟩
  · obtain ⟨s, hs, e1, e2, -⟩ := hsrc j hj
    obtain ⟨g, c, k1, -, k2, k3, k4, -⟩ := h.row hW s hs
    exact ⟨g, c, by rw [e1, k1], by rw [e2]; exact own_keep1 k2 hf (Ne.symm k4), by rw [e2]; exact k3⟩
  · have hla : a < n := by have := (List.getElem?_eq_some_iff.1 ha).1; simp [h.ln] at this; exact this
    have hlb : b < n := by have := (List.getElem?_eq_some_iff.1 hb).1; simp [h.ln] at this; exact this
    obtain ⟨s, hs, e1, -, e3⟩ := hsrc a hla
    obtain ⟨t, ht, f1, -, f3⟩ := hsrc b hlb
    rw [e1] at ha
    rw [f1] at hb
    refine h.apart s t g c g' c' ha hb ?_
    rw [e3, f3]
    intro e
    (repeat' split at e) <;> omega
theorem Mat.snoc {B : Nat} {w w1 w2 : World} {lb k lc W g c : Nat} {us : List Value} {m : List (List UInt8)} {r : List UInt8} {v' : Value} (h : Mat B w lb k lc W us m) (hW : 0 < W) (hf : Fr [] w w1) (hg : w.heap.size ≤ g) (ho : OwnB 5 B w1 (slW g W c) r) (hr : r.length = W)
    (hv : OwnV 22 B w2 v' (us ++ [slW g W c])) (hgr : w1.grownBy w2 (slW lb k lc).ownBlock) : ∃ lb' lc', v' = slW lb' (k + 1) lc' ∧ Mat B w2 lb' (k + 1) lc' W (us ++ [slW g W c]) (m ++ [r]) := by
  have hl1 : OwnV 22 B w1 (slW lb k lc) us := h.list.keep0 hf
  have hl := h.ln
  obtain ⟨lb', lc', rfl⟩ : ∃ lb' lc', v' = slW lb' (k + 1) lc' := by
    rcases hv.2 with ⟨-, h2⟩ | ⟨g', cap, cur, rfl, -⟩
    · simp at h2
    · exact ⟨g', cap, by unfold slW; rw [List.length_append, hl]; rfl⟩
  refine ⟨lb', lc', rfl, hv, by simp [hl], by simp [h.lm], fun i hi => ?_, fun a b ga ca gb cb ha hb hne => ?_⟩
  · rcases Nat.lt_or_ge i k with hik | hik
    · obtain ⟨g1, c1, k1, k2, k3⟩ := h.rows i hik
      refine ⟨g1, c1, by rw [List.getElem?_append_left (by omega)]; exact k1, ?_, ?_⟩
      · have e : rw_ (m ++ [r]) i = rw_ m i := by
          unfold rw_
          rw [List.getD_eq_getElem?_getD, List.getElem?_append_left (by rw [h.lm]; exact hik)]; rfl
        rw [e]
        exact own_keepT (k2.keep hf (by simp)) hl1 (by decide) hgr
      · have e : rw_ (m ++ [r]) i = rw_ m i := by
          unfold rw_
          rw [List.getD_eq_getElem?_getD, List.getElem?_append_left (by rw [h.lm]; exact hik)]; rfl
        rw [e]; exact k3
    · obtain rfl : i = k := by omega
      have e : rw_ (m ++ [r]) i = r := by
        unfold rw_
        rw [List.getD_eq_getElem?_getD, List.getElem?_append_right (by rw [h.lm]; exact Nat.le_refl _), h.lm, Nat.sub_self]; rfl
      refine ⟨g, c, by rw [List.getElem?_append_right (by omega), hl, Nat.sub_self]; rfl, ?_, by rw [e]; exact hr⟩
      rw [e]
      exact own_keepT ho hl1 (by decide) hgr
  · have hold : ∀ j gj cj, (us ++ [slW g W c])[j]? = some (slW gj W cj) → (j < k ∧ us[j]? = some (slW gj W cj) ∧ gj < w.heap.size) ∨ (j = k ∧ gj = g) := fun j gj cj hj => by
      rcases Nat.lt_or_ge j k with hjk | hjk
      · rw [List.getElem?_append_left (by omega)] at hj
        refine .inl ⟨hjk, hj, ?_⟩
        obtain ⟨g1, c1, k1, -, -, -, -, -, k2, -⟩ := h.row hW j hjk
        rw [hj] at k1
        unfold slW at k1
        cases k1
        exact k2
      · rw [List.getElem?_append_right (by omega)] at hj
        have h0 : j - us.length = 0 := by have := (List.getElem?_eq_some_iff.1 hj).1; simp at this; omega
        rw [h0] at hj
        simp only [List.getElem?_cons_zero, Option.some.injEq] at hj
        unfold slW at hj
        cases hj
        exact .inr ⟨by omega, rfl⟩
    rcases hold a ga ca ha with ⟨a1, a2, a3⟩ | ⟨a1, a2⟩ <;> rcases hold b gb cb hb with ⟨b1, b2, b3⟩ | ⟨b1, b2⟩
    · exact h.apart a b ga ca gb cb a2 b2 hne
    · omega
    · omega
    · omega
theorem Mat.grownI {B : Nat} {w w' : World} {lb n lc W : Nat} {us : List Value} {m : List (List UInt8)} (h : Mat B w lb n lc W us m) {base : Nat} {v : Value} {xs : List Int} (ho : OwnI 3 base w v xs) (hg : w.grownBy w' v.ownBlock) : Mat B w' lb n lc W us m := by
  have hf : Fr v.ownBlock.toList w w' := Fr.grown hg (by intro k hk; simp [hk])
  refine ⟨own_keep h.list hf ?_, h.ln, h.lm, fun i hi => ?_, h.apart⟩
  · intro g hg1 hg2
    simp only [slW, Value.ownBlock, Option.some.injEq] at hg1
    subst hg1
    obtain ⟨cur, k1, -, -, -⟩ := own_blkV h.list
    exact own_neT ho k1 (by decide) (by simpa using hg2)
  · obtain ⟨g, c, k1, k2, k3⟩ := h.rows i hi
    refine ⟨g, c, k1, own_keep k2 hf ?_, k3⟩
    intro g' hg1 hg2
    simp only [slW, Value.ownBlock, Option.some.injEq] at hg1
    subst hg1
    obtain ⟨cur, q1, -, -, -⟩ := own_blk k2
    exact own_neT ho q1 (by decide) (by simpa using hg2)
theorem Tryz.infoIntS : (Tryz.prog.info? 3).map (fun i => (i.zero, i.size, i.bytes)) = some (some (.int .i64 0), 1, 8) := by kernel_rfl
theorem made_zeros2 (n : Nat) : (madeCells #[.int .u8 0] n).toList = (List.replicate n (0 : UInt8)).map u8v := by
  apply List.ext_getElem
  · simp [madeCells]
  · intro i h1 h2
    simp [madeCells, u8v, Nat.mod_one]
theorem own_neT2 {e te : TypeId} {base size n b : Nat} {w : World} {v : Value} {xs : List Value} {c : Array Value} {fz : Nat × Nat} (h : w.ownsRow base e size v n xs) (hb : At w b (.cells c te fz)) (hne : te ≠ e) : v.ownBlock = some b → False := by
  intro hg
  rcases h.2 with ⟨rfl, -⟩ | ⟨g, cap, cur, rfl, hbg, hh, -⟩
  · simp [Value.ownBlock] at hg
  · simp [Value.ownBlock] at hg
    subst hg
    have := hh.symm.trans hb
    simp at this
    exact hne this.2.1.symm
set_option maxRecDepth 100000 in
set_option maxHeartbeats 16000000 in
theorem solve_any (w : World) (v : Value) (ls : List (Value × List UInt8)) (many : Nat) (hv : RdB (fun _ => False) w v ls) (hWW : ∀ x ∈ ls, x.2.length = many + 1) (hm : many ≤ 60) (hn : ls.length ≤ 60) :
    Calls Tryz.prog 60 #[v, .int .i64 many] w fun e w' => ((e = .returned (.tuple #[.slice none 0 0, .bool false]) ∧ ∀ x, ¬ sol many (ls.map (·.2)) x) ∨
      ∃ u x, e = .returned (.tuple #[u, .bool true]) ∧ OwnB 5 w.heap.size w' u x ∧ x.length = many ∧ sol many (ls.map (·.2)) (cf x)) ∧ Fr [] w w' := by
  have HV := Lib.hid hv
  obtain ⟨a, cap, rfl, c2, c3⟩ := rdb_shape hv
  unfold maxLen at c3
  obtain ⟨N, hN⟩ : ∃ N, ls.length = N := ⟨_, rfl⟩
  rw [hN] at HV c2 hn ⊢
  have HN := Lib.hid hN
  have HWW := Lib.hid hWW
  obtain ⟨W, hWm⟩ : ∃ W, W = many + 1 := ⟨_, rfl⟩
  have hW : 0 < W := by omega
  rw [← hWm] at HWW
  have HWM := Lib.hid hWm
  have hW1 : many < W := by omega
  have hW2 : W ≤ many + 1 := by omega
  obtain ⟨rows, hrows⟩ : ∃ rows, ls.map (·.2) = rows := ⟨_, rfl⟩
  have HRW := Lib.hid hrows
  have HRL := Lib.hid (show rows.length = N by rw [← hrows, List.length_map, hN])
  have HRI := Lib.hid (show ∀ i, i < rows.length → (rw_ rows i).length = many + 1 from fun i hi => by
    obtain ⟨x, hx, e⟩ := List.mem_map.1 (show rw_ rows i ∈ ls.map (·.2) by rw [hrows]; exact rw_mem hi)
    rw [← e]; exact hWW x hx)
  rw [hrows]
  obtain ⟨B, hB⟩ : ∃ B, w.heap.size = B := ⟨_, rfl⟩
  have HBB := Lib.hid hB
  have HM0 := Lib.hid (show Mat B (w.alloc (.cells #[] 22)) B 0 0 W [] (rows.take 0) from by
    refine ⟨?_, rfl, by simp, fun i hi => by omega, fun i k g c g' c' h => by simp at h⟩
    have h := OwnV.lit 22 B w #[] (by omega) (by simp [maxLen])
    rw [hB] at h
    exact h)
  have HF0 := Lib.hid (show Fr [] w (w.alloc (.cells #[] 22)) from Fr.alloc _ _)
  have hb0 : B ≤ (w.alloc (.cells #[] 22)).heap.size := by simp; omega
  clear hv hN hWW hrows hWm
  go_enter Tryz.func60, Tryz.ntmps60
  go_wp2
  clear hB
  go_loopw [6, 25] (fun mv i wr => ∃ (k lb lc : Nat) (us : List Value), k ≤ N ∧ i = .int .i64 k ∧ mv = .slice (some ⟨lb, 0, none⟩) k lc ∧ B ≤ wr.heap.size ∧ Hid (Mat B wr lb k lc W us (rows.take k)) ∧ Hid (Fr [] w wr)) (fun _ i _ => N - (intOf i).toNat)
  case atStart => exact ⟨0, B, 0, [], Nat.zero_le _, rfl, rfl, hb0, HM0, HF0⟩
  case round =>
    clear HM0 HF0 hb0
    obtain ⟨k, lb, lc, us, hk, rfl, rfl, hBw, HM, HF⟩ := hrel
    by_cases hkn : k < N
    · obtain ⟨x, hx⟩ : ∃ x, ls[k]? = some x := ⟨_, List.getElem?_eq_getElem (by have := HN.out; omega)⟩
      obtain ⟨b1, o1, rfl, hcx, hbx⟩ := rdb_cell (HV.out.keep HF.out (by simp)) k x hx
      have h8 := HWW.out x (List.mem_of_getElem? hx)
      obtain ⟨xv, row⟩ := x
      simp only at hcx hbx h8
      have HRK := Lib.hid (show rows.take (k + 1) = rows.take k ++ [row] by
        rw [List.take_add_one, ← HRW.out, List.getElem?_map, hx]; rfl)
      obtain ⟨xa, xc, rfl, x2, x3, -⟩ := id hbx
      rw [h8] at hbx x2 hcx
      unfold maxLen at x3
      obtain ⟨BW, hBW⟩ : ∃ BW, wr.heap.size = BW := ⟨_, rfl⟩
      have hBB : B ≤ BW := by omega
      have hfa : Fr [] wr (wr.alloc (.cells #[] 5)) := Fr.alloc _ _
      have HE := Lib.hid (show OwnB 5 BW (wr.alloc (.cells #[] 5)) (.slice (some ⟨BW, 0, none⟩) 0 0) [] by
        have h := OwnB.empty 5 BW wr (by omega)
        rwa [hBW] at h)
      have HSL := Lib.hid (hbx.keep hfa (by simp))
      have H8 := Lib.hid h8
      have hbs : BW ≤ (wr.alloc (.cells #[] 5)).heap.size := by simp; omega
      clear h8 hx hbx
      go_wp2_with (at_builtin; refine wpl_append_bs (A := fun _ => False) (ys := row) (base := BW) Tryz.underlying22 Tryz.infoByte rfl (.tmp 30) (.tmp 31) rfl rfl rfl HE.out HSL.out (by simp [H8.out]; omega) hbs ?_)
      intro v5 w5 h5 h6
      have HO5 := Lib.hid (show OwnB 5 BW w5 v5 row by simpa using h5)
      have hf5 : Fr [] wr w5 := OwnB.fr HE.out hfa h6 (by omega)
      obtain ⟨g5, c5, rfl, g50, -⟩ := HO5.out.shape (by rw [H8.out]; omega)
      have hs5 : BW ≤ w5.heap.size := by have := hf5.size; omega
      rw [H8.out] at HO5 ⊢
      obtain ⟨W5, hW5⟩ : ∃ W5, w5.heap.size = W5 := ⟨_, rfl⟩
      rw [hW5] at hs5
      have hf6 : Fr [] w5 (w5.alloc (.cells #[.slice (some ⟨g5, 0, none⟩) W c5] 22)) := Fr.alloc _ _
      have HL6 := Lib.hid (show (w5.alloc (.cells #[.slice (some ⟨g5, 0, none⟩) W c5] 22)).heap[W5]? = some (.cells #[.slice (some ⟨g5, 0, none⟩) W c5] 22 (0, 0)) from heap_alloc_at hW5.symm)
      have HF6 := Lib.hid (hf5.trans hf6)
      have HO6 := Lib.hid (show OwnB 5 B (w5.alloc (.cells #[.slice (some ⟨g5, 0, none⟩) W c5] 22)) (slW g5 W c5) row from (HO5.out.keep hf6 (by simp)).base hBB)
      have HV6 := Lib.hid (HM.out.list.keep0 HF6.out)
      have hul : us.length ≤ 60 := by rw [HM.out.ln]; omega
      have hs6 : B ≤ (w5.alloc (.cells #[.slice (some ⟨g5, 0, none⟩) W c5] 22)).heap.size := by simp; omega
      have HG5 := Lib.hid (show wr.heap.size ≤ g5 by omega)
      clear h5 h6 hf5 hf6 HE HSL hfa hbs hcx
      go_wp2_with (at_builtin; refine wpl_append_1 Tryz.underlying41 Tryz.infoBytes rfl rfl (.tmp 29) (.tmp 33) rfl rfl rfl HL6.out rfl HV6.out (by omega) (by unfold maxLen; omega) hs6 ?_)
      intro v7 w7 h7 h8
      obtain ⟨lb', lc', rfl, hm7⟩ := Mat.snoc HM.out hW HF6.out HG5.out HO6.out H8.out h7 h8
      have HM7 := Lib.hid (show Mat B w7 lb' (k + 1) lc' W _ (rows.take (k + 1)) by rw [HRK.out]; exact hm7)
      have HF7 := Lib.hid (show Fr [] w w7 from OwnV.fr HV6.out (HF.out.trans HF6.out) h8 (by have := HBB.out; omega))
      have hsz7 : B ≤ w7.heap.size := by have := h8.size; omega
      clear h7 h8 hm7 HM HF HO5 HL6 HF6 HO6 HV6 hs6 HG5
      unfold slW
      go_wp2
      go_roundw
      case rel => exact ⟨k + 1, lb', lc', _, by omega, by go_num, rfl, hsz7, HM7, HF7⟩
      case measure => simp [intOf]; omega
    · obtain rfl : N = k := by omega
      have HM2 := Lib.hid (show Mat B wr lb N lc W us rows by have h := HM.out; rwa [List.take_of_length_le (by have := HRL.out; omega)] at h)
      have HG2 := Lib.hid (GS.start HRI.out)
      have hfa : Fr [] wr (wr.alloc (.cells #[] 3)) := Fr.alloc _ _
      have HL2 := Lib.hid (show OwnI 3 B (wr.alloc (.cells #[] 3)) (.slice (some ⟨wr.heap.size, 0, none⟩) 0 0) (([] : List Nat).map fun x : Nat => (x : Int)) from OwnV.lit 3 B wr #[] hBw (by simp [maxLen]))
      have HM3 := Lib.hid (HM2.out.keep0 hfa)
      have HF3 := Lib.hid (HF.out.trans hfa)
      have hb3 : B ≤ (wr.alloc (.cells #[] 3)).heap.size := by simp; omega
      clear HM HM2 HF hfa
      go_wp2
      go_loopw [9, 10, 11] (fun lv ai ci wr => ∃ (at_ c : Nat) (lead : List Nat) (us : List Value) (m : List (List UInt8)), ai = .int .i64 at_ ∧ ci = .int .i64 c ∧ c ≤ many ∧ at_ ≤ N ∧ B ≤ wr.heap.size ∧ Hid (GS many rows c at_ m lead) ∧ Hid (Mat B wr lb N lc W us m) ∧
        Hid (OwnI 3 B wr lv (lead.map fun x : Nat => (x : Int))) ∧ Hid (Fr [] w wr)) (fun _ _ ci _ => many - (intOf ci).toNat)
      case atStart => exact ⟨0, 0, [], us, rows, rfl, rfl, Nat.zero_le _, Nat.zero_le _, hb3, HG2, HM3, HL2, HF3⟩
      case round =>
        clear HG2 HM3 HL2 HF3 hb3
        obtain ⟨at_, c, lead, us, m, rfl, rfl, hcm, han, hBl, HG, HM, HL, HF⟩ := hrel
        obtain ⟨wl, rfl⟩ : ∃ wl, wl = wr := ⟨wr, rfl⟩
        by_cases hcc : c < many
        · have hcci : (c : Int) < many := by omega
          by_cases hat : at_ < N
          · have hati : (at_ : Int) < N := by omega
            go_wp2
            go_loopw [12] (fun ki wr => ∃ k : Nat, at_ ≤ k ∧ k ≤ N ∧ ki = .int .i64 k ∧ Hid (∀ r, at_ ≤ r → r < k → cf (rw_ m r) c = 0) ∧ Hid (Fr [] wl wr)) (fun ki _ => N - (intOf ki).toNat)
            case atStart => exact ⟨at_, Nat.le_refl _, han, rfl, Lib.hid (fun r h1 h2 => by omega), Lib.hid (Fr.refl _ _)⟩
            case round =>
              obtain ⟨k, hak, hkN, rfl, HZ, HFk⟩ := hrel
              obtain ⟨wk, rfl⟩ : ∃ wk, wk = wr := ⟨wr, rfl⟩
              have HMk := Lib.hid (HM.out.keep0 HFk.out)
              by_cases hkn : k < N
              · have hkni : (k : Int) < N := by omega
                obtain ⟨g, gc, hu, hcell, ho, hwl, hlg, hBg, hgw, hgc1, hgc2⟩ := HMk.out.row hW k hkn
                unfold slW at hcell ho
                have hcb := own_cellB ho (i := c) (by omega)
                obtain ⟨y, hy⟩ : ∃ y, cf (rw_ m k) c = y := ⟨_, rfl⟩
                rw [show (rw_ m k).getD c 0 = y from hy] at hcb
                by_cases hy0 : y = 0
                · subst hy0
                  have HZ2 := Lib.hid (show ∀ r, at_ ≤ r → r < k + 1 → cf (rw_ m r) c = 0 from fun r h1 h2 => by
                    rcases Nat.lt_or_ge r k with h | h
                    · exact HZ.out r h1 h
                    · obtain rfl : r = k := by omega
                      exact hy)
                  clear HZ hu ho hy
                  go_wp2
                  go_roundw
                  case rel => exact ⟨k + 1, by omega, by omega, by go_num, HZ2, HFk⟩
                  case measure => simp [intOf]; omega
                · have hy0u : ((y.toNat : Int) == 0) = false := by rw [beq_eq_false_iff_ne]; intro e; exact hy0 (UInt8.toNat_inj.1 (show y.toNat = 0 by omega))
                  have hkne : ((k : Int) == (N : Int)) = false := by rw [beq_eq_false_iff_ne]; omega
                  have HPV := Lib.hid (show cf (rw_ m k) c ≠ 0 by rw [hy]; exact hy0)
                  obtain ⟨g2, gc2, hu2, -, -, -, -, -, -, -, -⟩ := HMk.out.row hW at_ hat
                  have HU := Lib.hid hu
                  have HU2 := Lib.hid hu2
                  clear ho hu hu2
                  go_wp2_with fail
                  refine sol_swap wk _ rfl lb N lc at_ k B us (slW g2 W gc2) (slW g W gc) HMk.out.list HMk.out.ln hkn hat HU.out HU2.out rfl rfl rfl rfl rfl _ ?_
                  intro b p k1 k2 k3 hf hlist
                  obtain ⟨f, hb⟩ := putsX b _ _ k1 k2 k3
                  have HM1 := Lib.hid (Mat.swap HMk.out hW hat hkn HU2.out HU.out hf hlist)
                  obtain ⟨us1, hus1⟩ : ∃ us1, (us.set at_ (slW g W gc)).set k (slW g2 W gc2) = us1 := ⟨_, rfl⟩
                  obtain ⟨m1, hm1⟩ : ∃ m1, swapR m at_ k = m1 := ⟨_, rfl⟩
                  rw [hus1, hm1] at HM1
                  have HSW := Lib.hid hm1
                  have HF1 := Lib.hid ((HF.out.trans HFk.out).then hf (by intro b hb; simp at hb; have := HMk.out.list; have := (this.lt lb (by simp [slW, Value.ownBlock])).1; have := HBB.out; omega))
                  have hB1 : B ≤ p.heap.size := by have := hf.size; have := HFk.out.size; omega
                  have HL1 := Lib.hid (show OwnI 3 B p u9 (lead.map fun x : Nat => (x : Int)) from by
                    refine own_keep (OwnI.keep0 HL.out HFk.out) hf ?_
                    intro g' hg' hg2
                    obtain ⟨cur, e1, -, -, -⟩ := own_blkV HMk.out.list
                    simp only [List.mem_singleton] at hg2
                    subst hg2
                    exact own_neT2 (OwnI.keep0 HL.out HFk.out) e1 (by decide) hg')
                  clear k1 k2 k3 hf hlist hcell hcb hus1 hm1 HMk HU HU2 HM HF HL HFk HZ
                  subst hb
                  simp only [List.foldl_cons, List.foldl_nil, Go.Act.put, List.setIfInBounds_toArray, List.set_cons_succ, List.set_cons_zero]
                  obtain ⟨g1, gc1, hu, hcell, ho, hwl1, hlg1, hBg1, hgw1, hgc3, hgc4⟩ := HM1.out.row hW at_ hat
                  unfold slW at hcell ho
                  obtain ⟨r0, hr0⟩ : ∃ r0, rw_ m1 at_ = r0 := ⟨_, rfl⟩
                  rw [hr0] at ho hwl1
                  have hcb := own_cellB ho (i := c) (by omega)
                  obtain ⟨y1, hy1⟩ : ∃ y1, cf r0 c = y1 := ⟨_, rfl⟩
                  rw [show r0.getD c 0 = y1 from hy1] at hcb
                  have HR0 := Lib.hid hr0
                  have HY1 := Lib.hid hy1
                  have HWL := Lib.hid hwl1
                  clear ho hu hr0 hy1 hwl1
                  go_wp2_with fail
                  refine (rinv_any p y1).mono ?_
                  rintro e w5 ⟨rfl, hf⟩
                  obtain ⟨b5, hb5⟩ : ∃ b5, ginv y1 = b5 := ⟨_, rfl⟩
                  have HB5 := Lib.hid hb5
                  rw [hb5]
                  have HM5 := Lib.hid (show Mat B w5 lb N lc W us1 (m1.set at_ (rowScale b5 0 r0)) from by
                    rw [rowScale_zero, ← HR0.out]
                    have e : m1.set at_ (rw_ m1 at_) = m1 := rows_ext (by simp) fun i hi => by
                      rw [List.length_set] at hi
                      rw [rw_set _ _ _ _ (by rw [HM1.out.lm]; exact hat)]
                      split
                      · rename_i h; rw [h]
                      · rfl
                    rw [e]
                    exact HM1.out.keep0 hf)
                  have HF5 := Lib.hid (HF1.out.trans hf)
                  have HL5 := Lib.hid (OwnI.keep0 HL1.out hf)
                  have hB5 : B ≤ w5.heap.size := by have := hf.size; omega
                  have hcell5 := cell_mono hf hcell
                  have HLM := Lib.hid (show m1.length = N from HM1.out.lm)
                  clear hf hcell hcb hb5 HM1 HF1 HL1
                  go_wp2
                  clear hcell5
                  go_loopw [96] (fun ji wr => ∃ j : Nat, j ≤ W ∧ ji = .int .i64 j ∧ B ≤ wr.heap.size ∧ Hid (Mat B wr lb N lc W us1 (m1.set at_ (rowScale b5 j r0))) ∧ Hid (OwnI 3 B wr u9 (lead.map fun x : Nat => (x : Int))) ∧ Hid (Fr [] w wr)) (fun ji _ => W - (intOf ji).toNat)
                  case atStart => exact ⟨0, Nat.zero_le _, rfl, hB5, HM5, HL5, HF5⟩
                  case round =>
                    clear HM5 HL5 HF5 hB5
                    obtain ⟨j, hj, rfl, hBj, HM, HL, HF⟩ := hrel
                    obtain ⟨wj, rfl⟩ : ∃ wj, wj = wr := ⟨wr, rfl⟩
                    by_cases hjW : j < W
                    · have hjWi : (j : Int) < W := by omega
                      obtain ⟨g3, gc3, hu3, hcell3, ho3, hwl3, hlg3, hBg3, hgw3, -, -⟩ := HM.out.row hW at_ hat
                      have hrw : rw_ (m1.set at_ (rowScale b5 j r0)) at_ = rowScale b5 j r0 := by rw [rw_set _ _ _ _ (by rw [HLM.out]; exact hat), if_pos rfl]
                      rw [hrw] at ho3 hwl3
                      have HST := Lib.hid (rowScale_step b5 j r0 (by rw [HWL.out]; exact hjW))
                      obtain ⟨row, hrow⟩ : ∃ row, rowScale b5 j r0 = row := ⟨_, rfl⟩
                      have HU3 := Lib.hid hu3
                      have HM' := Lib.hid (show Mat B wj lb N lc W us1 (m1.set at_ row) by rw [← hrow]; exact HM.out)
                      rw [hrow] at ho3 hwl3 HST
                      have HO3 := Lib.hid ho3
                      have HC3 := Lib.hid hcell3
                      clear hu3 ho3 hcell3 hrw hrow HM
                      go_wp2_with fail
                      refine sol_scale wj _ rfl lb N lc at_ g3 W gc3 j B row b5 HO3.out hwl3 hat hjW HC3.out hlg3 rfl rfl rfl rfl _ ?_
                      intro b p k1 k2 k3 hf ho
                      obtain ⟨f, hb⟩ := putsX b _ _ k1 k2 k3
                      have HM2 := Lib.hid (show Mat B p lb N lc W us1 (m1.set at_ (rowScale b5 (j + 1) r0)) from by
                        have h := HM'.out.set hW hat HU3.out hf ho (by rw [List.length_set]; exact hwl3)
                        rw [List.set_set, HST.out] at h
                        exact h)
                      have HF2 := Lib.hid (HF.out.then hf (by intro b hb; simp at hb; have := HBB.out; omega))
                      have HL2 := Lib.hid (show OwnI 3 B p u9 (lead.map fun x : Nat => (x : Int)) from by
                        refine own_keep HL.out hf ?_
                        intro g' hg' hg2
                        obtain ⟨cur, e1, -, -, -⟩ := own_blk HO3.out
                        simp only [List.mem_singleton] at hg2
                        subst hg2
                        exact own_neT2 HL.out e1 (by decide) hg')
                      have hB2 : B ≤ p.heap.size := by have := hf.size; omega
                      clear k1 k2 k3 hf ho HM' HU3 HO3 HC3 HF HL HST hwl3
                      subst hb
                      simp only [List.foldl_cons, List.foldl_nil, Go.Act.put, List.setIfInBounds_toArray, List.set_cons_succ, List.set_cons_zero]
                      go_wp2
                      go_roundw
                      case rel => exact ⟨j + 1, by omega, by go_num, hB2, HM2, HL2, HF2⟩
                      case measure => simp [intOf]; omega
                    · have hjWi : ¬ (j : Int) < W := by omega
                      have hjW2 : j = W := by omega
                      obtain ⟨pv, hpv⟩ : ∃ pv, rowScale b5 W r0 = pv := ⟨_, rfl⟩
                      have HPVR := Lib.hid hpv
                      obtain ⟨m2, hm2⟩ : ∃ m2, m1.set at_ pv = m2 := ⟨_, rfl⟩
                      have HM2D := Lib.hid hm2
                      have HMb := Lib.hid (show Mat B wj lb N lc W us1 (elimK at_ c pv 0 m2) from by
                        have h := HM.out
                        rw [hjW2] at h
                        rw [elimK_zero, ← hm2, ← hpv]
                        exact h)
                      have HLM2 := Lib.hid (show m2.length = N by rw [← hm2, List.length_set, HLM.out])
                      have HPL := Lib.hid (show pv.length = W by rw [← hpv, rowScale_len, HWL.out])
                      have HPR := Lib.hid (show rw_ m2 at_ = pv by rw [← hm2, rw_set _ _ _ _ (by rw [HLM.out]; exact hat), if_pos rfl])
                      have HWM2 := Lib.hid (show ∀ i, i < N → (rw_ m2 i).length = W from fun i hi => by
                        have h := HMb.out
                        rw [elimK_zero] at h
                        obtain ⟨g, gc, -, -, h3⟩ := h.rows i hi
                        exact h3)
                      clear hjW2 hpv hm2 HM
                      go_wp2
                      go_loopw [117] (fun ii wr => ∃ i : Nat, i ≤ N ∧ ii = .int .i64 i ∧ B ≤ wr.heap.size ∧ Hid (Mat B wr lb N lc W us1 (elimK at_ c pv i m2)) ∧ Hid (OwnI 3 B wr u9 (lead.map fun x : Nat => (x : Int))) ∧ Hid (Fr [] w wr)) (fun ii _ => N - (intOf ii).toNat)
                      case atStart => exact ⟨0, Nat.zero_le _, rfl, hBj, HMb, HL, HF⟩
                      case round =>
                        clear HMb HL HF hBj
                        obtain ⟨i, hi, rfl, hBi, HM, HL, HF⟩ := hrel
                        obtain ⟨wi, rfl⟩ : ∃ wi, wi = wr := ⟨wr, rfl⟩
                        by_cases hiN : i < N
                        · have hiNi : (i : Int) < N := by omega
                          obtain ⟨gi, gci, hui, hcelli, hoi, hwli, hlgi, hBgi, hgwi, -, -⟩ := HM.out.row hW i hiN
                          have hrwi : rw_ (elimK at_ c pv i m2) i = rw_ m2 i := by rw [elimK_rw _ _ _ _ _ _ (by rw [HLM2.out]; exact hiN), if_neg (by omega)]
                          rw [hrwi] at hoi hwli
                          obtain ⟨r1, hr1⟩ : ∃ r1, rw_ m2 i = r1 := ⟨_, rfl⟩
                          have HR1 := Lib.hid hr1
                          rw [hr1] at hoi hwli
                          have HWI := Lib.hid hwli
                          unfold slW at hcelli hoi
                          have hcbi := own_cellB hoi (i := c) (by omega)
                          obtain ⟨f1, hf1⟩ : ∃ f1, cf r1 c = f1 := ⟨_, rfl⟩
                          rw [show r1.getD c 0 = f1 from hf1] at hcbi
                          have HF1' := Lib.hid hf1
                          clear hui hoi hrwi hr1 hf1 hwli
                          by_cases hskip : i = at_ ∨ f1 = 0
                          · have HSK := Lib.hid (elimK_skip at_ c pv i m2 (by rw [HLM2.out]; exact hiN) (by rw [HR1.out, HF1'.out]; exact hskip))
                            have HM2 := Lib.hid (show Mat B wi lb N lc W us1 (elimK at_ c pv (i + 1) m2) by rw [HSK.out]; exact HM.out)
                            clear HM HSK
                            by_cases hia : i = at_
                            · subst hia
                              go_wp2
                              go_roundw
                              case rel => exact ⟨i + 1, by omega, by go_num, hBi, HM2, HL, HF⟩
                              case measure => simp [intOf]; omega
                            · have hiai : ((i : Int) == (at_ : Int)) = false := by rw [beq_eq_false_iff_ne]; omega
                              obtain rfl : f1 = 0 := by rcases hskip with h | h; exact absurd h hia; exact h
                              go_wp2
                              go_roundw
                              case rel => exact ⟨i + 1, by omega, by go_num, hBi, HM2, HL, HF⟩
                              case measure => simp [intOf]; omega
                          · have hia : i ≠ at_ := fun h => hskip (.inl h)
                            have hf0 : f1 ≠ 0 := fun h => hskip (.inr h)
                            have hiai : ((i : Int) == (at_ : Int)) = false := by rw [beq_eq_false_iff_ne]; omega
                            have hf0u : ((f1.toNat : Int) == 0) = false := by rw [beq_eq_false_iff_ne]; intro e; exact hf0 (UInt8.toNat_inj.1 (show f1.toNat = 0 by omega))
                            have HSP := Lib.hid (elimK_step at_ c pv i m2 (by rw [HLM2.out]; exact hiN) hia)
                            have HM0 := Lib.hid (show Mat B wi lb N lc W us1 ((elimK at_ c pv i m2).set i (rowElim f1 pv 0 r1)) from by
                              have e : (elimK at_ c pv i m2).set i (rowElim f1 pv 0 r1) = elimK at_ c pv i m2 := rows_ext (by simp) fun k hk => by
                                rw [List.length_set, elimK_len] at hk
                                rw [rw_set _ _ _ _ (by rw [elimK_len, HLM2.out]; exact hiN)]
                                split
                                · rename_i h
                                  rw [h, rowElim_zero, elimK_rw _ _ _ _ _ _ (by rw [HLM2.out]; exact hiN), if_neg (by omega), HR1.out]
                                · rfl
                              rw [e]
                              exact HM.out)
                            clear HM hskip
                            go_wp2
                            clear hcelli hcbi
                            go_loopw [139] (fun ji wr => ∃ j : Nat, j ≤ W ∧ ji = .int .i64 j ∧ B ≤ wr.heap.size ∧ Hid (Mat B wr lb N lc W us1 ((elimK at_ c pv i m2).set i (rowElim f1 pv j r1))) ∧ Hid (OwnI 3 B wr u9 (lead.map fun x : Nat => (x : Int))) ∧ Hid (Fr [] w wr)) (fun ji _ => W - (intOf ji).toNat)
                            case atStart => exact ⟨0, Nat.zero_le _, rfl, hBi, HM0, HL, HF⟩
                            case round =>
                              clear HM0 HL HF hBi
                              obtain ⟨j, hj, rfl, hBj, HM, HL, HF⟩ := hrel
                              obtain ⟨wj, rfl⟩ : ∃ wj, wj = wr := ⟨wr, rfl⟩
                              by_cases hjW : j < W
                              · have hjWi : (j : Int) < W := by omega
                                obtain ⟨g3, gc3, hu3, hcell3, ho3, hwl3, hlg3, hBg3, hgw3, -, -⟩ := HM.out.row hW i hiN
                                obtain ⟨g4, gc4, hu4, hcell4, ho4, hwl4, hlg4, hBg4, hgw4, -, -⟩ := HM.out.row hW at_ hat
                                have hne43 : g4 ≠ g3 := HM.out.apart at_ i g4 gc4 g3 gc3 hu4 hu3 (Ne.symm hia)
                                have hrw : rw_ ((elimK at_ c pv i m2).set i (rowElim f1 pv j r1)) i = rowElim f1 pv j r1 := by rw [rw_set _ _ _ _ (by rw [elimK_len, HLM2.out]; exact hiN), if_pos rfl]
                                have hrw4 : rw_ ((elimK at_ c pv i m2).set i (rowElim f1 pv j r1)) at_ = pv := by
                                  rw [rw_set _ _ _ _ (by rw [elimK_len, HLM2.out]; exact hiN), if_neg (Ne.symm hia), elimK_rw _ _ _ _ _ _ (by rw [HLM2.out]; exact hat), if_neg (by omega), HPR.out]
                                rw [hrw] at ho3 hwl3
                                rw [hrw4] at ho4
                                unfold slW at ho4
                                have hyc := own_cellB ho4 (i := j) (by rw [HPL.out]; exact hjW)
                                have HST := Lib.hid (rowElim_step f1 pv j r1 (by rw [HWI.out]; exact hjW))
                                obtain ⟨row, hrow⟩ : ∃ row, rowElim f1 pv j r1 = row := ⟨_, rfl⟩
                                have HU3 := Lib.hid hu3
                                have HM' := Lib.hid (show Mat B wj lb N lc W us1 ((elimK at_ c pv i m2).set i row) by rw [← hrow]; exact HM.out)
                                rw [hrow] at ho3 hwl3 HST
                                have HO3 := Lib.hid ho3
                                have HC3 := Lib.hid hcell3
                                have HC4 := Lib.hid hcell4
                                have HYC := Lib.hid hyc
                                clear hu3 ho3 hcell3 hrw hrow HM hu4 ho4 hcell4 hrw4 hyc
                                go_wp2_with fail
                                refine sol_elim wj _ rfl lb N lc at_ g3 W gc3 g4 W gc4 i j B row f1 (cf pv j) HO3.out hwl3 hat hiN hjW hjW HC3.out HC4.out HYC.out hlg3 hne43 rfl rfl rfl rfl rfl _ ?_
                                intro b p k1 k2 k3 hf ho
                                obtain ⟨f, hb⟩ := putsX b _ _ k1 k2 k3
                                have HM2 := Lib.hid (show Mat B p lb N lc W us1 ((elimK at_ c pv i m2).set i (rowElim f1 pv (j + 1) r1)) from by
                                  have h := HM'.out.set hW hiN HU3.out hf ho (by rw [List.length_set]; exact hwl3)
                                  rw [List.set_set, HST.out] at h
                                  exact h)
                                have HF2 := Lib.hid (HF.out.then hf (by intro b hb; simp at hb; have := HBB.out; omega))
                                have HL2 := Lib.hid (show OwnI 3 B p u9 (lead.map fun x : Nat => (x : Int)) from by
                                  refine own_keep HL.out hf ?_
                                  intro g' hg' hg2
                                  obtain ⟨cur, e1, -, -, -⟩ := own_blk HO3.out
                                  simp only [List.mem_singleton] at hg2
                                  subst hg2
                                  exact own_neT2 HL.out e1 (by decide) hg')
                                have hB2 : B ≤ p.heap.size := by have := hf.size; omega
                                clear k1 k2 k3 hf ho HM' HU3 HO3 HC3 HC4 HYC HF HL HST hwl3 hwl4
                                subst hb
                                simp only [List.foldl_cons, List.foldl_nil, Go.Act.put, List.setIfInBounds_toArray, List.set_cons_succ, List.set_cons_zero]
                                go_wp2
                                go_roundw
                                case rel => exact ⟨j + 1, by omega, by go_num, hB2, HM2, HL2, HF2⟩
                                case measure => simp [intOf]; omega
                              · have hjWi : ¬ (j : Int) < W := by omega
                                have HM2 := Lib.hid (show Mat B wj lb N lc W us1 (elimK at_ c pv (i + 1) m2) from by
                                  have h := HM.out
                                  rw [show j = W by omega] at h
                                  rw [← HSP.out, HR1.out, HF1'.out, HWI.out]
                                  exact h)
                                clear HM
                                go_wp2
                                go_roundw
                                case rel => exact ⟨i + 1, by omega, by go_num, hBj, HM2, HL, HF⟩
                                case measure => simp [intOf]; omega
                        · have hiNi : ¬ (i : Int) < N := by omega
                          have HMg := Lib.hid (show Mat B wi lb N lc W us1 (gsStep at_ c k m) from by
                            have h := HM.out
                            rw [show i = N by omega] at h
                            unfold gsStep
                            rw [HSW.out, HR0.out, HY1.out, HB5.out, HWL.out, HPVR.out, HM2D.out, show m.length = N from by rw [← HLM.out, ← HSW.out, swapR_len]]
                            exact h)
                          have HGg := Lib.hid (HG.out.step hcc hak (by rw [show m.length = N from by rw [← HLM.out, ← HSW.out, swapR_len]]; exact hkn) HPV.out)
                          clear HM HG
                          have hll : lead.length ≤ 60 := by
                            have h := HGg.out.ll
                            simp at h
                            omega
                          go_wp2_with (at_builtin; refine wpl_append_i Tryz.underlying23 Tryz.infoIntS rfl (.tmp 167) (.tmp 169) rfl rfl rfl HL.out (by simp; omega) hBi ?_)
                          intro v9 w9 h9 g9
                          have hfa9 : Fr [] wi (wi.alloc (.cells #[.int .i64 (c : Int)] 3)) := Fr.alloc _ _
                          have HLa := Lib.hid (OwnI.keep0 HL.out hfa9)
                          have HF9 := Lib.hid (OwnI.fr HLa.out (HF.out.trans hfa9) g9 (by have := HBB.out; omega))
                          have HM9 := Lib.hid (show Mat B w9 lb N lc W us1 (gsStep at_ c k m) from (HMg.out.keep0 hfa9).grownI HLa.out g9)
                          have HL9 := Lib.hid (show OwnI 3 B w9 v9 ((lead ++ [c]).map fun x : Nat => (x : Int)) by rw [List.map_append]; exact h9)
                          have hB9 : B ≤ w9.heap.size := by have := g9.size; have := hfa9.size; omega
                          clear h9 g9 hfa9 HLa HMg HL HF
                          go_wp2
                          go_roundw
                          case rel => exact ⟨at_ + 1, c + 1, lead ++ [c], us1, gsStep at_ c k m, by go_num, by go_num, by omega, by omega, hB9, HGg, HM9, HL9, HF9⟩
                          case measure => simp [intOf]; omega
              · have hkni : ¬ (k : Int) < N := by omega
                obtain rfl : N = k := by omega
                have HG2 := Lib.hid (HG.out.skip hcc (fun r h1 h2 => HZ.out r h1 (by rw [HMk.out.lm] at h2; exact h2)))
                have HL2 := Lib.hid (OwnI.keep0 HL.out HFk.out)
                have HF2 := Lib.hid (HF.out.trans HFk.out)
                have hB2 : B ≤ wk.heap.size := by have := HFk.out.size; omega
                clear HG HL HF HM HZ
                go_wp2
                go_roundw
                case rel => exact ⟨at_, c + 1, lead, us, m, rfl, by go_num, by omega, han, hB2, HG2, HMk, HL2, HF2⟩
                case measure => simp [intOf]; omega
          · have hati : ¬ (at_ : Int) < N := by omega
            have he : c = many ∨ at_ = m.length := by have := HM.out.lm; omega
            have HS := Lib.hid (HL.out.is (A := fun _ => False) (by simp))
            obtain ⟨la, lcp, rfl, l3, l4, hlc⟩ := HS.out.shape
            have hlen : (lead.map fun x : Nat => (x : Int)).length = at_ := by rw [List.length_map, HG.out.ll]
            rw [hlen] at hlc l3 HS
            unfold maxLen at l4
            have HE := Lib.hid he
            have HLC := Lib.hid hlc
            rw [hlen]
            clear he hlc HL hlen
            go_wp2
            go_loopw [18] (fun ii wr => ∃ i : Nat, at_ ≤ i ∧ i ≤ N ∧ ii = .int .i64 i ∧ Hid (∀ r, at_ ≤ r → r < i → cf (rw_ m r) many = 0) ∧ Hid (Fr [] wl wr)) (fun ii _ => N - (intOf ii).toNat)
            case atStart => exact ⟨at_, Nat.le_refl _, han, rfl, Lib.hid (fun r h1 h2 => by omega), Lib.hid (Fr.refl _ _)⟩
            case round =>
              obtain ⟨i, hai, hiN, rfl, HZ, HFi⟩ := hrel
              obtain ⟨wi, rfl⟩ : ∃ wi, wi = wr := ⟨wr, rfl⟩
              have HMi := Lib.hid (HM.out.keep0 HFi.out)
              by_cases hin : i < N
              · have hini : (i : Int) < N := by omega
                obtain ⟨g, gc, hu, hcell, ho, hwl, hlg, hBg, hgw, hgc1, hgc2⟩ := HMi.out.row hW i hin
                unfold slW at hcell ho
                have hcb := own_cellB ho (i := many) (by omega)
                obtain ⟨y, hy⟩ : ∃ y, cf (rw_ m i) many = y := ⟨_, rfl⟩
                rw [show (rw_ m i).getD many 0 = y from hy] at hcb
                by_cases hy0 : y = 0
                · subst hy0
                  have HZ2 := Lib.hid (show ∀ r, at_ ≤ r → r < i + 1 → cf (rw_ m r) many = 0 from fun r h1 h2 => by
                    rcases Nat.lt_or_ge r i with h | h
                    · exact HZ.out r h1 h
                    · obtain rfl : r = i := by omega
                      exact hy)
                  clear HZ hu ho hy
                  go_wp2
                  go_roundw
                  case rel => exact ⟨i + 1, by omega, by omega, by go_num, HZ2, HFi⟩
                  case measure => simp [intOf]; omega
                · have hy0u : ((y.toNat : Int) != 0) = true := by rw [bne_iff_ne]; intro e; exact hy0 (UInt8.toNat_inj.1 (show y.toNat = 0 by omega))
                  have HNO := Lib.hid (HG.out.none HE.out i hai (by rw [HMi.out.lm]; exact hin) (by rw [hy]; exact hy0))
                  have HFr := Lib.hid (HF.out.trans HFi.out)
                  clear hu ho hy
                  go_wp2
                  go_ret2
                  exact ⟨.inl ⟨rfl, HNO.out⟩, HFr.out⟩
              · have hini : ¬ (i : Int) < N := by omega
                have HSO := Lib.hid (HG.out.some HE.out (fun r h1 h2 => HZ.out r h1 (by rw [HMi.out.lm] at h2; omega)))
                obtain ⟨i0, hi0, hz0, hsz0, hby0⟩ := info_bytes Tryz.infoByte
                obtain ⟨BO, hBO⟩ : ∃ BO, wi.heap.size = BO := ⟨_, rfl⟩
                have hBB : B ≤ BO := by have := HFi.out.size; omega
                have HO0 := Lib.hid (show OwnB 5 BO (wi.alloc (.cells (madeCells #[.int .u8 0] many) 5)) (.slice (some ⟨BO, 0, none⟩) many many) (outK many m lead 0) by
                  have h := own_lit (e := 5) (base := BO) wi (madeCells #[.int .u8 0] many) (List.replicate many 0) (by omega) (by rw [made_zeros2]) (by simp; omega)
                  rw [List.length_replicate, hBO] at h
                  exact h)
                have hfa : Fr [] wi (wi.alloc (.cells (madeCells #[.int .u8 0] many) 5)) := Fr.alloc _ _
                have HF0 := Lib.hid (show Fr [] wl (wi.alloc (.cells (madeCells #[.int .u8 0] many) 5)) from HFi.out.trans hfa)
                have HBO := Lib.hid hBO
                clear hfa HZ HMi
                go_wp2_with (refine wpList_make_row _ rfl (.tmp 188) (.tmp 188) 22 rfl 5 i0 (.int .u8 0) Tryz.underlying22 hi0 hz0 hsz0 rfl .i64 .i64 many rfl rfl (by rw [hby0]; omega) (by omega) ?_)
                clear hBO hi0 hz0 hsz0 hby0
                go_loopw [192] (fun qi wr => ∃ q : Nat, q ≤ at_ ∧ qi = .int .i64 q ∧ Hid (OwnB 5 BO wr (.slice (some ⟨BO, 0, none⟩) many many) (outK many m lead q)) ∧ Hid (Fr [] wl wr)) (fun qi _ => at_ - (intOf qi).toNat)
                case atStart => exact ⟨0, Nat.zero_le _, rfl, HO0, HF0⟩
                case round =>
                  clear HO0 HF0
                  obtain ⟨q, hq, rfl, HO, HFq⟩ := hrel
                  obtain ⟨wq, rfl⟩ : ∃ wq, wq = wr := ⟨wr, rfl⟩
                  by_cases hqa : q < at_
                  · have hqai : (q : Int) < at_ := by omega
                    obtain ⟨lb1, lo1, rfl, -, hcl⟩ := HLC.out (by omega)
                    have hcq := cell_mono HFq.out (hcl q hqa)
                    obtain ⟨cq, hcqe⟩ : ∃ x : Nat, lead.getD q 0 = x := ⟨_, rfl⟩
                    have hcqv : ((lead.map fun x : Nat => (x : Int)).getD q 0) = (cq : Int) := by
                      rw [← hcqe]
                      simp only [List.getD_eq_getElem?_getD, List.getElem?_map]
                      cases lead[q]? <;> rfl
                    rw [hcqv] at hcq
                    have hcqm : cq < many := by have := (HG.out.ld q hqa).1; rw [hcqe] at this; omega
                    have HMq := Lib.hid (HM.out.keep0 HFq.out)
                    obtain ⟨g, gc, hu, hcell, ho, hwl, hlg, hBg, hgw, hgc1, hgc2⟩ := HMq.out.row hW q (by omega)
                    unfold slW at hcell ho
                    have hcb := own_cellB ho (i := many) (by omega)
                    obtain ⟨y, hy⟩ : ∃ y, cf (rw_ m q) many = y := ⟨_, rfl⟩
                    rw [show (rw_ m q).getD many 0 = y from hy] at hcb
                    obtain ⟨cur, k1, k2, -, k4⟩ := own_blk HO.out
                    rw [outK_len] at k2
                    have HST := Lib.hid (show (outK many m lead q).set cq y = outK many m lead (q + 1) by rw [← hcqe, ← hy]; rfl)
                    have HK1 := Lib.hid k1
                    have HK4 := Lib.hid (k4 · cq y)
                    have hcs : cq < cur.size := by omega
                    clear hu ho hy k1 k4 HMq hcqv hcqe hcl
                    go_wp2_with (refine wpl_store_one (.tmp 206) (.tmp 205) rfl rfl (.int .u8 (y.toNat : Int)) rfl rfl HK1.out hcs (by kernel_rfl) rfl ?_)
                    intro w5 f5 a5 _
                    have HO5 := Lib.hid (show OwnB 5 BO w5 (.slice (some ⟨BO, 0, none⟩) many many) (outK many m lead (q + 1)) by rw [← HST.out]; exact HK4.out w5 a5)
                    have HF5 := Lib.hid (HFq.out.then f5 (by intro b hb; simp at hb; have := HBO.out; have := HFi.out.size; omega))
                    clear f5 a5 HO HFq HST HK1 HK4
                    go_wp2
                    go_roundw
                    case rel => exact ⟨q + 1, by omega, by go_num, HO5, HF5⟩
                    case measure => simp [intOf]; omega
                  · have hqai : ¬ (q : Int) < at_ := by omega
                    have HOF := Lib.hid (show OwnB 5 w.heap.size wq (.slice (some ⟨BO, 0, none⟩) many many) (outK many m lead at_) by
                      have h := HO.out
                      rw [show q = at_ by omega] at h
                      exact h.base (by have := HBB.out; omega))
                    have HFF := Lib.hid (HF.out.trans HFq.out)
                    clear HO
                    go_wp2
                    go_ret2
                    first | exact ⟨.inr ⟨_, outK many m lead at_, rfl, HOF.out, outK_len _ _ _ _, HSO.out⟩, HFF.out⟩ | exact ⟨.inr ⟨_, rfl, outK many m lead at_, HOF.out, outK_len _ _ _ _, HSO.out⟩, HFF.out⟩
        · have hcci : ¬ (c : Int) < many := by omega
          · have he : c = many ∨ at_ = m.length := by have := HM.out.lm; omega
            have HS := Lib.hid (HL.out.is (A := fun _ => False) (by simp))
            obtain ⟨la, lcp, rfl, l3, l4, hlc⟩ := HS.out.shape
            have hlen : (lead.map fun x : Nat => (x : Int)).length = at_ := by rw [List.length_map, HG.out.ll]
            rw [hlen] at hlc l3 HS
            unfold maxLen at l4
            have HE := Lib.hid he
            have HLC := Lib.hid hlc
            rw [hlen]
            clear he hlc HL hlen
            go_wp2
            go_loopw [18] (fun ii wr => ∃ i : Nat, at_ ≤ i ∧ i ≤ N ∧ ii = .int .i64 i ∧ Hid (∀ r, at_ ≤ r → r < i → cf (rw_ m r) many = 0) ∧ Hid (Fr [] wl wr)) (fun ii _ => N - (intOf ii).toNat)
            case atStart => exact ⟨at_, Nat.le_refl _, han, rfl, Lib.hid (fun r h1 h2 => by omega), Lib.hid (Fr.refl _ _)⟩
            case round =>
              obtain ⟨i, hai, hiN, rfl, HZ, HFi⟩ := hrel
              obtain ⟨wi, rfl⟩ : ∃ wi, wi = wr := ⟨wr, rfl⟩
              have HMi := Lib.hid (HM.out.keep0 HFi.out)
              by_cases hin : i < N
              · have hini : (i : Int) < N := by omega
                obtain ⟨g, gc, hu, hcell, ho, hwl, hlg, hBg, hgw, hgc1, hgc2⟩ := HMi.out.row hW i hin
                unfold slW at hcell ho
                have hcb := own_cellB ho (i := many) (by omega)
                obtain ⟨y, hy⟩ : ∃ y, cf (rw_ m i) many = y := ⟨_, rfl⟩
                rw [show (rw_ m i).getD many 0 = y from hy] at hcb
                by_cases hy0 : y = 0
                · subst hy0
                  have HZ2 := Lib.hid (show ∀ r, at_ ≤ r → r < i + 1 → cf (rw_ m r) many = 0 from fun r h1 h2 => by
                    rcases Nat.lt_or_ge r i with h | h
                    · exact HZ.out r h1 h
                    · obtain rfl : r = i := by omega
                      exact hy)
                  clear HZ hu ho hy
                  go_wp2
                  go_roundw
                  case rel => exact ⟨i + 1, by omega, by omega, by go_num, HZ2, HFi⟩
                  case measure => simp [intOf]; omega
                · have hy0u : ((y.toNat : Int) != 0) = true := by rw [bne_iff_ne]; intro e; exact hy0 (UInt8.toNat_inj.1 (show y.toNat = 0 by omega))
                  have HNO := Lib.hid (HG.out.none HE.out i hai (by rw [HMi.out.lm]; exact hin) (by rw [hy]; exact hy0))
                  have HFr := Lib.hid (HF.out.trans HFi.out)
                  clear hu ho hy
                  go_wp2
                  go_ret2
                  exact ⟨.inl ⟨rfl, HNO.out⟩, HFr.out⟩
              · have hini : ¬ (i : Int) < N := by omega
                have HSO := Lib.hid (HG.out.some HE.out (fun r h1 h2 => HZ.out r h1 (by rw [HMi.out.lm] at h2; omega)))
                obtain ⟨i0, hi0, hz0, hsz0, hby0⟩ := info_bytes Tryz.infoByte
                obtain ⟨BO, hBO⟩ : ∃ BO, wi.heap.size = BO := ⟨_, rfl⟩
                have hBB : B ≤ BO := by have := HFi.out.size; omega
                have HO0 := Lib.hid (show OwnB 5 BO (wi.alloc (.cells (madeCells #[.int .u8 0] many) 5)) (.slice (some ⟨BO, 0, none⟩) many many) (outK many m lead 0) by
                  have h := own_lit (e := 5) (base := BO) wi (madeCells #[.int .u8 0] many) (List.replicate many 0) (by omega) (by rw [made_zeros2]) (by simp; omega)
                  rw [List.length_replicate, hBO] at h
                  exact h)
                have hfa : Fr [] wi (wi.alloc (.cells (madeCells #[.int .u8 0] many) 5)) := Fr.alloc _ _
                have HF0 := Lib.hid (show Fr [] wl (wi.alloc (.cells (madeCells #[.int .u8 0] many) 5)) from HFi.out.trans hfa)
                have HBO := Lib.hid hBO
                clear hfa HZ HMi
                go_wp2_with (refine wpList_make_row _ rfl (.tmp 188) (.tmp 188) 22 rfl 5 i0 (.int .u8 0) Tryz.underlying22 hi0 hz0 hsz0 rfl .i64 .i64 many rfl rfl (by rw [hby0]; omega) (by omega) ?_)
                clear hBO hi0 hz0 hsz0 hby0
                go_loopw [192] (fun qi wr => ∃ q : Nat, q ≤ at_ ∧ qi = .int .i64 q ∧ Hid (OwnB 5 BO wr (.slice (some ⟨BO, 0, none⟩) many many) (outK many m lead q)) ∧ Hid (Fr [] wl wr)) (fun qi _ => at_ - (intOf qi).toNat)
                case atStart => exact ⟨0, Nat.zero_le _, rfl, HO0, HF0⟩
                case round =>
                  clear HO0 HF0
                  obtain ⟨q, hq, rfl, HO, HFq⟩ := hrel
                  obtain ⟨wq, rfl⟩ : ∃ wq, wq = wr := ⟨wr, rfl⟩
                  by_cases hqa : q < at_
                  · have hqai : (q : Int) < at_ := by omega
                    obtain ⟨lb1, lo1, rfl, -, hcl⟩ := HLC.out (by omega)
                    have hcq := cell_mono HFq.out (hcl q hqa)
                    obtain ⟨cq, hcqe⟩ : ∃ x : Nat, lead.getD q 0 = x := ⟨_, rfl⟩
                    have hcqv : ((lead.map fun x : Nat => (x : Int)).getD q 0) = (cq : Int) := by
                      rw [← hcqe]
                      simp only [List.getD_eq_getElem?_getD, List.getElem?_map]
                      cases lead[q]? <;> rfl
                    rw [hcqv] at hcq
                    have hcqm : cq < many := by have := (HG.out.ld q hqa).1; rw [hcqe] at this; omega
                    have HMq := Lib.hid (HM.out.keep0 HFq.out)
                    obtain ⟨g, gc, hu, hcell, ho, hwl, hlg, hBg, hgw, hgc1, hgc2⟩ := HMq.out.row hW q (by omega)
                    unfold slW at hcell ho
                    have hcb := own_cellB ho (i := many) (by omega)
                    obtain ⟨y, hy⟩ : ∃ y, cf (rw_ m q) many = y := ⟨_, rfl⟩
                    rw [show (rw_ m q).getD many 0 = y from hy] at hcb
                    obtain ⟨cur, k1, k2, -, k4⟩ := own_blk HO.out
                    rw [outK_len] at k2
                    have HST := Lib.hid (show (outK many m lead q).set cq y = outK many m lead (q + 1) by rw [← hcqe, ← hy]; rfl)
                    have HK1 := Lib.hid k1
                    have HK4 := Lib.hid (k4 · cq y)
                    have hcs : cq < cur.size := by omega
                    clear hu ho hy k1 k4 HMq hcqv hcqe hcl
                    go_wp2_with (refine wpl_store_one (.tmp 206) (.tmp 205) rfl rfl (.int .u8 (y.toNat : Int)) rfl rfl HK1.out hcs (by kernel_rfl) rfl ?_)
                    intro w5 f5 a5 _
                    have HO5 := Lib.hid (show OwnB 5 BO w5 (.slice (some ⟨BO, 0, none⟩) many many) (outK many m lead (q + 1)) by rw [← HST.out]; exact HK4.out w5 a5)
                    have HF5 := Lib.hid (HFq.out.then f5 (by intro b hb; simp at hb; have := HBO.out; have := HFi.out.size; omega))
                    clear f5 a5 HO HFq HST HK1 HK4
                    go_wp2
                    go_roundw
                    case rel => exact ⟨q + 1, by omega, by go_num, HO5, HF5⟩
                    case measure => simp [intOf]; omega
                  · have hqai : ¬ (q : Int) < at_ := by omega
                    have HOF := Lib.hid (show OwnB 5 w.heap.size wq (.slice (some ⟨BO, 0, none⟩) many many) (outK many m lead at_) by
                      have h := HO.out
                      rw [show q = at_ by omega] at h
                      exact h.base (by have := HBB.out; omega))
                    have HFF := Lib.hid (HF.out.trans HFq.out)
                    clear HO
                    go_wp2
                    go_ret2
                    first | exact ⟨.inr ⟨_, outK many m lead at_, rfl, HOF.out, outK_len _ _ _ _, HSO.out⟩, HFF.out⟩ | exact ⟨.inr ⟨_, rfl, outK many m lead at_, HOF.out, outK_len _ _ _ _, HSO.out⟩, HFF.out⟩
end Go.Proofs.YtmohiblgfmdkjaaGreatDoor
