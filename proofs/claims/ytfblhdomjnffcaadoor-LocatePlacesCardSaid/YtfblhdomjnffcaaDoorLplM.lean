/-
  The law LocatePlaces: the drawn region that makes two rows of truth values. (printed by genmk2.py)
-/
import Derived.Test.YtfblhdomjnffcaaDoorGB
import Derived.Test.YtfblhdomjnffcaaDoorPm
import Derived.Test.YtfblhdomjnffcaaDoorGN
import Derived.Test.YtfblhdomjnffcaaDoorTrm
namespace Go.Proofs.YtfblhdomjnffcaaDoor
open Go.RowKit Go.Bl
set_option linter.unusedVariables false
noncomputable def mk2R : Code := ((Tryd.f6.body.bind (findRegionC 11)).getD .skip)
def MkI (w : World) (a : Go.Act) (n : Nat) (dn : Nat → Bool) (b : Go.Act) (p : World) : Prop :=
  b.defers = a.defers ∧ b.tmps.size = 205 ∧ (∀ s, s ∉ ([62, 63, 64, 65, 10, 11] : List Nat) → slot b s = slot a s) ∧ Fr [] w p ∧ ∃ g1 g2 : Nat,
    (dn 0 = true → slot b 62 = .int .i64 (n : Int)) ∧ (dn 2 = true → slot b 64 = .int .i64 (n : Int)) ∧
    (dn 1 = true → slot b 63 = .slice (some ⟨g1, 0, none⟩) n n ∧ At p g1 (.cells (boolC (inL n [])) 4) ∧ w.heap.size ≤ g1) ∧ (dn 3 = true → slot b 65 = .slice (some ⟨g2, 0, none⟩) n n ∧ At p g2 (.cells (boolC (inL n [])) 4) ∧ w.heap.size ≤ g2) ∧
    (dn 1 = true → dn 3 = true → g1 ≠ g2) ∧ (dn 4 = true → dn 1 = true ∧ slot b 10 = slot b 63) ∧ (dn 5 = true → dn 3 = true ∧ slot b 11 = slot b 65)
set_option maxRecDepth 1000000 in
set_option maxHeartbeats 8000000 in
theorem mk2_reg (w : World) (a : Go.Act) (n : Nat) (hsz : a.tmps.size = 205) (hn : n ≤ 255) (h9 : slot a 9 = .int .i64 (n : Int)) (Q : Exit → Go.Act → World → Prop)
    (hQ : ∀ (b : Go.Act) (p : World) (g1 g2 : Nat), b.defers = a.defers → b.tmps.size = 205 → (∀ s, s ∉ ([62, 63, 64, 65, 10, 11] : List Nat) → slot b s = slot a s) → slot b 10 = .slice (some ⟨g1, 0, none⟩) n n → slot b 11 = .slice (some ⟨g2, 0, none⟩) n n → Fr [] w p → At p g1 (.cells (boolC (inL n [])) 4) → At p g2 (.cells (boolC (inL n [])) 4) → w.heap.size ≤ g1 → w.heap.size ≤ g2 → g1 ≠ g2 → Q .normal b p) : Code.wp Tryd.prog mk2R Q a w := by
  obtain ⟨i0, hi0, hz0, hsz0, hby0⟩ := info_bytes Tryd.infoBool
  conv => arg 2; whnf
  refine wp_region_inv (MkI w a n) (by kernel_rfl) (by kernel_rfl) ?_ ?_ ?_
  · intro w1 hw1
    exact ⟨rfl, hsz, fun _ _ => rfl, hw1, 0, 0, (fun h => nomatch h), (fun h => nomatch h), (fun h => nomatch h), (fun h => nomatch h), (fun h => nomatch h), (fun h => nomatch h), (fun h => nomatch h)⟩
  · intro i hi dn b p hdn hdeps ⟨hd, hs, ho, hf, g1, g2, c0, c2, c1, c3, cd, c4, c5⟩
    have hi6 : i < 6 := hi
    clear hi
    match i, hi6 with
    | 0, _ =>
      refine opV_of_wpl (K := fun b p => MkI w a n (also dn 0) b p) _ (by simp only [List.getElem?_toArray, List.getElem?_cons_succ, List.getElem?_cons_zero]; rfl) ?_
      have e9 : b.eval (.tmp 9) = .int .i64 (n : Int) := (ho 9 (by decide)).trans h9
      refine wpl_val _ rfl rfl (.int .i64 (n : Int)) (by obtain ⟨ρ, hρ⟩ : ∃ ρ, b.eval = ρ := ⟨_, rfl⟩; rw [hρ] at e9 ⊢; unfold execOp; simp [go_sem, e9]) ?_
      refine ⟨rfl, rfl, hd, (by simpa [Go.Act.put] using hs), fun s hsn => (slot_put_ne (by rintro ⟨⟩; exact hsn (by simp))).trans (ho s hsn), hf, g1, g2, ?_, ?_, ?_, ?_, ?_, ?_, ?_⟩
      · exact fun _ => slot_put_self (by rw [hs]; decide)
      · intro hk
        rw [also_ne dn (show (2 : Nat) ≠ 0 by decide)] at hk
        rw [slot_put_ne (by decide)]
        exact c2 hk
      · intro hk
        rw [also_ne dn (show (1 : Nat) ≠ 0 by decide)] at hk
        obtain ⟨x1, x2, x3⟩ := c1 hk
        exact ⟨by rw [slot_put_ne (by decide)]; exact x1, x2, x3⟩
      · intro hk
        rw [also_ne dn (show (3 : Nat) ≠ 0 by decide)] at hk
        obtain ⟨x1, x2, x3⟩ := c3 hk
        exact ⟨by rw [slot_put_ne (by decide)]; exact x1, x2, x3⟩
      · intro hk hk2
        rw [also_ne dn (show (1 : Nat) ≠ 0 by decide)] at hk
        rw [also_ne dn (show (3 : Nat) ≠ 0 by decide)] at hk2
        exact cd hk hk2
      · intro hk
        rw [also_ne dn (show (4 : Nat) ≠ 0 by decide)] at hk
        obtain ⟨x1, x2⟩ := c4 hk
        exact ⟨by rw [also_ne dn (show (1 : Nat) ≠ 0 by decide)]; exact x1, by rw [slot_put_ne (by decide), slot_put_ne (by decide)]; exact x2⟩
      · intro hk
        rw [also_ne dn (show (5 : Nat) ≠ 0 by decide)] at hk
        obtain ⟨x1, x2⟩ := c5 hk
        exact ⟨by rw [also_ne dn (show (3 : Nat) ≠ 0 by decide)]; exact x1, by rw [slot_put_ne (by decide), slot_put_ne (by decide)]; exact x2⟩
    | 1, _ =>
      refine opV_of_wpl (K := fun b p => MkI w a n (also dn 1) b p) _ (by simp only [List.getElem?_toArray, List.getElem?_cons_succ, List.getElem?_cons_zero]; rfl) ?_
      have e : b.eval (.tmp 62) = .int .i64 (n : Int) := c0 (hdeps 0 (by kernel_rfl))
      refine wpList_make_row _ rfl (.tmp 62) (.tmp 62) 55 rfl 4 i0 (.bool false) Tryd.underlying55 hi0 hz0 hsz0 rfl .i64 .i64 n e e (by rw [hby0]; omega) (by omega) ?_
      refine ⟨rfl, rfl, hd, (by simpa [Go.Act.put] using hs), fun s hsn => (slot_put_ne (by rintro ⟨⟩; exact hsn (by simp))).trans (ho s hsn), hf.al, p.heap.size, g2, ?_, ?_, ?_, ?_, ?_, ?_, ?_⟩
      · intro hk
        rw [also_ne dn (show (0 : Nat) ≠ 1 by decide)] at hk
        rw [slot_put_ne (by decide)]
        exact c0 hk
      · intro hk
        rw [also_ne dn (show (2 : Nat) ≠ 1 by decide)] at hk
        rw [slot_put_ne (by decide)]
        exact c2 hk
      · exact fun _ => ⟨slot_put_self (by rw [hs]; decide), by rw [← made_bools]; exact At.new rfl, hf.size⟩
      · intro hk
        rw [also_ne dn (show (3 : Nat) ≠ 1 by decide)] at hk
        obtain ⟨x1, x2, x3⟩ := c3 hk
        exact ⟨by rw [slot_put_ne (by decide)]; exact x1, x2.al, x3⟩
      · intro _ hk
        rw [also_ne dn (show (3 : Nat) ≠ 1 by decide)] at hk
        obtain ⟨-, x2, -⟩ := c3 hk
        have := x2.lt
        omega
      · intro hk
        rw [also_ne dn (show (4 : Nat) ≠ 1 by decide)] at hk
        have hx := (c4 hk).1
        rw [hdn] at hx
        cases hx
      · intro hk
        rw [also_ne dn (show (5 : Nat) ≠ 1 by decide)] at hk
        obtain ⟨x1, x2⟩ := c5 hk
        exact ⟨by rw [also_ne dn (show (3 : Nat) ≠ 1 by decide)]; exact x1, by rw [slot_put_ne (by decide), slot_put_ne (by decide)]; exact x2⟩
    | 2, _ =>
      refine opV_of_wpl (K := fun b p => MkI w a n (also dn 2) b p) _ (by simp only [List.getElem?_toArray, List.getElem?_cons_succ, List.getElem?_cons_zero]; rfl) ?_
      have e9 : b.eval (.tmp 9) = .int .i64 (n : Int) := (ho 9 (by decide)).trans h9
      refine wpl_val _ rfl rfl (.int .i64 (n : Int)) (by obtain ⟨ρ, hρ⟩ : ∃ ρ, b.eval = ρ := ⟨_, rfl⟩; rw [hρ] at e9 ⊢; unfold execOp; simp [go_sem, e9]) ?_
      refine ⟨rfl, rfl, hd, (by simpa [Go.Act.put] using hs), fun s hsn => (slot_put_ne (by rintro ⟨⟩; exact hsn (by simp))).trans (ho s hsn), hf, g1, g2, ?_, ?_, ?_, ?_, ?_, ?_, ?_⟩
      · intro hk
        rw [also_ne dn (show (0 : Nat) ≠ 2 by decide)] at hk
        rw [slot_put_ne (by decide)]
        exact c0 hk
      · exact fun _ => slot_put_self (by rw [hs]; decide)
      · intro hk
        rw [also_ne dn (show (1 : Nat) ≠ 2 by decide)] at hk
        obtain ⟨x1, x2, x3⟩ := c1 hk
        exact ⟨by rw [slot_put_ne (by decide)]; exact x1, x2, x3⟩
      · intro hk
        rw [also_ne dn (show (3 : Nat) ≠ 2 by decide)] at hk
        obtain ⟨x1, x2, x3⟩ := c3 hk
        exact ⟨by rw [slot_put_ne (by decide)]; exact x1, x2, x3⟩
      · intro hk hk2
        rw [also_ne dn (show (1 : Nat) ≠ 2 by decide)] at hk
        rw [also_ne dn (show (3 : Nat) ≠ 2 by decide)] at hk2
        exact cd hk hk2
      · intro hk
        rw [also_ne dn (show (4 : Nat) ≠ 2 by decide)] at hk
        obtain ⟨x1, x2⟩ := c4 hk
        exact ⟨by rw [also_ne dn (show (1 : Nat) ≠ 2 by decide)]; exact x1, by rw [slot_put_ne (by decide), slot_put_ne (by decide)]; exact x2⟩
      · intro hk
        rw [also_ne dn (show (5 : Nat) ≠ 2 by decide)] at hk
        obtain ⟨x1, x2⟩ := c5 hk
        exact ⟨by rw [also_ne dn (show (3 : Nat) ≠ 2 by decide)]; exact x1, by rw [slot_put_ne (by decide), slot_put_ne (by decide)]; exact x2⟩
    | 3, _ =>
      refine opV_of_wpl (K := fun b p => MkI w a n (also dn 3) b p) _ (by simp only [List.getElem?_toArray, List.getElem?_cons_succ, List.getElem?_cons_zero]; rfl) ?_
      have e : b.eval (.tmp 64) = .int .i64 (n : Int) := c2 (hdeps 2 (by kernel_rfl))
      refine wpList_make_row _ rfl (.tmp 64) (.tmp 64) 55 rfl 4 i0 (.bool false) Tryd.underlying55 hi0 hz0 hsz0 rfl .i64 .i64 n e e (by rw [hby0]; omega) (by omega) ?_
      refine ⟨rfl, rfl, hd, (by simpa [Go.Act.put] using hs), fun s hsn => (slot_put_ne (by rintro ⟨⟩; exact hsn (by simp))).trans (ho s hsn), hf.al, g1, p.heap.size, ?_, ?_, ?_, ?_, ?_, ?_, ?_⟩
      · intro hk
        rw [also_ne dn (show (0 : Nat) ≠ 3 by decide)] at hk
        rw [slot_put_ne (by decide)]
        exact c0 hk
      · intro hk
        rw [also_ne dn (show (2 : Nat) ≠ 3 by decide)] at hk
        rw [slot_put_ne (by decide)]
        exact c2 hk
      · intro hk
        rw [also_ne dn (show (1 : Nat) ≠ 3 by decide)] at hk
        obtain ⟨x1, x2, x3⟩ := c1 hk
        exact ⟨by rw [slot_put_ne (by decide)]; exact x1, x2.al, x3⟩
      · exact fun _ => ⟨slot_put_self (by rw [hs]; decide), by rw [← made_bools]; exact At.new rfl, hf.size⟩
      · intro hk _
        rw [also_ne dn (show (1 : Nat) ≠ 3 by decide)] at hk
        obtain ⟨-, x2, -⟩ := c1 hk
        have := x2.lt
        omega
      · intro hk
        rw [also_ne dn (show (4 : Nat) ≠ 3 by decide)] at hk
        obtain ⟨x1, x2⟩ := c4 hk
        exact ⟨by rw [also_ne dn (show (1 : Nat) ≠ 3 by decide)]; exact x1, by rw [slot_put_ne (by decide), slot_put_ne (by decide)]; exact x2⟩
      · intro hk
        rw [also_ne dn (show (5 : Nat) ≠ 3 by decide)] at hk
        have hx := (c5 hk).1
        rw [hdn] at hx
        cases hx
    | 4, _ =>
      refine opV_of_wpl (K := fun b p => MkI w a n (also dn 4) b p) _ (by simp only [List.getElem?_toArray, List.getElem?_cons_succ, List.getElem?_cons_zero]; rfl) ?_
      have e9 : b.eval (.tmp 63) = slot b 63 := rfl
      refine wpl_val _ rfl rfl (slot b 63) (by obtain ⟨ρ, hρ⟩ : ∃ ρ, b.eval = ρ := ⟨_, rfl⟩; rw [hρ] at e9 ⊢; unfold execOp; simp [go_sem, e9]) ?_
      refine ⟨rfl, rfl, hd, (by simpa [Go.Act.put] using hs), fun s hsn => (slot_put_ne (by rintro ⟨⟩; exact hsn (by simp))).trans (ho s hsn), hf, g1, g2, ?_, ?_, ?_, ?_, ?_, ?_, ?_⟩
      · intro hk
        rw [also_ne dn (show (0 : Nat) ≠ 4 by decide)] at hk
        rw [slot_put_ne (by decide)]
        exact c0 hk
      · intro hk
        rw [also_ne dn (show (2 : Nat) ≠ 4 by decide)] at hk
        rw [slot_put_ne (by decide)]
        exact c2 hk
      · intro hk
        rw [also_ne dn (show (1 : Nat) ≠ 4 by decide)] at hk
        obtain ⟨x1, x2, x3⟩ := c1 hk
        exact ⟨by rw [slot_put_ne (by decide)]; exact x1, x2, x3⟩
      · intro hk
        rw [also_ne dn (show (3 : Nat) ≠ 4 by decide)] at hk
        obtain ⟨x1, x2, x3⟩ := c3 hk
        exact ⟨by rw [slot_put_ne (by decide)]; exact x1, x2, x3⟩
      · intro hk hk2
        rw [also_ne dn (show (1 : Nat) ≠ 4 by decide)] at hk
        rw [also_ne dn (show (3 : Nat) ≠ 4 by decide)] at hk2
        exact cd hk hk2
      · intro _
        have hx := hdeps 1 (by kernel_rfl)
        exact ⟨by rw [also_ne dn (show (1 : Nat) ≠ 4 by decide)]; exact hx, by rw [slot_put_self (by rw [hs]; decide), slot_put_ne (by decide)]⟩
      · intro hk
        rw [also_ne dn (show (5 : Nat) ≠ 4 by decide)] at hk
        obtain ⟨x1, x2⟩ := c5 hk
        exact ⟨by rw [also_ne dn (show (3 : Nat) ≠ 4 by decide)]; exact x1, by rw [slot_put_ne (by decide), slot_put_ne (by decide)]; exact x2⟩
    | 5, _ =>
      refine opV_of_wpl (K := fun b p => MkI w a n (also dn 5) b p) _ (by simp only [List.getElem?_toArray, List.getElem?_cons_succ, List.getElem?_cons_zero]; rfl) ?_
      have e9 : b.eval (.tmp 65) = slot b 65 := rfl
      refine wpl_val _ rfl rfl (slot b 65) (by obtain ⟨ρ, hρ⟩ : ∃ ρ, b.eval = ρ := ⟨_, rfl⟩; rw [hρ] at e9 ⊢; unfold execOp; simp [go_sem, e9]) ?_
      refine ⟨rfl, rfl, hd, (by simpa [Go.Act.put] using hs), fun s hsn => (slot_put_ne (by rintro ⟨⟩; exact hsn (by simp))).trans (ho s hsn), hf, g1, g2, ?_, ?_, ?_, ?_, ?_, ?_, ?_⟩
      · intro hk
        rw [also_ne dn (show (0 : Nat) ≠ 5 by decide)] at hk
        rw [slot_put_ne (by decide)]
        exact c0 hk
      · intro hk
        rw [also_ne dn (show (2 : Nat) ≠ 5 by decide)] at hk
        rw [slot_put_ne (by decide)]
        exact c2 hk
      · intro hk
        rw [also_ne dn (show (1 : Nat) ≠ 5 by decide)] at hk
        obtain ⟨x1, x2, x3⟩ := c1 hk
        exact ⟨by rw [slot_put_ne (by decide)]; exact x1, x2, x3⟩
      · intro hk
        rw [also_ne dn (show (3 : Nat) ≠ 5 by decide)] at hk
        obtain ⟨x1, x2, x3⟩ := c3 hk
        exact ⟨by rw [slot_put_ne (by decide)]; exact x1, x2, x3⟩
      · intro hk hk2
        rw [also_ne dn (show (1 : Nat) ≠ 5 by decide)] at hk
        rw [also_ne dn (show (3 : Nat) ≠ 5 by decide)] at hk2
        exact cd hk hk2
      · intro hk
        rw [also_ne dn (show (4 : Nat) ≠ 5 by decide)] at hk
        obtain ⟨x1, x2⟩ := c4 hk
        exact ⟨by rw [also_ne dn (show (1 : Nat) ≠ 5 by decide)]; exact x1, by rw [slot_put_ne (by decide), slot_put_ne (by decide)]; exact x2⟩
      · intro _
        have hx := hdeps 3 (by kernel_rfl)
        exact ⟨by rw [also_ne dn (show (3 : Nat) ≠ 5 by decide)]; exact hx, by rw [slot_put_self (by rw [hs]; decide), slot_put_ne (by decide)]⟩
  · intro dn b p hall ⟨hd, hs, ho, hf, g1, g2, c0, c2, c1, c3, cd, c4, c5⟩
    have h1 := hall 1 (by decide)
    have h3 := hall 3 (by decide)
    obtain ⟨x1, x2, x3⟩ := c1 h1
    obtain ⟨y1, y2, y3⟩ := c3 h3
    exact hQ b p g1 g2 hd hs ho ((c4 (hall 4 (by decide))).2.trans x1) ((c5 (hall 5 (by decide))).2.trans y1) hf x2 y2 x3 y3 (cd h1 h3)
end Go.Proofs.YtfblhdomjnffcaaDoor
