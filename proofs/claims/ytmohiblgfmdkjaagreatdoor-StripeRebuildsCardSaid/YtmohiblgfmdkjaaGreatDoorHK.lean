import Derived.Test.YtmohiblgfmdkjaaGreatDoorGB
import Derived.Test.YtmohiblgfmdkjaaGreatDoorHW
import Derived.Test.YtmohiblgfmdkjaaGreatDoorJM
import Derived.Test.YtmohiblgfmdkjaaGreatDoorJQ
import Derived.OwnWalk
namespace Go.Proofs.YtmohiblgfmdkjaaGreatDoor
open Go.RowKit Go.Bl
set_option linter.unusedVariables false
noncomputable def rfxR : Code := ((Tryz.f9.body.bind (findRegionC 11)).getD .skip)
theorem lit_run (w : World) (ρ : Operand → Value) (hρ : ∀ v, ρ (.const v) = v) (o : Oper) (ho : o.op = .buildSlice 22 1 #[(0, .const (.int .u8 1))]) : (execOp ρ o).run Tryz.prog w = .ok (.value (.slice (some ⟨w.heap.size, 0, none⟩) 1 1)) (w.alloc (.cells #[.int .u8 1] 5)) := by
  unfold execOp
  simp only [ho]
  simp only [List.map_toArray, List.map_cons, List.map_nil, hρ]
  kernel_rfl
def RfI (w : World) (a : Go.Act) (W PV U : Value) (SC : Array Value) (t : Nat) (x : List UInt8) (R : Value → Value → Value → World → Prop) (dn : Nat → Bool) (b : Go.Act) (p : World) : Prop :=
  b.defers = a.defers ∧ b.tmps.size = 64 ∧ (∀ s, s ∉ ([48, 49, 50, 51, 52, 53, 54, 55, 47, 56, 57, 58, 15, 16, 14] : List Nat) → slot b s = slot a s) ∧ Fr [] w p ∧ ∃ u v f : Value,
    (dn 0 = true → slot b 48 = W) ∧
    (dn 1 = true → slot b 49 = .agg SC) ∧
    (dn 2 = true → dn 4 = false → OwnB 5 w.heap.size p (slot b 50) [1]) ∧
    (dn 3 = true → slot b 51 = U) ∧
    (dn 4 = true → dn 2 = true ∧ (dn 7 = false → OwnB 5 w.heap.size p (slot b 52) (1 :: x))) ∧
    (dn 5 = true → slot b 53 = PV) ∧
    (dn 6 = true → slot b 54 = .int .i64 (t : Int)) ∧
    (dn 7 = true → dn 2 = true ∧ dn 4 = true ∧ slot b 55 = .tuple #[u, v, f] ∧ R u v f p) ∧
    (dn 8 = true → dn 7 = true ∧ slot b 47 = .tuple #[u, v, f]) ∧
    (dn 9 = true → dn 7 = true ∧ slot b 56 = u) ∧
    (dn 10 = true → dn 7 = true ∧ slot b 57 = v) ∧
    (dn 11 = true → dn 7 = true ∧ slot b 58 = f) ∧
    (dn 12 = true → dn 7 = true ∧ slot b 15 = u) ∧
    (dn 13 = true → dn 7 = true ∧ slot b 16 = v) ∧
    (dn 14 = true → dn 7 = true ∧ slot b 14 = f)
set_option maxRecDepth 1000000 in
set_option maxHeartbeats 8000000 in
theorem rfx_reg (w : World) (a : Go.Act) (sb : Nat) (wa pa ua : Option Addr) (wn wc pn pc un uc t : Nat) (SC : Array Value) (x : List UInt8) (R : Value → Value → Value → World → Prop) (hsz : a.tmps.size = 64) (h0 : slot a 0 = .slice wa wn wc) (h1 : slot a 1 = .slice pa pn pc) (h10 : slot a 10 = .pointer (some ⟨sb, 0, none⟩)) (h12 : slot a 12 = .int .i64 (t : Int)) (h13 : slot a 13 = .slice ua un uc)
    (hS : At w sb (.cells SC 51)) (hS2 : SC.size = 32) (hU : Bs (fun _ => False) w (.slice ua un uc) x) (hx : x.length ≤ 1000)
    (hcall : ∀ p rv, Fr [] w p → OwnB 5 w.heap.size p rv (1 :: x) → Calls Tryz.prog 28 #[.slice wa wn wc, .agg SC, rv, .slice pa pn pc, .int .i64 (t : Int)] p fun e w' => ∃ u v f, e = .returned (.tuple #[u, v, f]) ∧ R u v f w' ∧ Fr [] p w') (Q : Exit → Go.Act → World → Prop)
    (hQ : ∀ (b : Go.Act) (p : World) (u v f : Value), b.defers = a.defers → b.tmps.size = 64 → (∀ s, s ∉ ([48, 49, 50, 51, 52, 53, 54, 55, 47, 56, 57, 58, 15, 16, 14] : List Nat) → slot b s = slot a s) → slot b 15 = u → slot b 16 = v → slot b 14 = f → Fr [] w p → R u v f p → Q .normal b p) : Code.wp Tryz.prog rfxR Q a w := by
  conv => arg 2; whnf
  refine wp_region_inv (RfI w a (.slice wa wn wc) (.slice pa pn pc) (.slice ua un uc) SC t x R) (by kernel_rfl) (by kernel_rfl) ?_ ?_ ?_
  · intro w1 hw1
    exact ⟨rfl, hsz, fun _ _ => rfl, hw1, undef, undef, undef, (fun h => nomatch h), (fun h => nomatch h), (fun h => nomatch h), (fun h => nomatch h), (fun h => nomatch h), (fun h => nomatch h), (fun h => nomatch h), (fun h => nomatch h), (fun h => nomatch h), (fun h => nomatch h), (fun h => nomatch h), (fun h => nomatch h), (fun h => nomatch h), (fun h => nomatch h), (fun h => nomatch h)⟩
  · intro i hi dn b p hdn hdeps ⟨hd, hs, ho, hf, u, v, f, c0, c1, c2, c3, c4, c5, c6, c7, c8, c9, c10, c11, c12, c13, c14⟩
    have hi15 : i < 15 := hi
    clear hi
    match i, hi15 with
    | 0, _ =>
      refine opV_of_wpl (K := fun b p => RfI w a (.slice wa wn wc) (.slice pa pn pc) (.slice ua un uc) SC t x R (also dn 0) b p) _ (by simp only [List.getElem?_toArray, List.getElem?_cons_succ, List.getElem?_cons_zero]; rfl) ?_
      have e9 : b.eval (.tmp 0) = .slice wa wn wc := (ho 0 (by decide)).trans h0
      refine wpl_val _ rfl rfl (.slice wa wn wc) (by obtain ⟨ρ, hρ⟩ : ∃ ρ, b.eval = ρ := ⟨_, rfl⟩; rw [hρ] at e9 ⊢; unfold execOp; simp [go_sem, e9]) ?_
      refine ⟨rfl, rfl, hd, (by simpa [Go.Act.put] using hs), fun s hsn => (slot_put_ne (by rintro ⟨⟩; exact hsn (by simp))).trans (ho s hsn), hf, u, v, f, ?_, ?_, ?_, ?_, ?_, ?_, ?_, ?_, ?_, ?_, ?_, ?_, ?_, ?_, ?_⟩
      · intro _
        exact slot_put_self (by rw [hs]; decide)
      · intro hk
        rw [also_ne dn (show (1 : Nat) ≠ 0 by decide)] at hk
        rw [slot_put_ne (by decide)]
        exact c1 hk
      · intro hk hk4
        rw [also_ne dn (show (2 : Nat) ≠ 0 by decide)] at hk
        rw [also_ne dn (show (4 : Nat) ≠ 0 by decide)] at hk4
        rw [slot_put_ne (by decide)]
        exact c2 hk hk4
      · intro hk
        rw [also_ne dn (show (3 : Nat) ≠ 0 by decide)] at hk
        rw [slot_put_ne (by decide)]
        exact c3 hk
      · intro hk
        rw [also_ne dn (show (4 : Nat) ≠ 0 by decide)] at hk
        refine ⟨by rw [also_ne dn (show (2 : Nat) ≠ 0 by decide)]; exact (c4 hk).1, fun hk7 => ?_⟩
        rw [also_ne dn (show (7 : Nat) ≠ 0 by decide)] at hk7
        rw [slot_put_ne (by decide)]
        exact (c4 hk).2 hk7
      · intro hk
        rw [also_ne dn (show (5 : Nat) ≠ 0 by decide)] at hk
        rw [slot_put_ne (by decide)]
        exact c5 hk
      · intro hk
        rw [also_ne dn (show (6 : Nat) ≠ 0 by decide)] at hk
        rw [slot_put_ne (by decide)]
        exact c6 hk
      · intro hk
        rw [also_ne dn (show (7 : Nat) ≠ 0 by decide)] at hk
        obtain ⟨x1, x2, x3, x4⟩ := c7 hk
        exact ⟨by rw [also_ne dn (show (2 : Nat) ≠ 0 by decide)]; exact x1, by rw [also_ne dn (show (4 : Nat) ≠ 0 by decide)]; exact x2, by rw [slot_put_ne (by decide)]; exact x3, x4⟩
      · intro hk
        rw [also_ne dn (show (8 : Nat) ≠ 0 by decide)] at hk
        obtain ⟨x1, x2⟩ := c8 hk
        exact ⟨by rw [also_ne dn (show (7 : Nat) ≠ 0 by decide)]; exact x1, by rw [slot_put_ne (by decide)]; exact x2⟩
      · intro hk
        rw [also_ne dn (show (9 : Nat) ≠ 0 by decide)] at hk
        obtain ⟨x1, x2⟩ := c9 hk
        exact ⟨by rw [also_ne dn (show (7 : Nat) ≠ 0 by decide)]; exact x1, by rw [slot_put_ne (by decide)]; exact x2⟩
      · intro hk
        rw [also_ne dn (show (10 : Nat) ≠ 0 by decide)] at hk
        obtain ⟨x1, x2⟩ := c10 hk
        exact ⟨by rw [also_ne dn (show (7 : Nat) ≠ 0 by decide)]; exact x1, by rw [slot_put_ne (by decide)]; exact x2⟩
      · intro hk
        rw [also_ne dn (show (11 : Nat) ≠ 0 by decide)] at hk
        obtain ⟨x1, x2⟩ := c11 hk
        exact ⟨by rw [also_ne dn (show (7 : Nat) ≠ 0 by decide)]; exact x1, by rw [slot_put_ne (by decide)]; exact x2⟩
      · intro hk
        rw [also_ne dn (show (12 : Nat) ≠ 0 by decide)] at hk
        obtain ⟨x1, x2⟩ := c12 hk
        exact ⟨by rw [also_ne dn (show (7 : Nat) ≠ 0 by decide)]; exact x1, by rw [slot_put_ne (by decide)]; exact x2⟩
      · intro hk
        rw [also_ne dn (show (13 : Nat) ≠ 0 by decide)] at hk
        obtain ⟨x1, x2⟩ := c13 hk
        exact ⟨by rw [also_ne dn (show (7 : Nat) ≠ 0 by decide)]; exact x1, by rw [slot_put_ne (by decide)]; exact x2⟩
      · intro hk
        rw [also_ne dn (show (14 : Nat) ≠ 0 by decide)] at hk
        obtain ⟨x1, x2⟩ := c14 hk
        exact ⟨by rw [also_ne dn (show (7 : Nat) ≠ 0 by decide)]; exact x1, by rw [slot_put_ne (by decide)]; exact x2⟩
    | 1, _ =>
      refine opV_of_wpl (K := fun b p => RfI w a (.slice wa wn wc) (.slice pa pn pc) (.slice ua un uc) SC t x R (also dn 1) b p) _ (by simp only [List.getElem?_toArray, List.getElem?_cons_succ, List.getElem?_cons_zero]; rfl) ?_
      have e9 : b.eval (.tmp 10) = .pointer (some ⟨sb, 0, none⟩) := (ho 10 (by decide)).trans h10
      refine wpl_load_rowG (.tmp 10) rfl rfl sb SC e9 (hS.keep0 hf) Tryz.underlying51 rfl (by rw [hS2]; kernel_rfl) ?_
      refine ⟨rfl, rfl, hd, (by simpa [Go.Act.put] using hs), fun s hsn => (slot_put_ne (by rintro ⟨⟩; exact hsn (by simp))).trans (ho s hsn), hf, u, v, f, ?_, ?_, ?_, ?_, ?_, ?_, ?_, ?_, ?_, ?_, ?_, ?_, ?_, ?_, ?_⟩
      · intro hk
        rw [also_ne dn (show (0 : Nat) ≠ 1 by decide)] at hk
        rw [slot_put_ne (by decide)]
        exact c0 hk
      · intro _
        exact slot_put_self (by rw [hs]; decide)
      · intro hk hk4
        rw [also_ne dn (show (2 : Nat) ≠ 1 by decide)] at hk
        rw [also_ne dn (show (4 : Nat) ≠ 1 by decide)] at hk4
        rw [slot_put_ne (by decide)]
        exact c2 hk hk4
      · intro hk
        rw [also_ne dn (show (3 : Nat) ≠ 1 by decide)] at hk
        rw [slot_put_ne (by decide)]
        exact c3 hk
      · intro hk
        rw [also_ne dn (show (4 : Nat) ≠ 1 by decide)] at hk
        refine ⟨by rw [also_ne dn (show (2 : Nat) ≠ 1 by decide)]; exact (c4 hk).1, fun hk7 => ?_⟩
        rw [also_ne dn (show (7 : Nat) ≠ 1 by decide)] at hk7
        rw [slot_put_ne (by decide)]
        exact (c4 hk).2 hk7
      · intro hk
        rw [also_ne dn (show (5 : Nat) ≠ 1 by decide)] at hk
        rw [slot_put_ne (by decide)]
        exact c5 hk
      · intro hk
        rw [also_ne dn (show (6 : Nat) ≠ 1 by decide)] at hk
        rw [slot_put_ne (by decide)]
        exact c6 hk
      · intro hk
        rw [also_ne dn (show (7 : Nat) ≠ 1 by decide)] at hk
        obtain ⟨x1, x2, x3, x4⟩ := c7 hk
        exact ⟨by rw [also_ne dn (show (2 : Nat) ≠ 1 by decide)]; exact x1, by rw [also_ne dn (show (4 : Nat) ≠ 1 by decide)]; exact x2, by rw [slot_put_ne (by decide)]; exact x3, x4⟩
      · intro hk
        rw [also_ne dn (show (8 : Nat) ≠ 1 by decide)] at hk
        obtain ⟨x1, x2⟩ := c8 hk
        exact ⟨by rw [also_ne dn (show (7 : Nat) ≠ 1 by decide)]; exact x1, by rw [slot_put_ne (by decide)]; exact x2⟩
      · intro hk
        rw [also_ne dn (show (9 : Nat) ≠ 1 by decide)] at hk
        obtain ⟨x1, x2⟩ := c9 hk
        exact ⟨by rw [also_ne dn (show (7 : Nat) ≠ 1 by decide)]; exact x1, by rw [slot_put_ne (by decide)]; exact x2⟩
      · intro hk
        rw [also_ne dn (show (10 : Nat) ≠ 1 by decide)] at hk
        obtain ⟨x1, x2⟩ := c10 hk
        exact ⟨by rw [also_ne dn (show (7 : Nat) ≠ 1 by decide)]; exact x1, by rw [slot_put_ne (by decide)]; exact x2⟩
      · intro hk
        rw [also_ne dn (show (11 : Nat) ≠ 1 by decide)] at hk
        obtain ⟨x1, x2⟩ := c11 hk
        exact ⟨by rw [also_ne dn (show (7 : Nat) ≠ 1 by decide)]; exact x1, by rw [slot_put_ne (by decide)]; exact x2⟩
      · intro hk
        rw [also_ne dn (show (12 : Nat) ≠ 1 by decide)] at hk
        obtain ⟨x1, x2⟩ := c12 hk
        exact ⟨by rw [also_ne dn (show (7 : Nat) ≠ 1 by decide)]; exact x1, by rw [slot_put_ne (by decide)]; exact x2⟩
      · intro hk
        rw [also_ne dn (show (13 : Nat) ≠ 1 by decide)] at hk
        obtain ⟨x1, x2⟩ := c13 hk
        exact ⟨by rw [also_ne dn (show (7 : Nat) ≠ 1 by decide)]; exact x1, by rw [slot_put_ne (by decide)]; exact x2⟩
      · intro hk
        rw [also_ne dn (show (14 : Nat) ≠ 1 by decide)] at hk
        obtain ⟨x1, x2⟩ := c14 hk
        exact ⟨by rw [also_ne dn (show (7 : Nat) ≠ 1 by decide)]; exact x1, by rw [slot_put_ne (by decide)]; exact x2⟩
    | 2, _ =>
      refine opV_of_wpl (K := fun b p => RfI w a (.slice wa wn wc) (.slice pa pn pc) (.slice ua un uc) SC t x R (also dn 2) b p) _ (by simp only [List.getElem?_toArray, List.getElem?_cons_succ, List.getElem?_cons_zero]; rfl) ?_
      have hfa : Fr [] p (p.alloc (.cells #[.int .u8 1] 5)) := Fr.alloc _ _
      have hown : OwnB 5 w.heap.size (p.alloc (.cells #[.int .u8 1] 5)) (.slice (some ⟨p.heap.size, 0, none⟩) 1 1) [1] := OwnB.base (OwnV.lit 5 p.heap.size p #[.int .u8 1] (Nat.le_refl _) (by simp [maxLen])) hf.size
      refine wpl_step rfl rfl _ (lit_run p b.eval (fun _ => rfl) _ rfl) ?_
      refine ⟨rfl, rfl, hd, (by simpa [Go.Act.put] using hs), fun s hsn => (slot_put_ne (by rintro ⟨⟩; exact hsn (by simp))).trans (ho s hsn), hf.trans hfa, u, v, f, ?_, ?_, ?_, ?_, ?_, ?_, ?_, ?_, ?_, ?_, ?_, ?_, ?_, ?_, ?_⟩
      · intro hk
        rw [also_ne dn (show (0 : Nat) ≠ 2 by decide)] at hk
        rw [slot_put_ne (by decide)]
        exact c0 hk
      · intro hk
        rw [also_ne dn (show (1 : Nat) ≠ 2 by decide)] at hk
        rw [slot_put_ne (by decide)]
        exact c1 hk
      · intro _ _
        rw [slot_put_self (by rw [hs]; decide)]
        exact hown
      · intro hk
        rw [also_ne dn (show (3 : Nat) ≠ 2 by decide)] at hk
        rw [slot_put_ne (by decide)]
        exact c3 hk
      · intro hk
        rw [also_ne dn (show (4 : Nat) ≠ 2 by decide)] at hk
        have hx := (c4 hk).1
        rw [hdn] at hx
        cases hx
      · intro hk
        rw [also_ne dn (show (5 : Nat) ≠ 2 by decide)] at hk
        rw [slot_put_ne (by decide)]
        exact c5 hk
      · intro hk
        rw [also_ne dn (show (6 : Nat) ≠ 2 by decide)] at hk
        rw [slot_put_ne (by decide)]
        exact c6 hk
      · intro hk
        rw [also_ne dn (show (7 : Nat) ≠ 2 by decide)] at hk
        have hx := (c7 hk).1
        rw [hdn] at hx
        cases hx
      · intro hk
        rw [also_ne dn (show (8 : Nat) ≠ 2 by decide)] at hk
        obtain ⟨x1, x2⟩ := c8 hk
        exact ⟨by rw [also_ne dn (show (7 : Nat) ≠ 2 by decide)]; exact x1, by rw [slot_put_ne (by decide)]; exact x2⟩
      · intro hk
        rw [also_ne dn (show (9 : Nat) ≠ 2 by decide)] at hk
        obtain ⟨x1, x2⟩ := c9 hk
        exact ⟨by rw [also_ne dn (show (7 : Nat) ≠ 2 by decide)]; exact x1, by rw [slot_put_ne (by decide)]; exact x2⟩
      · intro hk
        rw [also_ne dn (show (10 : Nat) ≠ 2 by decide)] at hk
        obtain ⟨x1, x2⟩ := c10 hk
        exact ⟨by rw [also_ne dn (show (7 : Nat) ≠ 2 by decide)]; exact x1, by rw [slot_put_ne (by decide)]; exact x2⟩
      · intro hk
        rw [also_ne dn (show (11 : Nat) ≠ 2 by decide)] at hk
        obtain ⟨x1, x2⟩ := c11 hk
        exact ⟨by rw [also_ne dn (show (7 : Nat) ≠ 2 by decide)]; exact x1, by rw [slot_put_ne (by decide)]; exact x2⟩
      · intro hk
        rw [also_ne dn (show (12 : Nat) ≠ 2 by decide)] at hk
        obtain ⟨x1, x2⟩ := c12 hk
        exact ⟨by rw [also_ne dn (show (7 : Nat) ≠ 2 by decide)]; exact x1, by rw [slot_put_ne (by decide)]; exact x2⟩
      · intro hk
        rw [also_ne dn (show (13 : Nat) ≠ 2 by decide)] at hk
        obtain ⟨x1, x2⟩ := c13 hk
        exact ⟨by rw [also_ne dn (show (7 : Nat) ≠ 2 by decide)]; exact x1, by rw [slot_put_ne (by decide)]; exact x2⟩
      · intro hk
        rw [also_ne dn (show (14 : Nat) ≠ 2 by decide)] at hk
        obtain ⟨x1, x2⟩ := c14 hk
        exact ⟨by rw [also_ne dn (show (7 : Nat) ≠ 2 by decide)]; exact x1, by rw [slot_put_ne (by decide)]; exact x2⟩
    | 3, _ =>
      refine opV_of_wpl (K := fun b p => RfI w a (.slice wa wn wc) (.slice pa pn pc) (.slice ua un uc) SC t x R (also dn 3) b p) _ (by simp only [List.getElem?_toArray, List.getElem?_cons_succ, List.getElem?_cons_zero]; rfl) ?_
      have e9 : b.eval (.tmp 13) = .slice ua un uc := (ho 13 (by decide)).trans h13
      refine wpl_val _ rfl rfl (.slice ua un uc) (by obtain ⟨ρ, hρ⟩ : ∃ ρ, b.eval = ρ := ⟨_, rfl⟩; rw [hρ] at e9 ⊢; unfold execOp; simp [go_sem, e9]) ?_
      refine ⟨rfl, rfl, hd, (by simpa [Go.Act.put] using hs), fun s hsn => (slot_put_ne (by rintro ⟨⟩; exact hsn (by simp))).trans (ho s hsn), hf, u, v, f, ?_, ?_, ?_, ?_, ?_, ?_, ?_, ?_, ?_, ?_, ?_, ?_, ?_, ?_, ?_⟩
      · intro hk
        rw [also_ne dn (show (0 : Nat) ≠ 3 by decide)] at hk
        rw [slot_put_ne (by decide)]
        exact c0 hk
      · intro hk
        rw [also_ne dn (show (1 : Nat) ≠ 3 by decide)] at hk
        rw [slot_put_ne (by decide)]
        exact c1 hk
      · intro hk hk4
        rw [also_ne dn (show (2 : Nat) ≠ 3 by decide)] at hk
        rw [also_ne dn (show (4 : Nat) ≠ 3 by decide)] at hk4
        rw [slot_put_ne (by decide)]
        exact c2 hk hk4
      · intro _
        exact slot_put_self (by rw [hs]; decide)
      · intro hk
        rw [also_ne dn (show (4 : Nat) ≠ 3 by decide)] at hk
        refine ⟨by rw [also_ne dn (show (2 : Nat) ≠ 3 by decide)]; exact (c4 hk).1, fun hk7 => ?_⟩
        rw [also_ne dn (show (7 : Nat) ≠ 3 by decide)] at hk7
        rw [slot_put_ne (by decide)]
        exact (c4 hk).2 hk7
      · intro hk
        rw [also_ne dn (show (5 : Nat) ≠ 3 by decide)] at hk
        rw [slot_put_ne (by decide)]
        exact c5 hk
      · intro hk
        rw [also_ne dn (show (6 : Nat) ≠ 3 by decide)] at hk
        rw [slot_put_ne (by decide)]
        exact c6 hk
      · intro hk
        rw [also_ne dn (show (7 : Nat) ≠ 3 by decide)] at hk
        obtain ⟨x1, x2, x3, x4⟩ := c7 hk
        exact ⟨by rw [also_ne dn (show (2 : Nat) ≠ 3 by decide)]; exact x1, by rw [also_ne dn (show (4 : Nat) ≠ 3 by decide)]; exact x2, by rw [slot_put_ne (by decide)]; exact x3, x4⟩
      · intro hk
        rw [also_ne dn (show (8 : Nat) ≠ 3 by decide)] at hk
        obtain ⟨x1, x2⟩ := c8 hk
        exact ⟨by rw [also_ne dn (show (7 : Nat) ≠ 3 by decide)]; exact x1, by rw [slot_put_ne (by decide)]; exact x2⟩
      · intro hk
        rw [also_ne dn (show (9 : Nat) ≠ 3 by decide)] at hk
        obtain ⟨x1, x2⟩ := c9 hk
        exact ⟨by rw [also_ne dn (show (7 : Nat) ≠ 3 by decide)]; exact x1, by rw [slot_put_ne (by decide)]; exact x2⟩
      · intro hk
        rw [also_ne dn (show (10 : Nat) ≠ 3 by decide)] at hk
        obtain ⟨x1, x2⟩ := c10 hk
        exact ⟨by rw [also_ne dn (show (7 : Nat) ≠ 3 by decide)]; exact x1, by rw [slot_put_ne (by decide)]; exact x2⟩
      · intro hk
        rw [also_ne dn (show (11 : Nat) ≠ 3 by decide)] at hk
        obtain ⟨x1, x2⟩ := c11 hk
        exact ⟨by rw [also_ne dn (show (7 : Nat) ≠ 3 by decide)]; exact x1, by rw [slot_put_ne (by decide)]; exact x2⟩
      · intro hk
        rw [also_ne dn (show (12 : Nat) ≠ 3 by decide)] at hk
        obtain ⟨x1, x2⟩ := c12 hk
        exact ⟨by rw [also_ne dn (show (7 : Nat) ≠ 3 by decide)]; exact x1, by rw [slot_put_ne (by decide)]; exact x2⟩
      · intro hk
        rw [also_ne dn (show (13 : Nat) ≠ 3 by decide)] at hk
        obtain ⟨x1, x2⟩ := c13 hk
        exact ⟨by rw [also_ne dn (show (7 : Nat) ≠ 3 by decide)]; exact x1, by rw [slot_put_ne (by decide)]; exact x2⟩
      · intro hk
        rw [also_ne dn (show (14 : Nat) ≠ 3 by decide)] at hk
        obtain ⟨x1, x2⟩ := c14 hk
        exact ⟨by rw [also_ne dn (show (7 : Nat) ≠ 3 by decide)]; exact x1, by rw [slot_put_ne (by decide)]; exact x2⟩
    | 4, _ =>
      refine opV_of_wpl (K := fun b p => RfI w a (.slice wa wn wc) (.slice pa pn pc) (.slice ua un uc) SC t x R (also dn 4) b p) _ (by simp only [List.getElem?_toArray, List.getElem?_cons_succ, List.getElem?_cons_zero]; rfl) ?_
      have e50 : b.eval (.tmp 50) = slot b 50 := rfl
      have e51 : b.eval (.tmp 51) = .slice ua un uc := c3 (hdeps 3 (by kernel_rfl))
      have hown2 := c2 (hdeps 2 (by kernel_rfl)) hdn
      refine wpl_append_bs (A := fun _ => False) (ys := x) (base := w.heap.size) Tryz.underlying22 Tryz.infoByte rfl (.tmp 50) (.tmp 51) rfl e50 e51 hown2 (hU.keep hf (by simp)) (by simp; omega) hf.size ?_
      intro v4 p4 hown4 hg4
      have hf4 : Fr [] w p4 := hown2.fr hf hg4 (Nat.le_refl _)
      refine ⟨rfl, rfl, hd, (by simpa [Go.Act.put] using hs), fun s hsn => (slot_put_ne (by rintro ⟨⟩; exact hsn (by simp))).trans (ho s hsn), hf4, u, v, f, ?_, ?_, ?_, ?_, ?_, ?_, ?_, ?_, ?_, ?_, ?_, ?_, ?_, ?_, ?_⟩
      · intro hk
        rw [also_ne dn (show (0 : Nat) ≠ 4 by decide)] at hk
        rw [slot_put_ne (by decide)]
        exact c0 hk
      · intro hk
        rw [also_ne dn (show (1 : Nat) ≠ 4 by decide)] at hk
        rw [slot_put_ne (by decide)]
        exact c1 hk
      · intro hk hk4
        rw [also_self] at hk4
        cases hk4
      · intro hk
        rw [also_ne dn (show (3 : Nat) ≠ 4 by decide)] at hk
        rw [slot_put_ne (by decide)]
        exact c3 hk
      · intro _
        refine ⟨by rw [also_ne dn (show (2 : Nat) ≠ 4 by decide)]; exact hdeps 2 (by kernel_rfl), fun _ => ?_⟩
        rw [slot_put_self (by rw [hs]; decide)]
        exact hown4
      · intro hk
        rw [also_ne dn (show (5 : Nat) ≠ 4 by decide)] at hk
        rw [slot_put_ne (by decide)]
        exact c5 hk
      · intro hk
        rw [also_ne dn (show (6 : Nat) ≠ 4 by decide)] at hk
        rw [slot_put_ne (by decide)]
        exact c6 hk
      · intro hk
        rw [also_ne dn (show (7 : Nat) ≠ 4 by decide)] at hk
        have hx := (c7 hk).2.1
        rw [hdn] at hx
        cases hx
      · intro hk
        rw [also_ne dn (show (8 : Nat) ≠ 4 by decide)] at hk
        obtain ⟨x1, x2⟩ := c8 hk
        exact ⟨by rw [also_ne dn (show (7 : Nat) ≠ 4 by decide)]; exact x1, by rw [slot_put_ne (by decide)]; exact x2⟩
      · intro hk
        rw [also_ne dn (show (9 : Nat) ≠ 4 by decide)] at hk
        obtain ⟨x1, x2⟩ := c9 hk
        exact ⟨by rw [also_ne dn (show (7 : Nat) ≠ 4 by decide)]; exact x1, by rw [slot_put_ne (by decide)]; exact x2⟩
      · intro hk
        rw [also_ne dn (show (10 : Nat) ≠ 4 by decide)] at hk
        obtain ⟨x1, x2⟩ := c10 hk
        exact ⟨by rw [also_ne dn (show (7 : Nat) ≠ 4 by decide)]; exact x1, by rw [slot_put_ne (by decide)]; exact x2⟩
      · intro hk
        rw [also_ne dn (show (11 : Nat) ≠ 4 by decide)] at hk
        obtain ⟨x1, x2⟩ := c11 hk
        exact ⟨by rw [also_ne dn (show (7 : Nat) ≠ 4 by decide)]; exact x1, by rw [slot_put_ne (by decide)]; exact x2⟩
      · intro hk
        rw [also_ne dn (show (12 : Nat) ≠ 4 by decide)] at hk
        obtain ⟨x1, x2⟩ := c12 hk
        exact ⟨by rw [also_ne dn (show (7 : Nat) ≠ 4 by decide)]; exact x1, by rw [slot_put_ne (by decide)]; exact x2⟩
      · intro hk
        rw [also_ne dn (show (13 : Nat) ≠ 4 by decide)] at hk
        obtain ⟨x1, x2⟩ := c13 hk
        exact ⟨by rw [also_ne dn (show (7 : Nat) ≠ 4 by decide)]; exact x1, by rw [slot_put_ne (by decide)]; exact x2⟩
      · intro hk
        rw [also_ne dn (show (14 : Nat) ≠ 4 by decide)] at hk
        obtain ⟨x1, x2⟩ := c14 hk
        exact ⟨by rw [also_ne dn (show (7 : Nat) ≠ 4 by decide)]; exact x1, by rw [slot_put_ne (by decide)]; exact x2⟩
    | 5, _ =>
      refine opV_of_wpl (K := fun b p => RfI w a (.slice wa wn wc) (.slice pa pn pc) (.slice ua un uc) SC t x R (also dn 5) b p) _ (by simp only [List.getElem?_toArray, List.getElem?_cons_succ, List.getElem?_cons_zero]; rfl) ?_
      have e9 : b.eval (.tmp 1) = .slice pa pn pc := (ho 1 (by decide)).trans h1
      refine wpl_val _ rfl rfl (.slice pa pn pc) (by obtain ⟨ρ, hρ⟩ : ∃ ρ, b.eval = ρ := ⟨_, rfl⟩; rw [hρ] at e9 ⊢; unfold execOp; simp [go_sem, e9]) ?_
      refine ⟨rfl, rfl, hd, (by simpa [Go.Act.put] using hs), fun s hsn => (slot_put_ne (by rintro ⟨⟩; exact hsn (by simp))).trans (ho s hsn), hf, u, v, f, ?_, ?_, ?_, ?_, ?_, ?_, ?_, ?_, ?_, ?_, ?_, ?_, ?_, ?_, ?_⟩
      · intro hk
        rw [also_ne dn (show (0 : Nat) ≠ 5 by decide)] at hk
        rw [slot_put_ne (by decide)]
        exact c0 hk
      · intro hk
        rw [also_ne dn (show (1 : Nat) ≠ 5 by decide)] at hk
        rw [slot_put_ne (by decide)]
        exact c1 hk
      · intro hk hk4
        rw [also_ne dn (show (2 : Nat) ≠ 5 by decide)] at hk
        rw [also_ne dn (show (4 : Nat) ≠ 5 by decide)] at hk4
        rw [slot_put_ne (by decide)]
        exact c2 hk hk4
      · intro hk
        rw [also_ne dn (show (3 : Nat) ≠ 5 by decide)] at hk
        rw [slot_put_ne (by decide)]
        exact c3 hk
      · intro hk
        rw [also_ne dn (show (4 : Nat) ≠ 5 by decide)] at hk
        refine ⟨by rw [also_ne dn (show (2 : Nat) ≠ 5 by decide)]; exact (c4 hk).1, fun hk7 => ?_⟩
        rw [also_ne dn (show (7 : Nat) ≠ 5 by decide)] at hk7
        rw [slot_put_ne (by decide)]
        exact (c4 hk).2 hk7
      · intro _
        exact slot_put_self (by rw [hs]; decide)
      · intro hk
        rw [also_ne dn (show (6 : Nat) ≠ 5 by decide)] at hk
        rw [slot_put_ne (by decide)]
        exact c6 hk
      · intro hk
        rw [also_ne dn (show (7 : Nat) ≠ 5 by decide)] at hk
        obtain ⟨x1, x2, x3, x4⟩ := c7 hk
        exact ⟨by rw [also_ne dn (show (2 : Nat) ≠ 5 by decide)]; exact x1, by rw [also_ne dn (show (4 : Nat) ≠ 5 by decide)]; exact x2, by rw [slot_put_ne (by decide)]; exact x3, x4⟩
      · intro hk
        rw [also_ne dn (show (8 : Nat) ≠ 5 by decide)] at hk
        obtain ⟨x1, x2⟩ := c8 hk
        exact ⟨by rw [also_ne dn (show (7 : Nat) ≠ 5 by decide)]; exact x1, by rw [slot_put_ne (by decide)]; exact x2⟩
      · intro hk
        rw [also_ne dn (show (9 : Nat) ≠ 5 by decide)] at hk
        obtain ⟨x1, x2⟩ := c9 hk
        exact ⟨by rw [also_ne dn (show (7 : Nat) ≠ 5 by decide)]; exact x1, by rw [slot_put_ne (by decide)]; exact x2⟩
      · intro hk
        rw [also_ne dn (show (10 : Nat) ≠ 5 by decide)] at hk
        obtain ⟨x1, x2⟩ := c10 hk
        exact ⟨by rw [also_ne dn (show (7 : Nat) ≠ 5 by decide)]; exact x1, by rw [slot_put_ne (by decide)]; exact x2⟩
      · intro hk
        rw [also_ne dn (show (11 : Nat) ≠ 5 by decide)] at hk
        obtain ⟨x1, x2⟩ := c11 hk
        exact ⟨by rw [also_ne dn (show (7 : Nat) ≠ 5 by decide)]; exact x1, by rw [slot_put_ne (by decide)]; exact x2⟩
      · intro hk
        rw [also_ne dn (show (12 : Nat) ≠ 5 by decide)] at hk
        obtain ⟨x1, x2⟩ := c12 hk
        exact ⟨by rw [also_ne dn (show (7 : Nat) ≠ 5 by decide)]; exact x1, by rw [slot_put_ne (by decide)]; exact x2⟩
      · intro hk
        rw [also_ne dn (show (13 : Nat) ≠ 5 by decide)] at hk
        obtain ⟨x1, x2⟩ := c13 hk
        exact ⟨by rw [also_ne dn (show (7 : Nat) ≠ 5 by decide)]; exact x1, by rw [slot_put_ne (by decide)]; exact x2⟩
      · intro hk
        rw [also_ne dn (show (14 : Nat) ≠ 5 by decide)] at hk
        obtain ⟨x1, x2⟩ := c14 hk
        exact ⟨by rw [also_ne dn (show (7 : Nat) ≠ 5 by decide)]; exact x1, by rw [slot_put_ne (by decide)]; exact x2⟩
    | 6, _ =>
      refine opV_of_wpl (K := fun b p => RfI w a (.slice wa wn wc) (.slice pa pn pc) (.slice ua un uc) SC t x R (also dn 6) b p) _ (by simp only [List.getElem?_toArray, List.getElem?_cons_succ, List.getElem?_cons_zero]; rfl) ?_
      have e9 : b.eval (.tmp 12) = .int .i64 (t : Int) := (ho 12 (by decide)).trans h12
      refine wpl_val _ rfl rfl (.int .i64 (t : Int)) (by obtain ⟨ρ, hρ⟩ : ∃ ρ, b.eval = ρ := ⟨_, rfl⟩; rw [hρ] at e9 ⊢; unfold execOp; simp [go_sem, e9]) ?_
      refine ⟨rfl, rfl, hd, (by simpa [Go.Act.put] using hs), fun s hsn => (slot_put_ne (by rintro ⟨⟩; exact hsn (by simp))).trans (ho s hsn), hf, u, v, f, ?_, ?_, ?_, ?_, ?_, ?_, ?_, ?_, ?_, ?_, ?_, ?_, ?_, ?_, ?_⟩
      · intro hk
        rw [also_ne dn (show (0 : Nat) ≠ 6 by decide)] at hk
        rw [slot_put_ne (by decide)]
        exact c0 hk
      · intro hk
        rw [also_ne dn (show (1 : Nat) ≠ 6 by decide)] at hk
        rw [slot_put_ne (by decide)]
        exact c1 hk
      · intro hk hk4
        rw [also_ne dn (show (2 : Nat) ≠ 6 by decide)] at hk
        rw [also_ne dn (show (4 : Nat) ≠ 6 by decide)] at hk4
        rw [slot_put_ne (by decide)]
        exact c2 hk hk4
      · intro hk
        rw [also_ne dn (show (3 : Nat) ≠ 6 by decide)] at hk
        rw [slot_put_ne (by decide)]
        exact c3 hk
      · intro hk
        rw [also_ne dn (show (4 : Nat) ≠ 6 by decide)] at hk
        refine ⟨by rw [also_ne dn (show (2 : Nat) ≠ 6 by decide)]; exact (c4 hk).1, fun hk7 => ?_⟩
        rw [also_ne dn (show (7 : Nat) ≠ 6 by decide)] at hk7
        rw [slot_put_ne (by decide)]
        exact (c4 hk).2 hk7
      · intro hk
        rw [also_ne dn (show (5 : Nat) ≠ 6 by decide)] at hk
        rw [slot_put_ne (by decide)]
        exact c5 hk
      · intro _
        exact slot_put_self (by rw [hs]; decide)
      · intro hk
        rw [also_ne dn (show (7 : Nat) ≠ 6 by decide)] at hk
        obtain ⟨x1, x2, x3, x4⟩ := c7 hk
        exact ⟨by rw [also_ne dn (show (2 : Nat) ≠ 6 by decide)]; exact x1, by rw [also_ne dn (show (4 : Nat) ≠ 6 by decide)]; exact x2, by rw [slot_put_ne (by decide)]; exact x3, x4⟩
      · intro hk
        rw [also_ne dn (show (8 : Nat) ≠ 6 by decide)] at hk
        obtain ⟨x1, x2⟩ := c8 hk
        exact ⟨by rw [also_ne dn (show (7 : Nat) ≠ 6 by decide)]; exact x1, by rw [slot_put_ne (by decide)]; exact x2⟩
      · intro hk
        rw [also_ne dn (show (9 : Nat) ≠ 6 by decide)] at hk
        obtain ⟨x1, x2⟩ := c9 hk
        exact ⟨by rw [also_ne dn (show (7 : Nat) ≠ 6 by decide)]; exact x1, by rw [slot_put_ne (by decide)]; exact x2⟩
      · intro hk
        rw [also_ne dn (show (10 : Nat) ≠ 6 by decide)] at hk
        obtain ⟨x1, x2⟩ := c10 hk
        exact ⟨by rw [also_ne dn (show (7 : Nat) ≠ 6 by decide)]; exact x1, by rw [slot_put_ne (by decide)]; exact x2⟩
      · intro hk
        rw [also_ne dn (show (11 : Nat) ≠ 6 by decide)] at hk
        obtain ⟨x1, x2⟩ := c11 hk
        exact ⟨by rw [also_ne dn (show (7 : Nat) ≠ 6 by decide)]; exact x1, by rw [slot_put_ne (by decide)]; exact x2⟩
      · intro hk
        rw [also_ne dn (show (12 : Nat) ≠ 6 by decide)] at hk
        obtain ⟨x1, x2⟩ := c12 hk
        exact ⟨by rw [also_ne dn (show (7 : Nat) ≠ 6 by decide)]; exact x1, by rw [slot_put_ne (by decide)]; exact x2⟩
      · intro hk
        rw [also_ne dn (show (13 : Nat) ≠ 6 by decide)] at hk
        obtain ⟨x1, x2⟩ := c13 hk
        exact ⟨by rw [also_ne dn (show (7 : Nat) ≠ 6 by decide)]; exact x1, by rw [slot_put_ne (by decide)]; exact x2⟩
      · intro hk
        rw [also_ne dn (show (14 : Nat) ≠ 6 by decide)] at hk
        obtain ⟨x1, x2⟩ := c14 hk
        exact ⟨by rw [also_ne dn (show (7 : Nat) ≠ 6 by decide)]; exact x1, by rw [slot_put_ne (by decide)]; exact x2⟩
    | 7, _ =>
      have e0 : b.eval (.tmp 48) = .slice wa wn wc := c0 (hdeps 0 (by kernel_rfl))
      have e1 : b.eval (.tmp 49) = .agg SC := c1 (hdeps 1 (by kernel_rfl))
      have e2 : b.eval (.tmp 52) = slot b 52 := rfl
      have e3 : b.eval (.tmp 53) = .slice pa pn pc := c5 (hdeps 5 (by kernel_rfl))
      have e4 : b.eval (.tmp 54) = .int .i64 (t : Int) := c6 (hdeps 6 (by kernel_rfl))
      obtain ⟨h2, hown⟩ := c4 (hdeps 4 (by kernel_rfl))
      refine opV_func _ (by simp only [List.getElem?_toArray, List.getElem?_cons_succ, List.getElem?_cons_zero]; rfl) (wanted_none rfl) 28 _ _ rfl #[.slice wa wn wc, .agg SC, slot b 52, .slice pa pn pc, .int .i64 (t : Int)] (by simp only [List.map_toArray, List.map_cons, List.map_nil, e0, e1, e2, e3, e4]) (by simp [go_sem]) ((hcall p _ hf (hown hdn)).mono ?_)
      rintro e p2 ⟨u2, v2, f2, rfl, hR, hf2⟩
      refine ⟨_, rfl, ?_⟩
      show RfI w a (.slice wa wn wc) (.slice pa pn pc) (.slice ua un uc) SC t x R (also dn 7) (b.put (some 55) _) p2
      refine ⟨hd, (by simpa [Go.Act.put] using hs), fun s hsn => (slot_put_ne (by rintro ⟨⟩; exact hsn (by simp))).trans (ho s hsn), hf.trans hf2, u2, v2, f2, ?_, ?_, ?_, ?_, ?_, ?_, ?_, ?_, ?_, ?_, ?_, ?_, ?_, ?_, ?_⟩
      · intro hk
        rw [also_ne dn (show (0 : Nat) ≠ 7 by decide)] at hk
        rw [slot_put_ne (by decide)]
        exact c0 hk
      · intro hk
        rw [also_ne dn (show (1 : Nat) ≠ 7 by decide)] at hk
        rw [slot_put_ne (by decide)]
        exact c1 hk
      · intro hk hk4
        rw [also_ne dn (show (4 : Nat) ≠ 7 by decide)] at hk4
        rw [hdeps 4 (by kernel_rfl)] at hk4
        cases hk4
      · intro hk
        rw [also_ne dn (show (3 : Nat) ≠ 7 by decide)] at hk
        rw [slot_put_ne (by decide)]
        exact c3 hk
      · intro hk
        rw [also_ne dn (show (4 : Nat) ≠ 7 by decide)] at hk
        refine ⟨by rw [also_ne dn (show (2 : Nat) ≠ 7 by decide)]; exact (c4 hk).1, fun hk7 => ?_⟩
        rw [also_self] at hk7
        cases hk7
      · intro hk
        rw [also_ne dn (show (5 : Nat) ≠ 7 by decide)] at hk
        rw [slot_put_ne (by decide)]
        exact c5 hk
      · intro hk
        rw [also_ne dn (show (6 : Nat) ≠ 7 by decide)] at hk
        rw [slot_put_ne (by decide)]
        exact c6 hk
      · intro _
        exact ⟨by rw [also_ne dn (show (2 : Nat) ≠ 7 by decide)]; exact h2, by rw [also_ne dn (show (4 : Nat) ≠ 7 by decide)]; exact hdeps 4 (by kernel_rfl), slot_put_self (by rw [hs]; decide), hR⟩
      · intro hk
        rw [also_ne dn (show (8 : Nat) ≠ 7 by decide)] at hk
        have hx := (c8 hk).1
        rw [hdn] at hx
        cases hx
      · intro hk
        rw [also_ne dn (show (9 : Nat) ≠ 7 by decide)] at hk
        have hx := (c9 hk).1
        rw [hdn] at hx
        cases hx
      · intro hk
        rw [also_ne dn (show (10 : Nat) ≠ 7 by decide)] at hk
        have hx := (c10 hk).1
        rw [hdn] at hx
        cases hx
      · intro hk
        rw [also_ne dn (show (11 : Nat) ≠ 7 by decide)] at hk
        have hx := (c11 hk).1
        rw [hdn] at hx
        cases hx
      · intro hk
        rw [also_ne dn (show (12 : Nat) ≠ 7 by decide)] at hk
        have hx := (c12 hk).1
        rw [hdn] at hx
        cases hx
      · intro hk
        rw [also_ne dn (show (13 : Nat) ≠ 7 by decide)] at hk
        have hx := (c13 hk).1
        rw [hdn] at hx
        cases hx
      · intro hk
        rw [also_ne dn (show (14 : Nat) ≠ 7 by decide)] at hk
        have hx := (c14 hk).1
        rw [hdn] at hx
        cases hx
    | 8, _ =>
      refine opV_of_wpl (K := fun b p => RfI w a (.slice wa wn wc) (.slice pa pn pc) (.slice ua un uc) SC t x R (also dn 8) b p) _ (by simp only [List.getElem?_toArray, List.getElem?_cons_succ, List.getElem?_cons_zero]; rfl) ?_
      obtain ⟨-, -, x3, -⟩ := c7 (hdeps 7 (by kernel_rfl))
      have h7 : dn 7 = true := hdeps 7 (by kernel_rfl)
      have e9 : b.eval (.tmp 55) = .tuple #[u, v, f] := x3
      refine wpl_val _ rfl rfl (.tuple #[u, v, f]) (by obtain ⟨ρ, hρ⟩ : ∃ ρ, b.eval = ρ := ⟨_, rfl⟩; rw [hρ] at e9 ⊢; unfold execOp; simp [go_sem, e9]) ?_
      refine ⟨rfl, rfl, hd, (by simpa [Go.Act.put] using hs), fun s hsn => (slot_put_ne (by rintro ⟨⟩; exact hsn (by simp))).trans (ho s hsn), hf, u, v, f, ?_, ?_, ?_, ?_, ?_, ?_, ?_, ?_, ?_, ?_, ?_, ?_, ?_, ?_, ?_⟩
      · intro hk
        rw [also_ne dn (show (0 : Nat) ≠ 8 by decide)] at hk
        rw [slot_put_ne (by decide)]
        exact c0 hk
      · intro hk
        rw [also_ne dn (show (1 : Nat) ≠ 8 by decide)] at hk
        rw [slot_put_ne (by decide)]
        exact c1 hk
      · intro hk hk4
        rw [also_ne dn (show (2 : Nat) ≠ 8 by decide)] at hk
        rw [also_ne dn (show (4 : Nat) ≠ 8 by decide)] at hk4
        rw [slot_put_ne (by decide)]
        exact c2 hk hk4
      · intro hk
        rw [also_ne dn (show (3 : Nat) ≠ 8 by decide)] at hk
        rw [slot_put_ne (by decide)]
        exact c3 hk
      · intro hk
        rw [also_ne dn (show (4 : Nat) ≠ 8 by decide)] at hk
        refine ⟨by rw [also_ne dn (show (2 : Nat) ≠ 8 by decide)]; exact (c4 hk).1, fun hk7 => ?_⟩
        rw [also_ne dn (show (7 : Nat) ≠ 8 by decide)] at hk7
        rw [slot_put_ne (by decide)]
        exact (c4 hk).2 hk7
      · intro hk
        rw [also_ne dn (show (5 : Nat) ≠ 8 by decide)] at hk
        rw [slot_put_ne (by decide)]
        exact c5 hk
      · intro hk
        rw [also_ne dn (show (6 : Nat) ≠ 8 by decide)] at hk
        rw [slot_put_ne (by decide)]
        exact c6 hk
      · intro hk
        rw [also_ne dn (show (7 : Nat) ≠ 8 by decide)] at hk
        obtain ⟨x1, x2, x3, x4⟩ := c7 hk
        exact ⟨by rw [also_ne dn (show (2 : Nat) ≠ 8 by decide)]; exact x1, by rw [also_ne dn (show (4 : Nat) ≠ 8 by decide)]; exact x2, by rw [slot_put_ne (by decide)]; exact x3, x4⟩
      · intro _
        exact ⟨by rw [also_ne dn (show (7 : Nat) ≠ 8 by decide)]; exact h7, slot_put_self (by rw [hs]; decide)⟩
      · intro hk
        rw [also_ne dn (show (9 : Nat) ≠ 8 by decide)] at hk
        obtain ⟨x1, x2⟩ := c9 hk
        exact ⟨by rw [also_ne dn (show (7 : Nat) ≠ 8 by decide)]; exact x1, by rw [slot_put_ne (by decide)]; exact x2⟩
      · intro hk
        rw [also_ne dn (show (10 : Nat) ≠ 8 by decide)] at hk
        obtain ⟨x1, x2⟩ := c10 hk
        exact ⟨by rw [also_ne dn (show (7 : Nat) ≠ 8 by decide)]; exact x1, by rw [slot_put_ne (by decide)]; exact x2⟩
      · intro hk
        rw [also_ne dn (show (11 : Nat) ≠ 8 by decide)] at hk
        obtain ⟨x1, x2⟩ := c11 hk
        exact ⟨by rw [also_ne dn (show (7 : Nat) ≠ 8 by decide)]; exact x1, by rw [slot_put_ne (by decide)]; exact x2⟩
      · intro hk
        rw [also_ne dn (show (12 : Nat) ≠ 8 by decide)] at hk
        obtain ⟨x1, x2⟩ := c12 hk
        exact ⟨by rw [also_ne dn (show (7 : Nat) ≠ 8 by decide)]; exact x1, by rw [slot_put_ne (by decide)]; exact x2⟩
      · intro hk
        rw [also_ne dn (show (13 : Nat) ≠ 8 by decide)] at hk
        obtain ⟨x1, x2⟩ := c13 hk
        exact ⟨by rw [also_ne dn (show (7 : Nat) ≠ 8 by decide)]; exact x1, by rw [slot_put_ne (by decide)]; exact x2⟩
      · intro hk
        rw [also_ne dn (show (14 : Nat) ≠ 8 by decide)] at hk
        obtain ⟨x1, x2⟩ := c14 hk
        exact ⟨by rw [also_ne dn (show (7 : Nat) ≠ 8 by decide)]; exact x1, by rw [slot_put_ne (by decide)]; exact x2⟩
    | 9, _ =>
      refine opV_of_wpl (K := fun b p => RfI w a (.slice wa wn wc) (.slice pa pn pc) (.slice ua un uc) SC t x R (also dn 9) b p) _ (by simp only [List.getElem?_toArray, List.getElem?_cons_succ, List.getElem?_cons_zero]; rfl) ?_
      obtain ⟨h7, x3⟩ := c8 (hdeps 8 (by kernel_rfl))
      have e9 : b.eval (.tmp 47) = .tuple #[u, v, f] := x3
      refine wpl_val _ rfl rfl (u) (by obtain ⟨ρ, hρ⟩ : ∃ ρ, b.eval = ρ := ⟨_, rfl⟩; rw [hρ] at e9 ⊢; unfold execOp; simp [go_sem, e9]) ?_
      refine ⟨rfl, rfl, hd, (by simpa [Go.Act.put] using hs), fun s hsn => (slot_put_ne (by rintro ⟨⟩; exact hsn (by simp))).trans (ho s hsn), hf, u, v, f, ?_, ?_, ?_, ?_, ?_, ?_, ?_, ?_, ?_, ?_, ?_, ?_, ?_, ?_, ?_⟩
      · intro hk
        rw [also_ne dn (show (0 : Nat) ≠ 9 by decide)] at hk
        rw [slot_put_ne (by decide)]
        exact c0 hk
      · intro hk
        rw [also_ne dn (show (1 : Nat) ≠ 9 by decide)] at hk
        rw [slot_put_ne (by decide)]
        exact c1 hk
      · intro hk hk4
        rw [also_ne dn (show (2 : Nat) ≠ 9 by decide)] at hk
        rw [also_ne dn (show (4 : Nat) ≠ 9 by decide)] at hk4
        rw [slot_put_ne (by decide)]
        exact c2 hk hk4
      · intro hk
        rw [also_ne dn (show (3 : Nat) ≠ 9 by decide)] at hk
        rw [slot_put_ne (by decide)]
        exact c3 hk
      · intro hk
        rw [also_ne dn (show (4 : Nat) ≠ 9 by decide)] at hk
        refine ⟨by rw [also_ne dn (show (2 : Nat) ≠ 9 by decide)]; exact (c4 hk).1, fun hk7 => ?_⟩
        rw [also_ne dn (show (7 : Nat) ≠ 9 by decide)] at hk7
        rw [slot_put_ne (by decide)]
        exact (c4 hk).2 hk7
      · intro hk
        rw [also_ne dn (show (5 : Nat) ≠ 9 by decide)] at hk
        rw [slot_put_ne (by decide)]
        exact c5 hk
      · intro hk
        rw [also_ne dn (show (6 : Nat) ≠ 9 by decide)] at hk
        rw [slot_put_ne (by decide)]
        exact c6 hk
      · intro hk
        rw [also_ne dn (show (7 : Nat) ≠ 9 by decide)] at hk
        obtain ⟨x1, x2, x3, x4⟩ := c7 hk
        exact ⟨by rw [also_ne dn (show (2 : Nat) ≠ 9 by decide)]; exact x1, by rw [also_ne dn (show (4 : Nat) ≠ 9 by decide)]; exact x2, by rw [slot_put_ne (by decide)]; exact x3, x4⟩
      · intro hk
        rw [also_ne dn (show (8 : Nat) ≠ 9 by decide)] at hk
        obtain ⟨x1, x2⟩ := c8 hk
        exact ⟨by rw [also_ne dn (show (7 : Nat) ≠ 9 by decide)]; exact x1, by rw [slot_put_ne (by decide)]; exact x2⟩
      · intro _
        exact ⟨by rw [also_ne dn (show (7 : Nat) ≠ 9 by decide)]; exact h7, slot_put_self (by rw [hs]; decide)⟩
      · intro hk
        rw [also_ne dn (show (10 : Nat) ≠ 9 by decide)] at hk
        obtain ⟨x1, x2⟩ := c10 hk
        exact ⟨by rw [also_ne dn (show (7 : Nat) ≠ 9 by decide)]; exact x1, by rw [slot_put_ne (by decide)]; exact x2⟩
      · intro hk
        rw [also_ne dn (show (11 : Nat) ≠ 9 by decide)] at hk
        obtain ⟨x1, x2⟩ := c11 hk
        exact ⟨by rw [also_ne dn (show (7 : Nat) ≠ 9 by decide)]; exact x1, by rw [slot_put_ne (by decide)]; exact x2⟩
      · intro hk
        rw [also_ne dn (show (12 : Nat) ≠ 9 by decide)] at hk
        obtain ⟨x1, x2⟩ := c12 hk
        exact ⟨by rw [also_ne dn (show (7 : Nat) ≠ 9 by decide)]; exact x1, by rw [slot_put_ne (by decide)]; exact x2⟩
      · intro hk
        rw [also_ne dn (show (13 : Nat) ≠ 9 by decide)] at hk
        obtain ⟨x1, x2⟩ := c13 hk
        exact ⟨by rw [also_ne dn (show (7 : Nat) ≠ 9 by decide)]; exact x1, by rw [slot_put_ne (by decide)]; exact x2⟩
      · intro hk
        rw [also_ne dn (show (14 : Nat) ≠ 9 by decide)] at hk
        obtain ⟨x1, x2⟩ := c14 hk
        exact ⟨by rw [also_ne dn (show (7 : Nat) ≠ 9 by decide)]; exact x1, by rw [slot_put_ne (by decide)]; exact x2⟩
    | 10, _ =>
      refine opV_of_wpl (K := fun b p => RfI w a (.slice wa wn wc) (.slice pa pn pc) (.slice ua un uc) SC t x R (also dn 10) b p) _ (by simp only [List.getElem?_toArray, List.getElem?_cons_succ, List.getElem?_cons_zero]; rfl) ?_
      obtain ⟨h7, x3⟩ := c8 (hdeps 8 (by kernel_rfl))
      have e9 : b.eval (.tmp 47) = .tuple #[u, v, f] := x3
      refine wpl_val _ rfl rfl (v) (by obtain ⟨ρ, hρ⟩ : ∃ ρ, b.eval = ρ := ⟨_, rfl⟩; rw [hρ] at e9 ⊢; unfold execOp; simp [go_sem, e9]) ?_
      refine ⟨rfl, rfl, hd, (by simpa [Go.Act.put] using hs), fun s hsn => (slot_put_ne (by rintro ⟨⟩; exact hsn (by simp))).trans (ho s hsn), hf, u, v, f, ?_, ?_, ?_, ?_, ?_, ?_, ?_, ?_, ?_, ?_, ?_, ?_, ?_, ?_, ?_⟩
      · intro hk
        rw [also_ne dn (show (0 : Nat) ≠ 10 by decide)] at hk
        rw [slot_put_ne (by decide)]
        exact c0 hk
      · intro hk
        rw [also_ne dn (show (1 : Nat) ≠ 10 by decide)] at hk
        rw [slot_put_ne (by decide)]
        exact c1 hk
      · intro hk hk4
        rw [also_ne dn (show (2 : Nat) ≠ 10 by decide)] at hk
        rw [also_ne dn (show (4 : Nat) ≠ 10 by decide)] at hk4
        rw [slot_put_ne (by decide)]
        exact c2 hk hk4
      · intro hk
        rw [also_ne dn (show (3 : Nat) ≠ 10 by decide)] at hk
        rw [slot_put_ne (by decide)]
        exact c3 hk
      · intro hk
        rw [also_ne dn (show (4 : Nat) ≠ 10 by decide)] at hk
        refine ⟨by rw [also_ne dn (show (2 : Nat) ≠ 10 by decide)]; exact (c4 hk).1, fun hk7 => ?_⟩
        rw [also_ne dn (show (7 : Nat) ≠ 10 by decide)] at hk7
        rw [slot_put_ne (by decide)]
        exact (c4 hk).2 hk7
      · intro hk
        rw [also_ne dn (show (5 : Nat) ≠ 10 by decide)] at hk
        rw [slot_put_ne (by decide)]
        exact c5 hk
      · intro hk
        rw [also_ne dn (show (6 : Nat) ≠ 10 by decide)] at hk
        rw [slot_put_ne (by decide)]
        exact c6 hk
      · intro hk
        rw [also_ne dn (show (7 : Nat) ≠ 10 by decide)] at hk
        obtain ⟨x1, x2, x3, x4⟩ := c7 hk
        exact ⟨by rw [also_ne dn (show (2 : Nat) ≠ 10 by decide)]; exact x1, by rw [also_ne dn (show (4 : Nat) ≠ 10 by decide)]; exact x2, by rw [slot_put_ne (by decide)]; exact x3, x4⟩
      · intro hk
        rw [also_ne dn (show (8 : Nat) ≠ 10 by decide)] at hk
        obtain ⟨x1, x2⟩ := c8 hk
        exact ⟨by rw [also_ne dn (show (7 : Nat) ≠ 10 by decide)]; exact x1, by rw [slot_put_ne (by decide)]; exact x2⟩
      · intro hk
        rw [also_ne dn (show (9 : Nat) ≠ 10 by decide)] at hk
        obtain ⟨x1, x2⟩ := c9 hk
        exact ⟨by rw [also_ne dn (show (7 : Nat) ≠ 10 by decide)]; exact x1, by rw [slot_put_ne (by decide)]; exact x2⟩
      · intro _
        exact ⟨by rw [also_ne dn (show (7 : Nat) ≠ 10 by decide)]; exact h7, slot_put_self (by rw [hs]; decide)⟩
      · intro hk
        rw [also_ne dn (show (11 : Nat) ≠ 10 by decide)] at hk
        obtain ⟨x1, x2⟩ := c11 hk
        exact ⟨by rw [also_ne dn (show (7 : Nat) ≠ 10 by decide)]; exact x1, by rw [slot_put_ne (by decide)]; exact x2⟩
      · intro hk
        rw [also_ne dn (show (12 : Nat) ≠ 10 by decide)] at hk
        obtain ⟨x1, x2⟩ := c12 hk
        exact ⟨by rw [also_ne dn (show (7 : Nat) ≠ 10 by decide)]; exact x1, by rw [slot_put_ne (by decide)]; exact x2⟩
      · intro hk
        rw [also_ne dn (show (13 : Nat) ≠ 10 by decide)] at hk
        obtain ⟨x1, x2⟩ := c13 hk
        exact ⟨by rw [also_ne dn (show (7 : Nat) ≠ 10 by decide)]; exact x1, by rw [slot_put_ne (by decide)]; exact x2⟩
      · intro hk
        rw [also_ne dn (show (14 : Nat) ≠ 10 by decide)] at hk
        obtain ⟨x1, x2⟩ := c14 hk
        exact ⟨by rw [also_ne dn (show (7 : Nat) ≠ 10 by decide)]; exact x1, by rw [slot_put_ne (by decide)]; exact x2⟩
    | 11, _ =>
      refine opV_of_wpl (K := fun b p => RfI w a (.slice wa wn wc) (.slice pa pn pc) (.slice ua un uc) SC t x R (also dn 11) b p) _ (by simp only [List.getElem?_toArray, List.getElem?_cons_succ, List.getElem?_cons_zero]; rfl) ?_
      obtain ⟨h7, x3⟩ := c8 (hdeps 8 (by kernel_rfl))
      have e9 : b.eval (.tmp 47) = .tuple #[u, v, f] := x3
      refine wpl_val _ rfl rfl (f) (by obtain ⟨ρ, hρ⟩ : ∃ ρ, b.eval = ρ := ⟨_, rfl⟩; rw [hρ] at e9 ⊢; unfold execOp; simp [go_sem, e9]) ?_
      refine ⟨rfl, rfl, hd, (by simpa [Go.Act.put] using hs), fun s hsn => (slot_put_ne (by rintro ⟨⟩; exact hsn (by simp))).trans (ho s hsn), hf, u, v, f, ?_, ?_, ?_, ?_, ?_, ?_, ?_, ?_, ?_, ?_, ?_, ?_, ?_, ?_, ?_⟩
      · intro hk
        rw [also_ne dn (show (0 : Nat) ≠ 11 by decide)] at hk
        rw [slot_put_ne (by decide)]
        exact c0 hk
      · intro hk
        rw [also_ne dn (show (1 : Nat) ≠ 11 by decide)] at hk
        rw [slot_put_ne (by decide)]
        exact c1 hk
      · intro hk hk4
        rw [also_ne dn (show (2 : Nat) ≠ 11 by decide)] at hk
        rw [also_ne dn (show (4 : Nat) ≠ 11 by decide)] at hk4
        rw [slot_put_ne (by decide)]
        exact c2 hk hk4
      · intro hk
        rw [also_ne dn (show (3 : Nat) ≠ 11 by decide)] at hk
        rw [slot_put_ne (by decide)]
        exact c3 hk
      · intro hk
        rw [also_ne dn (show (4 : Nat) ≠ 11 by decide)] at hk
        refine ⟨by rw [also_ne dn (show (2 : Nat) ≠ 11 by decide)]; exact (c4 hk).1, fun hk7 => ?_⟩
        rw [also_ne dn (show (7 : Nat) ≠ 11 by decide)] at hk7
        rw [slot_put_ne (by decide)]
        exact (c4 hk).2 hk7
      · intro hk
        rw [also_ne dn (show (5 : Nat) ≠ 11 by decide)] at hk
        rw [slot_put_ne (by decide)]
        exact c5 hk
      · intro hk
        rw [also_ne dn (show (6 : Nat) ≠ 11 by decide)] at hk
        rw [slot_put_ne (by decide)]
        exact c6 hk
      · intro hk
        rw [also_ne dn (show (7 : Nat) ≠ 11 by decide)] at hk
        obtain ⟨x1, x2, x3, x4⟩ := c7 hk
        exact ⟨by rw [also_ne dn (show (2 : Nat) ≠ 11 by decide)]; exact x1, by rw [also_ne dn (show (4 : Nat) ≠ 11 by decide)]; exact x2, by rw [slot_put_ne (by decide)]; exact x3, x4⟩
      · intro hk
        rw [also_ne dn (show (8 : Nat) ≠ 11 by decide)] at hk
        obtain ⟨x1, x2⟩ := c8 hk
        exact ⟨by rw [also_ne dn (show (7 : Nat) ≠ 11 by decide)]; exact x1, by rw [slot_put_ne (by decide)]; exact x2⟩
      · intro hk
        rw [also_ne dn (show (9 : Nat) ≠ 11 by decide)] at hk
        obtain ⟨x1, x2⟩ := c9 hk
        exact ⟨by rw [also_ne dn (show (7 : Nat) ≠ 11 by decide)]; exact x1, by rw [slot_put_ne (by decide)]; exact x2⟩
      · intro hk
        rw [also_ne dn (show (10 : Nat) ≠ 11 by decide)] at hk
        obtain ⟨x1, x2⟩ := c10 hk
        exact ⟨by rw [also_ne dn (show (7 : Nat) ≠ 11 by decide)]; exact x1, by rw [slot_put_ne (by decide)]; exact x2⟩
      · intro _
        exact ⟨by rw [also_ne dn (show (7 : Nat) ≠ 11 by decide)]; exact h7, slot_put_self (by rw [hs]; decide)⟩
      · intro hk
        rw [also_ne dn (show (12 : Nat) ≠ 11 by decide)] at hk
        obtain ⟨x1, x2⟩ := c12 hk
        exact ⟨by rw [also_ne dn (show (7 : Nat) ≠ 11 by decide)]; exact x1, by rw [slot_put_ne (by decide)]; exact x2⟩
      · intro hk
        rw [also_ne dn (show (13 : Nat) ≠ 11 by decide)] at hk
        obtain ⟨x1, x2⟩ := c13 hk
        exact ⟨by rw [also_ne dn (show (7 : Nat) ≠ 11 by decide)]; exact x1, by rw [slot_put_ne (by decide)]; exact x2⟩
      · intro hk
        rw [also_ne dn (show (14 : Nat) ≠ 11 by decide)] at hk
        obtain ⟨x1, x2⟩ := c14 hk
        exact ⟨by rw [also_ne dn (show (7 : Nat) ≠ 11 by decide)]; exact x1, by rw [slot_put_ne (by decide)]; exact x2⟩
    | 12, _ =>
      refine opV_of_wpl (K := fun b p => RfI w a (.slice wa wn wc) (.slice pa pn pc) (.slice ua un uc) SC t x R (also dn 12) b p) _ (by simp only [List.getElem?_toArray, List.getElem?_cons_succ, List.getElem?_cons_zero]; rfl) ?_
      obtain ⟨h7, x3⟩ := c9 (hdeps 9 (by kernel_rfl))
      have e9 : b.eval (.tmp 56) = u := x3
      refine wpl_val _ rfl rfl (u) (by obtain ⟨ρ, hρ⟩ : ∃ ρ, b.eval = ρ := ⟨_, rfl⟩; rw [hρ] at e9 ⊢; unfold execOp; simp [go_sem, e9]) ?_
      refine ⟨rfl, rfl, hd, (by simpa [Go.Act.put] using hs), fun s hsn => (slot_put_ne (by rintro ⟨⟩; exact hsn (by simp))).trans (ho s hsn), hf, u, v, f, ?_, ?_, ?_, ?_, ?_, ?_, ?_, ?_, ?_, ?_, ?_, ?_, ?_, ?_, ?_⟩
      · intro hk
        rw [also_ne dn (show (0 : Nat) ≠ 12 by decide)] at hk
        rw [slot_put_ne (by decide)]
        exact c0 hk
      · intro hk
        rw [also_ne dn (show (1 : Nat) ≠ 12 by decide)] at hk
        rw [slot_put_ne (by decide)]
        exact c1 hk
      · intro hk hk4
        rw [also_ne dn (show (2 : Nat) ≠ 12 by decide)] at hk
        rw [also_ne dn (show (4 : Nat) ≠ 12 by decide)] at hk4
        rw [slot_put_ne (by decide)]
        exact c2 hk hk4
      · intro hk
        rw [also_ne dn (show (3 : Nat) ≠ 12 by decide)] at hk
        rw [slot_put_ne (by decide)]
        exact c3 hk
      · intro hk
        rw [also_ne dn (show (4 : Nat) ≠ 12 by decide)] at hk
        refine ⟨by rw [also_ne dn (show (2 : Nat) ≠ 12 by decide)]; exact (c4 hk).1, fun hk7 => ?_⟩
        rw [also_ne dn (show (7 : Nat) ≠ 12 by decide)] at hk7
        rw [slot_put_ne (by decide)]
        exact (c4 hk).2 hk7
      · intro hk
        rw [also_ne dn (show (5 : Nat) ≠ 12 by decide)] at hk
        rw [slot_put_ne (by decide)]
        exact c5 hk
      · intro hk
        rw [also_ne dn (show (6 : Nat) ≠ 12 by decide)] at hk
        rw [slot_put_ne (by decide)]
        exact c6 hk
      · intro hk
        rw [also_ne dn (show (7 : Nat) ≠ 12 by decide)] at hk
        obtain ⟨x1, x2, x3, x4⟩ := c7 hk
        exact ⟨by rw [also_ne dn (show (2 : Nat) ≠ 12 by decide)]; exact x1, by rw [also_ne dn (show (4 : Nat) ≠ 12 by decide)]; exact x2, by rw [slot_put_ne (by decide)]; exact x3, x4⟩
      · intro hk
        rw [also_ne dn (show (8 : Nat) ≠ 12 by decide)] at hk
        obtain ⟨x1, x2⟩ := c8 hk
        exact ⟨by rw [also_ne dn (show (7 : Nat) ≠ 12 by decide)]; exact x1, by rw [slot_put_ne (by decide)]; exact x2⟩
      · intro hk
        rw [also_ne dn (show (9 : Nat) ≠ 12 by decide)] at hk
        obtain ⟨x1, x2⟩ := c9 hk
        exact ⟨by rw [also_ne dn (show (7 : Nat) ≠ 12 by decide)]; exact x1, by rw [slot_put_ne (by decide)]; exact x2⟩
      · intro hk
        rw [also_ne dn (show (10 : Nat) ≠ 12 by decide)] at hk
        obtain ⟨x1, x2⟩ := c10 hk
        exact ⟨by rw [also_ne dn (show (7 : Nat) ≠ 12 by decide)]; exact x1, by rw [slot_put_ne (by decide)]; exact x2⟩
      · intro hk
        rw [also_ne dn (show (11 : Nat) ≠ 12 by decide)] at hk
        obtain ⟨x1, x2⟩ := c11 hk
        exact ⟨by rw [also_ne dn (show (7 : Nat) ≠ 12 by decide)]; exact x1, by rw [slot_put_ne (by decide)]; exact x2⟩
      · intro _
        exact ⟨by rw [also_ne dn (show (7 : Nat) ≠ 12 by decide)]; exact h7, slot_put_self (by rw [hs]; decide)⟩
      · intro hk
        rw [also_ne dn (show (13 : Nat) ≠ 12 by decide)] at hk
        obtain ⟨x1, x2⟩ := c13 hk
        exact ⟨by rw [also_ne dn (show (7 : Nat) ≠ 12 by decide)]; exact x1, by rw [slot_put_ne (by decide)]; exact x2⟩
      · intro hk
        rw [also_ne dn (show (14 : Nat) ≠ 12 by decide)] at hk
        obtain ⟨x1, x2⟩ := c14 hk
        exact ⟨by rw [also_ne dn (show (7 : Nat) ≠ 12 by decide)]; exact x1, by rw [slot_put_ne (by decide)]; exact x2⟩
    | 13, _ =>
      refine opV_of_wpl (K := fun b p => RfI w a (.slice wa wn wc) (.slice pa pn pc) (.slice ua un uc) SC t x R (also dn 13) b p) _ (by simp only [List.getElem?_toArray, List.getElem?_cons_succ, List.getElem?_cons_zero]; rfl) ?_
      obtain ⟨h7, x3⟩ := c10 (hdeps 10 (by kernel_rfl))
      have e9 : b.eval (.tmp 57) = v := x3
      refine wpl_val _ rfl rfl (v) (by obtain ⟨ρ, hρ⟩ : ∃ ρ, b.eval = ρ := ⟨_, rfl⟩; rw [hρ] at e9 ⊢; unfold execOp; simp [go_sem, e9]) ?_
      refine ⟨rfl, rfl, hd, (by simpa [Go.Act.put] using hs), fun s hsn => (slot_put_ne (by rintro ⟨⟩; exact hsn (by simp))).trans (ho s hsn), hf, u, v, f, ?_, ?_, ?_, ?_, ?_, ?_, ?_, ?_, ?_, ?_, ?_, ?_, ?_, ?_, ?_⟩
      · intro hk
        rw [also_ne dn (show (0 : Nat) ≠ 13 by decide)] at hk
        rw [slot_put_ne (by decide)]
        exact c0 hk
      · intro hk
        rw [also_ne dn (show (1 : Nat) ≠ 13 by decide)] at hk
        rw [slot_put_ne (by decide)]
        exact c1 hk
      · intro hk hk4
        rw [also_ne dn (show (2 : Nat) ≠ 13 by decide)] at hk
        rw [also_ne dn (show (4 : Nat) ≠ 13 by decide)] at hk4
        rw [slot_put_ne (by decide)]
        exact c2 hk hk4
      · intro hk
        rw [also_ne dn (show (3 : Nat) ≠ 13 by decide)] at hk
        rw [slot_put_ne (by decide)]
        exact c3 hk
      · intro hk
        rw [also_ne dn (show (4 : Nat) ≠ 13 by decide)] at hk
        refine ⟨by rw [also_ne dn (show (2 : Nat) ≠ 13 by decide)]; exact (c4 hk).1, fun hk7 => ?_⟩
        rw [also_ne dn (show (7 : Nat) ≠ 13 by decide)] at hk7
        rw [slot_put_ne (by decide)]
        exact (c4 hk).2 hk7
      · intro hk
        rw [also_ne dn (show (5 : Nat) ≠ 13 by decide)] at hk
        rw [slot_put_ne (by decide)]
        exact c5 hk
      · intro hk
        rw [also_ne dn (show (6 : Nat) ≠ 13 by decide)] at hk
        rw [slot_put_ne (by decide)]
        exact c6 hk
      · intro hk
        rw [also_ne dn (show (7 : Nat) ≠ 13 by decide)] at hk
        obtain ⟨x1, x2, x3, x4⟩ := c7 hk
        exact ⟨by rw [also_ne dn (show (2 : Nat) ≠ 13 by decide)]; exact x1, by rw [also_ne dn (show (4 : Nat) ≠ 13 by decide)]; exact x2, by rw [slot_put_ne (by decide)]; exact x3, x4⟩
      · intro hk
        rw [also_ne dn (show (8 : Nat) ≠ 13 by decide)] at hk
        obtain ⟨x1, x2⟩ := c8 hk
        exact ⟨by rw [also_ne dn (show (7 : Nat) ≠ 13 by decide)]; exact x1, by rw [slot_put_ne (by decide)]; exact x2⟩
      · intro hk
        rw [also_ne dn (show (9 : Nat) ≠ 13 by decide)] at hk
        obtain ⟨x1, x2⟩ := c9 hk
        exact ⟨by rw [also_ne dn (show (7 : Nat) ≠ 13 by decide)]; exact x1, by rw [slot_put_ne (by decide)]; exact x2⟩
      · intro hk
        rw [also_ne dn (show (10 : Nat) ≠ 13 by decide)] at hk
        obtain ⟨x1, x2⟩ := c10 hk
        exact ⟨by rw [also_ne dn (show (7 : Nat) ≠ 13 by decide)]; exact x1, by rw [slot_put_ne (by decide)]; exact x2⟩
      · intro hk
        rw [also_ne dn (show (11 : Nat) ≠ 13 by decide)] at hk
        obtain ⟨x1, x2⟩ := c11 hk
        exact ⟨by rw [also_ne dn (show (7 : Nat) ≠ 13 by decide)]; exact x1, by rw [slot_put_ne (by decide)]; exact x2⟩
      · intro hk
        rw [also_ne dn (show (12 : Nat) ≠ 13 by decide)] at hk
        obtain ⟨x1, x2⟩ := c12 hk
        exact ⟨by rw [also_ne dn (show (7 : Nat) ≠ 13 by decide)]; exact x1, by rw [slot_put_ne (by decide)]; exact x2⟩
      · intro _
        exact ⟨by rw [also_ne dn (show (7 : Nat) ≠ 13 by decide)]; exact h7, slot_put_self (by rw [hs]; decide)⟩
      · intro hk
        rw [also_ne dn (show (14 : Nat) ≠ 13 by decide)] at hk
        obtain ⟨x1, x2⟩ := c14 hk
        exact ⟨by rw [also_ne dn (show (7 : Nat) ≠ 13 by decide)]; exact x1, by rw [slot_put_ne (by decide)]; exact x2⟩
    | 14, _ =>
      refine opV_of_wpl (K := fun b p => RfI w a (.slice wa wn wc) (.slice pa pn pc) (.slice ua un uc) SC t x R (also dn 14) b p) _ (by simp only [List.getElem?_toArray, List.getElem?_cons_succ, List.getElem?_cons_zero]; rfl) ?_
      obtain ⟨h7, x3⟩ := c11 (hdeps 11 (by kernel_rfl))
      have e9 : b.eval (.tmp 58) = f := x3
      refine wpl_val _ rfl rfl (f) (by obtain ⟨ρ, hρ⟩ : ∃ ρ, b.eval = ρ := ⟨_, rfl⟩; rw [hρ] at e9 ⊢; unfold execOp; simp [go_sem, e9]) ?_
      refine ⟨rfl, rfl, hd, (by simpa [Go.Act.put] using hs), fun s hsn => (slot_put_ne (by rintro ⟨⟩; exact hsn (by simp))).trans (ho s hsn), hf, u, v, f, ?_, ?_, ?_, ?_, ?_, ?_, ?_, ?_, ?_, ?_, ?_, ?_, ?_, ?_, ?_⟩
      · intro hk
        rw [also_ne dn (show (0 : Nat) ≠ 14 by decide)] at hk
        rw [slot_put_ne (by decide)]
        exact c0 hk
      · intro hk
        rw [also_ne dn (show (1 : Nat) ≠ 14 by decide)] at hk
        rw [slot_put_ne (by decide)]
        exact c1 hk
      · intro hk hk4
        rw [also_ne dn (show (2 : Nat) ≠ 14 by decide)] at hk
        rw [also_ne dn (show (4 : Nat) ≠ 14 by decide)] at hk4
        rw [slot_put_ne (by decide)]
        exact c2 hk hk4
      · intro hk
        rw [also_ne dn (show (3 : Nat) ≠ 14 by decide)] at hk
        rw [slot_put_ne (by decide)]
        exact c3 hk
      · intro hk
        rw [also_ne dn (show (4 : Nat) ≠ 14 by decide)] at hk
        refine ⟨by rw [also_ne dn (show (2 : Nat) ≠ 14 by decide)]; exact (c4 hk).1, fun hk7 => ?_⟩
        rw [also_ne dn (show (7 : Nat) ≠ 14 by decide)] at hk7
        rw [slot_put_ne (by decide)]
        exact (c4 hk).2 hk7
      · intro hk
        rw [also_ne dn (show (5 : Nat) ≠ 14 by decide)] at hk
        rw [slot_put_ne (by decide)]
        exact c5 hk
      · intro hk
        rw [also_ne dn (show (6 : Nat) ≠ 14 by decide)] at hk
        rw [slot_put_ne (by decide)]
        exact c6 hk
      · intro hk
        rw [also_ne dn (show (7 : Nat) ≠ 14 by decide)] at hk
        obtain ⟨x1, x2, x3, x4⟩ := c7 hk
        exact ⟨by rw [also_ne dn (show (2 : Nat) ≠ 14 by decide)]; exact x1, by rw [also_ne dn (show (4 : Nat) ≠ 14 by decide)]; exact x2, by rw [slot_put_ne (by decide)]; exact x3, x4⟩
      · intro hk
        rw [also_ne dn (show (8 : Nat) ≠ 14 by decide)] at hk
        obtain ⟨x1, x2⟩ := c8 hk
        exact ⟨by rw [also_ne dn (show (7 : Nat) ≠ 14 by decide)]; exact x1, by rw [slot_put_ne (by decide)]; exact x2⟩
      · intro hk
        rw [also_ne dn (show (9 : Nat) ≠ 14 by decide)] at hk
        obtain ⟨x1, x2⟩ := c9 hk
        exact ⟨by rw [also_ne dn (show (7 : Nat) ≠ 14 by decide)]; exact x1, by rw [slot_put_ne (by decide)]; exact x2⟩
      · intro hk
        rw [also_ne dn (show (10 : Nat) ≠ 14 by decide)] at hk
        obtain ⟨x1, x2⟩ := c10 hk
        exact ⟨by rw [also_ne dn (show (7 : Nat) ≠ 14 by decide)]; exact x1, by rw [slot_put_ne (by decide)]; exact x2⟩
      · intro hk
        rw [also_ne dn (show (11 : Nat) ≠ 14 by decide)] at hk
        obtain ⟨x1, x2⟩ := c11 hk
        exact ⟨by rw [also_ne dn (show (7 : Nat) ≠ 14 by decide)]; exact x1, by rw [slot_put_ne (by decide)]; exact x2⟩
      · intro hk
        rw [also_ne dn (show (12 : Nat) ≠ 14 by decide)] at hk
        obtain ⟨x1, x2⟩ := c12 hk
        exact ⟨by rw [also_ne dn (show (7 : Nat) ≠ 14 by decide)]; exact x1, by rw [slot_put_ne (by decide)]; exact x2⟩
      · intro hk
        rw [also_ne dn (show (13 : Nat) ≠ 14 by decide)] at hk
        obtain ⟨x1, x2⟩ := c13 hk
        exact ⟨by rw [also_ne dn (show (7 : Nat) ≠ 14 by decide)]; exact x1, by rw [slot_put_ne (by decide)]; exact x2⟩
      · intro _
        exact ⟨by rw [also_ne dn (show (7 : Nat) ≠ 14 by decide)]; exact h7, slot_put_self (by rw [hs]; decide)⟩
  · intro dn b p hall ⟨hd, hs, ho, hf, u, v, f, c0, c1, c2, c3, c4, c5, c6, c7, c8, c9, c10, c11, c12, c13, c14⟩
    exact hQ b p u v f hd hs ho (c12 (hall 12 (by decide))).2 (c13 (hall 13 (by decide))).2 (c14 (hall 14 (by decide))).2 hf (c7 (hall 7 (by decide))).2.2.2
set_option maxRecDepth 100000 in
theorem frame64 (a : Go.Act) (hs : a.tmps.size = 64) (hd : a.defers = []) : a = ⟨(slot a 0 :: slot a 1 :: slot a 2 :: slot a 3 :: slot a 4 :: slot a 5 :: slot a 6 :: slot a 7 :: slot a 8 :: slot a 9 :: slot a 10 :: slot a 11 :: slot a 12 :: slot a 13 :: slot a 14 :: slot a 15 :: slot a 16 :: slot a 17 :: slot a 18 :: slot a 19 :: slot a 20 :: slot a 21 :: slot a 22 :: slot a 23 :: slot a 24 :: slot a 25 :: slot a 26 :: slot a 27 :: slot a 28 :: slot a 29 :: slot a 30 :: slot a 31 :: slot a 32 :: slot a 33 :: slot a 34 :: slot a 35 :: slot a 36 :: slot a 37 :: slot a 38 :: slot a 39 :: slot a 40 :: slot a 41 :: slot a 42 :: slot a 43 :: slot a 44 :: slot a 45 :: slot a 46 :: slot a 47 :: slot a 48 :: slot a 49 :: slot a 50 :: slot a 51 :: slot a 52 :: slot a 53 :: slot a 54 :: slot a 55 :: slot a 56 :: slot a 57 :: slot a 58 :: slot a 59 :: slot a 60 :: slot a 61 :: slot a 62 :: slot a 63 :: []).toArray, []⟩ := frameX a 64 hs hd
noncomputable def rfxB : Code := ((Tryz.f9.body.bind (findLoop 7)).getD .skip)
set_option maxRecDepth 1000000 in
set_option maxHeartbeats 8000000 in
theorem rfx_over (wr : World) (a : Go.Act) (hsz : a.tmps.size = 64) (hd : a.defers = []) (wa pa ra : Option Addr) (N wc PL pc RL rc sb t : Nat) (h0 : slot a 0 = .slice wa N wc) (h1 : slot a 1 = .slice pa PL pc) (h10 : slot a 10 = .pointer (some ⟨sb, 0, none⟩)) (h11 : slot a 11 = .slice ra RL rc) (h12 : slot a 12 = .int .i64 (t : Int)) (ht : RL < 2 * t) (hRL : RL ≤ 60) (ht2 : t ≤ 60) (Q : Exit → Go.Act → World → Prop)
    (hq : ∀ c : Go.Act, c.defers = [] → c.tmps.size = 64 → Q (.exit 0) c wr) : Code.wp Tryz.prog rfxB Q a wr := by
  have HQ := Lib.hid hq
  rw [frame64 a hsz hd, h0, h1, h10, h11, h12]
  clear hq h0 h1 h10 h11 h12 hsz hd
  conv => arg 2; whnf
  have hti : ¬ (2 * (t : Int)) ≤ RL := by omega
  go_wp2
  apply HQ.out <;> rfl
set_option maxRecDepth 1000000 in
set_option maxHeartbeats 8000000 in
theorem rfx_round (wr : World) (a : Go.Act) (hsz : a.tmps.size = 64) (hd : a.defers = []) (wa pa ra : Option Addr) (N wc PL pc RL rc sb t : Nat) (w0 : World) (SC : Array Value) (NO : Prop) (YES : List UInt8 → Prop) (R : Value → Value → Bool → World → Prop) (h0 : slot a 0 = .slice wa N wc) (h1 : slot a 1 = .slice pa PL pc) (h10 : slot a 10 = .pointer (some ⟨sb, 0, none⟩)) (h11 : slot a 11 = .slice ra RL rc) (h12 : slot a 12 = .int .i64 (t : Int)) (ht : 2 * t ≤ RL) (hRL : RL ≤ 60) (hF : Fr [] w0 wr) (hS : At w0 sb (.cells SC 51)) (hS2 : SC.size = 32)
    (hreg : Calls Tryz.prog 27 #[.slice ra RL rc, .int .i64 (t : Int)] wr fun e w' => ((e = .returned (.tuple #[.slice none 0 0, .bool false]) ∧ NO) ∨ ∃ u x, e = .returned (.tuple #[u, .bool true]) ∧ OwnB 5 wr.heap.size w' u x ∧ x.length ≤ 60 ∧ YES x) ∧ Fr [] wr w')
    (htr : ∀ x, YES x → ∀ (p : World) (rv : Value) (base : Nat), Fr [] w0 p → OwnB 5 base p rv (1 :: x) → Calls Tryz.prog 28 #[.slice wa N wc, .agg SC, rv, .slice pa PL pc, .int .i64 (t : Int)] p fun e w' => ∃ u v f, e = .returned (.tuple #[u, v, .bool f]) ∧ R u v f w' ∧ Fr [] p w') (Q : Exit → Go.Act → World → Prop)
    (hq : ∀ (c : Go.Act) (w' : World), c.defers = [] → c.tmps.size = 64 → slot c 0 = .slice wa N wc → slot c 1 = .slice pa PL pc → slot c 10 = .pointer (some ⟨sb, 0, none⟩) → slot c 11 = .slice ra RL rc → slot c 12 = .int .i64 ((t : Int) + 1) → NO → Fr [] w0 w' → Q .normal c w') (hr : ∀ (c : Go.Act) (w' : World) (x : List UInt8) (u v : Value) (f : Bool), c.defers = [] → c.tmps.size = 64 → slot c 4 = (if f then u else .slice none 0 0) → slot c 5 = (if f then v else .slice none 0 0) → slot c 6 = .int .i64 (if f then (t : Int) else 0) → slot c 7 = .int .i64 (if f then 0 else 17) → YES x → R u v f w' → Fr [] w0 w' → Q .ret c w') : Code.wp Tryz.prog rfxB Q a wr := by
  have HQ := Lib.hid hq
  have HR := Lib.hid hr
  rw [frame64 a hsz hd, h0, h1, h10, h11, h12]
  clear hq hr h0 h1 h10 h11 h12 hsz hd
  conv => arg 2; whnf
  have hti : (2 * (t : Int)) ≤ RL := by omega
  have HF := Lib.hid hF
  have HS := Lib.hid hS
  have HS2 := Lib.hid hS2
  have HREG := Lib.hid hreg
  have HTR := Lib.hid htr
  clear hF hS hS2 hreg htr
  go_wp2_with (go_at_call 27; fail)
  refine HREG.out.mono ?_
  rintro e w1 ⟨⟨rfl, hno⟩ | ⟨u, x, rfl, ho, hxl, hy⟩, hf⟩
  · have HNO := Lib.hid hno
    have HF1 := Lib.hid (HF.out.trans hf)
    clear hno hf HREG HTR
    go_wp2
    exact HQ.out _ _ rfl rfl rfl rfl rfl rfl (by go_num) HNO.out HF1.out
  · obtain ⟨ua, uc, rfl, -⟩ := ho.bs (A := fun _ => False) (by simp)
    have HU := Lib.hid (ho.bs (A := fun _ => False) (by simp))
    have HXL := Lib.hid hxl
    have HY := Lib.hid hy
    have HF1 := Lib.hid (HF.out.trans hf)
    clear ho hxl hy hf HREG
    go_wp2_with fail
    refine rfx_reg w1 _ sb wa pa ua N wc PL pc x.length uc t SC x (fun u v f w' => ∃ b, f = .bool b ∧ R u v b w') rfl rfl rfl rfl rfl rfl (HS.out.keep0 HF1.out) HS2.out HU.out (by have := HXL.out; omega) (fun p rv hp ho => (HTR.out x HY.out p rv _ (HF1.out.trans hp) ho).mono (by rintro e w' ⟨u, v, f, h1, h2, h3⟩; exact ⟨u, v, .bool f, h1, ⟨f, rfl, h2⟩, h3⟩)) _ ?_
    rintro b p u v f q1 q2 q3 q15 q16 q14 hfp ⟨fb, rfl, hR⟩
    have HRR := Lib.hid hR
    have HFp := Lib.hid (HF1.out.trans hfp)
    obtain ⟨h, e15, e16, e14, hb2⟩ := puts3 b _ _ q1 q2 q3 q15 q16 q14
    subst hb2
    clear q1 q2 q3 q15 q16 q14 hfp hR HTR HU
    simp only [List.foldl_cons, List.foldl_nil, Go.Act.put, List.setIfInBounds_toArray, List.set_cons_succ, List.set_cons_zero, e14, e15, e16]
    clear e14 e15 e16
    cases fb with
    | true =>
      go_wp2
      exact HR.out _ _ x u v true rfl rfl rfl rfl rfl rfl HY.out HRR.out HFp.out
    | false =>
      go_wp2
      exact HR.out _ _ x u v false rfl rfl rfl rfl rfl rfl HY.out HRR.out HFp.out
set_option maxRecDepth 1000000 in
set_option maxHeartbeats 8000000 in
theorem rfx_loop (w0 wa_ : World) (a : Go.Act) (hsz : a.tmps.size = 64) (hd : a.defers = []) (wa pa ra : Option Addr) (N wc PL pc RL rc sb : Nat) (SC : Array Value) (m : Nat) (NO : Nat → Prop) (YES : Nat → List UInt8 → Prop) (R : Nat → Value → Value → Bool → World → Prop) (h0 : slot a 0 = .slice wa N wc) (h1 : slot a 1 = .slice pa PL pc) (h10 : slot a 10 = .pointer (some ⟨sb, 0, none⟩)) (h11 : slot a 11 = .slice ra RL rc) (h12 : slot a 12 = .int .i64 0) (hRL : RL ≤ 60) (hm60 : m ≤ 60) (hF : Fr [] w0 wa_) (hS : At w0 sb (.cells SC 51)) (hS2 : SC.size = 32)
    (hm : ∀ t, t ≤ m → 2 * t ≤ RL → NO t → t < m)
    (hreg : ∀ t wr, Fr [] w0 wr → t ≤ m → 2 * t ≤ RL → Calls Tryz.prog 27 #[.slice ra RL rc, .int .i64 (t : Int)] wr fun e w' => ((e = .returned (.tuple #[.slice none 0 0, .bool false]) ∧ NO t) ∨ ∃ u x, e = .returned (.tuple #[u, .bool true]) ∧ OwnB 5 wr.heap.size w' u x ∧ x.length ≤ 60 ∧ YES t x) ∧ Fr [] wr w')
    (htr : ∀ t x, t ≤ m → 2 * t ≤ RL → YES t x → ∀ (p : World) (rv : Value) (base : Nat), Fr [] w0 p → OwnB 5 base p rv (1 :: x) → Calls Tryz.prog 28 #[.slice wa N wc, .agg SC, rv, .slice pa PL pc, .int .i64 (t : Int)] p fun e w' => ∃ u v f, e = .returned (.tuple #[u, v, .bool f]) ∧ R t u v f w' ∧ Fr [] p w') (Q : Exit → Go.Act → World → Prop)
    (hq : ∀ (c : Go.Act) (w' : World) (t : Nat), c.defers = [] → c.tmps.size = 64 → t ≤ m → RL < 2 * t → Fr [] w0 w' → Q (.exit 0) c w')
    (hr : ∀ (c : Go.Act) (w' : World) (t : Nat) (x : List UInt8) (u v : Value) (f : Bool), c.defers = [] → c.tmps.size = 64 → slot c 4 = (if f then u else .slice none 0 0) → slot c 5 = (if f then v else .slice none 0 0) → slot c 6 = .int .i64 (if f then (t : Int) else 0) → slot c 7 = .int .i64 (if f then 0 else 17) → t ≤ m → 2 * t ≤ RL → YES t x → R t u v f w' → Fr [] w0 w' → Q .ret c w') : Code.wp Tryz.prog (Code.loop rfxB) Q a wa_ := by
  refine wp_loop (fun a w => a.tmps.size = 64 ∧ a.defers = [] ∧ slot a 0 = .slice wa N wc ∧ slot a 1 = .slice pa PL pc ∧ slot a 10 = .pointer (some ⟨sb, 0, none⟩) ∧ slot a 11 = .slice ra RL rc ∧ ∃ t : Nat, t ≤ m ∧ slot a 12 = .int .i64 (t : Int) ∧ Fr [] w0 w) (fun a _ => m - kN (slot a 12)) ⟨hsz, hd, h0, h1, h10, h11, 0, by omega, h12, hF⟩ ?_
  clear h0 h1 h10 h11 h12 hF hsz hd
  rintro a wr ⟨hsz, hd, h0, h1, h10, h11, t, ht, h12, hF⟩
  by_cases h2 : 2 * t ≤ RL
  · refine rfx_round wr a hsz hd wa pa ra N wc PL pc RL rc sb t w0 SC (NO t) (YES t) (R t) h0 h1 h10 h11 h12 h2 hRL hF hS hS2 (hreg t wr hF ht h2) (htr t · ht h2) _ ?_ ?_
    · intro c w' kd ks q0 q1 q10 q11 q12 hno hF'
      have htm := hm t ht h2 hno
      refine ⟨⟨ks, kd, q0, q1, q10, q11, t + 1, by omega, by rw [q12]; rfl, hF'⟩, ?_⟩
      rw [q12, h12]
      simp [kN]; omega
    · intro c w' x u v f kd ks q4 q5 q6 q7 hy hR hF'
      exact hr c w' t x u v f kd ks q4 q5 q6 q7 ht h2 hy hR hF'
  · refine rfx_over wr a hsz hd wa pa ra N wc PL pc RL rc sb t h0 h1 h10 h11 h12 (by omega) hRL (by omega) _ ?_
    intro c kd ks
    exact hq c wr t kd ks ht (by omega) hF
end Go.Proofs.YtmohiblgfmdkjaaGreatDoor
