/-
  Layer 5: repair.Fix's last drawn region. (printed by genfxr.py)
-/
import Derived.Test.YtmohiblgfmdkjaaDoorGB
import Derived.Test.YtmohiblgfmdkjaaDoorHW
import Derived.Test.YtmohiblgfmdkjaaDoorGM
namespace Go.Proofs.YtmohiblgfmdkjaaDoor
open Go.RowKit Go.Bl
set_option linter.unusedVariables false
noncomputable def fixR : Code := ((Tryd.f55.body.bind (findRegionC 10)).getD .skip)
def FxI (w : World) (a : Go.Act) (rb fb : Nat) (W U : Value) (lg : Int) (l : List Int) (dn : Nat → Bool) (b : Go.Act) (p : World) : Prop :=
  b.defers = a.defers ∧ b.tmps.size = 49 ∧ (∀ s, s ∉ ([42, 43, 44, 45, 46, 47, 48, 5] : List Nat) → slot b s = slot a s) ∧ Fr [rb] w p ∧ ∃ pv : Value,
    (dn 0 = true → slot b 42 = U) ∧
    (dn 1 = true → slot b 43 = W) ∧
    (dn 2 = true → slot b 44 = U) ∧
    (dn 3 = true → slot b 45 = pv ∧ OwnI 3 w.heap.size p pv l) ∧
    (dn 4 = true → slot b 46 = .pointer (some ⟨fb, 0, none⟩)) ∧
    (dn 5 = true → slot b 47 = .int .i64 lg) ∧
    (dn 6 = true → dn 3 = true ∧ slot b 48 = .agg #[U, pv, .int .i64 lg]) ∧
    (dn 7 = true → dn 3 = true ∧ At p rb (.cells #[U, pv, .int .i64 lg] 133)) ∧
    (dn 7 = false → At p rb (.cells #[.slice none 0 0, .slice none 0 0, .int .i64 0] 133)) ∧
    (dn 8 = true → slot b 5 = .nilIface)
set_option maxRecDepth 1000000 in
set_option maxHeartbeats 8000000 in
theorem fix_reg (w : World) (a : Go.Act) (rb fb : Nat) (wa ua : Option Addr) (wn wc un uc : Nat) (lg : Int) (l : List Int) (hsz : a.tmps.size = 49) (hfr : fb ≠ rb) (hrw : rb < w.heap.size) (h0 : slot a 0 = .slice wa wn wc) (h9 : slot a 9 = .slice ua un uc) (h4 : slot a 4 = .pointer (some ⟨rb, 0, none⟩)) (h8 : slot a 8 = .pointer (some ⟨fb, 0, none⟩)) (hc : w.cell? ⟨fb, 0, none⟩ = some (.int .i64 lg)) (hR : At w rb (.cells #[.slice none 0 0, .slice none 0 0, .int .i64 0] 133))
    (hdf : ∀ p, Fr [rb] w p → Calls Tryd.prog 70 #[.slice wa wn wc, .slice ua un uc] p fun e w' => ∃ r, e = .returned r ∧ OwnI 3 p.heap.size w' r l ∧ Fr [] p w') (Q : Exit → Go.Act → World → Prop)
    (hQ : ∀ (b : Go.Act) (p : World) (pv : Value), b.defers = a.defers → b.tmps.size = 49 → (∀ s, s ∉ ([42, 43, 44, 45, 46, 47, 48, 5] : List Nat) → slot b s = slot a s) → slot b 5 = .nilIface → Fr [rb] w p → At p rb (.cells #[.slice ua un uc, pv, .int .i64 lg] 133) → OwnI 3 w.heap.size p pv l → Q .normal b p) : Code.wp Tryd.prog fixR Q a w := by
  conv => arg 2; whnf
  refine wp_region_inv (FxI w a rb fb (.slice wa wn wc) (.slice ua un uc) lg l) (by kernel_rfl) (by kernel_rfl) ?_ ?_ ?_
  · intro w1 hw1
    exact ⟨rfl, hsz, fun _ _ => rfl, hw1.weak, undef, (fun h => nomatch h), (fun h => nomatch h), (fun h => nomatch h), (fun h => nomatch h), (fun h => nomatch h), (fun h => nomatch h), (fun h => nomatch h), (fun h => nomatch h), fun _ => hR.keep0 hw1, (fun h => nomatch h)⟩
  · intro i hi dn b p hdn hdeps ⟨hd, hs, ho, hf, pv, c0, c1, c2, c3, c4, c5, c6, c7, cn, c8⟩
    have hi9 : i < 9 := hi
    clear hi
    match i, hi9 with
    | 0, _ =>
      refine opV_of_wpl (K := fun b p => FxI w a rb fb (.slice wa wn wc) (.slice ua un uc) lg l (also dn 0) b p) _ (by simp only [List.getElem?_toArray, List.getElem?_cons_succ, List.getElem?_cons_zero]; rfl) ?_
      have e9 : b.eval (.tmp 9) = .slice ua un uc := (ho 9 (by decide)).trans h9
      refine wpl_val _ rfl rfl (.slice ua un uc) (by obtain ⟨ρ, hρ⟩ : ∃ ρ, b.eval = ρ := ⟨_, rfl⟩; rw [hρ] at e9 ⊢; unfold execOp; simp [go_sem, e9]) ?_
      refine ⟨rfl, rfl, hd, (by simpa [Go.Act.put] using hs), fun s hsn => (slot_put_ne (by rintro ⟨⟩; exact hsn (by simp))).trans (ho s hsn), hf, pv, ?_, ?_, ?_, ?_, ?_, ?_, ?_, ?_, ?_, ?_⟩
      · intro _
        exact slot_put_self (by rw [hs]; decide)
      · intro hk
        rw [also_ne dn (show (1 : Nat) ≠ 0 by decide)] at hk
        rw [slot_put_ne (by decide)]
        exact c1 hk
      · intro hk
        rw [also_ne dn (show (2 : Nat) ≠ 0 by decide)] at hk
        rw [slot_put_ne (by decide)]
        exact c2 hk
      · intro hk
        rw [also_ne dn (show (3 : Nat) ≠ 0 by decide)] at hk
        obtain ⟨x1, x2⟩ := c3 hk
        exact ⟨by rw [slot_put_ne (by decide)]; exact x1, x2⟩
      · intro hk
        rw [also_ne dn (show (4 : Nat) ≠ 0 by decide)] at hk
        rw [slot_put_ne (by decide)]
        exact c4 hk
      · intro hk
        rw [also_ne dn (show (5 : Nat) ≠ 0 by decide)] at hk
        rw [slot_put_ne (by decide)]
        exact c5 hk
      · intro hk
        rw [also_ne dn (show (6 : Nat) ≠ 0 by decide)] at hk
        obtain ⟨x1, x2⟩ := c6 hk
        exact ⟨by rw [also_ne dn (show (3 : Nat) ≠ 0 by decide)]; exact x1, by rw [slot_put_ne (by decide)]; exact x2⟩
      · intro hk
        rw [also_ne dn (show (7 : Nat) ≠ 0 by decide)] at hk
        obtain ⟨x1, x2⟩ := c7 hk
        exact ⟨by rw [also_ne dn (show (3 : Nat) ≠ 0 by decide)]; exact x1, x2⟩
      · intro hk
        rw [also_ne dn (show (7 : Nat) ≠ 0 by decide)] at hk
        exact cn hk
      · intro hk
        rw [also_ne dn (show (8 : Nat) ≠ 0 by decide)] at hk
        rw [slot_put_ne (by decide)]
        exact c8 hk
    | 1, _ =>
      refine opV_of_wpl (K := fun b p => FxI w a rb fb (.slice wa wn wc) (.slice ua un uc) lg l (also dn 1) b p) _ (by simp only [List.getElem?_toArray, List.getElem?_cons_succ, List.getElem?_cons_zero]; rfl) ?_
      have e9 : b.eval (.tmp 0) = .slice wa wn wc := (ho 0 (by decide)).trans h0
      refine wpl_val _ rfl rfl (.slice wa wn wc) (by obtain ⟨ρ, hρ⟩ : ∃ ρ, b.eval = ρ := ⟨_, rfl⟩; rw [hρ] at e9 ⊢; unfold execOp; simp [go_sem, e9]) ?_
      refine ⟨rfl, rfl, hd, (by simpa [Go.Act.put] using hs), fun s hsn => (slot_put_ne (by rintro ⟨⟩; exact hsn (by simp))).trans (ho s hsn), hf, pv, ?_, ?_, ?_, ?_, ?_, ?_, ?_, ?_, ?_, ?_⟩
      · intro hk
        rw [also_ne dn (show (0 : Nat) ≠ 1 by decide)] at hk
        rw [slot_put_ne (by decide)]
        exact c0 hk
      · intro _
        exact slot_put_self (by rw [hs]; decide)
      · intro hk
        rw [also_ne dn (show (2 : Nat) ≠ 1 by decide)] at hk
        rw [slot_put_ne (by decide)]
        exact c2 hk
      · intro hk
        rw [also_ne dn (show (3 : Nat) ≠ 1 by decide)] at hk
        obtain ⟨x1, x2⟩ := c3 hk
        exact ⟨by rw [slot_put_ne (by decide)]; exact x1, x2⟩
      · intro hk
        rw [also_ne dn (show (4 : Nat) ≠ 1 by decide)] at hk
        rw [slot_put_ne (by decide)]
        exact c4 hk
      · intro hk
        rw [also_ne dn (show (5 : Nat) ≠ 1 by decide)] at hk
        rw [slot_put_ne (by decide)]
        exact c5 hk
      · intro hk
        rw [also_ne dn (show (6 : Nat) ≠ 1 by decide)] at hk
        obtain ⟨x1, x2⟩ := c6 hk
        exact ⟨by rw [also_ne dn (show (3 : Nat) ≠ 1 by decide)]; exact x1, by rw [slot_put_ne (by decide)]; exact x2⟩
      · intro hk
        rw [also_ne dn (show (7 : Nat) ≠ 1 by decide)] at hk
        obtain ⟨x1, x2⟩ := c7 hk
        exact ⟨by rw [also_ne dn (show (3 : Nat) ≠ 1 by decide)]; exact x1, x2⟩
      · intro hk
        rw [also_ne dn (show (7 : Nat) ≠ 1 by decide)] at hk
        exact cn hk
      · intro hk
        rw [also_ne dn (show (8 : Nat) ≠ 1 by decide)] at hk
        rw [slot_put_ne (by decide)]
        exact c8 hk
    | 2, _ =>
      refine opV_of_wpl (K := fun b p => FxI w a rb fb (.slice wa wn wc) (.slice ua un uc) lg l (also dn 2) b p) _ (by simp only [List.getElem?_toArray, List.getElem?_cons_succ, List.getElem?_cons_zero]; rfl) ?_
      have e9 : b.eval (.tmp 9) = .slice ua un uc := (ho 9 (by decide)).trans h9
      refine wpl_val _ rfl rfl (.slice ua un uc) (by obtain ⟨ρ, hρ⟩ : ∃ ρ, b.eval = ρ := ⟨_, rfl⟩; rw [hρ] at e9 ⊢; unfold execOp; simp [go_sem, e9]) ?_
      refine ⟨rfl, rfl, hd, (by simpa [Go.Act.put] using hs), fun s hsn => (slot_put_ne (by rintro ⟨⟩; exact hsn (by simp))).trans (ho s hsn), hf, pv, ?_, ?_, ?_, ?_, ?_, ?_, ?_, ?_, ?_, ?_⟩
      · intro hk
        rw [also_ne dn (show (0 : Nat) ≠ 2 by decide)] at hk
        rw [slot_put_ne (by decide)]
        exact c0 hk
      · intro hk
        rw [also_ne dn (show (1 : Nat) ≠ 2 by decide)] at hk
        rw [slot_put_ne (by decide)]
        exact c1 hk
      · intro _
        exact slot_put_self (by rw [hs]; decide)
      · intro hk
        rw [also_ne dn (show (3 : Nat) ≠ 2 by decide)] at hk
        obtain ⟨x1, x2⟩ := c3 hk
        exact ⟨by rw [slot_put_ne (by decide)]; exact x1, x2⟩
      · intro hk
        rw [also_ne dn (show (4 : Nat) ≠ 2 by decide)] at hk
        rw [slot_put_ne (by decide)]
        exact c4 hk
      · intro hk
        rw [also_ne dn (show (5 : Nat) ≠ 2 by decide)] at hk
        rw [slot_put_ne (by decide)]
        exact c5 hk
      · intro hk
        rw [also_ne dn (show (6 : Nat) ≠ 2 by decide)] at hk
        obtain ⟨x1, x2⟩ := c6 hk
        exact ⟨by rw [also_ne dn (show (3 : Nat) ≠ 2 by decide)]; exact x1, by rw [slot_put_ne (by decide)]; exact x2⟩
      · intro hk
        rw [also_ne dn (show (7 : Nat) ≠ 2 by decide)] at hk
        obtain ⟨x1, x2⟩ := c7 hk
        exact ⟨by rw [also_ne dn (show (3 : Nat) ≠ 2 by decide)]; exact x1, x2⟩
      · intro hk
        rw [also_ne dn (show (7 : Nat) ≠ 2 by decide)] at hk
        exact cn hk
      · intro hk
        rw [also_ne dn (show (8 : Nat) ≠ 2 by decide)] at hk
        rw [slot_put_ne (by decide)]
        exact c8 hk
    | 3, _ =>
      have e43 : b.eval (.tmp 43) = .slice wa wn wc := c1 (hdeps 1 (by kernel_rfl))
      have e44 : b.eval (.tmp 44) = .slice ua un uc := c2 (hdeps 2 (by kernel_rfl))
      refine opV_func _ (by simp only [List.getElem?_toArray, List.getElem?_cons_succ, List.getElem?_cons_zero]; rfl) (wanted_none rfl) 70 _ _ rfl #[.slice wa wn wc, .slice ua un uc] (by simp only [List.map_toArray, List.map_cons, List.map_nil, e43, e44]) (by simp [go_sem]) ((hdf p hf).mono ?_)
      rintro e p2 ⟨r, rfl, ho2, hf2⟩
      have hou : OwnI 3 w.heap.size p2 r l := OwnV.base ho2 hf.size
      refine ⟨r, rfl, ?_⟩
      show FxI w a rb fb (.slice wa wn wc) (.slice ua un uc) lg l (also dn 3) (b.put (some 45) r) p2
      refine ⟨hd, (by simpa [Go.Act.put] using hs), fun s hsn => (slot_put_ne (by rintro ⟨⟩; exact hsn (by simp))).trans (ho s hsn), hf.trans hf2.weak, r, ?_, ?_, ?_, ?_, ?_, ?_, ?_, ?_, ?_, ?_⟩
      · intro hk
        rw [also_ne dn (show (0 : Nat) ≠ 3 by decide)] at hk
        rw [slot_put_ne (by decide)]
        exact c0 hk
      · intro hk
        rw [also_ne dn (show (1 : Nat) ≠ 3 by decide)] at hk
        rw [slot_put_ne (by decide)]
        exact c1 hk
      · intro hk
        rw [also_ne dn (show (2 : Nat) ≠ 3 by decide)] at hk
        rw [slot_put_ne (by decide)]
        exact c2 hk
      · intro _
        exact ⟨slot_put_self (by rw [hs]; decide), hou⟩
      · intro hk
        rw [also_ne dn (show (4 : Nat) ≠ 3 by decide)] at hk
        rw [slot_put_ne (by decide)]
        exact c4 hk
      · intro hk
        rw [also_ne dn (show (5 : Nat) ≠ 3 by decide)] at hk
        rw [slot_put_ne (by decide)]
        exact c5 hk
      · intro hk
        rw [also_ne dn (show (6 : Nat) ≠ 3 by decide)] at hk
        have hx := (c6 hk).1
        rw [hdn] at hx
        cases hx
      · intro hk
        rw [also_ne dn (show (7 : Nat) ≠ 3 by decide)] at hk
        have hx := (c7 hk).1
        rw [hdn] at hx
        cases hx
      · intro hk
        rw [also_ne dn (show (7 : Nat) ≠ 3 by decide)] at hk
        exact (cn hk).keep0 hf2
      · intro hk
        rw [also_ne dn (show (8 : Nat) ≠ 3 by decide)] at hk
        rw [slot_put_ne (by decide)]
        exact c8 hk
    | 4, _ =>
      refine opV_of_wpl (K := fun b p => FxI w a rb fb (.slice wa wn wc) (.slice ua un uc) lg l (also dn 4) b p) _ (by simp only [List.getElem?_toArray, List.getElem?_cons_succ, List.getElem?_cons_zero]; rfl) ?_
      have e9 : b.eval (.tmp 8) = .pointer (some ⟨fb, 0, none⟩) := (ho 8 (by decide)).trans h8
      refine wpl_val _ rfl rfl (.pointer (some ⟨fb, 0, none⟩)) (by obtain ⟨ρ, hρ⟩ : ∃ ρ, b.eval = ρ := ⟨_, rfl⟩; rw [hρ] at e9 ⊢; unfold execOp; simp [go_sem, e9]) ?_
      refine ⟨rfl, rfl, hd, (by simpa [Go.Act.put] using hs), fun s hsn => (slot_put_ne (by rintro ⟨⟩; exact hsn (by simp))).trans (ho s hsn), hf, pv, ?_, ?_, ?_, ?_, ?_, ?_, ?_, ?_, ?_, ?_⟩
      · intro hk
        rw [also_ne dn (show (0 : Nat) ≠ 4 by decide)] at hk
        rw [slot_put_ne (by decide)]
        exact c0 hk
      · intro hk
        rw [also_ne dn (show (1 : Nat) ≠ 4 by decide)] at hk
        rw [slot_put_ne (by decide)]
        exact c1 hk
      · intro hk
        rw [also_ne dn (show (2 : Nat) ≠ 4 by decide)] at hk
        rw [slot_put_ne (by decide)]
        exact c2 hk
      · intro hk
        rw [also_ne dn (show (3 : Nat) ≠ 4 by decide)] at hk
        obtain ⟨x1, x2⟩ := c3 hk
        exact ⟨by rw [slot_put_ne (by decide)]; exact x1, x2⟩
      · intro _
        exact slot_put_self (by rw [hs]; decide)
      · intro hk
        rw [also_ne dn (show (5 : Nat) ≠ 4 by decide)] at hk
        rw [slot_put_ne (by decide)]
        exact c5 hk
      · intro hk
        rw [also_ne dn (show (6 : Nat) ≠ 4 by decide)] at hk
        obtain ⟨x1, x2⟩ := c6 hk
        exact ⟨by rw [also_ne dn (show (3 : Nat) ≠ 4 by decide)]; exact x1, by rw [slot_put_ne (by decide)]; exact x2⟩
      · intro hk
        rw [also_ne dn (show (7 : Nat) ≠ 4 by decide)] at hk
        obtain ⟨x1, x2⟩ := c7 hk
        exact ⟨by rw [also_ne dn (show (3 : Nat) ≠ 4 by decide)]; exact x1, x2⟩
      · intro hk
        rw [also_ne dn (show (7 : Nat) ≠ 4 by decide)] at hk
        exact cn hk
      · intro hk
        rw [also_ne dn (show (8 : Nat) ≠ 4 by decide)] at hk
        rw [slot_put_ne (by decide)]
        exact c8 hk
    | 5, _ =>
      refine opV_of_wpl (K := fun b p => FxI w a rb fb (.slice wa wn wc) (.slice ua un uc) lg l (also dn 5) b p) _ (by simp only [List.getElem?_toArray, List.getElem?_cons_succ, List.getElem?_cons_zero]; rfl) ?_
      have e9 : b.eval (.tmp 46) = .pointer (some ⟨fb, 0, none⟩) := c4 (hdeps 4 (by kernel_rfl))
      have hcc := cell_keep hf (by simpa using hfr) hc
      refine wpl_val _ rfl rfl (.int .i64 lg) (by obtain ⟨ρ, hρ⟩ : ∃ ρ, b.eval = ρ := ⟨_, rfl⟩; rw [hρ] at e9 ⊢; unfold execOp; simp [go_sem, e9, hcc]) ?_
      refine ⟨rfl, rfl, hd, (by simpa [Go.Act.put] using hs), fun s hsn => (slot_put_ne (by rintro ⟨⟩; exact hsn (by simp))).trans (ho s hsn), hf, pv, ?_, ?_, ?_, ?_, ?_, ?_, ?_, ?_, ?_, ?_⟩
      · intro hk
        rw [also_ne dn (show (0 : Nat) ≠ 5 by decide)] at hk
        rw [slot_put_ne (by decide)]
        exact c0 hk
      · intro hk
        rw [also_ne dn (show (1 : Nat) ≠ 5 by decide)] at hk
        rw [slot_put_ne (by decide)]
        exact c1 hk
      · intro hk
        rw [also_ne dn (show (2 : Nat) ≠ 5 by decide)] at hk
        rw [slot_put_ne (by decide)]
        exact c2 hk
      · intro hk
        rw [also_ne dn (show (3 : Nat) ≠ 5 by decide)] at hk
        obtain ⟨x1, x2⟩ := c3 hk
        exact ⟨by rw [slot_put_ne (by decide)]; exact x1, x2⟩
      · intro hk
        rw [also_ne dn (show (4 : Nat) ≠ 5 by decide)] at hk
        rw [slot_put_ne (by decide)]
        exact c4 hk
      · intro _
        exact slot_put_self (by rw [hs]; decide)
      · intro hk
        rw [also_ne dn (show (6 : Nat) ≠ 5 by decide)] at hk
        obtain ⟨x1, x2⟩ := c6 hk
        exact ⟨by rw [also_ne dn (show (3 : Nat) ≠ 5 by decide)]; exact x1, by rw [slot_put_ne (by decide)]; exact x2⟩
      · intro hk
        rw [also_ne dn (show (7 : Nat) ≠ 5 by decide)] at hk
        obtain ⟨x1, x2⟩ := c7 hk
        exact ⟨by rw [also_ne dn (show (3 : Nat) ≠ 5 by decide)]; exact x1, x2⟩
      · intro hk
        rw [also_ne dn (show (7 : Nat) ≠ 5 by decide)] at hk
        exact cn hk
      · intro hk
        rw [also_ne dn (show (8 : Nat) ≠ 5 by decide)] at hk
        rw [slot_put_ne (by decide)]
        exact c8 hk
    | 6, _ =>
      refine opV_of_wpl (K := fun b p => FxI w a rb fb (.slice wa wn wc) (.slice ua un uc) lg l (also dn 6) b p) _ (by simp only [List.getElem?_toArray, List.getElem?_cons_succ, List.getElem?_cons_zero]; rfl) ?_
      have e42 : b.eval (.tmp 42) = .slice ua un uc := c0 (hdeps 0 (by kernel_rfl))
      obtain ⟨x45, xown⟩ := c3 (hdeps 3 (by kernel_rfl))
      obtain ⟨qa, qc, qe, -⟩ := (xown.is (A := fun _ => False) (by simp)).shape
      have e45 : b.eval (.tmp 45) = .slice _ _ _ := x45.trans qe
      have e47 : b.eval (.tmp 47) = .int .i64 lg := c5 (hdeps 5 (by kernel_rfl))
      refine wpl_val _ rfl rfl (.agg #[.slice ua un uc, pv, .int .i64 lg]) (by rw [qe]; obtain ⟨ρ, hρ⟩ : ∃ ρ, b.eval = ρ := ⟨_, rfl⟩; rw [hρ] at e42 e45 e47 ⊢; unfold execOp; simp [go_sem, e42, e45, e47]) ?_
      refine ⟨rfl, rfl, hd, (by simpa [Go.Act.put] using hs), fun s hsn => (slot_put_ne (by rintro ⟨⟩; exact hsn (by simp))).trans (ho s hsn), hf, pv, ?_, ?_, ?_, ?_, ?_, ?_, ?_, ?_, ?_, ?_⟩
      · intro hk
        rw [also_ne dn (show (0 : Nat) ≠ 6 by decide)] at hk
        rw [slot_put_ne (by decide)]
        exact c0 hk
      · intro hk
        rw [also_ne dn (show (1 : Nat) ≠ 6 by decide)] at hk
        rw [slot_put_ne (by decide)]
        exact c1 hk
      · intro hk
        rw [also_ne dn (show (2 : Nat) ≠ 6 by decide)] at hk
        rw [slot_put_ne (by decide)]
        exact c2 hk
      · intro hk
        rw [also_ne dn (show (3 : Nat) ≠ 6 by decide)] at hk
        obtain ⟨x1, x2⟩ := c3 hk
        exact ⟨by rw [slot_put_ne (by decide)]; exact x1, x2⟩
      · intro hk
        rw [also_ne dn (show (4 : Nat) ≠ 6 by decide)] at hk
        rw [slot_put_ne (by decide)]
        exact c4 hk
      · intro hk
        rw [also_ne dn (show (5 : Nat) ≠ 6 by decide)] at hk
        rw [slot_put_ne (by decide)]
        exact c5 hk
      · intro _
        exact ⟨by rw [also_ne dn (show (3 : Nat) ≠ 6 by decide)]; exact hdeps 3 (by kernel_rfl), slot_put_self (by rw [hs]; decide)⟩
      · intro hk
        rw [also_ne dn (show (7 : Nat) ≠ 6 by decide)] at hk
        obtain ⟨x1, x2⟩ := c7 hk
        exact ⟨by rw [also_ne dn (show (3 : Nat) ≠ 6 by decide)]; exact x1, x2⟩
      · intro hk
        rw [also_ne dn (show (7 : Nat) ≠ 6 by decide)] at hk
        exact cn hk
      · intro hk
        rw [also_ne dn (show (8 : Nat) ≠ 6 by decide)] at hk
        rw [slot_put_ne (by decide)]
        exact c8 hk
    | 7, _ =>
      refine opV_of_wpl (K := fun b p => FxI w a rb fb (.slice wa wn wc) (.slice ua un uc) lg l (also dn 7) b p) _ (by simp only [List.getElem?_toArray, List.getElem?_cons_succ, List.getElem?_cons_zero]; rfl) ?_
      have e4 : b.eval (.tmp 4) = .pointer (some ⟨rb, 0, none⟩) := (ho 4 (by decide)).trans h4
      obtain ⟨h3, x48⟩ := c6 (hdeps 6 (by kernel_rfl))
      have e48 : b.eval (.tmp 48) = .agg #[.slice ua un uc, pv, .int .i64 lg] := x48
      obtain ⟨x45, xown⟩ := c3 h3
      obtain ⟨qa, qc, qe, -⟩ := (xown.is (A := fun _ => False) (by simp)).shape
      have hone : (#[.slice ua un uc, pv, .int .i64 lg] : Array Value).all (·.oneCell') = true := by rw [qe]; simp [Value.oneCell']
      refine wpl_store_at (.tmp 4) (.tmp 48) rfl rfl #[.slice ua un uc, pv, .int .i64 lg] e4 e48 (by kernel_rfl) (cn hdn) (by simp) hone ?_
      intro p1 f1 a1 _
      have hnew : At p1 rb (.cells #[.slice ua un uc, pv, .int .i64 lg] 133) := by simpa using a1
      refine ⟨rfl, rfl, hd, (by simpa [Go.Act.put] using hs), fun s hsn => ho s hsn, hf.trans f1, pv, ?_, ?_, ?_, ?_, ?_, ?_, ?_, ?_, ?_, ?_⟩
      · intro hk
        rw [also_ne dn (show (0 : Nat) ≠ 7 by decide)] at hk
        exact c0 hk
      · intro hk
        rw [also_ne dn (show (1 : Nat) ≠ 7 by decide)] at hk
        exact c1 hk
      · intro hk
        rw [also_ne dn (show (2 : Nat) ≠ 7 by decide)] at hk
        exact c2 hk
      · intro hk
        rw [also_ne dn (show (3 : Nat) ≠ 7 by decide)] at hk
        obtain ⟨x1, x2⟩ := c3 hk
        exact ⟨by exact x1, x2.keepS f1 (by simpa using hrw)⟩
      · intro hk
        rw [also_ne dn (show (4 : Nat) ≠ 7 by decide)] at hk
        exact c4 hk
      · intro hk
        rw [also_ne dn (show (5 : Nat) ≠ 7 by decide)] at hk
        exact c5 hk
      · intro hk
        rw [also_ne dn (show (6 : Nat) ≠ 7 by decide)] at hk
        obtain ⟨x1, x2⟩ := c6 hk
        exact ⟨by rw [also_ne dn (show (3 : Nat) ≠ 7 by decide)]; exact x1, by exact x2⟩
      · intro _
        exact ⟨by rw [also_ne dn (show (3 : Nat) ≠ 7 by decide)]; exact h3, hnew⟩
      · intro hk
        rw [also_self] at hk
        cases hk
      · intro hk
        rw [also_ne dn (show (8 : Nat) ≠ 7 by decide)] at hk
        exact c8 hk
    | 8, _ =>
      refine opV_of_wpl (K := fun b p => FxI w a rb fb (.slice wa wn wc) (.slice ua un uc) lg l (also dn 8) b p) _ (by simp only [List.getElem?_toArray, List.getElem?_cons_succ, List.getElem?_cons_zero]; rfl) ?_
      refine wpl_val _ rfl rfl (.nilIface) (by unfold execOp; simp [go_sem]) ?_
      refine ⟨rfl, rfl, hd, (by simpa [Go.Act.put] using hs), fun s hsn => (slot_put_ne (by rintro ⟨⟩; exact hsn (by simp))).trans (ho s hsn), hf, pv, ?_, ?_, ?_, ?_, ?_, ?_, ?_, ?_, ?_, ?_⟩
      · intro hk
        rw [also_ne dn (show (0 : Nat) ≠ 8 by decide)] at hk
        rw [slot_put_ne (by decide)]
        exact c0 hk
      · intro hk
        rw [also_ne dn (show (1 : Nat) ≠ 8 by decide)] at hk
        rw [slot_put_ne (by decide)]
        exact c1 hk
      · intro hk
        rw [also_ne dn (show (2 : Nat) ≠ 8 by decide)] at hk
        rw [slot_put_ne (by decide)]
        exact c2 hk
      · intro hk
        rw [also_ne dn (show (3 : Nat) ≠ 8 by decide)] at hk
        obtain ⟨x1, x2⟩ := c3 hk
        exact ⟨by rw [slot_put_ne (by decide)]; exact x1, x2⟩
      · intro hk
        rw [also_ne dn (show (4 : Nat) ≠ 8 by decide)] at hk
        rw [slot_put_ne (by decide)]
        exact c4 hk
      · intro hk
        rw [also_ne dn (show (5 : Nat) ≠ 8 by decide)] at hk
        rw [slot_put_ne (by decide)]
        exact c5 hk
      · intro hk
        rw [also_ne dn (show (6 : Nat) ≠ 8 by decide)] at hk
        obtain ⟨x1, x2⟩ := c6 hk
        exact ⟨by rw [also_ne dn (show (3 : Nat) ≠ 8 by decide)]; exact x1, by rw [slot_put_ne (by decide)]; exact x2⟩
      · intro hk
        rw [also_ne dn (show (7 : Nat) ≠ 8 by decide)] at hk
        obtain ⟨x1, x2⟩ := c7 hk
        exact ⟨by rw [also_ne dn (show (3 : Nat) ≠ 8 by decide)]; exact x1, x2⟩
      · intro hk
        rw [also_ne dn (show (7 : Nat) ≠ 8 by decide)] at hk
        exact cn hk
      · intro _
        exact slot_put_self (by rw [hs]; decide)
  · intro dn b p hall ⟨hd, hs, ho, hf, pv, c0, c1, c2, c3, c4, c5, c6, c7, cn, c8⟩
    exact hQ b p pv hd hs ho (c8 (hall 8 (by decide))) hf (c7 (hall 7 (by decide))).2 (c3 (hall 3 (by decide))).2
end Go.Proofs.YtmohiblgfmdkjaaDoor
