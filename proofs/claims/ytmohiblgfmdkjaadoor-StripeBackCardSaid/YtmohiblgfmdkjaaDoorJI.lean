/-
  Layer 6: stripe.Rebuild's drawn region of two appends and two stores. (printed by genrq.py)
  Layer 6, stripe.Rebuild: a round of its loop. (printed by genrq2.py)
-/
import Derived.Test.YtmohiblgfmdkjaaDoorGB
import Derived.Test.YtmohiblgfmdkjaaDoorHW
import Derived.Test.YtmohiblgfmdkjaaDoorGN
import Derived.Test.YtmohiblgfmdkjaaDoorIn
import Derived.Test.YtmohiblgfmdkjaaDoorJO
import Derived.Test.YtmohiblgfmdkjaaDoorJE
import Derived.Test.YtmohiblgfmdkjaaDoorJB
import Derived.Test.YtmohiblgfmdkjaaDoorRer
import Derived.OwnWalk
namespace Go.Proofs.YtmohiblgfmdkjaaDoor
open Go.RowKit Go.Bl
set_option linter.unusedVariables false
noncomputable def rqR : Code := ((Tryd.f9.body.bind (findRegionC 15)).getD .skip)
theorem lit_int (w : World) (ρ : Operand → Value) (k : Nat) (x : Int) (hx : ρ (.tmp k) = .int .i64 x) (o : Oper) (ho : o.op = .buildSlice 32 1 #[(0, .tmp k)]) : (execOp ρ o).run Tryd.prog w = .ok (.value (.slice (some ⟨w.heap.size, 0, none⟩) 1 1)) (w.alloc (.cells #[.int .i64 x] 3)) := by
  unfold execOp
  simp only [ho]
  simp only [List.map_toArray, List.map_cons, List.map_nil, hx]
  kernel_rfl
def RqI (w : World) (a : Go.Act) (ob Z : Nat) (fv EV NV : Value) (e n : Int) (el nl : List Int) (dn : Nat → Bool) (b : Go.Act) (p : World) : Prop :=
  b.defers = a.defers ∧ b.tmps.size = 94 ∧ (∀ s, s ∉ ([63, 64, 65, 66, 67, 68, 69, 70, 71, 72, 73, 74] : List Nat) → slot b s = slot a s) ∧ Fr (ob :: (EV.ownBlock.toList ++ NV.ownBlock.toList)) w p ∧ ∃ x1 x2 : Value,
    (dn 0 = true → slot b 63 = .pointer (some ⟨ob, 1, none⟩)) ∧
    (dn 5 = true → slot b 68 = .pointer (some ⟨ob, 2, none⟩)) ∧
    (dn 10 = true → slot b 73 = .pointer (some ⟨ob, 1, none⟩)) ∧
    (dn 12 = true → slot b 74 = .pointer (some ⟨ob, 2, none⟩)) ∧
    (dn 2 = true → slot b 65 = .int .i64 e) ∧
    (dn 7 = true → slot b 70 = .int .i64 n) ∧
    (dn 1 = true → slot b 64 = EV) ∧
    (dn 6 = true → slot b 69 = NV) ∧
    (dn 3 = true → dn 4 = false → ∃ g, slot b 66 = .slice (some ⟨g, 0, none⟩) 1 1 ∧ At p g (.cells #[.int .i64 e] 3) ∧ w.heap.size ≤ g) ∧
    (dn 8 = true → dn 9 = false → ∃ g, slot b 71 = .slice (some ⟨g, 0, none⟩) 1 1 ∧ At p g (.cells #[.int .i64 n] 3) ∧ w.heap.size ≤ g) ∧
    (dn 4 = false → OwnI 3 Z p EV el) ∧
    (dn 9 = false → OwnI 3 Z p NV nl) ∧
    (dn 4 = true → dn 1 = true ∧ dn 3 = true ∧ OwnI 3 Z p (slot b 67) (el ++ [e]) ∧ ∀ g, (slot b 67).ownBlock = some g → EV.ownBlock = some g ∨ w.heap.size ≤ g) ∧
    (dn 9 = true → dn 6 = true ∧ dn 8 = true ∧ OwnI 3 Z p (slot b 72) (nl ++ [n]) ∧ ∀ g, (slot b 72).ownBlock = some g → NV.ownBlock = some g ∨ w.heap.size ≤ g) ∧
    (dn 4 = true → dn 9 = true → ∀ g, (slot b 67).ownBlock = some g → (slot b 72).ownBlock ≠ some g) ∧
    (At p ob (.cells #[fv, x1, x2] 34)) ∧
    (dn 11 = false → x1 = EV) ∧
    (dn 11 = true → dn 4 = true ∧ dn 1 = true ∧ x1 = slot b 67) ∧
    (dn 13 = false → x2 = NV) ∧
    (dn 13 = true → dn 9 = true ∧ dn 6 = true ∧ x2 = slot b 72)
set_option maxRecDepth 1000000 in
set_option maxHeartbeats 16000000 in
theorem rq_reg (w : World) (a : Go.Act) (ob Z : Nat) (fv : Value) (ea na : Option Addr) (en ec nn nc : Nat) (e n : Int) (el nl : List Int) (hsz : a.tmps.size = 94) (h10 : slot a 10 = .pointer (some ⟨ob, 0, none⟩)) (h14 : slot a 14 = .int .i64 e) (h15 : slot a 15 = .int .i64 n)
    (hB : At w ob (.cells #[fv, .slice ea en ec, .slice na nn nc] 34)) (hE : OwnI 3 Z w (.slice ea en ec) el) (hN : OwnI 3 Z w (.slice na nn nc) nl) (hap : ∀ g, (.slice ea en ec : Value).ownBlock = some g → (.slice na nn nc : Value).ownBlock ≠ some g) (hel : el.length ≤ 1000) (hnl : nl.length ≤ 1000) (hZ : Z ≤ w.heap.size) (Q : Exit → Go.Act → World → Prop)
    (hQ : ∀ (b : Go.Act) (p : World) (v1 v2 : Value), b.defers = a.defers → b.tmps.size = 94 → (∀ s, s ∉ ([63, 64, 65, 66, 67, 68, 69, 70, 71, 72, 73, 74] : List Nat) → slot b s = slot a s) → At p ob (.cells #[fv, v1, v2] 34) → OwnI 3 Z p v1 (el ++ [e]) → OwnI 3 Z p v2 (nl ++ [n]) → (∀ g, v1.ownBlock = some g → v2.ownBlock ≠ some g) → Fr (ob :: ((Value.slice ea en ec).ownBlock.toList ++ (Value.slice na nn nc).ownBlock.toList)) w p → Q .normal b p) : Code.wp Tryd.prog rqR Q a w := by
  conv => arg 2; whnf
  have hEb : ∀ g, (.slice ea en ec : Value).ownBlock = some g → g < w.heap.size := fun g hg => (hE.lt g hg).2
  have hNb : ∀ g, (.slice na nn nc : Value).ownBlock = some g → g < w.heap.size := fun g hg => (hN.lt g hg).2
  refine wp_region_inv (RqI w a ob Z fv (.slice ea en ec) (.slice na nn nc) e n el nl) (by kernel_rfl) (by kernel_rfl) ?_ ?_ ?_
  · intro w1 hw1
    refine ⟨rfl, hsz, fun _ _ => rfl, hw1.weak, .slice ea en ec, .slice na nn nc, ?_, ?_, ?_, ?_, ?_, ?_, ?_, ?_, ?_, ?_, ?_, ?_, ?_, ?_, ?_, ?_, ?_, ?_, ?_, ?_⟩
    · exact fun h => nomatch h
    · exact fun h => nomatch h
    · exact fun h => nomatch h
    · exact fun h => nomatch h
    · exact fun h => nomatch h
    · exact fun h => nomatch h
    · exact fun h => nomatch h
    · exact fun h => nomatch h
    · exact fun h => nomatch h
    · exact fun h => nomatch h
    · exact fun _ => hE.keep0 hw1
    · exact fun _ => hN.keep0 hw1
    · exact fun h => nomatch h
    · exact fun h => nomatch h
    · exact fun h => nomatch h
    · exact hB.keep0 hw1
    · exact fun _ => rfl
    · exact fun h => nomatch h
    · exact fun _ => rfl
    · exact fun h => nomatch h
  · intro i hi dn b p hdn hdeps ⟨hd, hs, ho, hf, x1, x2, s0, s5, s10, s12, s2, s7, s1, s6, m3, m8, n4, n9, o4, o9, ap, mb, k1, k2, k3, k4⟩
    have hi14 : i < 14 := hi
    clear hi
    match i, hi14 with
    | 0, _ =>
      refine opV_of_wpl (K := fun b p => RqI w a ob Z fv (.slice ea en ec) (.slice na nn nc) e n el nl (also dn 0) b p) _ (by simp only [List.getElem?_toArray, List.getElem?_cons_succ, List.getElem?_cons_zero]; rfl) ?_
      have e9 : b.eval (.tmp 10) = .pointer (some ⟨ob, 0, none⟩) := (ho 10 (by decide)).trans h10
      refine wpl_val _ rfl rfl (.pointer (some ⟨ob, 1, none⟩)) (by obtain ⟨ρ, hρ⟩ : ∃ ρ, b.eval = ρ := ⟨_, rfl⟩; rw [hρ] at e9 ⊢; unfold execOp; simp [go_sem, e9]) ?_
      refine ⟨rfl, rfl, hd, (by simpa [Go.Act.put] using hs), fun s hsn => (slot_put_ne (by rintro ⟨⟩; exact hsn (by simp))).trans (ho s hsn), hf, x1, x2, ?_, ?_, ?_, ?_, ?_, ?_, ?_, ?_, ?_, ?_, ?_, ?_, ?_, ?_, ?_, ?_, ?_, ?_, ?_, ?_⟩
      · intro _
        exact slot_put_self (by rw [hs]; decide)
      · intro hk
        rw [also_ne dn (show (5 : Nat) ≠ 0 by decide)] at hk
        rw [slot_put_ne (by decide)]
        exact s5 hk
      · intro hk
        rw [also_ne dn (show (10 : Nat) ≠ 0 by decide)] at hk
        rw [slot_put_ne (by decide)]
        exact s10 hk
      · intro hk
        rw [also_ne dn (show (12 : Nat) ≠ 0 by decide)] at hk
        rw [slot_put_ne (by decide)]
        exact s12 hk
      · intro hk
        rw [also_ne dn (show (2 : Nat) ≠ 0 by decide)] at hk
        rw [slot_put_ne (by decide)]
        exact s2 hk
      · intro hk
        rw [also_ne dn (show (7 : Nat) ≠ 0 by decide)] at hk
        rw [slot_put_ne (by decide)]
        exact s7 hk
      · intro hk
        rw [also_ne dn (show (1 : Nat) ≠ 0 by decide)] at hk
        rw [slot_put_ne (by decide)]
        exact s1 hk
      · intro hk
        rw [also_ne dn (show (6 : Nat) ≠ 0 by decide)] at hk
        rw [slot_put_ne (by decide)]
        exact s6 hk
      · intro hk hk2
        rw [also_ne dn (show (3 : Nat) ≠ 0 by decide)] at hk
        rw [also_ne dn (show (4 : Nat) ≠ 0 by decide)] at hk2
        obtain ⟨g, y1, y2, y3⟩ := m3 hk hk2
        exact ⟨g, by rw [slot_put_ne (by decide)]; exact y1, y2, y3⟩
      · intro hk hk2
        rw [also_ne dn (show (8 : Nat) ≠ 0 by decide)] at hk
        rw [also_ne dn (show (9 : Nat) ≠ 0 by decide)] at hk2
        obtain ⟨g, y1, y2, y3⟩ := m8 hk hk2
        exact ⟨g, by rw [slot_put_ne (by decide)]; exact y1, y2, y3⟩
      · intro hk
        rw [also_ne dn (show (4 : Nat) ≠ 0 by decide)] at hk
        exact n4 hk
      · intro hk
        rw [also_ne dn (show (9 : Nat) ≠ 0 by decide)] at hk
        exact n9 hk
      · intro hk
        rw [also_ne dn (show (4 : Nat) ≠ 0 by decide)] at hk
        obtain ⟨y1, y2, y3, y4⟩ := o4 hk
        exact ⟨by rw [also_ne dn (show (1 : Nat) ≠ 0 by decide)]; exact y1, by rw [also_ne dn (show (3 : Nat) ≠ 0 by decide)]; exact y2, by rw [slot_put_ne (by decide)]; exact y3, by rw [slot_put_ne (by decide)]; exact y4⟩
      · intro hk
        rw [also_ne dn (show (9 : Nat) ≠ 0 by decide)] at hk
        obtain ⟨y1, y2, y3, y4⟩ := o9 hk
        exact ⟨by rw [also_ne dn (show (6 : Nat) ≠ 0 by decide)]; exact y1, by rw [also_ne dn (show (8 : Nat) ≠ 0 by decide)]; exact y2, by rw [slot_put_ne (by decide)]; exact y3, by rw [slot_put_ne (by decide)]; exact y4⟩
      · intro hk hk2
        rw [also_ne dn (show (4 : Nat) ≠ 0 by decide)] at hk
        rw [also_ne dn (show (9 : Nat) ≠ 0 by decide)] at hk2
        rw [slot_put_ne (by decide), slot_put_ne (by decide)]
        exact ap hk hk2
      · exact mb
      · intro hk
        rw [also_ne dn (show (11 : Nat) ≠ 0 by decide)] at hk
        exact k1 hk
      · intro hk
        rw [also_ne dn (show (11 : Nat) ≠ 0 by decide)] at hk
        obtain ⟨y1, y2, y3⟩ := k2 hk
        exact ⟨by rw [also_ne dn (show (4 : Nat) ≠ 0 by decide)]; exact y1, by rw [also_ne dn (show (1 : Nat) ≠ 0 by decide)]; exact y2, by rw [slot_put_ne (by decide)]; exact y3⟩
      · intro hk
        rw [also_ne dn (show (13 : Nat) ≠ 0 by decide)] at hk
        exact k3 hk
      · intro hk
        rw [also_ne dn (show (13 : Nat) ≠ 0 by decide)] at hk
        obtain ⟨y1, y2, y3⟩ := k4 hk
        exact ⟨by rw [also_ne dn (show (9 : Nat) ≠ 0 by decide)]; exact y1, by rw [also_ne dn (show (6 : Nat) ≠ 0 by decide)]; exact y2, by rw [slot_put_ne (by decide)]; exact y3⟩
    | 1, _ =>
      refine opV_of_wpl (K := fun b p => RqI w a ob Z fv (.slice ea en ec) (.slice na nn nc) e n el nl (also dn 1) b p) _ (by simp only [List.getElem?_toArray, List.getElem?_cons_succ, List.getElem?_cons_zero]; rfl) ?_
      have hq : dn 11 = false := by
        cases h : dn 11 with
        | false => rfl
        | true =>
          have hx := (k2 h).2.1
          rw [hdn] at hx
          cases hx
      have hx1 := k1 hq
      have hcc := mb.cell 1
      simp only [List.getElem?_toArray, List.getElem?_cons_zero, List.getElem?_cons_succ] at hcc
      rw [hx1] at hcc
      have e9 : b.eval (.tmp 63) = .pointer (some ⟨ob, 1, none⟩) := s0 (hdeps 0 (by kernel_rfl))
      refine wpl_val _ rfl rfl (.slice ea en ec) (by obtain ⟨ρ, hρ⟩ : ∃ ρ, b.eval = ρ := ⟨_, rfl⟩; rw [hρ] at e9 ⊢; unfold execOp; simp [go_sem, e9, hcc]) ?_
      refine ⟨rfl, rfl, hd, (by simpa [Go.Act.put] using hs), fun s hsn => (slot_put_ne (by rintro ⟨⟩; exact hsn (by simp))).trans (ho s hsn), hf, x1, x2, ?_, ?_, ?_, ?_, ?_, ?_, ?_, ?_, ?_, ?_, ?_, ?_, ?_, ?_, ?_, ?_, ?_, ?_, ?_, ?_⟩
      · intro hk
        rw [also_ne dn (show (0 : Nat) ≠ 1 by decide)] at hk
        rw [slot_put_ne (by decide)]
        exact s0 hk
      · intro hk
        rw [also_ne dn (show (5 : Nat) ≠ 1 by decide)] at hk
        rw [slot_put_ne (by decide)]
        exact s5 hk
      · intro hk
        rw [also_ne dn (show (10 : Nat) ≠ 1 by decide)] at hk
        rw [slot_put_ne (by decide)]
        exact s10 hk
      · intro hk
        rw [also_ne dn (show (12 : Nat) ≠ 1 by decide)] at hk
        rw [slot_put_ne (by decide)]
        exact s12 hk
      · intro hk
        rw [also_ne dn (show (2 : Nat) ≠ 1 by decide)] at hk
        rw [slot_put_ne (by decide)]
        exact s2 hk
      · intro hk
        rw [also_ne dn (show (7 : Nat) ≠ 1 by decide)] at hk
        rw [slot_put_ne (by decide)]
        exact s7 hk
      · intro _
        exact slot_put_self (by rw [hs]; decide)
      · intro hk
        rw [also_ne dn (show (6 : Nat) ≠ 1 by decide)] at hk
        rw [slot_put_ne (by decide)]
        exact s6 hk
      · intro hk hk2
        rw [also_ne dn (show (3 : Nat) ≠ 1 by decide)] at hk
        rw [also_ne dn (show (4 : Nat) ≠ 1 by decide)] at hk2
        obtain ⟨g, y1, y2, y3⟩ := m3 hk hk2
        exact ⟨g, by rw [slot_put_ne (by decide)]; exact y1, y2, y3⟩
      · intro hk hk2
        rw [also_ne dn (show (8 : Nat) ≠ 1 by decide)] at hk
        rw [also_ne dn (show (9 : Nat) ≠ 1 by decide)] at hk2
        obtain ⟨g, y1, y2, y3⟩ := m8 hk hk2
        exact ⟨g, by rw [slot_put_ne (by decide)]; exact y1, y2, y3⟩
      · intro hk
        rw [also_ne dn (show (4 : Nat) ≠ 1 by decide)] at hk
        exact n4 hk
      · intro hk
        rw [also_ne dn (show (9 : Nat) ≠ 1 by decide)] at hk
        exact n9 hk
      · intro hk
        rw [also_ne dn (show (4 : Nat) ≠ 1 by decide)] at hk
        obtain ⟨y1, y2, y3, y4⟩ := o4 hk
        rw [hdn] at y1
        cases y1
      · intro hk
        rw [also_ne dn (show (9 : Nat) ≠ 1 by decide)] at hk
        obtain ⟨y1, y2, y3, y4⟩ := o9 hk
        exact ⟨by rw [also_ne dn (show (6 : Nat) ≠ 1 by decide)]; exact y1, by rw [also_ne dn (show (8 : Nat) ≠ 1 by decide)]; exact y2, by rw [slot_put_ne (by decide)]; exact y3, by rw [slot_put_ne (by decide)]; exact y4⟩
      · intro hk hk2
        rw [also_ne dn (show (4 : Nat) ≠ 1 by decide)] at hk
        rw [also_ne dn (show (9 : Nat) ≠ 1 by decide)] at hk2
        rw [slot_put_ne (by decide), slot_put_ne (by decide)]
        exact ap hk hk2
      · exact mb
      · intro hk
        rw [also_ne dn (show (11 : Nat) ≠ 1 by decide)] at hk
        exact k1 hk
      · intro hk
        rw [also_ne dn (show (11 : Nat) ≠ 1 by decide)] at hk
        obtain ⟨y1, y2, y3⟩ := k2 hk
        rw [hdn] at y2
        cases y2
      · intro hk
        rw [also_ne dn (show (13 : Nat) ≠ 1 by decide)] at hk
        exact k3 hk
      · intro hk
        rw [also_ne dn (show (13 : Nat) ≠ 1 by decide)] at hk
        obtain ⟨y1, y2, y3⟩ := k4 hk
        exact ⟨by rw [also_ne dn (show (9 : Nat) ≠ 1 by decide)]; exact y1, by rw [also_ne dn (show (6 : Nat) ≠ 1 by decide)]; exact y2, by rw [slot_put_ne (by decide)]; exact y3⟩
    | 2, _ =>
      refine opV_of_wpl (K := fun b p => RqI w a ob Z fv (.slice ea en ec) (.slice na nn nc) e n el nl (also dn 2) b p) _ (by simp only [List.getElem?_toArray, List.getElem?_cons_succ, List.getElem?_cons_zero]; rfl) ?_
      have e9 : b.eval (.tmp 14) = .int .i64 e := (ho 14 (by decide)).trans h14
      refine wpl_val _ rfl rfl (.int .i64 e) (by obtain ⟨ρ, hρ⟩ : ∃ ρ, b.eval = ρ := ⟨_, rfl⟩; rw [hρ] at e9 ⊢; unfold execOp; simp [go_sem, e9]) ?_
      refine ⟨rfl, rfl, hd, (by simpa [Go.Act.put] using hs), fun s hsn => (slot_put_ne (by rintro ⟨⟩; exact hsn (by simp))).trans (ho s hsn), hf, x1, x2, ?_, ?_, ?_, ?_, ?_, ?_, ?_, ?_, ?_, ?_, ?_, ?_, ?_, ?_, ?_, ?_, ?_, ?_, ?_, ?_⟩
      · intro hk
        rw [also_ne dn (show (0 : Nat) ≠ 2 by decide)] at hk
        rw [slot_put_ne (by decide)]
        exact s0 hk
      · intro hk
        rw [also_ne dn (show (5 : Nat) ≠ 2 by decide)] at hk
        rw [slot_put_ne (by decide)]
        exact s5 hk
      · intro hk
        rw [also_ne dn (show (10 : Nat) ≠ 2 by decide)] at hk
        rw [slot_put_ne (by decide)]
        exact s10 hk
      · intro hk
        rw [also_ne dn (show (12 : Nat) ≠ 2 by decide)] at hk
        rw [slot_put_ne (by decide)]
        exact s12 hk
      · intro _
        exact slot_put_self (by rw [hs]; decide)
      · intro hk
        rw [also_ne dn (show (7 : Nat) ≠ 2 by decide)] at hk
        rw [slot_put_ne (by decide)]
        exact s7 hk
      · intro hk
        rw [also_ne dn (show (1 : Nat) ≠ 2 by decide)] at hk
        rw [slot_put_ne (by decide)]
        exact s1 hk
      · intro hk
        rw [also_ne dn (show (6 : Nat) ≠ 2 by decide)] at hk
        rw [slot_put_ne (by decide)]
        exact s6 hk
      · intro hk hk2
        rw [also_ne dn (show (3 : Nat) ≠ 2 by decide)] at hk
        rw [also_ne dn (show (4 : Nat) ≠ 2 by decide)] at hk2
        obtain ⟨g, y1, y2, y3⟩ := m3 hk hk2
        exact ⟨g, by rw [slot_put_ne (by decide)]; exact y1, y2, y3⟩
      · intro hk hk2
        rw [also_ne dn (show (8 : Nat) ≠ 2 by decide)] at hk
        rw [also_ne dn (show (9 : Nat) ≠ 2 by decide)] at hk2
        obtain ⟨g, y1, y2, y3⟩ := m8 hk hk2
        exact ⟨g, by rw [slot_put_ne (by decide)]; exact y1, y2, y3⟩
      · intro hk
        rw [also_ne dn (show (4 : Nat) ≠ 2 by decide)] at hk
        exact n4 hk
      · intro hk
        rw [also_ne dn (show (9 : Nat) ≠ 2 by decide)] at hk
        exact n9 hk
      · intro hk
        rw [also_ne dn (show (4 : Nat) ≠ 2 by decide)] at hk
        obtain ⟨y1, y2, y3, y4⟩ := o4 hk
        exact ⟨by rw [also_ne dn (show (1 : Nat) ≠ 2 by decide)]; exact y1, by rw [also_ne dn (show (3 : Nat) ≠ 2 by decide)]; exact y2, by rw [slot_put_ne (by decide)]; exact y3, by rw [slot_put_ne (by decide)]; exact y4⟩
      · intro hk
        rw [also_ne dn (show (9 : Nat) ≠ 2 by decide)] at hk
        obtain ⟨y1, y2, y3, y4⟩ := o9 hk
        exact ⟨by rw [also_ne dn (show (6 : Nat) ≠ 2 by decide)]; exact y1, by rw [also_ne dn (show (8 : Nat) ≠ 2 by decide)]; exact y2, by rw [slot_put_ne (by decide)]; exact y3, by rw [slot_put_ne (by decide)]; exact y4⟩
      · intro hk hk2
        rw [also_ne dn (show (4 : Nat) ≠ 2 by decide)] at hk
        rw [also_ne dn (show (9 : Nat) ≠ 2 by decide)] at hk2
        rw [slot_put_ne (by decide), slot_put_ne (by decide)]
        exact ap hk hk2
      · exact mb
      · intro hk
        rw [also_ne dn (show (11 : Nat) ≠ 2 by decide)] at hk
        exact k1 hk
      · intro hk
        rw [also_ne dn (show (11 : Nat) ≠ 2 by decide)] at hk
        obtain ⟨y1, y2, y3⟩ := k2 hk
        exact ⟨by rw [also_ne dn (show (4 : Nat) ≠ 2 by decide)]; exact y1, by rw [also_ne dn (show (1 : Nat) ≠ 2 by decide)]; exact y2, by rw [slot_put_ne (by decide)]; exact y3⟩
      · intro hk
        rw [also_ne dn (show (13 : Nat) ≠ 2 by decide)] at hk
        exact k3 hk
      · intro hk
        rw [also_ne dn (show (13 : Nat) ≠ 2 by decide)] at hk
        obtain ⟨y1, y2, y3⟩ := k4 hk
        exact ⟨by rw [also_ne dn (show (9 : Nat) ≠ 2 by decide)]; exact y1, by rw [also_ne dn (show (6 : Nat) ≠ 2 by decide)]; exact y2, by rw [slot_put_ne (by decide)]; exact y3⟩
    | 3, _ =>
      refine opV_of_wpl (K := fun b p => RqI w a ob Z fv (.slice ea en ec) (.slice na nn nc) e n el nl (also dn 3) b p) _ (by simp only [List.getElem?_toArray, List.getElem?_cons_succ, List.getElem?_cons_zero]; rfl) ?_
      have e9 : b.eval (.tmp 65) = .int .i64 e := s2 (hdeps 2 (by kernel_rfl))
      have hfs : Fr [] p (p.alloc (.cells #[.int .i64 e] 3)) := Fr.alloc _ _
      refine wpl_step rfl rfl _ (lit_int p b.eval 65 e e9 _ rfl) ?_
      refine ⟨rfl, rfl, hd, (by simpa [Go.Act.put] using hs), fun s hsn => (slot_put_ne (by rintro ⟨⟩; exact hsn (by simp))).trans (ho s hsn), hf.trans hfs.weak, x1, x2, ?_, ?_, ?_, ?_, ?_, ?_, ?_, ?_, ?_, ?_, ?_, ?_, ?_, ?_, ?_, ?_, ?_, ?_, ?_, ?_⟩
      · intro hk
        rw [also_ne dn (show (0 : Nat) ≠ 3 by decide)] at hk
        rw [slot_put_ne (by decide)]
        exact s0 hk
      · intro hk
        rw [also_ne dn (show (5 : Nat) ≠ 3 by decide)] at hk
        rw [slot_put_ne (by decide)]
        exact s5 hk
      · intro hk
        rw [also_ne dn (show (10 : Nat) ≠ 3 by decide)] at hk
        rw [slot_put_ne (by decide)]
        exact s10 hk
      · intro hk
        rw [also_ne dn (show (12 : Nat) ≠ 3 by decide)] at hk
        rw [slot_put_ne (by decide)]
        exact s12 hk
      · intro hk
        rw [also_ne dn (show (2 : Nat) ≠ 3 by decide)] at hk
        rw [slot_put_ne (by decide)]
        exact s2 hk
      · intro hk
        rw [also_ne dn (show (7 : Nat) ≠ 3 by decide)] at hk
        rw [slot_put_ne (by decide)]
        exact s7 hk
      · intro hk
        rw [also_ne dn (show (1 : Nat) ≠ 3 by decide)] at hk
        rw [slot_put_ne (by decide)]
        exact s1 hk
      · intro hk
        rw [also_ne dn (show (6 : Nat) ≠ 3 by decide)] at hk
        rw [slot_put_ne (by decide)]
        exact s6 hk
      · intro _ _
        exact ⟨p.heap.size, slot_put_self (by rw [hs]; decide), At.new rfl, hf.size⟩
      · intro hk hk2
        rw [also_ne dn (show (8 : Nat) ≠ 3 by decide)] at hk
        rw [also_ne dn (show (9 : Nat) ≠ 3 by decide)] at hk2
        obtain ⟨g, y1, y2, y3⟩ := m8 hk hk2
        exact ⟨g, by rw [slot_put_ne (by decide)]; exact y1, y2.keep0 hfs, y3⟩
      · intro hk
        rw [also_ne dn (show (4 : Nat) ≠ 3 by decide)] at hk
        exact (n4 hk).keep0 hfs
      · intro hk
        rw [also_ne dn (show (9 : Nat) ≠ 3 by decide)] at hk
        exact (n9 hk).keep0 hfs
      · intro hk
        rw [also_ne dn (show (4 : Nat) ≠ 3 by decide)] at hk
        obtain ⟨y1, y2, y3, y4⟩ := o4 hk
        rw [hdn] at y2
        cases y2
      · intro hk
        rw [also_ne dn (show (9 : Nat) ≠ 3 by decide)] at hk
        obtain ⟨y1, y2, y3, y4⟩ := o9 hk
        exact ⟨by rw [also_ne dn (show (6 : Nat) ≠ 3 by decide)]; exact y1, by rw [also_ne dn (show (8 : Nat) ≠ 3 by decide)]; exact y2, by rw [slot_put_ne (by decide)]; exact y3.keep0 hfs, by rw [slot_put_ne (by decide)]; exact y4⟩
      · intro hk hk2
        rw [also_ne dn (show (4 : Nat) ≠ 3 by decide)] at hk
        rw [also_ne dn (show (9 : Nat) ≠ 3 by decide)] at hk2
        rw [slot_put_ne (by decide), slot_put_ne (by decide)]
        exact ap hk hk2
      · exact mb.keep0 hfs
      · intro hk
        rw [also_ne dn (show (11 : Nat) ≠ 3 by decide)] at hk
        exact k1 hk
      · intro hk
        rw [also_ne dn (show (11 : Nat) ≠ 3 by decide)] at hk
        obtain ⟨y1, y2, y3⟩ := k2 hk
        exact ⟨by rw [also_ne dn (show (4 : Nat) ≠ 3 by decide)]; exact y1, by rw [also_ne dn (show (1 : Nat) ≠ 3 by decide)]; exact y2, by rw [slot_put_ne (by decide)]; exact y3⟩
      · intro hk
        rw [also_ne dn (show (13 : Nat) ≠ 3 by decide)] at hk
        exact k3 hk
      · intro hk
        rw [also_ne dn (show (13 : Nat) ≠ 3 by decide)] at hk
        obtain ⟨y1, y2, y3⟩ := k4 hk
        exact ⟨by rw [also_ne dn (show (9 : Nat) ≠ 3 by decide)]; exact y1, by rw [also_ne dn (show (6 : Nat) ≠ 3 by decide)]; exact y2, by rw [slot_put_ne (by decide)]; exact y3⟩
    | 4, _ =>
      refine opV_of_wpl (K := fun b p => RqI w a ob Z fv (.slice ea en ec) (.slice na nn nc) e n el nl (also dn 4) b p) _ (by simp only [List.getElem?_toArray, List.getElem?_cons_succ, List.getElem?_cons_zero]; rfl) ?_
      obtain ⟨g0, y1, y2, y3⟩ := m3 (hdeps 3 (by kernel_rfl)) hdn
      have ea_ : b.eval (.tmp 64) = .slice ea en ec := s1 (hdeps 1 (by kernel_rfl))
      have eb_ : b.eval (.tmp 66) = .slice (some ⟨g0, 0, none⟩) 1 1 := y1
      refine wpl_append_nA Tryd.underlying32 Tryd.infoIntI rfl (.tmp 64) (.tmp 66) rfl ea_ eb_ y2 (n4 hdn) (by omega) (by have := hf.size; omega) ?_
      intro v2 p2 hown hgr hnew
      have hfs : Fr (.slice ea en ec : Value).ownBlock.toList p p2 := Fr.grown hgr (by intro k hk; simp [hk])
      have hplace : ∀ g, v2.ownBlock = some g → (.slice ea en ec : Value).ownBlock = some g ∨ w.heap.size ≤ g := fun g hg => hnew.elim (fun h => .inl (by rw [← h]; exact hg)) (fun h => .inr (by rw [h] at hg; cases hg; exact hf.size))
      refine ⟨rfl, rfl, hd, (by simpa [Go.Act.put] using hs), fun s hsn => (slot_put_ne (by rintro ⟨⟩; exact hsn (by simp))).trans (ho s hsn), hf.trans (hfs.mono (fun g hg => .inl (by simp at hg ⊢; exact .inr (.inl hg)))), x1, x2, ?_, ?_, ?_, ?_, ?_, ?_, ?_, ?_, ?_, ?_, ?_, ?_, ?_, ?_, ?_, ?_, ?_, ?_, ?_, ?_⟩
      · intro hk
        rw [also_ne dn (show (0 : Nat) ≠ 4 by decide)] at hk
        rw [slot_put_ne (by decide)]
        exact s0 hk
      · intro hk
        rw [also_ne dn (show (5 : Nat) ≠ 4 by decide)] at hk
        rw [slot_put_ne (by decide)]
        exact s5 hk
      · intro hk
        rw [also_ne dn (show (10 : Nat) ≠ 4 by decide)] at hk
        rw [slot_put_ne (by decide)]
        exact s10 hk
      · intro hk
        rw [also_ne dn (show (12 : Nat) ≠ 4 by decide)] at hk
        rw [slot_put_ne (by decide)]
        exact s12 hk
      · intro hk
        rw [also_ne dn (show (2 : Nat) ≠ 4 by decide)] at hk
        rw [slot_put_ne (by decide)]
        exact s2 hk
      · intro hk
        rw [also_ne dn (show (7 : Nat) ≠ 4 by decide)] at hk
        rw [slot_put_ne (by decide)]
        exact s7 hk
      · intro hk
        rw [also_ne dn (show (1 : Nat) ≠ 4 by decide)] at hk
        rw [slot_put_ne (by decide)]
        exact s1 hk
      · intro hk
        rw [also_ne dn (show (6 : Nat) ≠ 4 by decide)] at hk
        rw [slot_put_ne (by decide)]
        exact s6 hk
      · intro _ hk2
        rw [also_self] at hk2
        cases hk2
      · intro hk hk2
        rw [also_ne dn (show (8 : Nat) ≠ 4 by decide)] at hk
        rw [also_ne dn (show (9 : Nat) ≠ 4 by decide)] at hk2
        obtain ⟨g, y1, y2, y3⟩ := m8 hk hk2
        exact ⟨g, by rw [slot_put_ne (by decide)]; exact y1, y2.keep hfs (fun hm => by have := hEb g (by simpa using hm); omega), y3⟩
      · intro hk
        rw [also_self] at hk
        cases hk
      · intro hk
        rw [also_ne dn (show (9 : Nat) ≠ 4 by decide)] at hk
        exact own_keep (n9 hk) hfs (fun g hg hm => hap g (by simpa using hm) hg)
      · intro _
        exact ⟨by rw [also_ne dn (show (1 : Nat) ≠ 4 by decide)]; exact hdeps 1 (by kernel_rfl), by rw [also_ne dn (show (3 : Nat) ≠ 4 by decide)]; exact hdeps 3 (by kernel_rfl), by rw [slot_put_self (by rw [hs]; decide)]; exact hown, by rw [slot_put_self (by rw [hs]; decide)]; exact hplace⟩
      · intro hk
        rw [also_ne dn (show (9 : Nat) ≠ 4 by decide)] at hk
        obtain ⟨y1, y2, y3, y4⟩ := o9 hk
        exact ⟨by rw [also_ne dn (show (6 : Nat) ≠ 4 by decide)]; exact y1, by rw [also_ne dn (show (8 : Nat) ≠ 4 by decide)]; exact y2, by rw [slot_put_ne (by decide)]; exact own_keep y3 hfs (fun g hg hm => (y4 g hg).elim (fun h => hap g (by simpa using hm) h) (fun h => by have := hEb g (by simpa using hm); omega)), by rw [slot_put_ne (by decide)]; exact y4⟩
      · intro _ hk2
        rw [also_ne dn (show (9 : Nat) ≠ 4 by decide)] at hk2
        rw [slot_put_self (by rw [hs]; decide), slot_put_ne (by decide)]
        obtain ⟨-, -, y3, y4⟩ := o9 hk2
        intro g hg hg2
        rcases hnew with h | h
        · rw [h] at hg
          exact (y4 g hg2).elim (fun h => hap g hg h) (fun h => by have := hEb g hg; omega)
        · rw [h] at hg
          cases hg
          have := (y3.lt _ hg2).2
          omega
      · exact mb.keep hfs (fun hm => own_ne_tyB (n4 hdn) mb (by decide) (by simpa using hm))
      · intro hk
        rw [also_ne dn (show (11 : Nat) ≠ 4 by decide)] at hk
        exact k1 hk
      · intro hk
        rw [also_ne dn (show (11 : Nat) ≠ 4 by decide)] at hk
        obtain ⟨y1, y2, y3⟩ := k2 hk
        rw [hdn] at y1
        cases y1
      · intro hk
        rw [also_ne dn (show (13 : Nat) ≠ 4 by decide)] at hk
        exact k3 hk
      · intro hk
        rw [also_ne dn (show (13 : Nat) ≠ 4 by decide)] at hk
        obtain ⟨y1, y2, y3⟩ := k4 hk
        exact ⟨by rw [also_ne dn (show (9 : Nat) ≠ 4 by decide)]; exact y1, by rw [also_ne dn (show (6 : Nat) ≠ 4 by decide)]; exact y2, by rw [slot_put_ne (by decide)]; exact y3⟩
    | 5, _ =>
      refine opV_of_wpl (K := fun b p => RqI w a ob Z fv (.slice ea en ec) (.slice na nn nc) e n el nl (also dn 5) b p) _ (by simp only [List.getElem?_toArray, List.getElem?_cons_succ, List.getElem?_cons_zero]; rfl) ?_
      have e9 : b.eval (.tmp 10) = .pointer (some ⟨ob, 0, none⟩) := (ho 10 (by decide)).trans h10
      refine wpl_val _ rfl rfl (.pointer (some ⟨ob, 2, none⟩)) (by obtain ⟨ρ, hρ⟩ : ∃ ρ, b.eval = ρ := ⟨_, rfl⟩; rw [hρ] at e9 ⊢; unfold execOp; simp [go_sem, e9]) ?_
      refine ⟨rfl, rfl, hd, (by simpa [Go.Act.put] using hs), fun s hsn => (slot_put_ne (by rintro ⟨⟩; exact hsn (by simp))).trans (ho s hsn), hf, x1, x2, ?_, ?_, ?_, ?_, ?_, ?_, ?_, ?_, ?_, ?_, ?_, ?_, ?_, ?_, ?_, ?_, ?_, ?_, ?_, ?_⟩
      · intro hk
        rw [also_ne dn (show (0 : Nat) ≠ 5 by decide)] at hk
        rw [slot_put_ne (by decide)]
        exact s0 hk
      · intro _
        exact slot_put_self (by rw [hs]; decide)
      · intro hk
        rw [also_ne dn (show (10 : Nat) ≠ 5 by decide)] at hk
        rw [slot_put_ne (by decide)]
        exact s10 hk
      · intro hk
        rw [also_ne dn (show (12 : Nat) ≠ 5 by decide)] at hk
        rw [slot_put_ne (by decide)]
        exact s12 hk
      · intro hk
        rw [also_ne dn (show (2 : Nat) ≠ 5 by decide)] at hk
        rw [slot_put_ne (by decide)]
        exact s2 hk
      · intro hk
        rw [also_ne dn (show (7 : Nat) ≠ 5 by decide)] at hk
        rw [slot_put_ne (by decide)]
        exact s7 hk
      · intro hk
        rw [also_ne dn (show (1 : Nat) ≠ 5 by decide)] at hk
        rw [slot_put_ne (by decide)]
        exact s1 hk
      · intro hk
        rw [also_ne dn (show (6 : Nat) ≠ 5 by decide)] at hk
        rw [slot_put_ne (by decide)]
        exact s6 hk
      · intro hk hk2
        rw [also_ne dn (show (3 : Nat) ≠ 5 by decide)] at hk
        rw [also_ne dn (show (4 : Nat) ≠ 5 by decide)] at hk2
        obtain ⟨g, y1, y2, y3⟩ := m3 hk hk2
        exact ⟨g, by rw [slot_put_ne (by decide)]; exact y1, y2, y3⟩
      · intro hk hk2
        rw [also_ne dn (show (8 : Nat) ≠ 5 by decide)] at hk
        rw [also_ne dn (show (9 : Nat) ≠ 5 by decide)] at hk2
        obtain ⟨g, y1, y2, y3⟩ := m8 hk hk2
        exact ⟨g, by rw [slot_put_ne (by decide)]; exact y1, y2, y3⟩
      · intro hk
        rw [also_ne dn (show (4 : Nat) ≠ 5 by decide)] at hk
        exact n4 hk
      · intro hk
        rw [also_ne dn (show (9 : Nat) ≠ 5 by decide)] at hk
        exact n9 hk
      · intro hk
        rw [also_ne dn (show (4 : Nat) ≠ 5 by decide)] at hk
        obtain ⟨y1, y2, y3, y4⟩ := o4 hk
        exact ⟨by rw [also_ne dn (show (1 : Nat) ≠ 5 by decide)]; exact y1, by rw [also_ne dn (show (3 : Nat) ≠ 5 by decide)]; exact y2, by rw [slot_put_ne (by decide)]; exact y3, by rw [slot_put_ne (by decide)]; exact y4⟩
      · intro hk
        rw [also_ne dn (show (9 : Nat) ≠ 5 by decide)] at hk
        obtain ⟨y1, y2, y3, y4⟩ := o9 hk
        exact ⟨by rw [also_ne dn (show (6 : Nat) ≠ 5 by decide)]; exact y1, by rw [also_ne dn (show (8 : Nat) ≠ 5 by decide)]; exact y2, by rw [slot_put_ne (by decide)]; exact y3, by rw [slot_put_ne (by decide)]; exact y4⟩
      · intro hk hk2
        rw [also_ne dn (show (4 : Nat) ≠ 5 by decide)] at hk
        rw [also_ne dn (show (9 : Nat) ≠ 5 by decide)] at hk2
        rw [slot_put_ne (by decide), slot_put_ne (by decide)]
        exact ap hk hk2
      · exact mb
      · intro hk
        rw [also_ne dn (show (11 : Nat) ≠ 5 by decide)] at hk
        exact k1 hk
      · intro hk
        rw [also_ne dn (show (11 : Nat) ≠ 5 by decide)] at hk
        obtain ⟨y1, y2, y3⟩ := k2 hk
        exact ⟨by rw [also_ne dn (show (4 : Nat) ≠ 5 by decide)]; exact y1, by rw [also_ne dn (show (1 : Nat) ≠ 5 by decide)]; exact y2, by rw [slot_put_ne (by decide)]; exact y3⟩
      · intro hk
        rw [also_ne dn (show (13 : Nat) ≠ 5 by decide)] at hk
        exact k3 hk
      · intro hk
        rw [also_ne dn (show (13 : Nat) ≠ 5 by decide)] at hk
        obtain ⟨y1, y2, y3⟩ := k4 hk
        exact ⟨by rw [also_ne dn (show (9 : Nat) ≠ 5 by decide)]; exact y1, by rw [also_ne dn (show (6 : Nat) ≠ 5 by decide)]; exact y2, by rw [slot_put_ne (by decide)]; exact y3⟩
    | 6, _ =>
      refine opV_of_wpl (K := fun b p => RqI w a ob Z fv (.slice ea en ec) (.slice na nn nc) e n el nl (also dn 6) b p) _ (by simp only [List.getElem?_toArray, List.getElem?_cons_succ, List.getElem?_cons_zero]; rfl) ?_
      have hq : dn 13 = false := by
        cases h : dn 13 with
        | false => rfl
        | true =>
          have hx := (k4 h).2.1
          rw [hdn] at hx
          cases hx
      have hx1 := k3 hq
      have hcc := mb.cell 2
      simp only [List.getElem?_toArray, List.getElem?_cons_zero, List.getElem?_cons_succ] at hcc
      rw [hx1] at hcc
      have e9 : b.eval (.tmp 68) = .pointer (some ⟨ob, 2, none⟩) := s5 (hdeps 5 (by kernel_rfl))
      refine wpl_val _ rfl rfl (.slice na nn nc) (by obtain ⟨ρ, hρ⟩ : ∃ ρ, b.eval = ρ := ⟨_, rfl⟩; rw [hρ] at e9 ⊢; unfold execOp; simp [go_sem, e9, hcc]) ?_
      refine ⟨rfl, rfl, hd, (by simpa [Go.Act.put] using hs), fun s hsn => (slot_put_ne (by rintro ⟨⟩; exact hsn (by simp))).trans (ho s hsn), hf, x1, x2, ?_, ?_, ?_, ?_, ?_, ?_, ?_, ?_, ?_, ?_, ?_, ?_, ?_, ?_, ?_, ?_, ?_, ?_, ?_, ?_⟩
      · intro hk
        rw [also_ne dn (show (0 : Nat) ≠ 6 by decide)] at hk
        rw [slot_put_ne (by decide)]
        exact s0 hk
      · intro hk
        rw [also_ne dn (show (5 : Nat) ≠ 6 by decide)] at hk
        rw [slot_put_ne (by decide)]
        exact s5 hk
      · intro hk
        rw [also_ne dn (show (10 : Nat) ≠ 6 by decide)] at hk
        rw [slot_put_ne (by decide)]
        exact s10 hk
      · intro hk
        rw [also_ne dn (show (12 : Nat) ≠ 6 by decide)] at hk
        rw [slot_put_ne (by decide)]
        exact s12 hk
      · intro hk
        rw [also_ne dn (show (2 : Nat) ≠ 6 by decide)] at hk
        rw [slot_put_ne (by decide)]
        exact s2 hk
      · intro hk
        rw [also_ne dn (show (7 : Nat) ≠ 6 by decide)] at hk
        rw [slot_put_ne (by decide)]
        exact s7 hk
      · intro hk
        rw [also_ne dn (show (1 : Nat) ≠ 6 by decide)] at hk
        rw [slot_put_ne (by decide)]
        exact s1 hk
      · intro _
        exact slot_put_self (by rw [hs]; decide)
      · intro hk hk2
        rw [also_ne dn (show (3 : Nat) ≠ 6 by decide)] at hk
        rw [also_ne dn (show (4 : Nat) ≠ 6 by decide)] at hk2
        obtain ⟨g, y1, y2, y3⟩ := m3 hk hk2
        exact ⟨g, by rw [slot_put_ne (by decide)]; exact y1, y2, y3⟩
      · intro hk hk2
        rw [also_ne dn (show (8 : Nat) ≠ 6 by decide)] at hk
        rw [also_ne dn (show (9 : Nat) ≠ 6 by decide)] at hk2
        obtain ⟨g, y1, y2, y3⟩ := m8 hk hk2
        exact ⟨g, by rw [slot_put_ne (by decide)]; exact y1, y2, y3⟩
      · intro hk
        rw [also_ne dn (show (4 : Nat) ≠ 6 by decide)] at hk
        exact n4 hk
      · intro hk
        rw [also_ne dn (show (9 : Nat) ≠ 6 by decide)] at hk
        exact n9 hk
      · intro hk
        rw [also_ne dn (show (4 : Nat) ≠ 6 by decide)] at hk
        obtain ⟨y1, y2, y3, y4⟩ := o4 hk
        exact ⟨by rw [also_ne dn (show (1 : Nat) ≠ 6 by decide)]; exact y1, by rw [also_ne dn (show (3 : Nat) ≠ 6 by decide)]; exact y2, by rw [slot_put_ne (by decide)]; exact y3, by rw [slot_put_ne (by decide)]; exact y4⟩
      · intro hk
        rw [also_ne dn (show (9 : Nat) ≠ 6 by decide)] at hk
        obtain ⟨y1, y2, y3, y4⟩ := o9 hk
        rw [hdn] at y1
        cases y1
      · intro hk hk2
        rw [also_ne dn (show (4 : Nat) ≠ 6 by decide)] at hk
        rw [also_ne dn (show (9 : Nat) ≠ 6 by decide)] at hk2
        rw [slot_put_ne (by decide), slot_put_ne (by decide)]
        exact ap hk hk2
      · exact mb
      · intro hk
        rw [also_ne dn (show (11 : Nat) ≠ 6 by decide)] at hk
        exact k1 hk
      · intro hk
        rw [also_ne dn (show (11 : Nat) ≠ 6 by decide)] at hk
        obtain ⟨y1, y2, y3⟩ := k2 hk
        exact ⟨by rw [also_ne dn (show (4 : Nat) ≠ 6 by decide)]; exact y1, by rw [also_ne dn (show (1 : Nat) ≠ 6 by decide)]; exact y2, by rw [slot_put_ne (by decide)]; exact y3⟩
      · intro hk
        rw [also_ne dn (show (13 : Nat) ≠ 6 by decide)] at hk
        exact k3 hk
      · intro hk
        rw [also_ne dn (show (13 : Nat) ≠ 6 by decide)] at hk
        obtain ⟨y1, y2, y3⟩ := k4 hk
        rw [hdn] at y2
        cases y2
    | 7, _ =>
      refine opV_of_wpl (K := fun b p => RqI w a ob Z fv (.slice ea en ec) (.slice na nn nc) e n el nl (also dn 7) b p) _ (by simp only [List.getElem?_toArray, List.getElem?_cons_succ, List.getElem?_cons_zero]; rfl) ?_
      have e9 : b.eval (.tmp 15) = .int .i64 n := (ho 15 (by decide)).trans h15
      refine wpl_val _ rfl rfl (.int .i64 n) (by obtain ⟨ρ, hρ⟩ : ∃ ρ, b.eval = ρ := ⟨_, rfl⟩; rw [hρ] at e9 ⊢; unfold execOp; simp [go_sem, e9]) ?_
      refine ⟨rfl, rfl, hd, (by simpa [Go.Act.put] using hs), fun s hsn => (slot_put_ne (by rintro ⟨⟩; exact hsn (by simp))).trans (ho s hsn), hf, x1, x2, ?_, ?_, ?_, ?_, ?_, ?_, ?_, ?_, ?_, ?_, ?_, ?_, ?_, ?_, ?_, ?_, ?_, ?_, ?_, ?_⟩
      · intro hk
        rw [also_ne dn (show (0 : Nat) ≠ 7 by decide)] at hk
        rw [slot_put_ne (by decide)]
        exact s0 hk
      · intro hk
        rw [also_ne dn (show (5 : Nat) ≠ 7 by decide)] at hk
        rw [slot_put_ne (by decide)]
        exact s5 hk
      · intro hk
        rw [also_ne dn (show (10 : Nat) ≠ 7 by decide)] at hk
        rw [slot_put_ne (by decide)]
        exact s10 hk
      · intro hk
        rw [also_ne dn (show (12 : Nat) ≠ 7 by decide)] at hk
        rw [slot_put_ne (by decide)]
        exact s12 hk
      · intro hk
        rw [also_ne dn (show (2 : Nat) ≠ 7 by decide)] at hk
        rw [slot_put_ne (by decide)]
        exact s2 hk
      · intro _
        exact slot_put_self (by rw [hs]; decide)
      · intro hk
        rw [also_ne dn (show (1 : Nat) ≠ 7 by decide)] at hk
        rw [slot_put_ne (by decide)]
        exact s1 hk
      · intro hk
        rw [also_ne dn (show (6 : Nat) ≠ 7 by decide)] at hk
        rw [slot_put_ne (by decide)]
        exact s6 hk
      · intro hk hk2
        rw [also_ne dn (show (3 : Nat) ≠ 7 by decide)] at hk
        rw [also_ne dn (show (4 : Nat) ≠ 7 by decide)] at hk2
        obtain ⟨g, y1, y2, y3⟩ := m3 hk hk2
        exact ⟨g, by rw [slot_put_ne (by decide)]; exact y1, y2, y3⟩
      · intro hk hk2
        rw [also_ne dn (show (8 : Nat) ≠ 7 by decide)] at hk
        rw [also_ne dn (show (9 : Nat) ≠ 7 by decide)] at hk2
        obtain ⟨g, y1, y2, y3⟩ := m8 hk hk2
        exact ⟨g, by rw [slot_put_ne (by decide)]; exact y1, y2, y3⟩
      · intro hk
        rw [also_ne dn (show (4 : Nat) ≠ 7 by decide)] at hk
        exact n4 hk
      · intro hk
        rw [also_ne dn (show (9 : Nat) ≠ 7 by decide)] at hk
        exact n9 hk
      · intro hk
        rw [also_ne dn (show (4 : Nat) ≠ 7 by decide)] at hk
        obtain ⟨y1, y2, y3, y4⟩ := o4 hk
        exact ⟨by rw [also_ne dn (show (1 : Nat) ≠ 7 by decide)]; exact y1, by rw [also_ne dn (show (3 : Nat) ≠ 7 by decide)]; exact y2, by rw [slot_put_ne (by decide)]; exact y3, by rw [slot_put_ne (by decide)]; exact y4⟩
      · intro hk
        rw [also_ne dn (show (9 : Nat) ≠ 7 by decide)] at hk
        obtain ⟨y1, y2, y3, y4⟩ := o9 hk
        exact ⟨by rw [also_ne dn (show (6 : Nat) ≠ 7 by decide)]; exact y1, by rw [also_ne dn (show (8 : Nat) ≠ 7 by decide)]; exact y2, by rw [slot_put_ne (by decide)]; exact y3, by rw [slot_put_ne (by decide)]; exact y4⟩
      · intro hk hk2
        rw [also_ne dn (show (4 : Nat) ≠ 7 by decide)] at hk
        rw [also_ne dn (show (9 : Nat) ≠ 7 by decide)] at hk2
        rw [slot_put_ne (by decide), slot_put_ne (by decide)]
        exact ap hk hk2
      · exact mb
      · intro hk
        rw [also_ne dn (show (11 : Nat) ≠ 7 by decide)] at hk
        exact k1 hk
      · intro hk
        rw [also_ne dn (show (11 : Nat) ≠ 7 by decide)] at hk
        obtain ⟨y1, y2, y3⟩ := k2 hk
        exact ⟨by rw [also_ne dn (show (4 : Nat) ≠ 7 by decide)]; exact y1, by rw [also_ne dn (show (1 : Nat) ≠ 7 by decide)]; exact y2, by rw [slot_put_ne (by decide)]; exact y3⟩
      · intro hk
        rw [also_ne dn (show (13 : Nat) ≠ 7 by decide)] at hk
        exact k3 hk
      · intro hk
        rw [also_ne dn (show (13 : Nat) ≠ 7 by decide)] at hk
        obtain ⟨y1, y2, y3⟩ := k4 hk
        exact ⟨by rw [also_ne dn (show (9 : Nat) ≠ 7 by decide)]; exact y1, by rw [also_ne dn (show (6 : Nat) ≠ 7 by decide)]; exact y2, by rw [slot_put_ne (by decide)]; exact y3⟩
    | 8, _ =>
      refine opV_of_wpl (K := fun b p => RqI w a ob Z fv (.slice ea en ec) (.slice na nn nc) e n el nl (also dn 8) b p) _ (by simp only [List.getElem?_toArray, List.getElem?_cons_succ, List.getElem?_cons_zero]; rfl) ?_
      have e9 : b.eval (.tmp 70) = .int .i64 n := s7 (hdeps 7 (by kernel_rfl))
      have hfs : Fr [] p (p.alloc (.cells #[.int .i64 n] 3)) := Fr.alloc _ _
      refine wpl_step rfl rfl _ (lit_int p b.eval 70 n e9 _ rfl) ?_
      refine ⟨rfl, rfl, hd, (by simpa [Go.Act.put] using hs), fun s hsn => (slot_put_ne (by rintro ⟨⟩; exact hsn (by simp))).trans (ho s hsn), hf.trans hfs.weak, x1, x2, ?_, ?_, ?_, ?_, ?_, ?_, ?_, ?_, ?_, ?_, ?_, ?_, ?_, ?_, ?_, ?_, ?_, ?_, ?_, ?_⟩
      · intro hk
        rw [also_ne dn (show (0 : Nat) ≠ 8 by decide)] at hk
        rw [slot_put_ne (by decide)]
        exact s0 hk
      · intro hk
        rw [also_ne dn (show (5 : Nat) ≠ 8 by decide)] at hk
        rw [slot_put_ne (by decide)]
        exact s5 hk
      · intro hk
        rw [also_ne dn (show (10 : Nat) ≠ 8 by decide)] at hk
        rw [slot_put_ne (by decide)]
        exact s10 hk
      · intro hk
        rw [also_ne dn (show (12 : Nat) ≠ 8 by decide)] at hk
        rw [slot_put_ne (by decide)]
        exact s12 hk
      · intro hk
        rw [also_ne dn (show (2 : Nat) ≠ 8 by decide)] at hk
        rw [slot_put_ne (by decide)]
        exact s2 hk
      · intro hk
        rw [also_ne dn (show (7 : Nat) ≠ 8 by decide)] at hk
        rw [slot_put_ne (by decide)]
        exact s7 hk
      · intro hk
        rw [also_ne dn (show (1 : Nat) ≠ 8 by decide)] at hk
        rw [slot_put_ne (by decide)]
        exact s1 hk
      · intro hk
        rw [also_ne dn (show (6 : Nat) ≠ 8 by decide)] at hk
        rw [slot_put_ne (by decide)]
        exact s6 hk
      · intro hk hk2
        rw [also_ne dn (show (3 : Nat) ≠ 8 by decide)] at hk
        rw [also_ne dn (show (4 : Nat) ≠ 8 by decide)] at hk2
        obtain ⟨g, y1, y2, y3⟩ := m3 hk hk2
        exact ⟨g, by rw [slot_put_ne (by decide)]; exact y1, y2.keep0 hfs, y3⟩
      · intro _ _
        exact ⟨p.heap.size, slot_put_self (by rw [hs]; decide), At.new rfl, hf.size⟩
      · intro hk
        rw [also_ne dn (show (4 : Nat) ≠ 8 by decide)] at hk
        exact (n4 hk).keep0 hfs
      · intro hk
        rw [also_ne dn (show (9 : Nat) ≠ 8 by decide)] at hk
        exact (n9 hk).keep0 hfs
      · intro hk
        rw [also_ne dn (show (4 : Nat) ≠ 8 by decide)] at hk
        obtain ⟨y1, y2, y3, y4⟩ := o4 hk
        exact ⟨by rw [also_ne dn (show (1 : Nat) ≠ 8 by decide)]; exact y1, by rw [also_ne dn (show (3 : Nat) ≠ 8 by decide)]; exact y2, by rw [slot_put_ne (by decide)]; exact y3.keep0 hfs, by rw [slot_put_ne (by decide)]; exact y4⟩
      · intro hk
        rw [also_ne dn (show (9 : Nat) ≠ 8 by decide)] at hk
        obtain ⟨y1, y2, y3, y4⟩ := o9 hk
        rw [hdn] at y2
        cases y2
      · intro hk hk2
        rw [also_ne dn (show (4 : Nat) ≠ 8 by decide)] at hk
        rw [also_ne dn (show (9 : Nat) ≠ 8 by decide)] at hk2
        rw [slot_put_ne (by decide), slot_put_ne (by decide)]
        exact ap hk hk2
      · exact mb.keep0 hfs
      · intro hk
        rw [also_ne dn (show (11 : Nat) ≠ 8 by decide)] at hk
        exact k1 hk
      · intro hk
        rw [also_ne dn (show (11 : Nat) ≠ 8 by decide)] at hk
        obtain ⟨y1, y2, y3⟩ := k2 hk
        exact ⟨by rw [also_ne dn (show (4 : Nat) ≠ 8 by decide)]; exact y1, by rw [also_ne dn (show (1 : Nat) ≠ 8 by decide)]; exact y2, by rw [slot_put_ne (by decide)]; exact y3⟩
      · intro hk
        rw [also_ne dn (show (13 : Nat) ≠ 8 by decide)] at hk
        exact k3 hk
      · intro hk
        rw [also_ne dn (show (13 : Nat) ≠ 8 by decide)] at hk
        obtain ⟨y1, y2, y3⟩ := k4 hk
        exact ⟨by rw [also_ne dn (show (9 : Nat) ≠ 8 by decide)]; exact y1, by rw [also_ne dn (show (6 : Nat) ≠ 8 by decide)]; exact y2, by rw [slot_put_ne (by decide)]; exact y3⟩
    | 9, _ =>
      refine opV_of_wpl (K := fun b p => RqI w a ob Z fv (.slice ea en ec) (.slice na nn nc) e n el nl (also dn 9) b p) _ (by simp only [List.getElem?_toArray, List.getElem?_cons_succ, List.getElem?_cons_zero]; rfl) ?_
      obtain ⟨g0, y1, y2, y3⟩ := m8 (hdeps 8 (by kernel_rfl)) hdn
      have ea_ : b.eval (.tmp 69) = .slice na nn nc := s6 (hdeps 6 (by kernel_rfl))
      have eb_ : b.eval (.tmp 71) = .slice (some ⟨g0, 0, none⟩) 1 1 := y1
      refine wpl_append_nA Tryd.underlying32 Tryd.infoIntI rfl (.tmp 69) (.tmp 71) rfl ea_ eb_ y2 (n9 hdn) (by omega) (by have := hf.size; omega) ?_
      intro v2 p2 hown hgr hnew
      have hfs : Fr (.slice na nn nc : Value).ownBlock.toList p p2 := Fr.grown hgr (by intro k hk; simp [hk])
      have hplace : ∀ g, v2.ownBlock = some g → (.slice na nn nc : Value).ownBlock = some g ∨ w.heap.size ≤ g := fun g hg => hnew.elim (fun h => .inl (by rw [← h]; exact hg)) (fun h => .inr (by rw [h] at hg; cases hg; exact hf.size))
      refine ⟨rfl, rfl, hd, (by simpa [Go.Act.put] using hs), fun s hsn => (slot_put_ne (by rintro ⟨⟩; exact hsn (by simp))).trans (ho s hsn), hf.trans (hfs.mono (fun g hg => .inl (by simp at hg ⊢; exact .inr (.inr hg)))), x1, x2, ?_, ?_, ?_, ?_, ?_, ?_, ?_, ?_, ?_, ?_, ?_, ?_, ?_, ?_, ?_, ?_, ?_, ?_, ?_, ?_⟩
      · intro hk
        rw [also_ne dn (show (0 : Nat) ≠ 9 by decide)] at hk
        rw [slot_put_ne (by decide)]
        exact s0 hk
      · intro hk
        rw [also_ne dn (show (5 : Nat) ≠ 9 by decide)] at hk
        rw [slot_put_ne (by decide)]
        exact s5 hk
      · intro hk
        rw [also_ne dn (show (10 : Nat) ≠ 9 by decide)] at hk
        rw [slot_put_ne (by decide)]
        exact s10 hk
      · intro hk
        rw [also_ne dn (show (12 : Nat) ≠ 9 by decide)] at hk
        rw [slot_put_ne (by decide)]
        exact s12 hk
      · intro hk
        rw [also_ne dn (show (2 : Nat) ≠ 9 by decide)] at hk
        rw [slot_put_ne (by decide)]
        exact s2 hk
      · intro hk
        rw [also_ne dn (show (7 : Nat) ≠ 9 by decide)] at hk
        rw [slot_put_ne (by decide)]
        exact s7 hk
      · intro hk
        rw [also_ne dn (show (1 : Nat) ≠ 9 by decide)] at hk
        rw [slot_put_ne (by decide)]
        exact s1 hk
      · intro hk
        rw [also_ne dn (show (6 : Nat) ≠ 9 by decide)] at hk
        rw [slot_put_ne (by decide)]
        exact s6 hk
      · intro hk hk2
        rw [also_ne dn (show (3 : Nat) ≠ 9 by decide)] at hk
        rw [also_ne dn (show (4 : Nat) ≠ 9 by decide)] at hk2
        obtain ⟨g, y1, y2, y3⟩ := m3 hk hk2
        exact ⟨g, by rw [slot_put_ne (by decide)]; exact y1, y2.keep hfs (fun hm => by have := hNb g (by simpa using hm); omega), y3⟩
      · intro _ hk2
        rw [also_self] at hk2
        cases hk2
      · intro hk
        rw [also_ne dn (show (4 : Nat) ≠ 9 by decide)] at hk
        exact own_keep (n4 hk) hfs (fun g hg hm => hap g hg (by simpa using hm))
      · intro hk
        rw [also_self] at hk
        cases hk
      · intro hk
        rw [also_ne dn (show (4 : Nat) ≠ 9 by decide)] at hk
        obtain ⟨y1, y2, y3, y4⟩ := o4 hk
        exact ⟨by rw [also_ne dn (show (1 : Nat) ≠ 9 by decide)]; exact y1, by rw [also_ne dn (show (3 : Nat) ≠ 9 by decide)]; exact y2, by rw [slot_put_ne (by decide)]; exact own_keep y3 hfs (fun g hg hm => (y4 g hg).elim (fun h => hap g h (by simpa using hm)) (fun h => by have := hNb g (by simpa using hm); omega)), by rw [slot_put_ne (by decide)]; exact y4⟩
      · intro _
        exact ⟨by rw [also_ne dn (show (6 : Nat) ≠ 9 by decide)]; exact hdeps 6 (by kernel_rfl), by rw [also_ne dn (show (8 : Nat) ≠ 9 by decide)]; exact hdeps 8 (by kernel_rfl), by rw [slot_put_self (by rw [hs]; decide)]; exact hown, by rw [slot_put_self (by rw [hs]; decide)]; exact hplace⟩
      · intro hk _
        rw [also_ne dn (show (4 : Nat) ≠ 9 by decide)] at hk
        rw [slot_put_self (by rw [hs]; decide), slot_put_ne (by decide)]
        obtain ⟨-, -, y3, y4⟩ := o4 hk
        intro g hg hg2
        rcases hnew with h | h
        · rw [h] at hg2
          exact (y4 g hg).elim (fun h => hap g h hg2) (fun h => by have := hNb g hg2; omega)
        · rw [h] at hg2
          cases hg2
          have := (y3.lt _ hg).2
          omega
      · exact mb.keep hfs (fun hm => own_ne_tyB (n9 hdn) mb (by decide) (by simpa using hm))
      · intro hk
        rw [also_ne dn (show (11 : Nat) ≠ 9 by decide)] at hk
        exact k1 hk
      · intro hk
        rw [also_ne dn (show (11 : Nat) ≠ 9 by decide)] at hk
        obtain ⟨y1, y2, y3⟩ := k2 hk
        exact ⟨by rw [also_ne dn (show (4 : Nat) ≠ 9 by decide)]; exact y1, by rw [also_ne dn (show (1 : Nat) ≠ 9 by decide)]; exact y2, by rw [slot_put_ne (by decide)]; exact y3⟩
      · intro hk
        rw [also_ne dn (show (13 : Nat) ≠ 9 by decide)] at hk
        exact k3 hk
      · intro hk
        rw [also_ne dn (show (13 : Nat) ≠ 9 by decide)] at hk
        obtain ⟨y1, y2, y3⟩ := k4 hk
        rw [hdn] at y1
        cases y1
    | 10, _ =>
      refine opV_of_wpl (K := fun b p => RqI w a ob Z fv (.slice ea en ec) (.slice na nn nc) e n el nl (also dn 10) b p) _ (by simp only [List.getElem?_toArray, List.getElem?_cons_succ, List.getElem?_cons_zero]; rfl) ?_
      have e9 : b.eval (.tmp 10) = .pointer (some ⟨ob, 0, none⟩) := (ho 10 (by decide)).trans h10
      refine wpl_val _ rfl rfl (.pointer (some ⟨ob, 1, none⟩)) (by obtain ⟨ρ, hρ⟩ : ∃ ρ, b.eval = ρ := ⟨_, rfl⟩; rw [hρ] at e9 ⊢; unfold execOp; simp [go_sem, e9]) ?_
      refine ⟨rfl, rfl, hd, (by simpa [Go.Act.put] using hs), fun s hsn => (slot_put_ne (by rintro ⟨⟩; exact hsn (by simp))).trans (ho s hsn), hf, x1, x2, ?_, ?_, ?_, ?_, ?_, ?_, ?_, ?_, ?_, ?_, ?_, ?_, ?_, ?_, ?_, ?_, ?_, ?_, ?_, ?_⟩
      · intro hk
        rw [also_ne dn (show (0 : Nat) ≠ 10 by decide)] at hk
        rw [slot_put_ne (by decide)]
        exact s0 hk
      · intro hk
        rw [also_ne dn (show (5 : Nat) ≠ 10 by decide)] at hk
        rw [slot_put_ne (by decide)]
        exact s5 hk
      · intro _
        exact slot_put_self (by rw [hs]; decide)
      · intro hk
        rw [also_ne dn (show (12 : Nat) ≠ 10 by decide)] at hk
        rw [slot_put_ne (by decide)]
        exact s12 hk
      · intro hk
        rw [also_ne dn (show (2 : Nat) ≠ 10 by decide)] at hk
        rw [slot_put_ne (by decide)]
        exact s2 hk
      · intro hk
        rw [also_ne dn (show (7 : Nat) ≠ 10 by decide)] at hk
        rw [slot_put_ne (by decide)]
        exact s7 hk
      · intro hk
        rw [also_ne dn (show (1 : Nat) ≠ 10 by decide)] at hk
        rw [slot_put_ne (by decide)]
        exact s1 hk
      · intro hk
        rw [also_ne dn (show (6 : Nat) ≠ 10 by decide)] at hk
        rw [slot_put_ne (by decide)]
        exact s6 hk
      · intro hk hk2
        rw [also_ne dn (show (3 : Nat) ≠ 10 by decide)] at hk
        rw [also_ne dn (show (4 : Nat) ≠ 10 by decide)] at hk2
        obtain ⟨g, y1, y2, y3⟩ := m3 hk hk2
        exact ⟨g, by rw [slot_put_ne (by decide)]; exact y1, y2, y3⟩
      · intro hk hk2
        rw [also_ne dn (show (8 : Nat) ≠ 10 by decide)] at hk
        rw [also_ne dn (show (9 : Nat) ≠ 10 by decide)] at hk2
        obtain ⟨g, y1, y2, y3⟩ := m8 hk hk2
        exact ⟨g, by rw [slot_put_ne (by decide)]; exact y1, y2, y3⟩
      · intro hk
        rw [also_ne dn (show (4 : Nat) ≠ 10 by decide)] at hk
        exact n4 hk
      · intro hk
        rw [also_ne dn (show (9 : Nat) ≠ 10 by decide)] at hk
        exact n9 hk
      · intro hk
        rw [also_ne dn (show (4 : Nat) ≠ 10 by decide)] at hk
        obtain ⟨y1, y2, y3, y4⟩ := o4 hk
        exact ⟨by rw [also_ne dn (show (1 : Nat) ≠ 10 by decide)]; exact y1, by rw [also_ne dn (show (3 : Nat) ≠ 10 by decide)]; exact y2, by rw [slot_put_ne (by decide)]; exact y3, by rw [slot_put_ne (by decide)]; exact y4⟩
      · intro hk
        rw [also_ne dn (show (9 : Nat) ≠ 10 by decide)] at hk
        obtain ⟨y1, y2, y3, y4⟩ := o9 hk
        exact ⟨by rw [also_ne dn (show (6 : Nat) ≠ 10 by decide)]; exact y1, by rw [also_ne dn (show (8 : Nat) ≠ 10 by decide)]; exact y2, by rw [slot_put_ne (by decide)]; exact y3, by rw [slot_put_ne (by decide)]; exact y4⟩
      · intro hk hk2
        rw [also_ne dn (show (4 : Nat) ≠ 10 by decide)] at hk
        rw [also_ne dn (show (9 : Nat) ≠ 10 by decide)] at hk2
        rw [slot_put_ne (by decide), slot_put_ne (by decide)]
        exact ap hk hk2
      · exact mb
      · intro hk
        rw [also_ne dn (show (11 : Nat) ≠ 10 by decide)] at hk
        exact k1 hk
      · intro hk
        rw [also_ne dn (show (11 : Nat) ≠ 10 by decide)] at hk
        obtain ⟨y1, y2, y3⟩ := k2 hk
        exact ⟨by rw [also_ne dn (show (4 : Nat) ≠ 10 by decide)]; exact y1, by rw [also_ne dn (show (1 : Nat) ≠ 10 by decide)]; exact y2, by rw [slot_put_ne (by decide)]; exact y3⟩
      · intro hk
        rw [also_ne dn (show (13 : Nat) ≠ 10 by decide)] at hk
        exact k3 hk
      · intro hk
        rw [also_ne dn (show (13 : Nat) ≠ 10 by decide)] at hk
        obtain ⟨y1, y2, y3⟩ := k4 hk
        exact ⟨by rw [also_ne dn (show (9 : Nat) ≠ 10 by decide)]; exact y1, by rw [also_ne dn (show (6 : Nat) ≠ 10 by decide)]; exact y2, by rw [slot_put_ne (by decide)]; exact y3⟩
    | 11, _ =>
      refine opV_of_wpl (K := fun b p => RqI w a ob Z fv (.slice ea en ec) (.slice na nn nc) e n el nl (also dn 11) b p) _ (by simp only [List.getElem?_toArray, List.getElem?_cons_succ, List.getElem?_cons_zero]; rfl) ?_
      have h4 : dn 4 = true := hdeps 4 (by kernel_rfl)
      obtain ⟨h1, -, y3, -⟩ := o4 h4
      obtain ⟨qa, qc, qe, -⟩ := (y3.is (A := fun _ => False) (by simp)).shape
      have e9 : b.eval (.tmp 73) = .pointer (some ⟨ob, 1, none⟩) := s10 (hdeps 10 (by kernel_rfl))
      have e8 : b.eval (.tmp 67) = slot b 67 := rfl
      refine wpl_store_one (.tmp 73) (.tmp 67) rfl rfl (slot b 67) e9 e8 mb (by simp) (by kernel_rfl) (by rw [qe]; rfl) ?_
      intro p2 hfs hmb0 _
      have hmb : At p2 ob (.cells #[fv, slot b 67, x2] 34) := by simpa using hmb0
      refine ⟨rfl, rfl, hd, (by simpa [Go.Act.put] using hs), fun s hsn => ho s hsn, hf.trans (hfs.mono (fun g hg => .inl (by simp at hg ⊢; exact .inl hg))), slot b 67, x2, ?_, ?_, ?_, ?_, ?_, ?_, ?_, ?_, ?_, ?_, ?_, ?_, ?_, ?_, ?_, ?_, ?_, ?_, ?_, ?_⟩
      · intro hk
        rw [also_ne dn (show (0 : Nat) ≠ 11 by decide)] at hk
        exact s0 hk
      · intro hk
        rw [also_ne dn (show (5 : Nat) ≠ 11 by decide)] at hk
        exact s5 hk
      · intro hk
        rw [also_ne dn (show (10 : Nat) ≠ 11 by decide)] at hk
        exact s10 hk
      · intro hk
        rw [also_ne dn (show (12 : Nat) ≠ 11 by decide)] at hk
        exact s12 hk
      · intro hk
        rw [also_ne dn (show (2 : Nat) ≠ 11 by decide)] at hk
        exact s2 hk
      · intro hk
        rw [also_ne dn (show (7 : Nat) ≠ 11 by decide)] at hk
        exact s7 hk
      · intro hk
        rw [also_ne dn (show (1 : Nat) ≠ 11 by decide)] at hk
        exact s1 hk
      · intro hk
        rw [also_ne dn (show (6 : Nat) ≠ 11 by decide)] at hk
        exact s6 hk
      · intro hk hk2
        rw [also_ne dn (show (3 : Nat) ≠ 11 by decide)] at hk
        rw [also_ne dn (show (4 : Nat) ≠ 11 by decide)] at hk2
        obtain ⟨g, y1, y2, y3⟩ := m3 hk hk2
        exact ⟨g, y1, y2.keep hfs (fun hm => by simp at hm; subst hm; have := hB.lt; omega), y3⟩
      · intro hk hk2
        rw [also_ne dn (show (8 : Nat) ≠ 11 by decide)] at hk
        rw [also_ne dn (show (9 : Nat) ≠ 11 by decide)] at hk2
        obtain ⟨g, y1, y2, y3⟩ := m8 hk hk2
        exact ⟨g, y1, y2.keep hfs (fun hm => by simp at hm; subst hm; have := hB.lt; omega), y3⟩
      · intro hk
        rw [also_ne dn (show (4 : Nat) ≠ 11 by decide)] at hk
        exact own_keep (n4 hk) hfs (fun g hg hm => by simp at hm; subst hm; exact own_ne_tyB (n4 hk) mb (by decide) hg)
      · intro hk
        rw [also_ne dn (show (9 : Nat) ≠ 11 by decide)] at hk
        exact own_keep (n9 hk) hfs (fun g hg hm => by simp at hm; subst hm; exact own_ne_tyB (n9 hk) mb (by decide) hg)
      · intro hk
        rw [also_ne dn (show (4 : Nat) ≠ 11 by decide)] at hk
        obtain ⟨y1, y2, y3, y4⟩ := o4 hk
        exact ⟨by rw [also_ne dn (show (1 : Nat) ≠ 11 by decide)]; exact y1, by rw [also_ne dn (show (3 : Nat) ≠ 11 by decide)]; exact y2, by exact own_keep y3 hfs (fun g hg hm => by simp at hm; subst hm; exact own_ne_tyB y3 mb (by decide) hg), by exact y4⟩
      · intro hk
        rw [also_ne dn (show (9 : Nat) ≠ 11 by decide)] at hk
        obtain ⟨y1, y2, y3, y4⟩ := o9 hk
        exact ⟨by rw [also_ne dn (show (6 : Nat) ≠ 11 by decide)]; exact y1, by rw [also_ne dn (show (8 : Nat) ≠ 11 by decide)]; exact y2, by exact own_keep y3 hfs (fun g hg hm => by simp at hm; subst hm; exact own_ne_tyB y3 mb (by decide) hg), by exact y4⟩
      · intro hk hk2
        rw [also_ne dn (show (4 : Nat) ≠ 11 by decide)] at hk
        rw [also_ne dn (show (9 : Nat) ≠ 11 by decide)] at hk2
        exact ap hk hk2
      · exact hmb
      · intro hk
        rw [also_self] at hk
        cases hk
      · intro _
        exact ⟨by rw [also_ne dn (show (4 : Nat) ≠ 11 by decide)]; exact h4, by rw [also_ne dn (show (1 : Nat) ≠ 11 by decide)]; exact h1, rfl⟩
      · intro hk
        rw [also_ne dn (show (13 : Nat) ≠ 11 by decide)] at hk
        exact k3 hk
      · intro hk
        rw [also_ne dn (show (13 : Nat) ≠ 11 by decide)] at hk
        obtain ⟨y1, y2, y3⟩ := k4 hk
        exact ⟨by rw [also_ne dn (show (9 : Nat) ≠ 11 by decide)]; exact y1, by rw [also_ne dn (show (6 : Nat) ≠ 11 by decide)]; exact y2, by exact y3⟩
    | 12, _ =>
      refine opV_of_wpl (K := fun b p => RqI w a ob Z fv (.slice ea en ec) (.slice na nn nc) e n el nl (also dn 12) b p) _ (by simp only [List.getElem?_toArray, List.getElem?_cons_succ, List.getElem?_cons_zero]; rfl) ?_
      have e9 : b.eval (.tmp 10) = .pointer (some ⟨ob, 0, none⟩) := (ho 10 (by decide)).trans h10
      refine wpl_val _ rfl rfl (.pointer (some ⟨ob, 2, none⟩)) (by obtain ⟨ρ, hρ⟩ : ∃ ρ, b.eval = ρ := ⟨_, rfl⟩; rw [hρ] at e9 ⊢; unfold execOp; simp [go_sem, e9]) ?_
      refine ⟨rfl, rfl, hd, (by simpa [Go.Act.put] using hs), fun s hsn => (slot_put_ne (by rintro ⟨⟩; exact hsn (by simp))).trans (ho s hsn), hf, x1, x2, ?_, ?_, ?_, ?_, ?_, ?_, ?_, ?_, ?_, ?_, ?_, ?_, ?_, ?_, ?_, ?_, ?_, ?_, ?_, ?_⟩
      · intro hk
        rw [also_ne dn (show (0 : Nat) ≠ 12 by decide)] at hk
        rw [slot_put_ne (by decide)]
        exact s0 hk
      · intro hk
        rw [also_ne dn (show (5 : Nat) ≠ 12 by decide)] at hk
        rw [slot_put_ne (by decide)]
        exact s5 hk
      · intro hk
        rw [also_ne dn (show (10 : Nat) ≠ 12 by decide)] at hk
        rw [slot_put_ne (by decide)]
        exact s10 hk
      · intro _
        exact slot_put_self (by rw [hs]; decide)
      · intro hk
        rw [also_ne dn (show (2 : Nat) ≠ 12 by decide)] at hk
        rw [slot_put_ne (by decide)]
        exact s2 hk
      · intro hk
        rw [also_ne dn (show (7 : Nat) ≠ 12 by decide)] at hk
        rw [slot_put_ne (by decide)]
        exact s7 hk
      · intro hk
        rw [also_ne dn (show (1 : Nat) ≠ 12 by decide)] at hk
        rw [slot_put_ne (by decide)]
        exact s1 hk
      · intro hk
        rw [also_ne dn (show (6 : Nat) ≠ 12 by decide)] at hk
        rw [slot_put_ne (by decide)]
        exact s6 hk
      · intro hk hk2
        rw [also_ne dn (show (3 : Nat) ≠ 12 by decide)] at hk
        rw [also_ne dn (show (4 : Nat) ≠ 12 by decide)] at hk2
        obtain ⟨g, y1, y2, y3⟩ := m3 hk hk2
        exact ⟨g, by rw [slot_put_ne (by decide)]; exact y1, y2, y3⟩
      · intro hk hk2
        rw [also_ne dn (show (8 : Nat) ≠ 12 by decide)] at hk
        rw [also_ne dn (show (9 : Nat) ≠ 12 by decide)] at hk2
        obtain ⟨g, y1, y2, y3⟩ := m8 hk hk2
        exact ⟨g, by rw [slot_put_ne (by decide)]; exact y1, y2, y3⟩
      · intro hk
        rw [also_ne dn (show (4 : Nat) ≠ 12 by decide)] at hk
        exact n4 hk
      · intro hk
        rw [also_ne dn (show (9 : Nat) ≠ 12 by decide)] at hk
        exact n9 hk
      · intro hk
        rw [also_ne dn (show (4 : Nat) ≠ 12 by decide)] at hk
        obtain ⟨y1, y2, y3, y4⟩ := o4 hk
        exact ⟨by rw [also_ne dn (show (1 : Nat) ≠ 12 by decide)]; exact y1, by rw [also_ne dn (show (3 : Nat) ≠ 12 by decide)]; exact y2, by rw [slot_put_ne (by decide)]; exact y3, by rw [slot_put_ne (by decide)]; exact y4⟩
      · intro hk
        rw [also_ne dn (show (9 : Nat) ≠ 12 by decide)] at hk
        obtain ⟨y1, y2, y3, y4⟩ := o9 hk
        exact ⟨by rw [also_ne dn (show (6 : Nat) ≠ 12 by decide)]; exact y1, by rw [also_ne dn (show (8 : Nat) ≠ 12 by decide)]; exact y2, by rw [slot_put_ne (by decide)]; exact y3, by rw [slot_put_ne (by decide)]; exact y4⟩
      · intro hk hk2
        rw [also_ne dn (show (4 : Nat) ≠ 12 by decide)] at hk
        rw [also_ne dn (show (9 : Nat) ≠ 12 by decide)] at hk2
        rw [slot_put_ne (by decide), slot_put_ne (by decide)]
        exact ap hk hk2
      · exact mb
      · intro hk
        rw [also_ne dn (show (11 : Nat) ≠ 12 by decide)] at hk
        exact k1 hk
      · intro hk
        rw [also_ne dn (show (11 : Nat) ≠ 12 by decide)] at hk
        obtain ⟨y1, y2, y3⟩ := k2 hk
        exact ⟨by rw [also_ne dn (show (4 : Nat) ≠ 12 by decide)]; exact y1, by rw [also_ne dn (show (1 : Nat) ≠ 12 by decide)]; exact y2, by rw [slot_put_ne (by decide)]; exact y3⟩
      · intro hk
        rw [also_ne dn (show (13 : Nat) ≠ 12 by decide)] at hk
        exact k3 hk
      · intro hk
        rw [also_ne dn (show (13 : Nat) ≠ 12 by decide)] at hk
        obtain ⟨y1, y2, y3⟩ := k4 hk
        exact ⟨by rw [also_ne dn (show (9 : Nat) ≠ 12 by decide)]; exact y1, by rw [also_ne dn (show (6 : Nat) ≠ 12 by decide)]; exact y2, by rw [slot_put_ne (by decide)]; exact y3⟩
    | 13, _ =>
      refine opV_of_wpl (K := fun b p => RqI w a ob Z fv (.slice ea en ec) (.slice na nn nc) e n el nl (also dn 13) b p) _ (by simp only [List.getElem?_toArray, List.getElem?_cons_succ, List.getElem?_cons_zero]; rfl) ?_
      have h4 : dn 9 = true := hdeps 9 (by kernel_rfl)
      obtain ⟨h1, -, y3, -⟩ := o9 h4
      obtain ⟨qa, qc, qe, -⟩ := (y3.is (A := fun _ => False) (by simp)).shape
      have e9 : b.eval (.tmp 74) = .pointer (some ⟨ob, 2, none⟩) := s12 (hdeps 12 (by kernel_rfl))
      have e8 : b.eval (.tmp 72) = slot b 72 := rfl
      refine wpl_store_one (.tmp 74) (.tmp 72) rfl rfl (slot b 72) e9 e8 mb (by simp) (by kernel_rfl) (by rw [qe]; rfl) ?_
      intro p2 hfs hmb0 _
      have hmb : At p2 ob (.cells #[fv, x1, slot b 72] 34) := by simpa using hmb0
      refine ⟨rfl, rfl, hd, (by simpa [Go.Act.put] using hs), fun s hsn => ho s hsn, hf.trans (hfs.mono (fun g hg => .inl (by simp at hg ⊢; exact .inl hg))), x1, slot b 72, ?_, ?_, ?_, ?_, ?_, ?_, ?_, ?_, ?_, ?_, ?_, ?_, ?_, ?_, ?_, ?_, ?_, ?_, ?_, ?_⟩
      · intro hk
        rw [also_ne dn (show (0 : Nat) ≠ 13 by decide)] at hk
        exact s0 hk
      · intro hk
        rw [also_ne dn (show (5 : Nat) ≠ 13 by decide)] at hk
        exact s5 hk
      · intro hk
        rw [also_ne dn (show (10 : Nat) ≠ 13 by decide)] at hk
        exact s10 hk
      · intro hk
        rw [also_ne dn (show (12 : Nat) ≠ 13 by decide)] at hk
        exact s12 hk
      · intro hk
        rw [also_ne dn (show (2 : Nat) ≠ 13 by decide)] at hk
        exact s2 hk
      · intro hk
        rw [also_ne dn (show (7 : Nat) ≠ 13 by decide)] at hk
        exact s7 hk
      · intro hk
        rw [also_ne dn (show (1 : Nat) ≠ 13 by decide)] at hk
        exact s1 hk
      · intro hk
        rw [also_ne dn (show (6 : Nat) ≠ 13 by decide)] at hk
        exact s6 hk
      · intro hk hk2
        rw [also_ne dn (show (3 : Nat) ≠ 13 by decide)] at hk
        rw [also_ne dn (show (4 : Nat) ≠ 13 by decide)] at hk2
        obtain ⟨g, y1, y2, y3⟩ := m3 hk hk2
        exact ⟨g, y1, y2.keep hfs (fun hm => by simp at hm; subst hm; have := hB.lt; omega), y3⟩
      · intro hk hk2
        rw [also_ne dn (show (8 : Nat) ≠ 13 by decide)] at hk
        rw [also_ne dn (show (9 : Nat) ≠ 13 by decide)] at hk2
        obtain ⟨g, y1, y2, y3⟩ := m8 hk hk2
        exact ⟨g, y1, y2.keep hfs (fun hm => by simp at hm; subst hm; have := hB.lt; omega), y3⟩
      · intro hk
        rw [also_ne dn (show (4 : Nat) ≠ 13 by decide)] at hk
        exact own_keep (n4 hk) hfs (fun g hg hm => by simp at hm; subst hm; exact own_ne_tyB (n4 hk) mb (by decide) hg)
      · intro hk
        rw [also_ne dn (show (9 : Nat) ≠ 13 by decide)] at hk
        exact own_keep (n9 hk) hfs (fun g hg hm => by simp at hm; subst hm; exact own_ne_tyB (n9 hk) mb (by decide) hg)
      · intro hk
        rw [also_ne dn (show (4 : Nat) ≠ 13 by decide)] at hk
        obtain ⟨y1, y2, y3, y4⟩ := o4 hk
        exact ⟨by rw [also_ne dn (show (1 : Nat) ≠ 13 by decide)]; exact y1, by rw [also_ne dn (show (3 : Nat) ≠ 13 by decide)]; exact y2, by exact own_keep y3 hfs (fun g hg hm => by simp at hm; subst hm; exact own_ne_tyB y3 mb (by decide) hg), by exact y4⟩
      · intro hk
        rw [also_ne dn (show (9 : Nat) ≠ 13 by decide)] at hk
        obtain ⟨y1, y2, y3, y4⟩ := o9 hk
        exact ⟨by rw [also_ne dn (show (6 : Nat) ≠ 13 by decide)]; exact y1, by rw [also_ne dn (show (8 : Nat) ≠ 13 by decide)]; exact y2, by exact own_keep y3 hfs (fun g hg hm => by simp at hm; subst hm; exact own_ne_tyB y3 mb (by decide) hg), by exact y4⟩
      · intro hk hk2
        rw [also_ne dn (show (4 : Nat) ≠ 13 by decide)] at hk
        rw [also_ne dn (show (9 : Nat) ≠ 13 by decide)] at hk2
        exact ap hk hk2
      · exact hmb
      · intro hk
        rw [also_ne dn (show (11 : Nat) ≠ 13 by decide)] at hk
        exact k1 hk
      · intro hk
        rw [also_ne dn (show (11 : Nat) ≠ 13 by decide)] at hk
        obtain ⟨y1, y2, y3⟩ := k2 hk
        exact ⟨by rw [also_ne dn (show (4 : Nat) ≠ 13 by decide)]; exact y1, by rw [also_ne dn (show (1 : Nat) ≠ 13 by decide)]; exact y2, by exact y3⟩
      · intro hk
        rw [also_self] at hk
        cases hk
      · intro _
        exact ⟨by rw [also_ne dn (show (9 : Nat) ≠ 13 by decide)]; exact h4, by rw [also_ne dn (show (6 : Nat) ≠ 13 by decide)]; exact h1, rfl⟩
  · intro dn b p hall ⟨hd, hs, ho, hf, x1, x2, s0, s5, s10, s12, s2, s7, s1, s6, m3, m8, n4, n9, o4, o9, ap, mb, k1, k2, k3, k4⟩
    obtain ⟨-, -, y1⟩ := k2 (hall 11 (by decide))
    obtain ⟨-, -, y2⟩ := k4 (hall 13 (by decide))
    subst y1 y2
    exact hQ b p _ _ hd hs ho mb (o4 (hall 4 (by decide))).2.2.1 (o9 (hall 9 (by decide))).2.2.1 (ap (hall 4 (by decide)) (hall 9 (by decide))) hf
end Go.Proofs.YtmohiblgfmdkjaaDoor
namespace Go.Proofs.YtmohiblgfmdkjaaDoor
open Go.RowKit Go.Bl
set_option linter.unusedVariables false
theorem own_apartQ {e e' : TypeId} {base size n base' size' n' : Nat} {w : World} {v v' : Value} {xs xs' : List Value} (h : w.ownsRow base e size v n xs) (h' : w.ownsRow base' e' size' v' n' xs') (hne : e' ≠ e) :
    ∀ g, v.ownBlock = some g → g ∉ v'.ownBlock.toList := by
  intro g hg hg'
  rcases h'.2 with ⟨rfl, -⟩ | ⟨g', cap, cur, rfl, hbg, hh, -⟩
  · simp [Value.ownBlock] at hg'
  · simp [Value.ownBlock] at hg'
    subst hg'
    exact own_ne_tyB h hh hne hg
noncomputable def rqB : Code := ((Tryd.f9.body.bind (findLoop 9)).getD .skip)
set_option maxRecDepth 1000000 in
set_option maxHeartbeats 8000000 in
theorem rq_round (wr : World) (a : Go.Act) (hsz : a.tmps.size = 94) (hd : a.defers = []) (xa fa ea na : Option Addr) (xn xc rb ob sb so SL sc i k kk fn fc en ec nn nc : Nat) (sz ee ne : Int) (w : World) (fl part : List UInt8) (el nl : List Int) (AD : Addr) (OK : Prop) (h0 : slot a 0 = .slice xa xn xc) (h1 : slot a 1 = .int .i64 sz) (h4 : slot a 4 = .pointer (some ⟨rb, 0, none⟩)) (h10 : slot a 10 = .pointer (some ⟨ob, 0, none⟩)) (h38 : slot a 38 = .slice (some ⟨sb, so, none⟩) SL sc) (h39 : slot a 39 = .int .i64 (SL : Int)) (h40 : slot a 40 = .int .i64 (i : Int)) (hi : i < SL) (hSL : SL ≤ 10) (hc : wr.cell? ⟨sb, so + i, none⟩ = some (.int .i64 (k : Int))) (hkk : (k : Int) + 32 = (kk : Int)) (hk2 : kk ≤ 1000) (hkn : kk ≤ xn) (hxn : xn ≤ xc) (hxc : xc ≤ 2 ^ 63 - 1)
    (hF : Fr [] w wr) (hB : At wr ob (.cells #[.slice fa fn fc, .slice ea en ec, .slice na nn nc] 34)) (hO : OwnB 5 w.heap.size wr (.slice fa fn fc) fl) (hE : OwnI 3 w.heap.size wr (.slice ea en ec) el) (hN : OwnI 3 w.heap.size wr (.slice na nn nc) nl) (hap : ∀ g, (.slice ea en ec : Value).ownBlock = some g → (.slice na nn nc : Value).ownBlock ≠ some g) (hR : At wr rb (.cells #[.slice none 0 0, .slice none 0 0, .slice none 0 0] 34)) (hob : w.heap.size ≤ ob) (hro : rb ≠ ob) (hfl : fl.length ≤ 100000) (hpl : part.length ≤ 100000) (hel : el.length ≤ 1000) (hnl : nl.length ≤ 1000)
    (hreb : Calls Tryd.prog 35 #[.slice xa kk xc] wr fun e w' => ((∃ u, e = .returned (.tuple #[u, .int .i64 ee, .int .i64 ne, .nilIface]) ∧ OK ∧ OwnB 5 wr.heap.size w' u part) ∨ (e = .returned (.tuple #[.slice none 0 0, .int .i64 0, .int .i64 0, .iface 261 (.pointer (some AD))]) ∧ ¬ OK)) ∧ Fr [] wr w') (Q : Exit → Go.Act → World → Prop)
    (hq : ∀ (c : Go.Act) (w' : World) (fv ev nv : Value), c.defers = [] → c.tmps.size = 94 → slot c 0 = .slice (if xc = kk then xa else xa.map (·.add kk)) (xn - kk) (xc - kk) → slot c 1 = .int .i64 sz → slot c 4 = .pointer (some ⟨rb, 0, none⟩) → slot c 10 = .pointer (some ⟨ob, 0, none⟩) → slot c 38 = .slice (some ⟨sb, so, none⟩) SL sc → slot c 39 = .int .i64 (SL : Int) → slot c 40 = .int .i64 ((i : Int) + 1) → OK → Fr [] w w' → At w' ob (.cells #[fv, ev, nv] 34) → OwnB 5 w.heap.size w' fv (fl ++ part) → OwnI 3 w.heap.size w' ev (el ++ [ee]) → OwnI 3 w.heap.size w' nv (nl ++ [ne]) → (∀ g, ev.ownBlock = some g → nv.ownBlock ≠ some g) → At w' rb (.cells #[.slice none 0 0, .slice none 0 0, .slice none 0 0] 34) → Q .normal c w') (hr : ∀ (c : Go.Act) (w' : World), c.defers = [] → c.tmps.size = 94 → slot c 4 = .pointer (some ⟨rb, 0, none⟩) → slot c 5 = .iface 261 (.pointer (some AD)) → ¬ OK → Fr [rb] w w' → At w' rb (.cells #[.slice none 0 0, .slice none 0 0, .slice none 0 0] 34) → Q .ret c w') : Code.wp Tryd.prog rqB Q a wr := by
  have HQ := Lib.hid hq
  have HR := Lib.hid hr
  rw [frame94 a hsz hd, h0, h1, h4, h10, h38, h39, h40]
  clear hq hr h0 h1 h4 h10 h38 h39 h40 hsz hd
  conv => arg 2; whnf
  have hii : (i : Int) < SL := by omega
  have HF := Lib.hid hF
  have HB := Lib.hid hB
  have HO := Lib.hid hO
  have HE := Lib.hid hE
  have HN := Lib.hid hN
  have HAP := Lib.hid hap
  have HRB := Lib.hid hR
  have HFL := Lib.hid hfl
  have HPL := Lib.hid hpl
  have HEL := Lib.hid hel
  have HNL := Lib.hid hnl
  have HREB := Lib.hid hreb
  have hk0 : (0 : Int) ≤ (kk : Int) := by omega
  have hk3 : (kk : Int) ≤ xc := by omega
  have hk4 : (kk : Int) ≤ xn := by omega
  clear hF hB hO hE hN hap hR hfl hpl hel hnl hreb
  go_wp2_with (first | (rw [hkk]; fail) | (go_at_call 35; fail))
  refine HREB.out.mono ?_
  rintro e w1 ⟨⟨u, rfl, hok, ho⟩ | ⟨rfl, hno⟩, hf⟩
  · have HU1 := Lib.hid (ho.bs (A := fun _ => False) (by simp))
    obtain ⟨ua, uc, e, -⟩ := id HU1.out
    subst e
    obtain ⟨un, hun⟩ : ∃ x, part.length = x := ⟨_, rfl⟩
    have HUN := Lib.hid hun
    rw [hun] at HU1 ⊢
    have HOK := Lib.hid hok
    have HF1 := Lib.hid (HF.out.trans hf)
    have HB1 := Lib.hid (HB.out.keep0 hf)
    have HO1 := Lib.hid (HO.out.keep hf (by simp))
    have HE1 := Lib.hid (HE.out.keep0 hf)
    have HN1 := Lib.hid (HN.out.keep0 hf)
    have HR1 := Lib.hid (HRB.out.keep0 hf)
    have hc0 := HB1.out.cell 0
    simp only [List.getElem?_toArray, List.getElem?_cons_zero, List.getElem?_cons_succ] at hc0
    clear hok ho hun hf HF HB HO HE HN HRB HREB
    go_wp2_with (at_builtin; refine wpl_append_bs (A := fun _ => False) (ys := part) (base := w.heap.size) Tryd.underlying22 Tryd.infoByte rfl (.tmp 59) (.tmp 60) rfl rfl rfl HO1.out HU1.out (by have := HFL.out; have := HPL.out; omega) HF1.out.size ?_)
    intro v2 w2 h2 g2
    have f2 := Fr.grown (S := (Value.slice fa fn fc).ownBlock.toList) g2 (by intro k hk; simp [hk])
    have HO2 := Lib.hid h2
    have HF2 := Lib.hid (show Fr [] w w2 from HO1.out.fr HF1.out g2 (Nat.le_refl _))
    have HB2 := Lib.hid (HB1.out.keep f2 (fun hm => own_ne_tyB HO1.out HB1.out (by decide) (by simpa using hm)))
    have HE2 := Lib.hid (show OwnI 3 w.heap.size w2 (.slice ea en ec) el from own_keep HE1.out f2 (own_apartQ HE1.out HO1.out (by decide)))
    have HN2 := Lib.hid (show OwnI 3 w.heap.size w2 (.slice na nn nc) nl from own_keep HN1.out f2 (own_apartQ HN1.out HO1.out (by decide)))
    have HR2 := Lib.hid (HR1.out.keep f2 (fun hm => own_ne_tyB HO1.out HR1.out (by decide) (by simpa using hm)))
    obtain ⟨va, vc, e, -⟩ := h2.bs (A := fun _ => False) (by simp)
    subst e
    obtain ⟨vn, hvn⟩ : ∃ x, (fl ++ part).length = x := ⟨_, rfl⟩
    rw [hvn] at HO2 ⊢
    clear h2 g2 f2 hvn HF1 HB1 HO1 HE1 HN1 HR1 hc0 HU1
    go_wp2_with (refine wpl_store_one (.tmp 62) (.tmp 61) rfl rfl (.slice va vn vc) rfl rfl HB2.out (by simp) (by kernel_rfl) rfl ?_)
    intro w3 f3 a3 _
    have HB3 := Lib.hid (show At w3 ob (.cells #[.slice va vn vc, .slice ea en ec, .slice na nn nc] 34) by simpa using a3)
    have HF3 := Lib.hid (HF2.out.then f3 (by intro b hb; simp at hb; subst hb; exact .inr hob))
    have HO3 := Lib.hid (show OwnB 5 w.heap.size w3 (.slice va vn vc) (fl ++ part) from own_keep HO2.out f3 (fun g hg hm => by simp at hm; subst hm; exact own_ne_tyB HO2.out HB2.out (by decide) hg))
    have HE3 := Lib.hid (show OwnI 3 w.heap.size w3 (.slice ea en ec) el from own_keep HE2.out f3 (fun g hg hm => by simp at hm; subst hm; exact own_ne_tyB HE2.out HB2.out (by decide) hg))
    have HN3 := Lib.hid (show OwnI 3 w.heap.size w3 (.slice na nn nc) nl from own_keep HN2.out f3 (fun g hg hm => by simp at hm; subst hm; exact own_ne_tyB HN2.out HB2.out (by decide) hg))
    have HR3 := Lib.hid (HR2.out.keep f3 (by simpa using hro))
    clear f3 a3 HB2 HF2 HO2 HE2 HN2 HR2
    go_wp2_with fail
    refine rq_reg w3 _ ob w.heap.size (.slice va vn vc) ea na en ec nn nc ee ne el nl rfl rfl rfl rfl HB3.out HE3.out HN3.out HAP.out HEL.out HNL.out HF3.out.size _ ?_
    intro b p v1 v2 q1 q2 q3 hB hE hN hap hf
    obtain ⟨h, hb2⟩ := putsX b _ _ q1 q2 q3
    have HBp := Lib.hid hB
    have HEp := Lib.hid hE
    have HNp := Lib.hid hN
    have HAPp := Lib.hid hap
    have HFp := Lib.hid (HF3.out.then hf (by
      intro x hx
      simp at hx
      rcases hx with rfl | hx | hx
      · exact .inr hob
      · exact .inr (HE3.out.lt x hx).1
      · exact .inr (HN3.out.lt x hx).1))
    have HOp := Lib.hid (show OwnB 5 w.heap.size p (.slice va vn vc) (fl ++ part) from own_keep HO3.out hf (by
      intro g hg hm
      simp at hm
      rcases hm with rfl | hm | hm
      · exact own_ne_tyB HO3.out HB3.out (by decide) hg
      · exact own_apartQ HO3.out HE3.out (by decide) g hg (by simp [hm])
      · exact own_apartQ HO3.out HN3.out (by decide) g hg (by simp [hm])))
    have HRp := Lib.hid (HR3.out.keep hf (by
      intro hm
      simp at hm
      rcases hm with hm | hm | hm
      · exact hro hm
      · exact own_ne_tyB HE3.out HR3.out (by decide) hm
      · exact own_ne_tyB HN3.out HR3.out (by decide) hm))
    clear q1 q2 q3 hB hE hN hap hf HB3 HF3 HO3 HE3 HN3 HR3 HAP
    subst hb2
    simp only [List.foldl_cons, List.foldl_nil, Go.Act.put, List.setIfInBounds_toArray, List.set_cons_succ, List.set_cons_zero]
    by_cases hce : xc = kk
    · subst hce
      rw [if_pos rfl, Nat.sub_self, show xn - xc = 0 by omega] at HQ
      go_wp2_with (rw [hkk]; fail)
      exact HQ.out _ _ _ _ _ rfl rfl rfl rfl rfl rfl rfl rfl (by go_num) HOK.out HFp.out HBp.out HOp.out HEp.out HNp.out HAPp.out HRp.out
    · rw [if_neg hce] at HQ
      go_wp2_with (rw [hkk]; fail)
      exact HQ.out _ _ _ _ _ rfl rfl rfl rfl rfl rfl rfl rfl (by go_num) HOK.out HFp.out HBp.out HOp.out HEp.out HNp.out HAPp.out HRp.out
  · have HNO := Lib.hid hno
    have HF1 := Lib.hid (HF.out.trans hf)
    have HR1 := Lib.hid (HRB.out.keep0 hf)
    clear hno hf HF HB HO HE HN HRB HREB HAP
    go_wp2_with (refine wpl_store_at (.tmp 4) (.tmp 56) rfl rfl #[.slice none 0 0, .slice none 0 0, .slice none 0 0] rfl rfl (by kernel_rfl) HR1.out (by simp) (by simp [Value.oneCell']) ?_)
    intro w9 hf9 hr9 _
    have HR9 := Lib.hid (show At w9 rb (.cells #[.slice none 0 0, .slice none 0 0, .slice none 0 0] 34) by simpa using hr9)
    have HF9 := Lib.hid (HF1.out.weak.trans hf9)
    clear hf9 hr9 HF1 HR1
    go_wp2
    exact HR.out _ _ rfl rfl rfl rfl HNO.out HF9.out HR9.out
set_option maxRecDepth 1000000 in
set_option maxHeartbeats 8000000 in
theorem rq_exit (wr : World) (a : Go.Act) (hsz : a.tmps.size = 94) (hd : a.defers = []) (xv : Value) (rb ob SL sc : Nat) (sa : Option Addr) (sz : Int) (h0 : slot a 0 = xv) (h1 : slot a 1 = .int .i64 sz) (h4 : slot a 4 = .pointer (some ⟨rb, 0, none⟩)) (h10 : slot a 10 = .pointer (some ⟨ob, 0, none⟩)) (h38 : slot a 38 = .slice sa SL sc) (h39 : slot a 39 = .int .i64 (SL : Int)) (h40 : slot a 40 = .int .i64 (SL : Int)) (hSL : SL ≤ 10) (Q : Exit → Go.Act → World → Prop)
    (hq : ∀ c : Go.Act, c.defers = [] → c.tmps.size = 94 → slot c 1 = .int .i64 sz → slot c 4 = .pointer (some ⟨rb, 0, none⟩) → slot c 10 = .pointer (some ⟨ob, 0, none⟩) → Q (.exit 0) c wr) : Code.wp Tryd.prog rqB Q a wr := by
  have HQ := Lib.hid hq
  rw [frame94 a hsz hd, h0, h1, h4, h10, h38, h39, h40]
  clear hq h0 h1 h4 h10 h38 h39 h40 hsz hd
  conv => arg 2; whnf
  have hki : ¬ (SL : Int) < SL := by omega
  go_wp2
  apply HQ.out <;> rfl
theorem vs_takeQ {A : Nat → Prop} {w : World} {a : Option Addr} {n cap : Nat} {us : List Value} (h : Vs A w (.slice a n cap) us) (k : Nat) (hk : k ≤ n) : Vs A w (.slice a k cap) (us.take k) := by
  obtain ⟨a', cap', h1, h2, h3, h4⟩ := h
  cases h1
  exact ⟨a, cap, by rw [List.length_take, Nat.min_eq_left hk], by rw [List.length_take]; omega, h3, h4.take k⟩
theorem vs_cutQ {A : Nat → Prop} {w : World} {a : Option Addr} {n cap : Nat} {us : List Value} (h : Vs A w (.slice a n cap) us) (k : Nat) (hk : k ≤ n) : Vs A w (.slice (if cap = k then a else a.map (·.add k)) (n - k) (cap - k)) (us.drop k) := by
  obtain ⟨a', cap', h1, h2, h3, h4⟩ := h
  cases h1
  refine ⟨_, cap - k, by rw [List.length_drop], by rw [List.length_drop]; omega, by omega, ?_⟩
  have := h4.cut k cap 1 (fun e => by subst e; simp; omega)
  simpa using this
theorem rdb_take {A : Nat → Prop} {w : World} {a : Option Addr} {n cap : Nat} {ls : List (Value × List UInt8)} (h : RdB A w (.slice a n cap) ls) (k : Nat) (hk : k ≤ n) : RdB A w (.slice a k cap) (ls.take k) :=
  ⟨by rw [List.map_take]; exact vs_takeQ h.1 k hk, fun x hx => h.2 x (List.mem_of_mem_take hx)⟩
theorem rdb_drop {A : Nat → Prop} {w : World} {a : Option Addr} {n cap : Nat} {ls : List (Value × List UInt8)} (h : RdB A w (.slice a n cap) ls) (k : Nat) (hk : k ≤ n) : RdB A w (.slice (if cap = k then a else a.map (·.add k)) (n - k) (cap - k)) (ls.drop k) :=
  ⟨by rw [List.map_drop]; exact vs_cutQ h.1 k hk, fun x hx => h.2 x (List.mem_of_mem_drop hx)⟩
theorem intL_snocQ (ps : List Nat) (p : Nat) : intL (ps ++ [p]) = intL ps ++ [(p : Int)] := by simp [intL]
set_option maxRecDepth 1000000 in
set_option maxHeartbeats 8000000 in
theorem rq_loop (w wa : World) (a : Go.Act) (hsz : a.tmps.size = 94) (hd : a.defers = []) (sa xa0 : Option Addr) (rb ob SL sc xn0 xc0 : Nat) (size : Int) (E : Nat → Addr) (B : Nat) (ls : List (Value × List UInt8)) (bs : List (List UInt8)) (sh : List Nat) (h0 : slot a 0 = .slice xa0 xn0 xc0) (h1 : slot a 1 = .int .i64 size) (h4 : slot a 4 = .pointer (some ⟨rb, 0, none⟩)) (h10 : slot a 10 = .pointer (some ⟨ob, 0, none⟩)) (h38 : slot a 38 = .slice sa SL sc) (h39 : slot a 39 = .int .i64 (SL : Int)) (h40 : slot a 40 = .int .i64 0) (h2 : size ≤ 2000) (hsh : shZ size = sh) (hSL : sh.length = SL) (hls : ls.map (·.2) = bs) (hln : ls.length = offN sh SL) (hEr : Errs all20 E B w)
    (hRd : RdB (fun _ => False) w (.slice xa0 xn0 xc0) ls) (hS : Is (fun _ => False) w (.slice sa SL sc) (intL sh)) (hF : Fr [] w wa) (hB : At wa ob (.cells #[.slice none 0 0, .slice none 0 0, .slice none 0 0] 34)) (hR : At wa rb (.cells #[.slice none 0 0, .slice none 0 0, .slice none 0 0] 34)) (hob : w.heap.size ≤ ob) (hro : rb ≠ ob) (Q : Exit → Go.Act → World → Prop)
    (hq : ∀ (c : Go.Act) (w' : World) (fv ev nv : Value), c.defers = [] → c.tmps.size = 94 → slot c 1 = .int .i64 size → slot c 4 = .pointer (some ⟨rb, 0, none⟩) → slot c 10 = .pointer (some ⟨ob, 0, none⟩) → gAll bs sh SL → Fr [] w w' → At w' ob (.cells #[fv, ev, nv] 34) → OwnB 5 w.heap.size w' fv (fileK bs sh SL) → OwnI 3 w.heap.size w' ev (intL (eraK bs sh SL)) → OwnI 3 w.heap.size w' nv (intL (nhK bs sh SL)) → At w' rb (.cells #[.slice none 0 0, .slice none 0 0, .slice none 0 0] 34) → Q (.exit 0) c w')
    (hret : ∀ (c : Go.Act) (w' : World), c.defers = [] → c.tmps.size = 94 → slot c 4 = .pointer (some ⟨rb, 0, none⟩) → slot c 5 = .iface 261 (.pointer (some (E 17))) → ¬ gAll bs sh SL → Fr [rb] w w' → At w' rb (.cells #[.slice none 0 0, .slice none 0 0, .slice none 0 0] 34) → Q .ret c w') : Code.wp Tryd.prog (Code.loop rqB) Q a wa := by
  have hbl : bs.length = ls.length := by rw [← hls, List.length_map]
  have hsl := shZ_len h2
  rw [hsh, hSL] at hsl
  refine wp_loop (fun a wr => a.tmps.size = 94 ∧ a.defers = [] ∧ slot a 1 = .int .i64 size ∧ slot a 4 = .pointer (some ⟨rb, 0, none⟩) ∧ slot a 10 = .pointer (some ⟨ob, 0, none⟩) ∧ slot a 38 = .slice sa SL sc ∧ slot a 39 = .int .i64 (SL : Int) ∧ ∃ (i : Nat) (xa : Option Addr) (xn xc : Nat) (fv ev nv : Value), i ≤ SL ∧ slot a 0 = .slice xa xn xc ∧ slot a 40 = .int .i64 (i : Int) ∧ gAll bs sh i ∧ RdB (fun _ => False) w (.slice xa xn xc) (ls.drop (offN sh i)) ∧ Fr [] w wr ∧ At wr ob (.cells #[fv, ev, nv] 34) ∧ OwnB 5 w.heap.size wr fv (fileK bs sh i) ∧ OwnI 3 w.heap.size wr ev (intL (eraK bs sh i)) ∧ OwnI 3 w.heap.size wr nv (intL (nhK bs sh i)) ∧ (∀ g, ev.ownBlock = some g → nv.ownBlock ≠ some g) ∧ At wr rb (.cells #[.slice none 0 0, .slice none 0 0, .slice none 0 0] 34)) (fun a _ => SL - kN (slot a 40)) ⟨hsz, hd, h1, h4, h10, h38, h39, 0, xa0, xn0, xc0, .slice none 0 0, .slice none 0 0, .slice none 0 0, by omega, h0, h40, (fun q hq => absurd hq (by omega)), hRd, hF, hB, OwnB.nil _ _ _, OwnI.nil _ _ _, OwnI.nil _ _ _, (fun g h => by simp [Value.ownBlock] at h), hR⟩ ?_
  clear h1 h4 h10 h38 h39 h0 h40 hB hR hF hRd hsz hd
  rintro a wr ⟨hsz, hd, h1, h4, h10, h38, h39, i, xa, xn, xc, fv, ev, nv, hi, h0, h40, hga, hRd, hF, hB, hO, hE, hN, hap, hR⟩
  by_cases hiS : i < SL
  · obtain ⟨k, hk⟩ : ∃ k, sh[i]? = some k := ⟨_, List.getElem?_eq_getElem (by omega)⟩
    have hk1 := shZ_at h2 (by rw [hsh]; exact hk)
    have hkd : sh.getD i 0 = k := by rw [List.getD_eq_getElem?_getD, hk]; rfl
    have hoff := offN_up sh i k hk
    have hole : offN sh (i + 1) ≤ offN sh SL := by
      have h1 := offN_le sh (i + 1)
      rw [hSL] at h1
      exact h1
    have ho3 := shZ_off h2
    rw [hsh, hSL] at ho3
    obtain ⟨sb, so, e, hcc⟩ := is_cell (hS.keep hF (by simp)) i (k : Int) (by unfold intL; rw [List.getElem?_map, hk]; rfl)
    subst e
    obtain ⟨fa, fc, e, -⟩ := hO.bs (A := fun _ => False) (by simp)
    subst e
    obtain ⟨ea, ec, e, -⟩ := (hE.is (A := fun _ => False) (by simp)).shape
    subst e
    obtain ⟨na, nc, e, -⟩ := (hN.is (A := fun _ => False) (by simp)).shape
    subst e
    obtain ⟨xa', xc', e, hx1, hx2⟩ := rdb_shape hRd
    cases e
    unfold maxLen at hx2
    have hdl : (ls.drop (offN sh i)).length = offN sh SL - offN sh i := by rw [List.length_drop, hln]
    obtain ⟨kk, hkk⟩ : ∃ kk, k + 32 = kk := ⟨_, rfl⟩
    have hkn : kk ≤ (ls.drop (offN sh i)).length := by omega
    have htk := rdb_take hRd kk hkn
    have hgb : ((ls.drop (offN sh i)).take kk).map (·.2) = gB bs sh i := by
      unfold gB
      rw [hkd, hkk, List.map_take, List.map_drop, hls]
    have htl : ((ls.drop (offN sh i)).take kk).length = kk := by rw [List.length_take]; omega
    have hgl : (gB bs sh i).length = kk := by rw [← hgb, List.length_map, htl]
    have hreb := rebuilt_any E B wr _ _ (gB bs sh i) (hEr.keep0 hF) (htk.keep hF (by simp)) hgb (by omega)
    have hfk : (fileK bs sh i).length ≤ 100000 := by
      rw [fileK_len _ _ _ (by omega)]
      have h3 := shZ_sum h2
      rw [hsh] at h3
      have h6 : sh.sum = (sh.take i).sum + (sh.drop i).sum := by rw [← List.sum_append, List.take_append_drop]
      have := nblk_le size h2
      omega
    refine rq_round wr a hsz hd xa fa ea na _ xc rb ob sb so SL sc i k kk _ fc _ ec _ nc size ((gon (gB bs sh i)).length : Int) (nHit (gB bs sh i) kk : Int) w (fileK bs sh i) (gPart (gB bs sh i) k) (intL (eraK bs sh i)) (intL (nhK bs sh i)) (E 17) (∀ j, j < 8 → fixOk (gB bs sh i) j) h0 h1 h4 h10 h38 h39 h40 hiS (by omega) hcc (by omega) (by omega) hkn hx1 hx2 hF hB hO hE hN hap hR hob hro hfk (by rw [gPart_len]; omega) (by rw [intL_len, eraK_len]; omega) (by rw [intL_len, nhK_len]; omega) (hreb.mono ?_) _ ?_ ?_
    · rintro e w' ⟨⟨u, h1, h3, h4⟩ | ⟨h1, j, h3, h4⟩, hf⟩
      · rw [hgl] at h1 h4
        rw [show kk - 32 = k by omega] at h4
        exact ⟨.inl ⟨u, h1, h3, h4⟩, hf⟩
      · exact ⟨.inr ⟨h1, fun h => h4 (h j h3)⟩, hf⟩
    · intro c w' fv ev nv kd ks q0 q1 q4 q10 q38 q39 q40 hok hF' hB' hO' hE' hN' hap' hR'
      refine ⟨⟨ks, kd, q1, q4, q10, q38, q39, i + 1, _, _, _, fv, ev, nv, by omega, q0, by rw [q40]; rfl, gAll_up hga hok, ?_, hF', hB', ?_, ?_, ?_, hap', hR'⟩, ?_⟩
      · rw [hoff, hkk, ← List.drop_drop]
        exact rdb_drop hRd kk hkn
      · rw [fileK_up, hkd]; exact hO'
      · rw [eraK_up, intL_snocQ]; exact hE'
      · rw [nhK_up, hkd, hkk, intL_snocQ]; exact hN'
      · rw [q40, h40]
        simp [kN]; omega
    · intro c w' kd ks q4 q5 hno hF' hR'
      exact hret c w' kd ks q4 q5 (fun h => hno (h i hiS)) hF' hR'
  · obtain rfl : i = SL := by omega
    refine rq_exit wr a hsz hd _ rb ob i sc sa size h0 h1 h4 h10 h38 h39 h40 (by omega) _ ?_
    intro c kd ks q1 q4 q10
    exact hq c wr fv ev nv kd ks q1 q4 q10 hga hF hB hO hE hN hR
end Go.Proofs.YtmohiblgfmdkjaaDoor
