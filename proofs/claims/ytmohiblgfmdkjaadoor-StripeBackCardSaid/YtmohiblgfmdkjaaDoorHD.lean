/-
  Layer 3: code.Of of a word of a wrong size.
  Layer 3: code.Of of a word of a wrong size. (printed by genobd.py)
-/
import Derived.Test.YtmohiblgfmdkjaaDoorGQ
import Derived.Test.YtmohiblgfmdkjaaDoorGB
import Derived.Test.YtmohiblgfmdkjaaDoorHW
import Derived.Test.YtmohiblgfmdkjaaDoorQui
namespace Go.Proofs.YtmohiblgfmdkjaaDoor
open Go.RowKit Go.Bl
set_option linter.unusedVariables false
noncomputable def ofbR : Code := ((Tryd.f67.body.bind (findRegionC 3)).getD .skip)
def OfI (w : World) (a : Go.Act) (rb ob : Nat) (C : Array Value) (EV : Value) (dn : Nat → Bool) (b : Go.Act) (p : World) : Prop :=
  b.defers = a.defers ∧ b.tmps.size = 43 ∧ (∀ s, s ∉ ([15, 16, 3] : List Nat) → slot b s = slot a s) ∧ Fr [rb] w p ∧ At p ob (.cells C 148) ∧ At p rb (.cells C 148) ∧
    (dn 0 = true → slot b 15 = .agg C) ∧ (dn 1 = true → slot b 16 = EV) ∧ (dn 3 = true → slot b 3 = EV)
set_option maxRecDepth 1000000 in
set_option maxHeartbeats 8000000 in
theorem ofb_reg (w : World) (a : Go.Act) (rb ob : Nat) (C : Array Value) (EV : Value) (hsz : a.tmps.size = 43) (hC : C.size = 32) (hone : C.all (·.oneCell') = true) (hor : ob ≠ rb) (hgr : gOf 8 ≠ rb) (h2 : slot a 2 = .pointer (some ⟨rb, 0, none⟩)) (h4 : slot a 4 = .pointer (some ⟨ob, 0, none⟩)) (hO : At w ob (.cells C 148)) (hR : At w rb (.cells C 148)) (hG : w.cell? ⟨gOf 8, 0, none⟩ = some EV) (Q : Exit → Go.Act → World → Prop)
    (hQ : ∀ (b : Go.Act) (p : World), b.defers = a.defers → b.tmps.size = 43 → (∀ s, s ∉ ([15, 16, 3] : List Nat) → slot b s = slot a s) → slot b 3 = EV → Fr [rb] w p → At p rb (.cells C 148) → Q .normal b p) : Code.wp Tryd.prog ofbR Q a w := by
  conv => arg 2; whnf
  refine wp_region_inv (OfI w a rb ob C EV) (by kernel_rfl) (by kernel_rfl) ?_ ?_ ?_
  · intro w1 hw1
    exact ⟨rfl, hsz, fun _ _ => rfl, hw1.weak, hO.keep0 hw1, hR.keep0 hw1, (fun h => nomatch h), (fun h => nomatch h), (fun h => nomatch h)⟩
  · intro i hi dn b p hdn hdeps ⟨hd, hs, ho, hf, hAo, hAr, c0, c1, c3⟩
    have hi4 : i < 4 := hi
    clear hi
    match i, hi4 with
    | 0, _ =>
      refine opV_of_wpl (K := fun b p => OfI w a rb ob C EV (also dn 0) b p) _ (by simp only [List.getElem?_toArray, List.getElem?_cons_succ, List.getElem?_cons_zero]; rfl) ?_
      have e4 : b.eval (.tmp 4) = .pointer (some ⟨ob, 0, none⟩) := (ho 4 (by decide)).trans h4
      refine wpl_load_rowG (.tmp 4) rfl rfl ob C e4 hAo Tryd.underlying148 rfl (by rw [hC]; kernel_rfl) ?_
      refine ⟨rfl, rfl, hd, (by simpa [Go.Act.put] using hs), fun s hsn => (slot_put_ne (by rintro ⟨⟩; exact hsn (by simp))).trans (ho s hsn), hf, hAo, hAr, fun _ => slot_put_self (by rw [hs]; decide), fun hk => ?_, fun hk => ?_⟩
      · rw [also_ne dn (show (1 : Nat) ≠ 0 by decide)] at hk
        rw [slot_put_ne (by decide)]; exact c1 hk
      · rw [also_ne dn (show (3 : Nat) ≠ 0 by decide)] at hk
        rw [slot_put_ne (by decide)]; exact c3 hk
    | 1, _ =>
      refine opV_of_wpl (K := fun b p => OfI w a rb ob C EV (also dn 1) b p) _ (by simp only [List.getElem?_toArray, List.getElem?_cons_succ, List.getElem?_cons_zero]; rfl) ?_
      have hG2 := cell_keep hf (by simpa using hgr) hG
      simp only [gOf, List.getD_eq_getElem?_getD, List.getElem?_cons_zero, List.getElem?_cons_succ, Option.getD_some] at hG2
      refine wpl_val _ rfl rfl EV (by obtain ⟨ρ, hρ⟩ : ∃ ρ, b.eval = ρ := ⟨_, rfl⟩; have hg : ∀ n, b.eval (.global n) = .pointer (some ⟨n, 0, none⟩) := fun n => rfl; rw [hρ] at hg ⊢; unfold execOp; simp [go_sem, hg, hG2]) ?_
      refine ⟨rfl, rfl, hd, (by simpa [Go.Act.put] using hs), fun s hsn => (slot_put_ne (by rintro ⟨⟩; exact hsn (by simp))).trans (ho s hsn), hf, hAo, hAr, fun hk => ?_, fun _ => slot_put_self (by rw [hs]; decide), fun hk => ?_⟩
      · rw [also_ne dn (show (0 : Nat) ≠ 1 by decide)] at hk
        rw [slot_put_ne (by decide)]; exact c0 hk
      · rw [also_ne dn (show (3 : Nat) ≠ 1 by decide)] at hk
        rw [slot_put_ne (by decide)]; exact c3 hk
    | 2, _ =>
      refine opV_of_wpl (K := fun b p => OfI w a rb ob C EV (also dn 2) b p) _ (by simp only [List.getElem?_toArray, List.getElem?_cons_succ, List.getElem?_cons_zero]; rfl) ?_
      have e2 : b.eval (.tmp 2) = .pointer (some ⟨rb, 0, none⟩) := (ho 2 (by decide)).trans h2
      have e15 : b.eval (.tmp 15) = .agg C := c0 (hdeps 0 (by kernel_rfl))
      refine wpl_store_at (.tmp 2) (.tmp 15) rfl rfl C e2 e15 (by rw [hC]; kernel_rfl) hAr (by omega) hone ?_
      intro p1 f1 a1 _
      have hAr1 : At p1 rb (.cells C 148) := by
        have h := a1
        rw [List.take_zero, List.nil_append, List.drop_of_length_le (l := C.toList) (by simp), List.append_nil] at h
        simpa using h
      refine ⟨rfl, rfl, hd, (by simpa [Go.Act.put] using hs), fun s hsn => ho s hsn, hf.trans f1, hAo.keep f1 (by simpa using hor), hAr1, fun hk => ?_, fun hk => ?_, fun hk => ?_⟩
      · rw [also_ne dn (show (0 : Nat) ≠ 2 by decide)] at hk
        exact c0 hk
      · rw [also_ne dn (show (1 : Nat) ≠ 2 by decide)] at hk
        exact c1 hk
      · rw [also_ne dn (show (3 : Nat) ≠ 2 by decide)] at hk
        exact c3 hk
    | 3, _ =>
      refine opV_of_wpl (K := fun b p => OfI w a rb ob C EV (also dn 3) b p) _ (by simp only [List.getElem?_toArray, List.getElem?_cons_succ, List.getElem?_cons_zero]; rfl) ?_
      have e16 : b.eval (.tmp 16) = EV := c1 (hdeps 1 (by kernel_rfl))
      refine wpl_val _ rfl rfl EV (by obtain ⟨ρ, hρ⟩ : ∃ ρ, b.eval = ρ := ⟨_, rfl⟩; rw [hρ] at e16 ⊢; unfold execOp; simp [go_sem, e16]) ?_
      refine ⟨rfl, rfl, hd, (by simpa [Go.Act.put] using hs), fun s hsn => (slot_put_ne (by rintro ⟨⟩; exact hsn (by simp))).trans (ho s hsn), hf, hAo, hAr, fun hk => ?_, fun hk => ?_, fun _ => slot_put_self (by rw [hs]; decide)⟩
      · rw [also_ne dn (show (0 : Nat) ≠ 3 by decide)] at hk
        rw [slot_put_ne (by decide)]; exact c0 hk
      · rw [also_ne dn (show (1 : Nat) ≠ 3 by decide)] at hk
        rw [slot_put_ne (by decide)]; exact c1 hk
  · intro dn b p hall ⟨hd, hs, ho, hf, hAo, hAr, c0, c1, c3⟩
    exact hQ b p hd hs ho (c3 (hall 3 (by decide))) hf hAr
end Go.Proofs.YtmohiblgfmdkjaaDoor
namespace Go.Proofs.YtmohiblgfmdkjaaDoor
open Go.RowKit Go.Bl
set_option linter.unusedVariables false
set_option maxRecDepth 100000 in
theorem frame43 (a : Go.Act) (hs : a.tmps.size = 43) (hd : a.defers = []) : a = ⟨(slot a 0 :: slot a 1 :: slot a 2 :: slot a 3 :: slot a 4 :: slot a 5 :: slot a 6 :: slot a 7 :: slot a 8 :: slot a 9 :: slot a 10 :: slot a 11 :: slot a 12 :: slot a 13 :: slot a 14 :: slot a 15 :: slot a 16 :: slot a 17 :: slot a 18 :: slot a 19 :: slot a 20 :: slot a 21 :: slot a 22 :: slot a 23 :: slot a 24 :: slot a 25 :: slot a 26 :: slot a 27 :: slot a 28 :: slot a 29 :: slot a 30 :: slot a 31 :: slot a 32 :: slot a 33 :: slot a 34 :: slot a 35 :: slot a 36 :: slot a 37 :: slot a 38 :: slot a 39 :: slot a 40 :: slot a 41 :: slot a 42 :: []).toArray, []⟩ := frameX a 43 hs hd
theorem sized_noI (w : World) (n : Int) (h : n < 1 ∨ 223 < n) : Calls Tryd.prog 62 #[.int .i64 n] w fun e w' => e = .returned (.bool false) ∧ Fr [] w w' := by
  rcases h with h | h
  · have h1 : ¬ (0 : Int) < (n : Int) := by omega
    have h2 : ¬ (1 : Int) ≤ (n : Int) := by omega
    go_enter Tryd.func62, Tryd.ntmps62
    go_wp2
    go_ret
    exact ⟨rfl, Fr.refl _ _⟩
  · have h1 : (0 : Int) < (n : Int) := by omega
    have h2 : (1 : Int) ≤ (n : Int) := by omega
    go_enter Tryd.func62, Tryd.ntmps62
    go_wp2
    go_ret
    refine ⟨?_, Fr.refl _ _⟩
    show Ending.returned (.bool (decide ((n : Int) ≤ 223))) = _
    rw [decide_eq_false (by omega)]
set_option maxRecDepth 100000 in
set_option maxHeartbeats 4000000 in
theorem of_bad (L : List Nat) (E : Nat → Addr) (B : Nat) (w : World) (v : Value) (ws : List UInt8) (hE : Errs L E B w) (m8 : 8 ∈ L) (hb : Bs (fun _ => False) w v ws) (h : ¬ (33 ≤ ws.length ∧ ws.length ≤ 255)) :
    Calls Tryd.prog 67 #[v] w fun e w' => e = .returned (.tuple #[.agg (zero32.map u8v).toArray, errv E 8]) ∧ Fr [] w w' := by
  have x8 : errv E 8 = .iface 261 (.pointer (some (E 8))) := errv_pos E 8 (by decide)
  obtain ⟨a, cap, rfl, b2, b3, -⟩ := id hb
  unfold maxLen at b3
  obtain ⟨N, hN⟩ : ∃ N, ws.length = N := ⟨_, rfl⟩
  rw [hN] at b2 h ⊢
  have HSZ := Lib.hid (fun w => sized_noI w ((N : Int) - 32) (by omega))
  have hwr : IntKind.i64.wrap ((N : Int) - 32) = ((N : Int) - 32) := by rw [IntKind.wrap_i64]; omega
  have HR0 := Lib.hid (show At ((w.alloc (.cells #[.int .u8 0, .int .u8 0, .int .u8 0, .int .u8 0, .int .u8 0, .int .u8 0, .int .u8 0, .int .u8 0, .int .u8 0, .int .u8 0, .int .u8 0, .int .u8 0, .int .u8 0, .int .u8 0, .int .u8 0, .int .u8 0, .int .u8 0, .int .u8 0, .int .u8 0, .int .u8 0, .int .u8 0, .int .u8 0, .int .u8 0, .int .u8 0, .int .u8 0, .int .u8 0, .int .u8 0, .int .u8 0, .int .u8 0, .int .u8 0, .int .u8 0, .int .u8 0] 148)).alloc (.cells #[.int .u8 0, .int .u8 0, .int .u8 0, .int .u8 0, .int .u8 0, .int .u8 0, .int .u8 0, .int .u8 0, .int .u8 0, .int .u8 0, .int .u8 0, .int .u8 0, .int .u8 0, .int .u8 0, .int .u8 0, .int .u8 0, .int .u8 0, .int .u8 0, .int .u8 0, .int .u8 0, .int .u8 0, .int .u8 0, .int .u8 0, .int .u8 0, .int .u8 0, .int .u8 0, .int .u8 0, .int .u8 0, .int .u8 0, .int .u8 0, .int .u8 0, .int .u8 0] 148)) w.heap.size (.cells (zero32.map u8v).toArray 148 (0, 0)) from (At.new rfl).al)
  have HO0 := Lib.hid (show At ((w.alloc (.cells #[.int .u8 0, .int .u8 0, .int .u8 0, .int .u8 0, .int .u8 0, .int .u8 0, .int .u8 0, .int .u8 0, .int .u8 0, .int .u8 0, .int .u8 0, .int .u8 0, .int .u8 0, .int .u8 0, .int .u8 0, .int .u8 0, .int .u8 0, .int .u8 0, .int .u8 0, .int .u8 0, .int .u8 0, .int .u8 0, .int .u8 0, .int .u8 0, .int .u8 0, .int .u8 0, .int .u8 0, .int .u8 0, .int .u8 0, .int .u8 0, .int .u8 0, .int .u8 0] 148)).alloc (.cells #[.int .u8 0, .int .u8 0, .int .u8 0, .int .u8 0, .int .u8 0, .int .u8 0, .int .u8 0, .int .u8 0, .int .u8 0, .int .u8 0, .int .u8 0, .int .u8 0, .int .u8 0, .int .u8 0, .int .u8 0, .int .u8 0, .int .u8 0, .int .u8 0, .int .u8 0, .int .u8 0, .int .u8 0, .int .u8 0, .int .u8 0, .int .u8 0, .int .u8 0, .int .u8 0, .int .u8 0, .int .u8 0, .int .u8 0, .int .u8 0, .int .u8 0, .int .u8 0] 148)) (w.heap.size + 1) (.cells (zero32.map u8v).toArray 148 (0, 0)) from At.new (by simp))
  have HF0 := Lib.hid (show Fr [] w ((w.alloc (.cells #[.int .u8 0, .int .u8 0, .int .u8 0, .int .u8 0, .int .u8 0, .int .u8 0, .int .u8 0, .int .u8 0, .int .u8 0, .int .u8 0, .int .u8 0, .int .u8 0, .int .u8 0, .int .u8 0, .int .u8 0, .int .u8 0, .int .u8 0, .int .u8 0, .int .u8 0, .int .u8 0, .int .u8 0, .int .u8 0, .int .u8 0, .int .u8 0, .int .u8 0, .int .u8 0, .int .u8 0, .int .u8 0, .int .u8 0, .int .u8 0, .int .u8 0, .int .u8 0] 148)).alloc (.cells #[.int .u8 0, .int .u8 0, .int .u8 0, .int .u8 0, .int .u8 0, .int .u8 0, .int .u8 0, .int .u8 0, .int .u8 0, .int .u8 0, .int .u8 0, .int .u8 0, .int .u8 0, .int .u8 0, .int .u8 0, .int .u8 0, .int .u8 0, .int .u8 0, .int .u8 0, .int .u8 0, .int .u8 0, .int .u8 0, .int .u8 0, .int .u8 0, .int .u8 0, .int .u8 0, .int .u8 0, .int .u8 0, .int .u8 0, .int .u8 0, .int .u8 0, .int .u8 0] 148)) from (Fr.alloc _ _).trans (Fr.alloc _ _))
  obtain ⟨w0, hw0⟩ : ∃ w0, ((w.alloc (.cells #[.int .u8 0, .int .u8 0, .int .u8 0, .int .u8 0, .int .u8 0, .int .u8 0, .int .u8 0, .int .u8 0, .int .u8 0, .int .u8 0, .int .u8 0, .int .u8 0, .int .u8 0, .int .u8 0, .int .u8 0, .int .u8 0, .int .u8 0, .int .u8 0, .int .u8 0, .int .u8 0, .int .u8 0, .int .u8 0, .int .u8 0, .int .u8 0, .int .u8 0, .int .u8 0, .int .u8 0, .int .u8 0, .int .u8 0, .int .u8 0, .int .u8 0, .int .u8 0] 148)).alloc (.cells #[.int .u8 0, .int .u8 0, .int .u8 0, .int .u8 0, .int .u8 0, .int .u8 0, .int .u8 0, .int .u8 0, .int .u8 0, .int .u8 0, .int .u8 0, .int .u8 0, .int .u8 0, .int .u8 0, .int .u8 0, .int .u8 0, .int .u8 0, .int .u8 0, .int .u8 0, .int .u8 0, .int .u8 0, .int .u8 0, .int .u8 0, .int .u8 0, .int .u8 0, .int .u8 0, .int .u8 0, .int .u8 0, .int .u8 0, .int .u8 0, .int .u8 0, .int .u8 0] 148)) = w0 := ⟨_, rfl⟩
  rw [hw0] at HR0 HO0 HF0
  have HE0 := Lib.hid (hE.keep0 HF0.out)
  have hgl := hE.glob 8 m8
  have hlt : gOf 8 < w.heap.size := by
    obtain ⟨t, fz, hg⟩ := hgl
    exact (Array.getElem?_eq_some_iff.1 hg).1
  have HLT := Lib.hid hlt
  have HM := Lib.hid m8
  have X8 := Lib.hid x8
  have hs32 : (zero32.map u8v).toArray.size = 32 := by simp [zero32]
  have HS32 := Lib.hid hs32
  have HONE := Lib.hid (cells_one zero32)
  obtain ⟨C, hC⟩ : ∃ c, (zero32.map u8v).toArray = c := ⟨_, rfl⟩
  rw [hC] at HR0 HO0 HS32 HONE ⊢
  clear hN hE hb hC hgl hlt m8 x8 hs32
  go_enter Tryd.func67, Tryd.ntmps67
  go_wp2_with (go_at_call 62; fail)
  try rw [hw0]
  clear hw0
  refine (HSZ.out _).mono ?_
  rintro e w1 ⟨rfl, hf⟩
  have HR1 := Lib.hid (HR0.out.keep0 hf)
  have HO1 := Lib.hid (HO0.out.keep0 hf)
  have HF1 := Lib.hid (HF0.out.trans hf)
  have HE1 := Lib.hid (HE0.out.keep0 hf)
  clear hf HR0 HO0 HSZ HF0 HE0
  go_wp2_with fail
  refine ofb_reg w1 _ w.heap.size (w.heap.size + 1) C (errv E 8) rfl HS32.out HONE.out (by omega) (by have := HLT.out; omega) rfl rfl HO1.out HR1.out (by rw [X8.out]; exact HE1.out.cell 8 HM.out) _ ?_
  intro b p q1 q2 q3 q4 hf hr
  have HF2 := Lib.hid (HF1.out.then hf (by intro b hb; simp at hb; subst hb; exact .inr (Nat.le_refl _)))
  have t2 : slot b 2 = .pointer (some ⟨w.heap.size, 0, none⟩) := q3 2 (by decide)
  have HR2 := Lib.hid hr
  rw [frame43 b q2 q1, q4, t2]
  clear hf hr t2 q3 q4
  go_wp2
  refine bodyPost_ret (v := .tuple #[.agg C, errv E 8]) ?_ rfl ?_
  · have h := fun tmps h => res_cell_row (fn := Tryd.f67) (p := 2) (u := 3) (ty := 148) rfl tmps p w.heap.size C h HR2.out Tryd.underlying148 rfl (by rw [HS32.out]; kernel_rfl)
    exact h _ rfl
  · exact ⟨rfl, HF2.out⟩
end Go.Proofs.YtmohiblgfmdkjaaDoor
