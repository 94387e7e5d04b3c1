import Derived.Test.YtmohiblgfmdkjaaGreatDoorGB
import Derived.Test.YtmohiblgfmdkjaaGreatDoorRmu
import Derived.Test.YtmohiblgfmdkjaaGreatDoorJM
import Derived.Test.YtmohiblgfmdkjaaGreatDoorGF
import Derived.Test.YtmohiblgfmdkjaaGreatDoorHG
namespace Go.Proofs.YtmohiblgfmdkjaaGreatDoor
open Go.RowKit Go.Bl
set_option linter.unusedVariables false
noncomputable def rdmul_regR : Code := ((Tryz.f55.body.bind (findRegionC 10)).getD .skip)
set_option maxRecDepth 1000000 in
set_option maxHeartbeats 8000000 in
theorem rdmul_reg (w : World) (a : Go.Act) (hsz : a.tmps.size = 55) (pb po pn pc qb qo qn qc i k : Nat) (d x y : UInt8) (hik : i ≤ k) (hip : i < pn) (hkq : k - i < qn) (hn : pn ≤ 1000000) (hn2 : qn ≤ 1000000) (hx : w.cell? ⟨pb, po + i, none⟩ = some (.int .u8 (x.toNat : Int))) (hy : w.cell? ⟨qb, qo + (k - i), none⟩ = some (.int .u8 (y.toNat : Int))) (h7 : slot a 7 = .int .u8 (d.toNat : Int)) (h0 : slot a 0 = .slice (some ⟨pb, po, none⟩) pn pc) (h8 : slot a 8 = .int .i64 (i : Int)) (h1 : slot a 1 = .slice (some ⟨qb, qo, none⟩) qn qc) (h6 : slot a 6 = .int .i64 (k : Int)) (Q : Exit → Go.Act → World → Prop)
    (hQ : ∀ (b : Go.Act) (p : World), b.defers = a.defers → b.tmps.size = 55 → (∀ s, s ∉ ([36, 37, 38, 39, 40, 41, 42, 43, 44, 45, 46, 47, 48, 7] : List Nat) → slot b s = slot a s) → slot b 7 = .int .u8 ((d ^^^ gmul x y).toNat : Int) → Fr [] w p → Q .normal b p) : Code.wp Tryz.prog rdmul_regR Q a w := by
  conv => arg 2; whnf
  refine wp_region_ghost (by kernel_rfl) (by kernel_rfl) [some 36, some 37, some 38, some 39, some 40, some 41, some 42, some 43, some 44, some 45, some 46, some 47, some 48, some 7] [11] [.rd (.int .u8 (d.toNat : Int)) 1, .rd (.slice (some ⟨pb, po, none⟩) pn pc) 1, .rd (.int .i64 (i : Int)) 1, .rd (.pointer (some ⟨pb, po + i, none⟩)) 1, .rd (.int .u8 (x.toNat : Int)) 1, .rd (.slice (some ⟨qb, qo, none⟩) qn qc) 1, .rd (.int .i64 (k : Int)) 1, .rd (.int .i64 (i : Int)) 1, .rd (.int .i64 ((k - i : Nat) : Int)) 1, .rd (.pointer (some ⟨qb, qo + (k - i), none⟩)) 1, .rd (.int .u8 (y.toNat : Int)) 1, .st 0, .rd (.int .u8 ((d ^^^ gmul x y).toNat : Int)) 1, .rd (.int .u8 ((d ^^^ gmul x y).toNat : Int)) 1] (fun cj => if cj = 0 then (.int .u8 ((gmul x y).toNat : Int)) else undef) (fun s g p => Fr [] w p) (by kernel_rfl) (by rfl) (by rw [hsz]; rfl) (by kernel_rfl) (by kernel_rfl) (by decide) ?_ ⟨?_, ?_, ?_, ?_, ?_, ?_, ?_, ?_, ?_, ?_, ?_, ?_, ?_, ?_, trivial⟩ ?_
  · intro w1 hw1
    exact ⟨fun _ => undef, hw1⟩
  · refine ⟨⟨36, rfl⟩, .inl rfl, fun b p s g hs hlow hS h => ?_⟩
    have e0 := (show b.eval (.tmp 7) = .int .u8 (d.toNat : Int) from (h.un 13 7 (by kernel_rfl) rfl).trans h7)
    have ec : ∀ v, b.eval (.const v) = v := fun _ => rfl
    refine ⟨_, by simp only [List.getElem?_toArray, List.getElem?_cons_succ, List.getElem?_cons_zero]; rfl, .inl ⟨(wanted_none rfl), ?_⟩⟩
    obtain ⟨ρ, hρ⟩ : ∃ ρ, b.eval = ρ := ⟨_, rfl⟩
    rw [hρ] at e0 ec ⊢
    unfold execOp; simp [go_sem, e0, ec]
  · refine ⟨⟨37, rfl⟩, .inl rfl, fun b p s g hs hlow hS h => ?_⟩
    have e0 := (show b.eval (.tmp 0) = .slice (some ⟨pb, po, none⟩) pn pc from (h.old 0 (by decide)).trans h0)
    have ec : ∀ v, b.eval (.const v) = v := fun _ => rfl
    refine ⟨_, by simp only [List.getElem?_toArray, List.getElem?_cons_succ, List.getElem?_cons_zero]; rfl, .inl ⟨(wanted_none rfl), ?_⟩⟩
    obtain ⟨ρ, hρ⟩ : ∃ ρ, b.eval = ρ := ⟨_, rfl⟩
    rw [hρ] at e0 ec ⊢
    unfold execOp; simp [go_sem, e0, ec]
  · refine ⟨⟨38, rfl⟩, .inl rfl, fun b p s g hs hlow hS h => ?_⟩
    have e0 := (show b.eval (.tmp 8) = .int .i64 (i : Int) from (h.old 8 (by decide)).trans h8)
    have ec : ∀ v, b.eval (.const v) = v := fun _ => rfl
    refine ⟨_, by simp only [List.getElem?_toArray, List.getElem?_cons_succ, List.getElem?_cons_zero]; rfl, .inl ⟨(wanted_none rfl), ?_⟩⟩
    obtain ⟨ρ, hρ⟩ : ∃ ρ, b.eval = ρ := ⟨_, rfl⟩
    rw [hρ] at e0 ec ⊢
    unfold execOp; simp [go_sem, e0, ec]
  · refine ⟨⟨39, rfl⟩, .inl rfl, fun b p s g hs hlow hS h => ?_⟩
    have e0 := (show b.eval (.tmp 37) = .slice (some ⟨pb, po, none⟩) pn pc from h.rd 1 _ _ 37 (by kernel_rfl) rfl rfl)
    have e1 := (show b.eval (.tmp 38) = .int .i64 (i : Int) from h.rd 2 _ _ 38 (by kernel_rfl) rfl rfl)
    have ec : ∀ v, b.eval (.const v) = v := fun _ => rfl
    refine ⟨_, by simp only [List.getElem?_toArray, List.getElem?_cons_succ, List.getElem?_cons_zero]; rfl, .inl ⟨(wanted_none rfl), ?_⟩⟩
    obtain ⟨ρ, hρ⟩ : ∃ ρ, b.eval = ρ := ⟨_, rfl⟩
    rw [hρ] at e0 e1 ec ⊢
    unfold execOp; simp [go_sem, e0, e1, ec, show (i : Int) < pn by omega, show i < pn by omega]
  · refine ⟨⟨40, rfl⟩, .inl rfl, fun b p s g hs hlow hS h => ?_⟩
    have e0 := (show b.eval (.tmp 39) = .pointer (some ⟨pb, po + i, none⟩) from h.rd 3 _ _ 39 (by kernel_rfl) rfl rfl)
    have hf := hS
    have c0 := (show p.cell? ⟨pb, po + i, none⟩ = some (.int .u8 (x.toNat : Int)) from (cell_mono hf hx))
    have ec : ∀ v, b.eval (.const v) = v := fun _ => rfl
    refine ⟨_, by simp only [List.getElem?_toArray, List.getElem?_cons_succ, List.getElem?_cons_zero]; rfl, .inl ⟨(wanted_none rfl), ?_⟩⟩
    obtain ⟨ρ, hρ⟩ : ∃ ρ, b.eval = ρ := ⟨_, rfl⟩
    rw [hρ] at e0 ec ⊢
    unfold execOp; simp [go_sem, e0, ec, c0]
  · refine ⟨⟨41, rfl⟩, .inl rfl, fun b p s g hs hlow hS h => ?_⟩
    have e0 := (show b.eval (.tmp 1) = .slice (some ⟨qb, qo, none⟩) qn qc from (h.old 1 (by decide)).trans h1)
    have ec : ∀ v, b.eval (.const v) = v := fun _ => rfl
    refine ⟨_, by simp only [List.getElem?_toArray, List.getElem?_cons_succ, List.getElem?_cons_zero]; rfl, .inl ⟨(wanted_none rfl), ?_⟩⟩
    obtain ⟨ρ, hρ⟩ : ∃ ρ, b.eval = ρ := ⟨_, rfl⟩
    rw [hρ] at e0 ec ⊢
    unfold execOp; simp [go_sem, e0, ec]
  · refine ⟨⟨42, rfl⟩, .inl rfl, fun b p s g hs hlow hS h => ?_⟩
    have e0 := (show b.eval (.tmp 6) = .int .i64 (k : Int) from (h.old 6 (by decide)).trans h6)
    have ec : ∀ v, b.eval (.const v) = v := fun _ => rfl
    refine ⟨_, by simp only [List.getElem?_toArray, List.getElem?_cons_succ, List.getElem?_cons_zero]; rfl, .inl ⟨(wanted_none rfl), ?_⟩⟩
    obtain ⟨ρ, hρ⟩ : ∃ ρ, b.eval = ρ := ⟨_, rfl⟩
    rw [hρ] at e0 ec ⊢
    unfold execOp; simp [go_sem, e0, ec]
  · refine ⟨⟨43, rfl⟩, .inl rfl, fun b p s g hs hlow hS h => ?_⟩
    have e0 := (show b.eval (.tmp 8) = .int .i64 (i : Int) from (h.old 8 (by decide)).trans h8)
    have ec : ∀ v, b.eval (.const v) = v := fun _ => rfl
    refine ⟨_, by simp only [List.getElem?_toArray, List.getElem?_cons_succ, List.getElem?_cons_zero]; rfl, .inl ⟨(wanted_none rfl), ?_⟩⟩
    obtain ⟨ρ, hρ⟩ : ∃ ρ, b.eval = ρ := ⟨_, rfl⟩
    rw [hρ] at e0 ec ⊢
    unfold execOp; simp [go_sem, e0, ec]
  · refine ⟨⟨44, rfl⟩, .inl rfl, fun b p s g hs hlow hS h => ?_⟩
    have e0 := (show b.eval (.tmp 42) = .int .i64 (k : Int) from h.rd 6 _ _ 42 (by kernel_rfl) rfl rfl)
    have e1 := (show b.eval (.tmp 43) = .int .i64 (i : Int) from h.rd 7 _ _ 43 (by kernel_rfl) rfl rfl)
    have ec : ∀ v, b.eval (.const v) = v := fun _ => rfl
    refine ⟨_, by simp only [List.getElem?_toArray, List.getElem?_cons_succ, List.getElem?_cons_zero]; rfl, .inl ⟨(wanted_none rfl), ?_⟩⟩
    obtain ⟨ρ, hρ⟩ : ∃ ρ, b.eval = ρ := ⟨_, rfl⟩
    rw [hρ] at e0 e1 ec ⊢
    unfold execOp; simp [go_sem, e0, e1, ec, show IntKind.i64.wrap ((k : Int) - i) = ((k - i : Nat) : Int) by rw [IntKind.wrap_i64]; omega]
  · refine ⟨⟨45, rfl⟩, .inl rfl, fun b p s g hs hlow hS h => ?_⟩
    have e0 := (show b.eval (.tmp 41) = .slice (some ⟨qb, qo, none⟩) qn qc from h.rd 5 _ _ 41 (by kernel_rfl) rfl rfl)
    have e1 := (show b.eval (.tmp 44) = .int .i64 ((k - i : Nat) : Int) from h.rd 8 _ _ 44 (by kernel_rfl) rfl rfl)
    have ec : ∀ v, b.eval (.const v) = v := fun _ => rfl
    refine ⟨_, by simp only [List.getElem?_toArray, List.getElem?_cons_succ, List.getElem?_cons_zero]; rfl, .inl ⟨(wanted_none rfl), ?_⟩⟩
    obtain ⟨ρ, hρ⟩ : ∃ ρ, b.eval = ρ := ⟨_, rfl⟩
    rw [hρ] at e0 e1 ec ⊢
    unfold execOp; simp [go_sem, e0, e1, ec, show ((k - i : Nat) : Int) < qn by omega, show k - i < qn by omega]
  · refine ⟨⟨46, rfl⟩, .inl rfl, fun b p s g hs hlow hS h => ?_⟩
    have e0 := (show b.eval (.tmp 45) = .pointer (some ⟨qb, qo + (k - i), none⟩) from h.rd 9 _ _ 45 (by kernel_rfl) rfl rfl)
    have hf := hS
    have c0 := (show p.cell? ⟨qb, qo + (k - i), none⟩ = some (.int .u8 (y.toNat : Int)) from (cell_mono hf hy))
    have ec : ∀ v, b.eval (.const v) = v := fun _ => rfl
    refine ⟨_, by simp only [List.getElem?_toArray, List.getElem?_cons_succ, List.getElem?_cons_zero]; rfl, .inl ⟨(wanted_none rfl), ?_⟩⟩
    obtain ⟨ρ, hρ⟩ : ∃ ρ, b.eval = ρ := ⟨_, rfl⟩
    rw [hρ] at e0 ec ⊢
    unfold execOp; simp [go_sem, e0, ec, c0]
  · refine ⟨rfl, .inl rfl, fun b p g hS h => ?_⟩
    have e0 := (show b.eval (.tmp 40) = .int .u8 (x.toNat : Int) from h.rd 4 _ _ 40 (by kernel_rfl) rfl rfl)
    have e1 := (show b.eval (.tmp 46) = .int .u8 (y.toNat : Int) from h.rd 10 _ _ 46 (by kernel_rfl) rfl rfl)
    have hf := hS
    refine opV_func _ (by simp only [List.getElem?_toArray, List.getElem?_cons_succ, List.getElem?_cons_zero]; rfl) (wanted_none rfl) 57 _ _ rfl #[.int .u8 (x.toNat : Int), .int .u8 (y.toNat : Int)] (by simp only [List.map_toArray, List.map_cons, List.map_nil, e0, e1]) (by simp [go_sem]) ((rmul_any p x y).mono ?_)
    rintro e p' ⟨rfl, hf'⟩
    exact ⟨_, rfl, hf.trans hf', .inr rfl⟩
  · refine ⟨⟨48, rfl⟩, .inl rfl, fun b p s g hs hlow hS h => ?_⟩
    have e0 := (show b.eval (.tmp 36) = .int .u8 (d.toNat : Int) from h.rd 0 _ _ 36 (by kernel_rfl) rfl rfl)
    have e1 := (show b.eval (.tmp 47) = .int .u8 ((gmul x y).toNat : Int) from h.st 11 _ 47 (by kernel_rfl) rfl rfl)
    have ec : ∀ v, b.eval (.const v) = v := fun _ => rfl
    refine ⟨_, by simp only [List.getElem?_toArray, List.getElem?_cons_succ, List.getElem?_cons_zero]; rfl, .inl ⟨(wanted_none rfl), ?_⟩⟩
    obtain ⟨ρ, hρ⟩ : ∃ ρ, b.eval = ρ := ⟨_, rfl⟩
    rw [hρ] at e0 e1 ec ⊢
    unfold execOp; simp [go_sem, e0, e1, ec, u8_xor_u]
  · refine ⟨⟨7, rfl⟩, .inl rfl, fun b p s g hs hlow hS h => ?_⟩
    have e0 := (show b.eval (.tmp 48) = .int .u8 ((d ^^^ gmul x y).toNat : Int) from h.rd 12 _ _ 48 (by kernel_rfl) rfl rfl)
    have ec : ∀ v, b.eval (.const v) = v := fun _ => rfl
    refine ⟨_, by simp only [List.getElem?_toArray, List.getElem?_cons_succ, List.getElem?_cons_zero]; rfl, .inl ⟨(wanted_none rfl), ?_⟩⟩
    obtain ⟨ρ, hρ⟩ : ∃ ρ, b.eval = ρ := ⟨_, rfl⟩
    rw [hρ] at e0 ec ⊢
    unfold execOp; simp [go_sem, e0, ec]
  · intro b p h1 h2 h3 h4 h5
    obtain ⟨g, h4, h6⟩ := h4
    have r7 : slot b 7 = .int .u8 ((d ^^^ gmul x y).toNat : Int) := h5 13 (.int .u8 ((d ^^^ gmul x y).toNat : Int)) _ 7 rfl rfl
    exact hQ b p h1 (h2.trans hsz) (fun s hs => h3 s (fun hm => hs (by simpa using hm))) r7 h4
set_option maxRecDepth 100000 in
set_option maxHeartbeats 2000000 in
theorem rtrim_any (w : World) (v : Value) (xs : List UInt8) (hb : Bs (fun _ => False) w v xs) (hl : xs.length ≤ 1000000) :
    Calls Tryz.prog 58 #[v] w fun e w' => ∃ u, e = .returned u ∧ OwnB 5 w.heap.size w' u (ptrim xs) ∧ Fr [] w w' := by
  have HB := Lib.hid hb
  have HLE := Lib.hid (plen_le xs)
  have HTOP := Lib.hid (plen_top xs)
  have HAB := Lib.hid (plen_above xs)
  have HT := Lib.hid (show xs.take (plen xs) = ptrim xs from rfl)
  obtain ⟨K, hK⟩ : ∃ K, plen xs = K := ⟨_, rfl⟩
  rw [hK] at HLE HTOP HAB HT
  obtain ⟨a, cap, rfl, h2, h3, -⟩ := hb
  unfold maxLen at h3
  obtain ⟨N, hN⟩ : ∃ N, xs.length = N := ⟨_, rfl⟩
  have HN := Lib.hid hN
  rw [hN] at HB HLE h2 hl ⊢
  clear hN hK
  go_enter Tryz.func58, Tryz.ntmps58
  go_wp2
  go_loopw [3] (fun i wr => ∃ k : Nat, K ≤ k ∧ k ≤ N ∧ i = .int .i64 k ∧ wr = w) (fun i _ => (intOf i).toNat)
  case atStart => exact ⟨N, HLE.out, Nat.le_refl _, rfl, rfl⟩
  case round =>
    obtain ⟨k, hk, hkn, rfl, rfl⟩ := hrel
    by_cases hkK : K < k
    · have hk0 : (0 : Int) < k := by omega
      obtain ⟨b, off, rfl, hc⟩ := bs_cell HB.out (k - 1) 0 (by rw [get_cf (by have := HN.out; omega), HAB.out _ (by omega)])
      have hw : IntKind.i64.wrap ((k : Int) - 1) = ((k - 1 : Nat) : Int) := by rw [IntKind.wrap_i64]; omega
      have hlt : ((k - 1 : Nat) : Int) < N := by omega
      go_wp2
      go_roundw
      case rel => exact ⟨k - 1, by omega, by omega, by go_num, by first | rfl | trivial⟩
      case measure => simp [intOf]; omega
    · obtain rfl : k = K := by omega
      have HBT := Lib.hid (((HB.out.take k hkn).keep (Fr.alloc (S := []) _ (.cells #[] 5)) (by simp) : Bs (fun _ => False) (wr.alloc (.cells #[] 5)) (.slice a k cap) (xs.take k)))
      rw [HT.out] at HBT
      have HE := Lib.hid (OwnB.empty 5 wr.heap.size wr (Nat.le_refl _))
      have HPL := Lib.hid (show (ptrim xs).length ≤ 1000000 by rw [ptrim_length]; have := plen_le xs; have := HN.out; omega)
      have HSZ := Lib.hid (show wr.heap.size ≤ (wr.alloc (.cells #[] 5)).heap.size by simp)
      have fin : ∀ (u : Value) (w1 : World), OwnB 5 wr.heap.size w1 u ([] ++ ptrim xs) → (wr.alloc (.cells #[] 5)).grownBy w1 (some wr.heap.size) → OwnB 5 wr.heap.size w1 u (ptrim xs) ∧ Fr [] wr w1 := fun u w1 ho hg =>
        ⟨by simpa using ho, OwnB.fr (OwnB.empty 5 wr.heap.size wr (Nat.le_refl _)) (Fr.alloc _ _) hg (Nat.le_refl _)⟩
      have FIN := Lib.hid fin
      clear fin
      by_cases hk0 : 0 < k
      · have hk0i : (0 : Int) < k := by omega
        obtain ⟨y, hy⟩ : ∃ y, cf xs (k - 1) = y := ⟨_, rfl⟩
        obtain ⟨b, off, rfl, hc⟩ := bs_cell HB.out (k - 1) y (by rw [get_cf (by have := HN.out; omega), hy])
        have hy0 : ¬ (y.toNat : Int) = 0 := by
          have := HTOP.out hk0
          rw [hy] at this
          intro h
          exact this (UInt8.toNat_inj.1 (by simpa using h))
        have hw : IntKind.i64.wrap ((k : Int) - 1) = ((k - 1 : Nat) : Int) := by rw [IntKind.wrap_i64]; omega
        have hlt : ((k - 1 : Nat) : Int) < N := by omega
        clear hy
        go_wp2_with (at_builtin; refine wpl_append_bs (A := fun _ => False) (base := wr.heap.size) (xs := []) (ys := ptrim xs) Tryz.underlying22 Tryz.infoByte rfl (.tmp 18) (.tmp 21) rfl rfl rfl HE.out HBT.out (by have := HPL.out; simp; omega) HSZ.out ?_)
        intro v1 w1 h1 g1
        have HR := Lib.hid (FIN.out v1 w1 h1 g1)
        clear h1 g1 HE HBT FIN
        go_wp2
        go_ret
        exact ⟨_, rfl, HR.out.1, HR.out.2⟩
      · have hk0i : ¬ (0 : Int) < k := by omega
        go_wp2_with (at_builtin; refine wpl_append_bs (A := fun _ => False) (base := wr.heap.size) (xs := []) (ys := ptrim xs) Tryz.underlying22 Tryz.infoByte rfl (.tmp 18) (.tmp 21) rfl rfl rfl HE.out HBT.out (by have := HPL.out; simp; omega) HSZ.out ?_)
        intro v1 w1 h1 g1
        have HR := Lib.hid (FIN.out v1 w1 h1 g1)
        clear h1 g1 HE HBT FIN
        go_wp2
        go_ret
        exact ⟨_, rfl, HR.out.1, HR.out.2⟩
theorem wpl_append_b {P : Program} {w : World} {ops : Array Oper} {rest : List Oper} {o : Oper} {a : Go.Act} {Q : Exit → Go.Act → World → Prop} {t e : TypeId}
    (ht : P.underlying t = some (.slice e)) (hinfo : (P.info? e).map (fun i => (i.zero, i.size, i.bytes)) = some (some (.int .u8 0), 1, 1)) (hgd : o.guard = none) (s x : Operand)
    (ho : o.op = .call { callee := .builtin .append, args := #[s, x], argTypes := #[t, t] })
    {base b : Nat} {v : Value} {c : UInt8} {xs : List UInt8} (hs : a.eval s = v) (hx : a.eval x = .slice (some ⟨b, 0, none⟩) 1 1) (hb : At w b (.cells #[.int .u8 (c.toNat : Int)] e (0, 0))) (hown : OwnB e base w v xs)
    (hlen : xs.length ≤ 140737488355000) (hbase : base ≤ w.heap.size)
    (h : ∀ v' w', OwnB e base w' v' (xs ++ [c]) → w.grownBy w' v.ownBlock → wpList P ops Q rest (a.put o.dst v') w') : wpList P ops Q (o :: rest) a w :=
  wpl_append_bs (A := fun _ => False) ht hinfo hgd s x ho hs hx hown (ys := [c]) ⟨_, 1, rfl, by simp, by simp [maxLen], Row.of_block hb (by simp)⟩ (by simp; omega) hbase h
def dconv (ps qs : List UInt8) (k : Nat) : UInt8 := conv (cf ps) (cf qs) k
theorem dconv_end (ps qs : List UInt8) : ptrim ((List.range (ps.length + qs.length)).map (dconv ps qs)) = pmul ps qs := by
  have h : ptrim ((List.range (ps.length + qs.length)).map (dconv ps qs)) = ptrim (pmul ps qs) := ptrim_ext fun j => by
    rw [cf_map_range, cf_mul]
    split
    · rfl
    · rename_i hj
      have := cf_mul ps qs j
      rw [cf_ge (by have := pmul_len ps qs; omega)] at this
      exact this
  rw [h]
  unfold pmul
  exact ptrim_trim _
def dacc (ps qs : List UInt8) (k m : Nat) : UInt8 := xsum m fun i => gmul (cf ps i) (cf qs (k - i))
set_option maxRecDepth 100000 in
set_option maxHeartbeats 4000000 in
theorem rdmul_any (w : World) (p q : Value) (ps qs : List UInt8) (hp : Bs (fun _ => False) w p ps) (hq : Bs (fun _ => False) w q qs) (hpl : ps.length ≤ 1000) (hql : qs.length ≤ 1000) :
    Calls Tryz.prog 55 #[p, q] w fun e w' => ∃ u, e = .returned u ∧ OwnB 5 w.heap.size w' u (pmul ps qs) ∧ Fr [] w w' := by
  have HP := Lib.hid hp
  have HQ := Lib.hid hq
  have HEND := Lib.hid (dconv_end ps qs)
  have HST := Lib.hid (show ∀ k m, dacc ps qs k (m + 1) = dacc ps qs k m ^^^ gmul (cf ps m) (cf qs (k - m)) from fun k m => rfl)
  have HZ := Lib.hid (show ∀ k, dacc ps qs k 0 = 0 from fun k => rfl)
  have HC := Lib.hid (show ∀ k, dacc ps qs k (k + 1) = dconv ps qs k from fun k => rfl)
  obtain ⟨pa, pc, rfl, p2, p3, -⟩ := hp
  obtain ⟨qa, qc, rfl, q2, q3, -⟩ := hq
  unfold maxLen at p3 q3
  obtain ⟨SM, hSM⟩ : ∃ f, dacc ps qs = f := ⟨_, rfl⟩
  obtain ⟨DC, hDC⟩ : ∃ f, dconv ps qs = f := ⟨_, rfl⟩
  rw [hSM] at HST HZ HC
  rw [hDC] at HEND HC
  obtain ⟨R, hR⟩ : ∃ R, pmul ps qs = R := ⟨_, rfl⟩
  rw [hR] at HEND ⊢
  have HPC := Lib.hid (fun w (h : Bs (fun _ => False) w (.slice pa ps.length pc) ps) j => rat_any (fun _ => False) w (.slice pa ps.length pc) ps j h (by omega))
  have HQC := Lib.hid (fun w (h : Bs (fun _ => False) w (.slice qa qs.length qc) qs) j => rat_any (fun _ => False) w (.slice qa qs.length qc) qs j h (by omega))
  obtain ⟨M, hM⟩ : ∃ M, ps.length = M := ⟨_, rfl⟩
  obtain ⟨N, hN⟩ : ∃ N, qs.length = N := ⟨_, rfl⟩
  have HM := Lib.hid hM
  have HN := Lib.hid hN
  rw [hM] at HP HPC HEND p2 hpl ⊢
  rw [hN] at HQ HQC HEND q2 hql ⊢
  clear hM hN hR hSM hDC
  obtain ⟨BW, hBW⟩ : ∃ B, w.heap.size = B := ⟨_, rfl⟩
  have HE0 := Lib.hid (OwnB.empty 5 w.heap.size w (Nat.le_refl _))
  have HBW := Lib.hid hBW
  go_enter Tryz.func55, Tryz.ntmps55
  go_wp2
  go_loopw [5, 6] (fun o i wr => ∃ k : Nat, k ≤ M + N ∧ i = .int .i64 k ∧ Hid (OwnB 5 BW wr o ((List.range k).map DC)) ∧ Hid (Fr [] w wr)) (fun _ i _ => M + N - (intOf i).toNat)
  case atStart => exact ⟨0, Nat.zero_le _, rfl, Lib.hid (by rw [← HBW.out]; exact HE0.out), Lib.hid (Fr.alloc _ _)⟩
  case round =>
    obtain ⟨k, hk, rfl, HO, HF⟩ := hrel
    obtain ⟨wl, rfl⟩ : ∃ wl, wl = wr := ⟨wr, rfl⟩
    by_cases hkn : k < M + N
    · have hkni : (k : Int) < M + N := by omega
      go_wp2
      go_loopw [7, 8] (fun d i wr => ∃ m : Nat, m ≤ k + 1 ∧ i = .int .i64 m ∧ d = .int .u8 ((SM k m).toNat : Int) ∧ Hid (Fr [] wl wr)) (fun _ i _ => k + 2 - (intOf i).toNat)
      case atStart => exact ⟨0, Nat.zero_le _, rfl, by rw [HZ.out]; rfl, Lib.hid (Fr.refl _ _)⟩
      case round =>
        obtain ⟨m, hm, rfl, rfl, HF2⟩ := hrel
        by_cases hmk : m ≤ k
        · have hmi : (m : Int) ≤ k := by omega
          have HS1 := Lib.hid (HST.out k m)
          have HPR := Lib.hid (HP.out.keep (HF.out.trans HF2.out) (by simp))
          have HQR := Lib.hid (HQ.out.keep (HF.out.trans HF2.out) (by simp))
          have HC1 := Lib.hid (HPC.out wr HPR.out m)
          obtain ⟨x, hx⟩ : ∃ x, cf ps m = x := ⟨_, rfl⟩
          obtain ⟨y, hy⟩ : ∃ y, cf qs (k - m) = y := ⟨_, rfl⟩
          rw [hx] at HC1 HS1
          rw [hy] at HS1
          obtain ⟨D, hD⟩ : ∃ D, SM k m = D := ⟨_, rfl⟩
          rw [hD] at HS1 ⊢
          have HX := Lib.hid hx
          have HY := Lib.hid hy
          have hw : IntKind.i64.wrap ((k : Int) - m) = ((k - m : Nat) : Int) := by rw [IntKind.wrap_i64]; omega
          have HW := Lib.hid hw
          clear hx hy hD hw
          go_wp2_with (go_at_call 59; fail)
          refine HC1.out.mono ?_
          rintro e w1 ⟨rfl, hf1⟩
          have HF3 := Lib.hid (HF2.out.trans hf1)
          have HC2 := Lib.hid (HQC.out w1 (HQR.out.keep hf1 (by simp)) (k - m))
          rw [HY.out] at HC2
          have HPS := Lib.hid (HPR.out.keep hf1 (by simp))
          have HQS := Lib.hid (HQR.out.keep hf1 (by simp))
          clear hf1 HC1 HPR HQR HF2
          by_cases hx0 : x = 0
          · have hxi : (x.toNat : Int) = 0 := by rw [hx0]; rfl
            have HS2 := Lib.hid (show SM k (m + 1) = D by rw [HS1.out, hx0, zero_gmul]; simp)
            go_wp2
            go_roundw
            case rel => exact ⟨m + 1, by omega, by go_num, by rw [HS2.out], HF3⟩
            case measure => simp [intOf]; omega
          · have hxi : ¬ (x.toNat : Int) = 0 := fun h => hx0 (UInt8.toNat_inj.1 (by simpa using h))
            have hw := HW.out
            go_wp2_with (go_at_call 59; fail)
            refine HC2.out.mono ?_
            rintro e w2 ⟨rfl, hf2⟩
            have HF4 := Lib.hid (HF3.out.trans hf2)
            have HPT := Lib.hid (HPS.out.keep hf2 (by simp))
            have HQT := Lib.hid (HQS.out.keep hf2 (by simp))
            clear hf2 HC2 HPS HQS HF3 hw
            by_cases hy0 : y = 0
            · have hyi : (y.toNat : Int) = 0 := by rw [hy0]; rfl
              have HS2 := Lib.hid (show SM k (m + 1) = D by rw [HS1.out, hy0, gmul_zero]; simp)
              go_wp2
              go_roundw
              case rel => exact ⟨m + 1, by omega, by go_num, by rw [HS2.out], HF4⟩
              case measure => simp [intOf]; omega
            · have hyi : ¬ (y.toNat : Int) = 0 := fun h => hy0 (UInt8.toNat_inj.1 (by simpa using h))
              have hmM : m < M := by
                rcases Nat.lt_or_ge m M with h | h
                · exact h
                · exact absurd (HX.out.symm.trans (cf_ge (by have := HM.out; omega))) hx0
              have hkN : k - m < N := by
                rcases Nat.lt_or_ge (k - m) N with h | h
                · exact h
                · exact absurd (HY.out.symm.trans (cf_ge (by have := HN.out; omega))) hy0
              obtain ⟨pb, po, rfl, hcx⟩ := bs_cell HPT.out m x (by rw [get_cf (by have := HM.out; omega), HX.out])
              obtain ⟨qb, qo, rfl, hcy⟩ := bs_cell HQT.out (k - m) y (by rw [get_cf (by have := HN.out; omega), HY.out])
              have HCX := Lib.hid hcx
              have HCY := Lib.hid hcy
              have hxb : ((x.toNat : Int) != 0) = true := by simpa using hxi
              have hyb : ((y.toNat : Int) != 0) = true := by simpa using hyi
              clear hcx hcy
              go_wp2_with fail
              refine rdmul_reg w2 _ rfl pb po M pc qb qo N qc m k D x y hmk hmM hkN (by omega) (by omega) HCX.out HCY.out rfl rfl rfl rfl rfl _ ?_
              intro b p k1 k2 k3 k4 hf
              obtain ⟨f, hb⟩ := putsX b _ _ k1 k2 k3
              have hf7 : f 7 = .int .u8 ((D ^^^ gmul x y).toNat : Int) := by
                rw [hb] at k4
                simpa [slot, Go.Act.put] using k4
              have HF5 := Lib.hid (HF4.out.trans hf)
              clear k1 k2 k3 k4 hf HF4 HCX HCY
              subst hb
              simp only [List.foldl_cons, List.foldl_nil, Go.Act.put, List.setIfInBounds_toArray, List.set_cons_succ, List.set_cons_zero, hf7]
              go_wp2
              go_roundw
              case rel => exact ⟨m + 1, by omega, by go_num, by rw [HS1.out], HF5⟩
              case measure => simp [intOf]; omega
        · have hmi : ¬ (m : Int) ≤ k := by omega
          have HX1 := Lib.hid (show SM k m = DC k by rw [show m = k + 1 by omega]; exact HC.out k)
          rw [HX1.out]
          have HO2 := Lib.hid (HO.out.keep HF2.out (by simp))
          have HF3 := Lib.hid (HF.out.trans HF2.out)
          have HRS := Lib.hid (show (List.range k).map DC ++ [DC k] = (List.range (k + 1)).map DC by rw [List.range_succ, List.map_append]; rfl)
          obtain ⟨c, hc⟩ : ∃ c, DC k = c := ⟨_, rfl⟩
          rw [hc] at HRS ⊢
          have HO3 := Lib.hid (HO2.out.keep (Fr.alloc (S := []) wr (.cells #[.int .u8 (c.toNat : Int)] 5)) (by simp))
          have hbs : BW ≤ (wr.alloc (.cells #[.int .u8 (c.toNat : Int)] 5)).heap.size := by rw [← HBW.out]; simp; have := HF3.out.size; omega
          have HBS := Lib.hid hbs
          clear hc hbs HO HF HF2 HO2 HX1
          go_wp2_with (at_builtin; refine wpl_append_b Tryz.underlying22 Tryz.infoByte rfl (.tmp 49) (.tmp 51) rfl rfl rfl (At.new rfl) HO3.out (by simp; omega) HBS.out ?_)
          intro v1 w1 h1 g1
          rw [HRS.out] at h1
          have HO4 := Lib.hid h1
          have HF4 := Lib.hid (show Fr [] w w1 from OwnB.fr HO3.out (HF3.out.trans (Fr.alloc _ _)) g1 (by rw [HBW.out]; exact Nat.le_refl _))
          clear h1 g1 HO3 HF3 HBS
          go_wp2
          go_roundw
          case rel => exact ⟨k + 1, by omega, by go_num, HO4, HF4⟩
          case measure => simp [intOf]; omega
    · have hkni : ¬ (k : Int) < M + N := by omega
      have HK := Lib.hid (show ptrim ((List.range k).map DC) = R by rw [show k = M + N by omega]; exact HEND.out)
      have HT := Lib.hid (rtrim_any wl _ _ (HO.out.bs (by simp)) (by simp; omega))
      rw [HK.out] at HT
      have hbs : BW ≤ wl.heap.size := by rw [← HBW.out]; exact HF.out.size
      have HBS := Lib.hid hbs
      clear hbs
      go_wp2_with (go_at_call 58; fail)
      refine HT.out.mono ?_
      rintro e w1 ⟨u, rfl, ho1, hf1⟩
      have HO1 := Lib.hid (ho1.base HBS.out)
      have HF1 := Lib.hid (HF.out.trans hf1)
      clear ho1 hf1 HT HO
      go_wp2
      go_ret
      exact ⟨_, rfl, by rw [HBW.out]; exact HO1.out, HF1.out⟩
end Go.Proofs.YtmohiblgfmdkjaaGreatDoor
