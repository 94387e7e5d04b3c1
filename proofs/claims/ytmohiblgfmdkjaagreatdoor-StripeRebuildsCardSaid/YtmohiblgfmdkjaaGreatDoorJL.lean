import Derived.Test.YtmohiblgfmdkjaaGreatDoorGB
import Derived.Test.YtmohiblgfmdkjaaGreatDoorJD
import Derived.Test.YtmohiblgfmdkjaaGreatDoorJK
import Derived.Test.YtmohiblgfmdkjaaGreatDoorJH
import Derived.Test.YtmohiblgfmdkjaaGreatDoorIn
import Derived.Test.YtmohiblgfmdkjaaGreatDoorStr
import Derived.Test.YtmohiblgfmdkjaaGreatDoorJP
namespace Go.Proofs.YtmohiblgfmdkjaaGreatDoor
open Go.RowKit Go.Bl
set_option linter.unusedVariables false
set_option maxRecDepth 100000 in
theorem frame110 (a : Go.Act) (hs : a.tmps.size = 110) (hd : a.defers = []) : a = ⟨(slot a 0 :: slot a 1 :: slot a 2 :: slot a 3 :: slot a 4 :: slot a 5 :: slot a 6 :: slot a 7 :: slot a 8 :: slot a 9 :: slot a 10 :: slot a 11 :: slot a 12 :: slot a 13 :: slot a 14 :: slot a 15 :: slot a 16 :: slot a 17 :: slot a 18 :: slot a 19 :: slot a 20 :: slot a 21 :: slot a 22 :: slot a 23 :: slot a 24 :: slot a 25 :: slot a 26 :: slot a 27 :: slot a 28 :: slot a 29 :: slot a 30 :: slot a 31 :: slot a 32 :: slot a 33 :: slot a 34 :: slot a 35 :: slot a 36 :: slot a 37 :: slot a 38 :: slot a 39 :: slot a 40 :: slot a 41 :: slot a 42 :: slot a 43 :: slot a 44 :: slot a 45 :: slot a 46 :: slot a 47 :: slot a 48 :: slot a 49 :: slot a 50 :: slot a 51 :: slot a 52 :: slot a 53 :: slot a 54 :: slot a 55 :: slot a 56 :: slot a 57 :: slot a 58 :: slot a 59 :: slot a 60 :: slot a 61 :: slot a 62 :: slot a 63 :: slot a 64 :: slot a 65 :: slot a 66 :: slot a 67 :: slot a 68 :: slot a 69 :: slot a 70 :: slot a 71 :: slot a 72 :: slot a 73 :: slot a 74 :: slot a 75 :: slot a 76 :: slot a 77 :: slot a 78 :: slot a 79 :: slot a 80 :: slot a 81 :: slot a 82 :: slot a 83 :: slot a 84 :: slot a 85 :: slot a 86 :: slot a 87 :: slot a 88 :: slot a 89 :: slot a 90 :: slot a 91 :: slot a 92 :: slot a 93 :: slot a 94 :: slot a 95 :: slot a 96 :: slot a 97 :: slot a 98 :: slot a 99 :: slot a 100 :: slot a 101 :: slot a 102 :: slot a 103 :: slot a 104 :: slot a 105 :: slot a 106 :: slot a 107 :: slot a 108 :: slot a 109 :: []).toArray, []⟩ := frameX a 110 hs hd
noncomputable def rsB1 : Code := ((Tryz.f4.body.bind (findLoop 6)).getD .skip)
set_option maxRecDepth 1000000 in
set_option maxHeartbeats 8000000 in
theorem rs1_skip (wr : World) (a : Go.Act) (hsz : a.tmps.size = 110) (hd : a.defers = []) (xb xo N xc i bn bc : Nat) (ba : Option Addr) (sz kk : Int) (h0 : slot a 0 = .slice (some ⟨xb, xo, none⟩) N xc) (h1 : slot a 1 = .int .i64 sz) (h2 : slot a 2 = .int .i64 kk) (h25 : slot a 25 = .slice (some ⟨xb, xo, none⟩) N xc) (h26 : slot a 26 = .int .i64 (N : Int)) (h27 : slot a 27 = .int .i64 (i : Int)) (hi : i < N) (hN : N ≤ 330) (hc : wr.cell? ⟨xb, xo + i, none⟩ = some (.slice ba bn bc)) (hb : bn ≤ 40) (Q : Exit → Go.Act → World → Prop)
    (hq : ∀ c : Go.Act, c.defers = [] → c.tmps.size = 110 → slot c 0 = .slice (some ⟨xb, xo, none⟩) N xc → slot c 1 = .int .i64 sz → slot c 2 = .int .i64 kk → slot c 25 = .slice (some ⟨xb, xo, none⟩) N xc → slot c 26 = .int .i64 (N : Int) → slot c 27 = .int .i64 ((i : Int) + 1) → Q .normal c wr) : Code.wp Tryz.prog rsB1 Q a wr := by
  have HQ := Lib.hid hq
  rw [frame110 a hsz hd, h0, h1, h2, h25, h26, h27]
  clear hq h0 h1 h2 h25 h26 h27 hsz hd
  conv => arg 2; whnf
  have hki : (i : Int) < N := by omega
  have hbi : ¬ (40 : Int) < bn := by omega
  go_wp2
  exact HQ.out _ rfl rfl rfl rfl rfl rfl rfl (by go_num)
set_option maxRecDepth 1000000 in
set_option maxHeartbeats 8000000 in
theorem rs1_long (wr : World) (a : Go.Act) (hsz : a.tmps.size = 110) (hd : a.defers = []) (xb xo N xc i bn bc : Nat) (ba : Option Addr) (sz kk : Int) (h0 : slot a 0 = .slice (some ⟨xb, xo, none⟩) N xc) (h1 : slot a 1 = .int .i64 sz) (h2 : slot a 2 = .int .i64 kk) (h25 : slot a 25 = .slice (some ⟨xb, xo, none⟩) N xc) (h26 : slot a 26 = .int .i64 (N : Int)) (h27 : slot a 27 = .int .i64 (i : Int)) (hi : i < N) (hN : N ≤ 330) (hc : wr.cell? ⟨xb, xo + i, none⟩ = some (.slice ba bn bc)) (hb : 40 < bn) (Q : Exit → Go.Act → World → Prop)
    (hr : ∀ c : Go.Act, c.defers = [] → c.tmps.size = 110 → slot c 6 = .bool true → Q .ret c wr) : Code.wp Tryz.prog rsB1 Q a wr := by
  have HR := Lib.hid hr
  rw [frame110 a hsz hd, h0, h1, h2, h25, h26, h27]
  clear hr h0 h1 h2 h25 h26 h27 hsz hd
  conv => arg 2; whnf
  have hki : (i : Int) < N := by omega
  have hbi : (40 : Int) < bn := by omega
  go_wp2
  apply HR.out <;> rfl
set_option maxRecDepth 1000000 in
set_option maxHeartbeats 8000000 in
theorem rs1_exit (wr : World) (a : Go.Act) (hsz : a.tmps.size = 110) (hd : a.defers = []) (xa : Option Addr) (N xc : Nat) (sz kk : Int) (h0 : slot a 0 = .slice xa N xc) (h1 : slot a 1 = .int .i64 sz) (h2 : slot a 2 = .int .i64 kk) (h25 : slot a 25 = .slice xa N xc) (h26 : slot a 26 = .int .i64 (N : Int)) (h27 : slot a 27 = .int .i64 (N : Int))  (Q : Exit → Go.Act → World → Prop)
    (hq : ∀ c : Go.Act, c.defers = [] → c.tmps.size = 110 → slot c 0 = .slice xa N xc → slot c 1 = .int .i64 sz → slot c 2 = .int .i64 kk → Q (.exit 0) c wr) : Code.wp Tryz.prog rsB1 Q a wr := by
  have HQ := Lib.hid hq
  rw [frame110 a hsz hd, h0, h1, h2, h25, h26, h27]
  clear hq h0 h1 h2 h25 h26 h27 hsz hd
  conv => arg 2; whnf
  have hki : ¬ (N : Int) < N := by omega
  go_wp2
  apply HQ.out <;> rfl
set_option maxRecDepth 1000000 in
set_option maxHeartbeats 8000000 in
theorem rs1_loop (w w5 : World) (a : Go.Act) (hsz : a.tmps.size = 110) (hd : a.defers = []) (xa : Option Addr) (N xc : Nat) (sz kk : Int) (ls : List (Value × List UInt8)) (h0 : slot a 0 = .slice xa N xc) (h1 : slot a 1 = .int .i64 sz) (h2 : slot a 2 = .int .i64 kk) (h25 : slot a 25 = .slice xa N xc) (h26 : slot a 26 = .int .i64 (N : Int)) (h27 : slot a 27 = .int .i64 0) (hN : N ≤ 330) (hl : ls.length = N) (hR : RdB (fun _ => False) w5 (.slice xa N xc) ls) (Q : Exit → Go.Act → World → Prop)
    (hq : ∀ c : Go.Act, c.defers = [] → c.tmps.size = 110 → slot c 0 = .slice xa N xc → slot c 1 = .int .i64 sz → slot c 2 = .int .i64 kk → Q (.exit 0) c w5)
    (hr : ∀ c : Go.Act, c.defers = [] → c.tmps.size = 110 → slot c 6 = .bool true → Q .ret c w5) : Code.wp Tryz.prog (Code.loop rsB1) Q a w5 := by
  refine wp_loop (fun a w => w = w5 ∧ a.tmps.size = 110 ∧ a.defers = [] ∧ slot a 0 = .slice xa N xc ∧ slot a 1 = .int .i64 sz ∧ slot a 2 = .int .i64 kk ∧ slot a 25 = .slice xa N xc ∧ slot a 26 = .int .i64 (N : Int) ∧ ∃ q : Nat, q ≤ N ∧ slot a 27 = .int .i64 (q : Int)) (fun a _ => N - kN (slot a 27)) ⟨rfl, hsz, hd, h0, h1, h2, h25, h26, 0, by omega, h27⟩ ?_
  clear h0 h1 h2 h25 h26 h27 hsz hd
  rintro a wr ⟨rfl, hsz, hd, h0, h1, h2, h25, h26, q, hqz, h27⟩
  by_cases hqn : q < N
  · obtain ⟨x, hx⟩ : ∃ x, ls[q]? = some x := ⟨_, List.getElem?_eq_getElem (by omega)⟩
    obtain ⟨xb, xo, e, hc, hbx⟩ := rdb_cell hR q x hx
    subst e
    obtain ⟨xv, xs⟩ := x
    obtain ⟨ba, bn, bc, e⟩ := bs_shp hbx
    simp only at e hc hbx
    subst e
    by_cases h40 : bn ≤ 40
    · refine rs1_skip wr a hsz hd xb xo N xc q bn bc ba sz kk h0 h1 h2 h25 h26 h27 hqn hN hc h40 _ ?_
      intro c kd ks q0 q1 q2 q25 q26 q27
      refine ⟨⟨rfl, ks, kd, q0, q1, q2, q25, q26, q + 1, by omega, by rw [q27]; rfl⟩, ?_⟩
      rw [q27, h27]
      simp [kN]; omega
    · refine rs1_long wr a hsz hd xb xo N xc q bn bc ba sz kk h0 h1 h2 h25 h26 h27 hqn hN hc (by omega) _ ?_
      intro c kd ks q6
      exact hr c kd ks q6
  · obtain rfl : q = N := by omega
    refine rs1_exit wr a hsz hd xa q xc sz kk h0 h1 h2 h25 h26 h27 _ ?_
    intro c kd ks q0 q1 q2
    exact hq c kd ks q0 q1 q2
noncomputable def rsB2 : Code := ((Tryz.f4.body.bind (findLoop 22)).getD .skip)
set_option maxRecDepth 1000000 in
set_option maxHeartbeats 8000000 in
theorem rs2_eight (wr : World) (a : Go.Act) (hsz : a.tmps.size = 110) (hd : a.defers = []) (xb xo N xc cb co cc i j bb bo bc : Nat) (z : UInt8) (h15 : slot a 15 = .slice (some ⟨cb, co, none⟩) N cc) (h16 : slot a 16 = .int .i64 (j : Int)) (h89 : slot a 89 = .slice (some ⟨xb, xo, none⟩) N xc) (h90 : slot a 90 = .int .i64 (N : Int)) (h91 : slot a 91 = .int .i64 (i : Int)) (hi : i < N) (hN : N ≤ 330) (hj : j < 8) (hc : wr.cell? ⟨xb, xo + i, none⟩ = some (.slice (some ⟨bb, bo, none⟩) 8 bc)) (hz : wr.cell? ⟨bb, bo + j, none⟩ = some (.int .u8 (z.toNat : Int))) (hy : wr.cell? ⟨cb, co + i, none⟩ = some (.int .u8 (z.toNat : Int))) (Q : Exit → Go.Act → World → Prop)
    (hq : ∀ c : Go.Act, c.defers = [] → c.tmps.size = 110 → slot c 15 = .slice (some ⟨cb, co, none⟩) N cc → slot c 16 = .int .i64 (j : Int) → slot c 89 = .slice (some ⟨xb, xo, none⟩) N xc → slot c 90 = .int .i64 (N : Int) → slot c 91 = .int .i64 ((i : Int) + 1) → Q .normal c wr) : Code.wp Tryz.prog rsB2 Q a wr := by
  have HQ := Lib.hid hq
  rw [frame110 a hsz hd, h15, h16, h89, h90, h91]
  clear hq h15 h16 h89 h90 h91 hsz hd
  conv => arg 2; whnf
  have hki : (i : Int) < N := by omega
  have hji : (j : Int) < 8 := by omega
  go_wp2
  exact HQ.out _ rfl rfl rfl rfl rfl rfl (by go_num)
set_option maxRecDepth 1000000 in
set_option maxHeartbeats 8000000 in
theorem rs2_else (wr : World) (a : Go.Act) (hsz : a.tmps.size = 110) (hd : a.defers = []) (xb xo N xc cb co cc i j bn bc : Nat) (ba : Option Addr) (h15 : slot a 15 = .slice (some ⟨cb, co, none⟩) N cc) (h16 : slot a 16 = .int .i64 (j : Int)) (h89 : slot a 89 = .slice (some ⟨xb, xo, none⟩) N xc) (h90 : slot a 90 = .int .i64 (N : Int)) (h91 : slot a 91 = .int .i64 (i : Int)) (hi : i < N) (hN : N ≤ 330) (hj : j < 8) (hb : bn ≠ 8) (hc : wr.cell? ⟨xb, xo + i, none⟩ = some (.slice ba bn bc)) (hy : wr.cell? ⟨cb, co + i, none⟩ = some (.int .u8 0)) (Q : Exit → Go.Act → World → Prop)
    (hq : ∀ c : Go.Act, c.defers = [] → c.tmps.size = 110 → slot c 15 = .slice (some ⟨cb, co, none⟩) N cc → slot c 16 = .int .i64 (j : Int) → slot c 89 = .slice (some ⟨xb, xo, none⟩) N xc → slot c 90 = .int .i64 (N : Int) → slot c 91 = .int .i64 ((i : Int) + 1) → Q .normal c wr) : Code.wp Tryz.prog rsB2 Q a wr := by
  have HQ := Lib.hid hq
  rw [frame110 a hsz hd, h15, h16, h89, h90, h91]
  clear hq h15 h16 h89 h90 h91 hsz hd
  conv => arg 2; whnf
  have hki : (i : Int) < N := by omega
  have hbi : ¬ ((bn : Int) = 8) := by omega
  go_wp2
  exact HQ.out _ rfl rfl rfl rfl rfl rfl (by go_num)
set_option maxRecDepth 1000000 in
set_option maxHeartbeats 8000000 in
theorem rs2_exit (wr : World) (a : Go.Act) (hsz : a.tmps.size = 110) (hd : a.defers = []) (xa ca : Option Addr) (N xc cc j : Nat) (h15 : slot a 15 = .slice ca N cc) (h16 : slot a 16 = .int .i64 (j : Int)) (h89 : slot a 89 = .slice xa N xc) (h90 : slot a 90 = .int .i64 (N : Int)) (h91 : slot a 91 = .int .i64 (N : Int))  (Q : Exit → Go.Act → World → Prop)
    (hq : ∀ c : Go.Act, c.defers = [] → c.tmps.size = 110 → Q (.exit 2) c wr) : Code.wp Tryz.prog rsB2 Q a wr := by
  have HQ := Lib.hid hq
  rw [frame110 a hsz hd, h15, h16, h89, h90, h91]
  clear hq h15 h16 h89 h90 h91 hsz hd
  conv => arg 2; whnf
  have hki : ¬ (N : Int) < N := by omega
  go_wp2
  apply HQ.out <;> rfl
set_option maxRecDepth 1000000 in
set_option maxHeartbeats 8000000 in
theorem rs2_loop (w5 : World) (a : Go.Act) (hsz : a.tmps.size = 110) (hd : a.defers = []) (xa ca : Option Addr) (N xc cc j : Nat) (ls : List (Value × List UInt8)) (h15 : slot a 15 = .slice ca N cc) (h16 : slot a 16 = .int .i64 (j : Int)) (h89 : slot a 89 = .slice xa N xc) (h90 : slot a 90 = .int .i64 (N : Int)) (h91 : slot a 91 = .int .i64 0) (hN : N ≤ 330) (hj : j < 8) (hl : ls.length = N) (hR : RdB (fun _ => False) w5 (.slice xa N xc) ls) (hC : Bs (fun _ => False) w5 (.slice ca N cc) (ls.map fun x => col8 j x.2)) (Q : Exit → Go.Act → World → Prop)
    (hq : ∀ c : Go.Act, c.defers = [] → c.tmps.size = 110 → Q (.exit 2) c w5) : Code.wp Tryz.prog (Code.loop rsB2) Q a w5 := by
  refine wp_loop (fun a w => w = w5 ∧ a.tmps.size = 110 ∧ a.defers = [] ∧ slot a 15 = .slice ca N cc ∧ slot a 16 = .int .i64 (j : Int) ∧ slot a 89 = .slice xa N xc ∧ slot a 90 = .int .i64 (N : Int) ∧ ∃ q : Nat, q ≤ N ∧ slot a 91 = .int .i64 (q : Int)) (fun a _ => N - kN (slot a 91)) ⟨rfl, hsz, hd, h15, h16, h89, h90, 0, by omega, h91⟩ ?_
  clear h15 h16 h89 h90 h91 hsz hd
  rintro a wr ⟨rfl, hsz, hd, h15, h16, h89, h90, q, hqz, h91⟩
  by_cases hqn : q < N
  · obtain ⟨x, hx⟩ : ∃ x, ls[q]? = some x := ⟨_, List.getElem?_eq_getElem (by omega)⟩
    obtain ⟨xb, xo, e, hc, hbx⟩ := rdb_cell hR q x hx
    subst e
    obtain ⟨cb, co, e, hy⟩ := bs_cell hC q (col8 j x.2) (by rw [List.getElem?_map, hx]; rfl)
    subst e
    obtain ⟨xv, xs⟩ := x
    obtain ⟨ba, bn, bc, e⟩ := bs_shp hbx
    simp only at e hc hbx hy
    subst e
    have hbn : bn = xs.length := by
      obtain ⟨a', c', e', -⟩ := hbx
      cases e'
      rfl
    by_cases h8 : xs.length = 8
    · obtain ⟨z, hz⟩ : ∃ z, xs[j]? = some z := ⟨_, List.getElem?_eq_getElem (by omega)⟩
      obtain ⟨bb, bo, e, hcz⟩ := bs_cell hbx j z hz
      subst e
      have hcz2 : col8 j xs = z := by unfold col8; rw [if_pos h8, List.getD_eq_getElem?_getD, hz]; rfl
      rw [hcz2] at hy
      rw [hbn, h8] at hc
      refine rs2_eight wr a hsz hd xb xo N xc cb co cc q j bb bo bc z h15 h16 h89 h90 h91 hqn hN hj hc hcz hy _ ?_
      intro c kd ks q15 q16 q89 q90 q91
      refine ⟨⟨rfl, ks, kd, q15, q16, q89, q90, q + 1, by omega, by rw [q91]; rfl⟩, ?_⟩
      rw [q91, h91]
      simp [kN]; omega
    · have hcz2 : col8 j xs = 0 := if_neg h8
      rw [hcz2] at hy
      refine rs2_else wr a hsz hd xb xo N xc cb co cc q j bn bc ba h15 h16 h89 h90 h91 hqn hN hj (by omega) hc hy _ ?_
      intro c kd ks q15 q16 q89 q90 q91
      refine ⟨⟨rfl, ks, kd, q15, q16, q89, q90, q + 1, by omega, by rw [q91]; rfl⟩, ?_⟩
      rw [q91, h91]
      simp [kN]; omega
  · obtain rfl : q = N := by omega
    refine rs2_exit wr a hsz hd xa ca q xc cc j h15 h16 h89 h90 h91 _ ?_
    intro c kd ks
    exact hq c kd ks
theorem rebuild_any (E : Nat → Addr) (B : Nat) (w : World) (v : Value) (ls : List (Value × List UInt8)) (bs : List (List UInt8)) (size : Int) (hE : Errs all20 E B w) (hr : RdB (fun _ => False) w v ls) (hls : ls.map (·.2) = bs) : Calls Tryz.prog 16 #[v, .int .i64 size] w (rebAllP E w bs size) := by
  by_cases h : size < 0 ∨ 2000 < size
  · exact rebuild_size E B w v bs size hE h
  · by_cases he : offN (shZ size) (shZ size).length = bs.length
    · exact rebuild_go E B w v ls bs size hE hr hls (by omega) (by omega) he
    · exact rebuild_form E B w v ls bs size hE hr hls (by omega) (by omega) he
theorem rs_j (k : Int) : ∃ j : Nat, j < 8 ∧ Int.tmod (Int.tmod k 8 + 8) 8 = (j : Int) ∧ ((Int.tmod k 8 < 0 ∧ Int.tmod k 8 + 8 = (j : Int)) ∨ (¬ Int.tmod k 8 < 0 ∧ Int.tmod k 8 = (j : Int))) := by
  have h1 : -8 < Int.tmod k 8 := Int.lt_tmod_of_pos k (by decide)
  have h2 : Int.tmod k 8 < 8 := Int.tmod_lt_of_pos k (by decide)
  obtain ⟨t, ht⟩ : ∃ t, Int.tmod k 8 = t := ⟨_, rfl⟩
  rw [ht] at h1 h2 ⊢
  by_cases h : t < 0
  · refine ⟨(t + 8).toNat, by omega, ?_, .inl ⟨h, by omega⟩⟩
    rw [Int.tmod_eq_emod_of_nonneg (by omega)]
    omega
  · refine ⟨t.toNat, by omega, ?_, .inr ⟨h, by omega⟩⟩
    rw [Int.tmod_eq_emod_of_nonneg (by omega)]
    omega
set_option maxRecDepth 1000000 in
set_option maxHeartbeats 8000000 in
theorem rsb_core (E : Nat → Addr) (B : Nat) (w : World) (v0 : Value) (ls : List (Value × List UInt8)) (size k : Int) (K : Nat) (FL : List UInt8) (EL NL : List Int) (hE : Errs all20 E B w) (hr : RdB (fun _ => False) w v0 ls) (hl : ls.length ≤ 330) (hK : K ≤ 20)
    (hrb : ∀ w', Fr [] w w' → Calls Tryz.prog 16 #[v0, .int .i64 size] w' fun e w'' => ∃ fv ev nv, e = .returned (.tuple #[.agg #[fv, ev, nv], errv E K]) ∧ Bs (fun _ => False) w'' fv FL ∧ Is (fun _ => False) w'' ev EL ∧ Is (fun _ => False) w'' nv NL ∧ Fr [] w' w'')
    (hrr : ∀ w', Fr [] w w' → Calls Tryz.prog 17 #[v0, .int .i64 size] w' fun e w'' => ∃ fv ev nv, e = .returned (.tuple #[fv, ev, nv, .int .i64 (K : Int)]) ∧ Bs (fun _ => False) w'' fv FL ∧ Is (fun _ => False) w'' ev EL ∧ Is (fun _ => False) w'' nv NL ∧ Fr [] w' w'') :
    Calls Tryz.prog 4 #[v0, .int .i64 size, .int .i64 k] w fun e w' => e = .returned (.bool true) ∧ Fr [] w w' := by
  have HRD := Lib.hid hr
  have HE := Lib.hid hE
  have HRB := Lib.hid hrb
  have HRR := Lib.hid hrr
  have HNUM := Lib.hid (fun w' (h : Fr [] w w') => num_any E B K w' (hE.keep0 h) hK)
  have HAL := Lib.hid (alive06_any w)
  obtain ⟨EV, hEV⟩ : ∃ x, errv E K = x := ⟨_, rfl⟩
  rw [hEV] at HRB HNUM
  obtain ⟨xa, xc, e, x2, x3⟩ := rdb_shape hr
  subst e
  unfold maxLen at x3
  obtain ⟨N, hN⟩ : ∃ N, ls.length = N := ⟨_, rfl⟩
  have HN := Lib.hid hN
  rw [hN] at HRD HRB HRR x2 hl ⊢
  obtain ⟨S, hS⟩ : ∃ S, (⟨FL.toArray⟩ : ByteArray) = S := ⟨_, rfl⟩
  have HS := Lib.hid hS
  have q0 : (S.toList != S.toList) = false := by simp
  obtain ⟨j, hj, hj1, hj2⟩ := rs_j k
  have HJ1 := Lib.hid hj1
  have HJC := Lib.hid hj2
  have hni : ¬ (330 : Int) < N := by omega
  clear hr hE hrb hrr hEV hN hS hj1 hj2
  go_enter Tryz.func4, Tryz.ntmps4
  go_wp2_with (go_at_call 15; fail)
  refine HAL.out.mono ?_
  rintro e w1 ⟨rfl, hf⟩
  have HF1 := Lib.hid hf
  clear hf HAL
  go_wp2_with fail
  refine rs1_loop w w1 _ rfl rfl xa N xc size k ls rfl rfl rfl rfl rfl rfl hl HN.out (HRD.out.keep HF1.out (by simp)) _ ?_ ?_
  · intro c kd ks q0' q1 q2
    rw [frame110 c ks kd, q0', q1, q2]
    clear ks kd q0' q1 q2
    go_wp2_with (go_at_call 16; fail)
    refine (HRB.out w1 HF1.out).mono ?_
    rintro e w2 ⟨fv, ev, nv, rfl, h1, h2, h3, hf⟩
    obtain ⟨ua, un, uc, e⟩ := bs_shp h1
    subst e
    obtain ⟨ra, rc, e, -⟩ := h2.shape
    subst e
    obtain ⟨ta, tc, e, -⟩ := h3.shape
    subst e
    obtain ⟨rn, hrn⟩ : ∃ x, EL.length = x := ⟨_, rfl⟩
    obtain ⟨tn, htn⟩ : ∃ x, NL.length = x := ⟨_, rfl⟩
    rw [hrn] at h2 ⊢
    rw [htn] at h3 ⊢
    have fa : Fr [] w2 (w2.alloc (.cells #[.slice ua un uc, .slice ra rn rc, .slice ta tn tc] 43)) := Fr.alloc _ _
    have HX3 := Lib.hid (show At (w2.alloc (.cells #[.slice ua un uc, .slice ra rn rc, .slice ta tn tc] 43)) w2.heap.size (.cells #[.slice ua un uc, .slice ra rn rc, .slice ta tn tc] 43) from At.new rfl)
    have HU3 := Lib.hid (h1.keep fa (by simp))
    have HR3 := Lib.hid (h2.keep fa (by simp))
    have HT3 := Lib.hid (h3.keep fa (by simp))
    have HF3 := Lib.hid ((HF1.out.trans hf).trans fa)
    clear h1 h2 h3 hf hrn htn fa HRB
    go_wp2_with (first | (refine wpl_store_new (.tmp 9) (.tmp 39) rfl rfl #[.slice ua un uc, .slice ra rn rc, .slice ta tn tc] rfl rfl (by kernel_rfl) rfl (by rfl) ?_) | (go_at_call 17; fail))
    refine (HRR.out _ HF3.out).mono ?_
    rintro e w4 ⟨fv, ev, nv, rfl, h1, h2, h3, hf⟩
    obtain ⟨ua2, un2, uc2, e⟩ := bs_shp h1
    subst e
    obtain ⟨ra2, rc2, e, -⟩ := h2.shape
    subst e
    obtain ⟨ta2, tc2, e, -⟩ := h3.shape
    subst e
    obtain ⟨rn2, hrn⟩ : ∃ x, EL.length = x := ⟨_, rfl⟩
    obtain ⟨tn2, htn⟩ : ∃ x, NL.length = x := ⟨_, rfl⟩
    rw [hrn] at h2 ⊢
    rw [htn] at h3 ⊢
    have HX4 := Lib.hid (HX3.out.keep0 hf)
    have HU4 := Lib.hid (HU3.out.keep hf (by simp))
    have HR4 := Lib.hid (HR3.out.keep hf (by simp))
    have HT4 := Lib.hid (HT3.out.keep hf (by simp))
    have HF4 := Lib.hid (HF3.out.trans hf)
    have HXU := Lib.hid h1
    have HXR := Lib.hid h2
    have HXT := Lib.hid h3
    clear h1 h2 h3 hf hrn htn HX3 HU3 HR3 HT3 HF3 HRR
    obtain ⟨fb, hfb⟩ : ∃ x, w2.heap.size = x := ⟨_, rfl⟩
    rw [hfb] at HX4 ⊢
    clear hfb
    go_wp2_with (go_at_call 10; fail)
    refine (HNUM.out w4 HF4.out).mono ?_
    rintro e w5 ⟨rfl, hf⟩
    have hc0 := (HX4.out.keep0 hf).cell 0
    have hc1 := (HX4.out.keep0 hf).cell 1
    simp only [List.getElem?_toArray, List.getElem?_cons_zero, List.getElem?_cons_succ] at hc0 hc1
    have HX5 := Lib.hid (HX4.out.keep0 hf)
    have HU5 := Lib.hid (HU4.out.keep hf (by simp))
    have HR5 := Lib.hid (HR4.out.keep hf (by simp))
    have HT5 := Lib.hid (HT4.out.keep hf (by simp))
    have HF5 := Lib.hid (HF4.out.trans hf)
    have HXU5 := Lib.hid (HXU.out.keep hf (by simp))
    have HXR5 := Lib.hid (HXR.out.keep hf (by simp))
    have HXT5 := Lib.hid (HXT.out.keep hf (by simp))
    clear hf HX4 HU4 HR4 HT4 HF4 HXU HXR HXT HNUM
    go_wp2_with (first | (refine wpl_strH (src := 22) (dst := 9) Tryz.underlying22 Tryz.underlying5 Tryz.underlying9 (.tmp 55) rfl rfl rfl HU5.out S HS.out ?_) | (refine wpl_strH (src := 22) (dst := 9) Tryz.underlying22 Tryz.underlying5 Tryz.underlying9 (.tmp 57) rfl rfl rfl HXU5.out S HS.out ?_) | (go_at_call 11; fail))
    refine (sameInts_any (fun _ => False) w5 _ _ EL EL HR5.out HXR5.out).mono ?_
    rintro e w6 ⟨rfl, hf⟩
    have hdl : (EL == EL) = true := by simp
    rw [hdl]
    have hc2 := (HX5.out.keep0 hf).cell 2
    simp only [List.getElem?_toArray, List.getElem?_cons_zero, List.getElem?_cons_succ] at hc2
    have HF6 := Lib.hid (HF5.out.trans hf)
    have HT6 := Lib.hid (HT5.out.keep hf (by simp))
    have HXT6 := Lib.hid (HXT5.out.keep hf (by simp))
    clear hf HX5 HU5 HR5 HT5 HF5 HXU5 HXR5 HXT5 hdl hc0 hc1
    go_wp2_with (go_at_call 11; fail)
    refine (sameInts_any (fun _ => False) w6 _ _ NL NL HT6.out HXT6.out).mono ?_
    rintro e w7 ⟨rfl, hf⟩
    have hdl : (NL == NL) = true := by simp
    rw [hdl]
    have HF7 := Lib.hid (HF6.out.trans hf)
    clear hf HT6 HXT6 HF6 hdl hc2
    go_wp2_with (go_at_call 18; fail)
    refine (column_gen (fun _ => False) w7 _ ls k j (HRD.out.keep HF7.out (by simp)) hj HJ1.out (by rw [HN.out]; omega)).mono ?_
    rintro e w9 ⟨u, rfl, ho, hf⟩
    have HF9 := Lib.hid (HF7.out.trans hf)
    have hcb := ho.bs (A := fun _ => False) (by simp)
    obtain ⟨ca, CN, cc, e⟩ := bs_shp hcb
    subst e
    obtain rfl : CN = N := by
      obtain ⟨a', c', e, -⟩ := hcb
      cases e
      rw [List.length_map, HN.out]
    have HC9 := Lib.hid hcb
    clear ho hf hcb HF7
    have hb1 : -8 < Int.tmod k 8 ∧ Int.tmod k 8 < 8 := ⟨Int.lt_tmod_of_pos k (by decide), Int.tmod_lt_of_pos k (by decide)⟩
    rcases HJC.out with ⟨hneg, hj2⟩ | ⟨hneg, hj2⟩
    · have HJ2 := Lib.hid hj2
      clear hj2
      go_wp2_with fail
      try rw [HJ2.out]
      refine rs2_loop w9 _ rfl rfl xa ca _ xc cc j ls rfl rfl rfl rfl rfl hl hj HN.out (HRD.out.keep HF9.out (by simp)) HC9.out _ ?_
      intro c kd ks
      rw [frame110 c ks kd]
      clear ks kd
      go_wp2
      go_ret
      exact ⟨rfl, HF9.out⟩
    · have HJ2 := Lib.hid hj2
      clear hj2
      go_wp2_with fail
      try rw [HJ2.out]
      refine rs2_loop w9 _ rfl rfl xa ca _ xc cc j ls rfl rfl rfl rfl rfl hl hj HN.out (HRD.out.keep HF9.out (by simp)) HC9.out _ ?_
      intro c kd ks
      rw [frame110 c ks kd]
      clear ks kd
      go_wp2
      go_ret
      exact ⟨rfl, HF9.out⟩
  · intro c kd ks q6
    rw [frame110 c ks kd, q6]
    clear ks kd q6
    go_wp2
    go_ret
    exact ⟨rfl, HF1.out⟩
set_option maxRecDepth 1000000 in
set_option maxHeartbeats 8000000 in
theorem rsb_long (w : World) (v0 : Value) (ls : List (Value × List UInt8)) (size k : Int) (hr : RdB (fun _ => False) w v0 ls) (hl : 330 < ls.length) :
    Calls Tryz.prog 4 #[v0, .int .i64 size, .int .i64 k] w fun e w' => e = .returned (.bool true) ∧ Fr [] w w' := by
  have HAL := Lib.hid (alive06_any w)
  obtain ⟨xa, xc, e, x2, x3⟩ := rdb_shape hr
  subst e
  unfold maxLen at x3
  obtain ⟨N, hN⟩ : ∃ N, ls.length = N := ⟨_, rfl⟩
  rw [hN] at x2 hl ⊢
  have hni : (330 : Int) < N := by omega
  clear hr hN
  go_enter Tryz.func4, Tryz.ntmps4
  go_wp2_with (go_at_call 15; fail)
  refine HAL.out.mono ?_
  rintro e w1 ⟨rfl, hf⟩
  have HF1 := Lib.hid hf
  clear hf HAL
  go_wp2
  go_ret
  exact ⟨rfl, HF1.out⟩
theorem rebBad_le (bs : List (List UInt8)) (size : Int) : rebBad bs size ≤ 20 := by
  by_cases h : size < 0 ∨ 2000 < size
  · rw [rebBad_8 h]; omega
  · by_cases h2 : offN (shZ size) (shZ size).length = bs.length
    · by_cases h3 : gAll bs (shZ size) (shZ size).length ∧ zeroAll ((fileK bs (shZ size) (shZ size).length).drop size.toNat)
      · rw [rebBad_0 h h2 h3]; omega
      · rw [rebBad_17 h h2 h3]; omega
    · rw [rebBad_4 h h2]; omega
theorem rsb_any (E : Nat → Addr) (B : Nat) (w : World) (v0 : Value) (ls : List (Value × List UInt8)) (size k : Int) (hE : Errs all20 E B w) (hr : RdB (fun _ => False) w v0 ls) :
    Calls Tryz.prog 4 #[v0, .int .i64 size, .int .i64 k] w fun e w' => e = .returned (.bool true) ∧ Fr [] w w' := by
  by_cases hl : 330 < ls.length
  · exact rsb_long w v0 ls size k hr hl
  have nilB : ∀ w', Bs (fun _ => False) w' (.slice none 0 0) [] := fun w' => Bs.nil _ _ _ _ (by decide)
  have nilI : ∀ w', Is (fun _ => False) w' (.slice none 0 0) [] := fun w' => Vs.nil _ _ _ _ (by decide)
  obtain ⟨bs, hbs⟩ : ∃ bs, ls.map (·.2) = bs := ⟨_, rfl⟩
  by_cases h0 : rebBad bs size = 0
  · refine rsb_core E B w v0 ls size k 0 ((fileK bs (shZ size) (shZ size).length).take size.toNat) (intL (eraK bs (shZ size) (shZ size).length)) (intL (nhK bs (shZ size) (shZ size).length)) hE hr (by omega) (by omega) ?_ ?_
    · intro w' hf
      refine (rebuild_any E B w' v0 ls bs size (hE.keep0 hf) (hr.keep hf (by simp)) hbs).mono ?_
      rintro e w'' ⟨⟨K, rfl, h1, h2⟩ | ⟨-, fv, ev, nv, rfl, k1, k2, k3⟩, h⟩
      · exact absurd (h1.symm.trans h0) h2
      · exact ⟨fv, ev, nv, rfl, k1.bs (by simp), k2.is (by simp), k3.is (by simp), h⟩
    · intro w' hf
      refine (rreb_any w' v0 ls bs size (hr.keep hf (by simp)) hbs).mono ?_
      rintro e w'' ⟨⟨K, rfl, h1, h2⟩ | ⟨-, fv, ev, nv, rfl, k1, k2, k3⟩, h⟩
      · exact absurd (h1.symm.trans h0) h2
      · exact ⟨fv, ev, nv, rfl, k1.bs (by simp), k2.is (by simp), k3.is (by simp), h⟩
  · refine rsb_core E B w v0 ls size k (rebBad bs size) [] [] [] hE hr (by omega) (rebBad_le bs size) ?_ ?_
    · intro w' hf
      refine (rebuild_any E B w' v0 ls bs size (hE.keep0 hf) (hr.keep hf (by simp)) hbs).mono ?_
      rintro e w'' ⟨⟨K, rfl, rfl, h2⟩ | ⟨h1, -⟩, h⟩
      · rw [errv_pos E _ h0]
        exact ⟨_, _, _, rfl, nilB _, nilI _, nilI _, h⟩
      · exact absurd h1 h0
    · intro w' hf
      refine (rreb_any w' v0 ls bs size (hr.keep hf (by simp)) hbs).mono ?_
      rintro e w'' ⟨⟨K, rfl, rfl, h2⟩ | ⟨h1, -⟩, h⟩
      · exact ⟨_, _, _, rfl, nilB _, nilI _, nilI _, h⟩
      · exact absurd h1 h0
end Go.Proofs.YtmohiblgfmdkjaaGreatDoor
