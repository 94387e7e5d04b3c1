/-
  The law StripeShapes: the walk.
-/
import Derived.Test.YtbohmnblegljkaaDoorStp
namespace Go.Proofs.YtbohmnblegljkaaDoor
open Go.RowKit Go.Bl
set_option linter.unusedVariables false

theorem errs_all {E : Nat → Addr} {B : Nat} {w : World} (h : Errs all20 E B w) : True := trivial

set_option maxHeartbeats 1000000 in
theorem stripeShapes_bad (E : Nat → Addr) (B : Nat) (w : World) (hE : Errs all20 E B w) (size place : Int) (h : size < 0 ∨ 2000 < size) :
    Calls Tryd.prog 3 #[.int .i64 size, .int .i64 place] w fun e w' => e = .returned (.bool true) ∧ Fr [] w w' := by
  have HE := Lib.hid hE
  clear hE
  go_enter Tryd.func3, Tryd.ntmps3
  go_wp2_with fail
  refine (alive06_any _).mono ?_; rintro e w1 ⟨rfl, f1⟩
  have E1 := Lib.hid (HE.out.keep0 f1)
  have F1 := Lib.hid f1
  clear f1
  go_wp2_with fail
  refine (shape_bad all20 E B _ E1.out (by decide) size h).mono ?_; rintro e w2 ⟨rfl, f2⟩
  have F2 := Lib.hid (F1.out.trans f2)
  have E2 := Lib.hid (E1.out.keep0 f2)
  clear f2
  go_wp2_with fail
  refine (rshape_bad _ size h).mono ?_; rintro e w3 ⟨rfl, f3⟩
  have F3 := Lib.hid (F2.out.trans f3)
  have E3 := Lib.hid (E2.out.keep0 f3)
  clear f3
  go_wp2_with fail
  refine (group_bad all20 E B _ E3.out (by decide) size place h).mono ?_; rintro e w4 ⟨rfl, f4⟩
  have F4 := Lib.hid (F3.out.trans f4)
  have E4 := Lib.hid (E3.out.keep0 f4)
  clear f4
  go_wp2_with fail
  refine (num_any E B 8 _ E4.out (by decide)).mono ?_; rintro e w5 ⟨rfl, f5⟩
  have F5 := Lib.hid (F4.out.trans f5)
  have E5 := Lib.hid (E4.out.keep0 f5)
  clear f5
  go_wp2_with fail
  refine (sameInts_any (fun _ => False) _ _ _ [] [] (Vs.nil _ _ _ _ (by decide)) (Vs.nil _ _ _ _ (by decide))).mono ?_; rintro e w6 ⟨rfl, f6⟩
  have F6 := Lib.hid (F5.out.trans f6)
  have E6 := Lib.hid (E5.out.keep0 f6)
  clear f6
  go_wp2_with fail
  refine (num_any E B 8 _ E6.out (by decide)).mono ?_; rintro e w7 ⟨rfl, f7⟩
  have F7 := Lib.hid (F6.out.trans f7)
  clear f7
  go_wp2
  go_ret
  exact ⟨rfl, F7.out⟩

set_option maxHeartbeats 2000000 in
theorem stripeShapes_ok (E : Nat → Addr) (B : Nat) (w : World) (hE : Errs all20 E B w) (size place : Int) (h0 : 0 ≤ size) (h2 : size ≤ 2000) (hp : place ≤ 9223372036854775807) (hp' : -9223372036854775808 ≤ place) :
    Calls Tryd.prog 3 #[.int .i64 size, .int .i64 place] w fun e w' => e = .returned (.bool true) ∧ Fr [] w w' := by
  have hn := nblk_le size h2
  have HE := Lib.hid hE
  have s1 := Lib.hid (fun w => shape_ok w size h0 h2)
  have s2 := Lib.hid (fun w => rshape_ok w size h0 h2)
  have s3 := Lib.hid (fun w hE => group_ok all20 E B w hE (by decide) size place h0 h2 hp hp')
  have hsh := Lib.hid (sh_shapeOf _ hn.1 hn.2)
  obtain ⟨sh, HSH⟩ : ∃ sh, Hid (shapeOf (nblk size) = sh) := ⟨_, rfl⟩
  rw [HSH.out] at s1 s2 s3 hsh
  have hl2 := hsh.out.len
  clear hE HSH hn
  go_enter Tryd.func3, Tryd.ntmps3
  go_wp2_with fail
  refine (alive06_any _).mono ?_; rintro e w1 ⟨rfl, f1⟩
  have E1 := Lib.hid (HE.out.keep0 f1)
  have F1 := Lib.hid f1
  clear f1
  go_wp2_with fail
  refine (s1.out _).mono ?_; rintro e w2 ⟨v, rfl, o2, f2⟩
  have F2 := Lib.hid (F1.out.trans f2)
  have E2 := Lib.hid (E1.out.keep0 f2)
  have i2 := Lib.hid (o2.is (A := fun _ => False) (by simp))
  clear f2 o2
  go_wp2_with fail
  refine (s2.out _).mono ?_; rintro e w3 ⟨u, rfl, o3, f3⟩
  have F3 := Lib.hid (F2.out.trans f3)
  have E3 := Lib.hid (E2.out.keep0 f3)
  have i2' := Lib.hid (i2.out.keep0 f3)
  have i3 := Lib.hid (o3.is (A := fun _ => False) (by simp))
  clear f3 o3 i2
  go_wp2_with fail
  refine (s3.out _ E3.out).mono ?_; rintro e w4 ⟨g, i, k, hg, rfl, f4⟩
  have F4 := Lib.hid (F3.out.trans f4)
  have E4 := Lib.hid (E3.out.keep0 f4)
  have i2 := Lib.hid (i2'.out.keep0 f4)
  have i3' := Lib.hid (i3.out.keep0 f4)
  have HG := Lib.hid hg
  clear f4 i2' i3 hg
  go_wp2_with fail
  refine (num_nil _).mono ?_; rintro e w5 ⟨rfl, f5⟩
  have F5 := Lib.hid (F4.out.trans f5)
  have E5 := Lib.hid (E4.out.keep0 f5)
  have i2' := Lib.hid (i2.out.keep0 f5)
  have i3 := Lib.hid (i3'.out.keep0 f5)
  clear f5 i2 i3'
  go_wp2_with fail
  refine (sameInts_any (fun _ => False) _ _ _ sh sh i2'.out i3.out).mono ?_; rintro e w6 ⟨rfl, f6⟩
  have F6 := Lib.hid (F5.out.trans f6)
  have E6 := Lib.hid (E5.out.keep0 f6)
  have i4 := i3.out.keep0 f6
  have E6 := Lib.hid (E5.out.keep0 f6)
  clear f6 i2' i3
  have hb : (sh == sh) = true := by simp
  obtain ⟨a, ca, rfl, h1, h3, ha⟩ := i4.shape
  clear i4
  unfold maxLen at h3
  have hneg : Hid (place < 0 → g = 0 ∧ i = 0 ∧ k = 1) := fun h => by
    have := HG.out
    unfold grp at this
    rw [if_pos h] at this
    simp only [Prod.mk.injEq] at this
    omega
  have hst : Hid (0 ≤ place → sumT (sh.take 0) ≤ place ∧ grpF (sh.drop 0) (0 : Nat) (place - sumT (sh.take 0)) = (g, i, k)) := fun h => by
    have := HG.out
    unfold grp at this
    rw [if_neg (by omega)] at this
    have e : sumT (sh.take 0) = 0 := by rw [List.take_zero]; rfl
    rw [e, Int.sub_zero, List.drop_zero]
    exact ⟨h, this⟩
  clear HG
  go_wp2
  go_loop [12, 60] (fun t n => ∃ j : Nat, j ≤ sh.length ∧ n = .int .i64 j ∧ t = .int .i64 (sumT (sh.take j)) ∧ Hid (0 ≤ place → sumT (sh.take j) ≤ place ∧ grpF (sh.drop j) j (place - sumT (sh.take j)) = (g, i, k))) (fun _ n => 2 - (intOf n).toNat)
  case atStart => exact ⟨0, Nat.zero_le _, rfl, by rw [List.take_zero]; rfl, hst.out⟩
  case round =>
    obtain ⟨j, hj, rfl, rfl, hgr⟩ := hrel
    have hbd := sumT_bd sh hsh.out j hj
    by_cases hjn : j < sh.length
    · obtain ⟨b1, o1, rfl, -, hcc⟩ := ha (by omega)
      have g1 := hcc j hjn
      have hx := hsh.out.at_ j hjn
      have hs' := sumT_take sh j hjn
      have hstep : Hid (0 ≤ place → sumT (sh.take j) ≤ place ∧ (if place - sumT (sh.take j) < sh.getD j 0 + 32 then ((j : Int), place - sumT (sh.take j), 0) else grpF (sh.drop (j + 1)) (j + 1) (place - sumT (sh.take j) - (sh.getD j 0 + 32))) = (g, i, k)) := fun h => by
        have := hgr.out h
        rw [grpF_at sh j j _ hjn] at this
        exact this
      obtain ⟨x, HX⟩ : ∃ x, Hid (sh.getD j 0 = x) := ⟨_, rfl⟩
      rw [HX.out] at g1 hx hs' hstep
      obtain ⟨y, HY⟩ : ∃ y, Hid (sumT (sh.take j) = y) := ⟨_, rfl⟩
      rw [HY.out] at hbd hs' hstep ⊢
      have HS := Lib.hid hs'
      clear hcc hs' ha hgr HX HY hst
      by_cases hin : y ≤ place ∧ place < y + x + 32
      · have hr := hstep.out (by omega)
        rw [if_pos (by omega)] at hr
        simp only [Prod.mk.injEq] at hr
        obtain ⟨-, rfl, rfl, rfl⟩ := hr
        have he := errv_zero E
        have hb1 : ((j : Int) == (j : Int)) = true := by simp
        have hb2 : (place - y == place - y) = true := by simp
        go_wp2
        go_ret
        exact ⟨rfl, F6.out⟩
      · have hnext : Hid (0 ≤ place → sumT (sh.take (j + 1)) ≤ place ∧ grpF (sh.drop (j + 1)) ((j + 1 : Nat) : Int) (place - sumT (sh.take (j + 1))) = (g, i, k)) := fun h => by
          have hr := hstep.out h
          rw [if_neg (by omega)] at hr
          rw [HS.out]
          refine ⟨by omega, ?_⟩
          have e : place - (y + (x + 32)) = place - y - (x + 32) := by omega
          rw [e]
          exact hr.2
        clear hstep
        by_cases hge : y ≤ place
        all_goals
          go_wp2
          go_round
          case rel => exact ⟨j + 1, by omega, by go_num, by rw [HS.out], hnext.out⟩
          case measure => simp [intOf]; omega
    · obtain rfl : j = sh.length := by omega
      have hend : g = 0 ∧ i = 0 ∧ k = 1 := by
        by_cases h : place < 0
        · exact hneg.out h
        · have := (hgr.out (by omega)).2
          rw [List.drop_length] at this
          simp only [grpF, Prod.mk.injEq] at this
          omega
      obtain ⟨rfl, rfl, rfl⟩ := hend
      have he := Lib.hid (List.take_of_length_le (Nat.le_refl sh.length))
      rw [he.out] at hbd ⊢
      have hnum := Lib.hid (num_any E B 1 _ E6.out (by decide))
      clear hgr hst ha
      go_wp2_with fail
      refine hnum.out.mono ?_; rintro e w7 ⟨rfl, f7⟩
      have F7 := Lib.hid (F6.out.trans f7)
      clear f7
      go_wp2
      go_ret
      exact ⟨rfl, F7.out⟩
end Go.Proofs.YtbohmnblegljkaaDoor
