/-
  The law StripeBack, walked.
-/
import Derived.Test.YtmohiblgfmdkjaaDoorKA
import Derived.Test.YtmohiblgfmdkjaaDoorKF
import Derived.Test.YtmohiblgfmdkjaaDoorJK
import Derived.Test.YtmohiblgfmdkjaaDoorJH
import Derived.Test.YtmohiblgfmdkjaaDoorStr
import Derived.Test.YtmohiblgfmdkjaaDoorJP
import Derived.OwnWalk
namespace Go.Proofs.YtmohiblgfmdkjaaDoor
open Go.RowKit Go.Bl
set_option linter.unusedVariables false
theorem blkGo_eight : ∀ (sh : List Nat) (data : List (List UInt8)), (∀ b ∈ data, b.length = 8) → ∀ b ∈ blkGo data sh, b.length = 8
  | [], data, h, b, hb => by simp [blkGo] at hb
  | k :: sh, data, h, b, hb => by
    simp only [blkGo, grpB, List.mem_append] at hb
    rcases hb with (hb | hb) | hb
    · exact h b (List.mem_of_mem_take hb)
    · exact parB_eight _ b hb
    · exact blkGo_eight sh _ (fun x hx => h x (List.mem_of_mem_drop hx)) b hb
theorem blocks_eight (xs : List UInt8) : ∀ b ∈ blocksL xs, b.length = 8 := blkGo_eight _ _ (dataL_eight xs)
theorem blocks_off {xs : List UInt8} (hl : xs.length ≤ 2000) : offN (shZ (xs.length : Int)) (shZ (xs.length : Int)).length = (blocksL xs).length :=
  (bk_all hl (BentI.start (sh := shZ (xs.length : Int)) (blocks_eight xs)) (fun g v h => by
    rw [List.getElem?_replicate] at h
    split at h
    · cases h; omega
    · cases h)).1
/-- what a bent file is rebuilt to -/
theorem back_any (E : Nat → Addr) (B : Nat) (w : World) (u : Value) (ls : List (Value × List UInt8)) (out : List (List UInt8)) (xs : List UInt8) (seen : List Bool) (load gs hs : List Nat) (hE : Errs all20 E B w) (hr : RdB (fun _ => False) w u ls) (hls : ls.map (·.2) = out) (hl : xs.length ≤ 2000) (hB : BentI (blocksL xs) out (shZ (xs.length : Int)) seen load gs hs) (h32 : ∀ g v : Nat, load[g]? = some v → v ≤ 32) :
    Calls Tryd.prog 9 #[u, .int .i64 (xs.length : Int)] w fun e w' => ∃ fv ev nv, e = .returned (.tuple #[.agg #[fv, ev, nv], .nilIface]) ∧ Bs (fun _ => False) w' fv xs ∧ (∃ a n c, ev = .slice a n c) ∧ (∃ a n c, nv = .slice a n c) ∧ Fr [] w w' := by
  obtain ⟨h1, h2, h3⟩ := bk_all hl hB h32
  have hz := bk_zero xs
  refine (rebuild_go E B w u ls out (xs.length : Int) hE hr hls (by omega) (by omega) h1).mono ?_
  have hbad : rebBad out (xs.length : Int) = 0 := rebBad_0 (by omega) h1 ⟨h2, by rw [h3, Int.toNat_natCast]; exact hz.1⟩
  rintro e w' ⟨⟨K, -, k1, k2⟩ | ⟨-, fv, ev, nv, rfl, k1, k2, k3⟩, hf⟩
  · exact absurd (k1.symm.trans hbad) k2
  · rw [h3, Int.toNat_natCast, hz.2] at k1
    obtain ⟨ea, ec, e1, -⟩ := (k2.is (A := fun _ => False) (by simp)).shape
    obtain ⟨na, nc, e2, -⟩ := (k3.is (A := fun _ => False) (by simp)).shape
    exact ⟨fv, ev, nv, rfl, k1.bs (by simp), ⟨_, _, _, e1⟩, ⟨_, _, _, e2⟩, hf⟩
set_option maxRecDepth 1000000 in
set_option maxHeartbeats 8000000 in
theorem sbb_go (E : Nat → Addr) (B : Nat) (w : World) (v0 hv : Value) (xs : List UInt8) (l : List HitP) (hE : Errs all20 E B w) (hb : Bs (fun _ => False) w v0 xs) (hH : RdH w hv l) (hl : xs.length ≤ 2000) (hM : l.length ≤ 80) :
    Calls Tryd.prog 3 #[v0, hv] w fun e w' => e = .returned (.bool true) ∧ Fr [] w w' := by
  have HB := Lib.hid hb
  have HH := Lib.hid hH
  have HE := Lib.hid hE
  have HAL := Lib.hid (alive06_any w)
  have HBL := Lib.hid (fun w' (h : Fr [] w w') => blocks_any w' v0 xs (hb.keep h (by simp)) hl)
  have HBN := Lib.hid (fun w' (h : Fr [] w w') u ls hr hls => bent_any w' u hv ls (blocksL xs) (xs.length : Int) l hr hls (blocks_eight xs) (by omega) (by omega) (blocks_off hl) (hH.keep h) hM)
  have HRB := Lib.hid (fun w' (h : Fr [] w w') u ls out seen load gs hs hr hls hB h32 => back_any E B w' u ls out xs seen load gs hs (hE.keep0 h) hr hls hl hB h32)
  obtain ⟨S, hS⟩ : ∃ S, (⟨xs.toArray⟩ : ByteArray) = S := ⟨_, rfl⟩
  have HS := Lib.hid hS
  have q0 : (S.toList == S.toList) = true := by simp
  obtain ⟨N, hN⟩ : ∃ N, xs.length = N := ⟨_, rfl⟩
  have HN := Lib.hid hN
  rw [hN] at HBN HRB hl
  obtain ⟨xa, xc, e, x2, x3, -⟩ := id hb
  subst e
  obtain ⟨ha, hc, e, d2, d3, -⟩ := id hH
  subst e
  obtain ⟨M, hMM⟩ : ∃ n, l.length = n := ⟨_, rfl⟩
  rw [hMM] at hM d2 HBN ⊢
  rw [hN] at x2 HB HBL ⊢
  unfold maxLen at x3 d3
  have hni : ¬ (2000 : Int) < N := by omega
  have hmi : ¬ (80 : Int) < M := by omega
  clear hE hb hH hS hN hMM HH
  go_enter Tryd.func3, Tryd.ntmps3
  go_wp2_with (go_at_call 6; fail)
  refine HAL.out.mono ?_
  rintro e w1 ⟨rfl, hf⟩
  have HF1 := Lib.hid hf
  clear hf HAL
  go_wp2_with (go_at_call 7; fail)
  refine (HBL.out w1 HF1.out).mono ?_
  rintro e w2 ⟨u, ls, rfl, ho, ht, hm, hf⟩
  have HF2 := Lib.hid (HF1.out.trans hf)
  have HR2 := Lib.hid (show RdB (fun _ => False) w2 u ls from ⟨OwnV.vs ho (by simp), fun x hx => (ht x hx).bs (by simp)⟩)
  have HM2 := Lib.hid hm
  clear ho ht hm hf HBL
  go_wp2_with (go_at_call 8; fail)
  refine (HBN.out w2 HF2.out u ls HR2.out HM2.out).mono ?_
  rintro e w3 ⟨Z, u3, vs, out, seen, load, gs, hs, ok, rfl, ho, hbr, hbi, hok, hf⟩
  have HF3 := Lib.hid (HF2.out.trans hf)
  obtain ⟨ls3, hr3, hm3, -⟩ := hbr.rdb ho
  have HR3 := Lib.hid hr3
  have HM3 := Lib.hid hm3
  have HBI := Lib.hid hbi
  have HOK := Lib.hid hok
  clear ho hbr hbi hok hf hr3 hm3 HBN HR2 HM2
  cases ok with
  | false =>
    go_wp2
    go_ret
    exact ⟨rfl, HF3.out⟩
  | true =>
    go_wp2_with (go_at_call 9; fail)
    refine (HRB.out w3 HF3.out u3 ls3 out seen load gs hs HR3.out HM3.out HBI.out (HOK.out (by trivial))).mono ?_
    rintro e w4 ⟨fv, ev, nv, rfl, hb4, ⟨ea, en, ec, rfl⟩, ⟨na, nn, nc, rfl⟩, hf⟩
    obtain ⟨fa, fc, e, f2, f3, -⟩ := id hb4
    subst e
    have fal : Fr [] w4 (w4.alloc (.cells #[.slice fa xs.length fc, .slice ea en ec, .slice na nn nc] 34)) := Fr.alloc _ _
    have HX5 := Lib.hid (show At (w4.alloc (.cells #[.slice fa xs.length fc, .slice ea en ec, .slice na nn nc] 34)) w4.heap.size (.cells #[.slice fa xs.length fc, .slice ea en ec, .slice na nn nc] 34) from At.new rfl)
    have HU5 := Lib.hid (hb4.keep fal (by simp))
    have HF5 := Lib.hid ((HF3.out.trans hf).trans fal)
    have HB5 := Lib.hid (HB.out.keep HF5.out (by simp))
    rw [HN.out] at HX5 HU5 HF5 HB5 f2
    unfold maxLen at f3
    have hc0 := HX5.out.cell 0
    simp only [List.getElem?_toArray, List.getElem?_cons_zero] at hc0
    rw [HN.out]
    clear hb4 hf fal HRB HF1 HF2 HF3 HR3 HM3 HBI HOK
    go_wp2_with (first | (refine wpl_store_new (.tmp 9) (.tmp 42) rfl rfl #[.slice fa N fc, .slice ea en ec, .slice na nn nc] rfl rfl (by kernel_rfl) rfl (by rfl) ?_) | (refine wpl_strH (src := 22) (dst := 9) Tryd.underlying22 Tryd.underlying5 Tryd.underlying9 (.tmp 48) rfl rfl rfl HU5.out S HS.out ?_) | (refine wpl_strH (src := 22) (dst := 9) Tryd.underlying22 Tryd.underlying5 Tryd.underlying9 (.tmp 50) rfl rfl rfl HB5.out S HS.out ?_))
    go_ret
    exact ⟨rfl, HF5.out⟩
set_option maxRecDepth 1000000 in
set_option maxHeartbeats 8000000 in
theorem sbb_any (E : Nat → Addr) (B : Nat) (w : World) (v0 hv : Value) (xs : List UInt8) (l : List HitP) (hE : Errs all20 E B w) (hb : Bs (fun _ => False) w v0 xs) (hH : RdH w hv l) :
    Calls Tryd.prog 3 #[v0, hv] w fun e w' => e = .returned (.bool true) ∧ Fr [] w w' := by
  by_cases hgo : xs.length ≤ 2000 ∧ l.length ≤ 80
  · exact sbb_go E B w v0 hv xs l hE hb hH hgo.1 hgo.2
  have HAL := Lib.hid (alive06_any w)
  obtain ⟨xa, xc, e, x2, x3, -⟩ := id hb
  subst e
  obtain ⟨ha, hc, e, d2, d3, -⟩ := id hH
  subst e
  obtain ⟨N, hN⟩ : ∃ N, xs.length = N := ⟨_, rfl⟩
  obtain ⟨M, hMM⟩ : ∃ n, l.length = n := ⟨_, rfl⟩
  rw [hMM] at hgo d2 ⊢
  rw [hN] at hgo x2 ⊢
  unfold maxLen at x3 d3
  clear hE hb hH hN hMM
  by_cases h1 : 2000 < N
  · have hni : (2000 : Int) < N := by omega
    go_enter Tryd.func3, Tryd.ntmps3
    go_wp2_with (go_at_call 6; fail)
    refine HAL.out.mono ?_
    rintro e w1 ⟨rfl, hf⟩
    have HF1 := Lib.hid hf
    clear hf HAL
    go_wp2
    go_ret
    exact ⟨rfl, HF1.out⟩
  · have hni : ¬ (2000 : Int) < N := by omega
    have hmi : (80 : Int) < M := by omega
    go_enter Tryd.func3, Tryd.ntmps3
    go_wp2_with (go_at_call 6; fail)
    refine HAL.out.mono ?_
    rintro e w1 ⟨rfl, hf⟩
    have HF1 := Lib.hid hf
    clear hf HAL
    go_wp2
    go_ret
    exact ⟨rfl, HF1.out⟩
end Go.Proofs.YtmohiblgfmdkjaaDoor
