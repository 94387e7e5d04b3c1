/-
  The document's layer 3: baileeref03.Generator.
-/
import Derived.Test.YtenjpnhccnmnpaaDoorRpm
import Derived.Test.YtenjpnhccnmnpaaDoorGC
import Derived.Test.YtenjpnhccnmnpaaDoorPad
namespace Go.Proofs.YtenjpnhccnmnpaaDoor
open Go.RowKit Go.Bl
set_option linter.unusedVariables false

theorem made_u8 (n : Nat) : madeCells #[.int .u8 0] n = ((List.replicate n (0 : UInt8)).map u8v).toArray := by
  apply Array.ext
  · simp [madeCells]
  · intro i h1 h2
    simp [madeCells, u8v, Nat.mod_one]

set_option maxRecDepth 100000 in
set_option maxHeartbeats 4000000 in
theorem rgen_any (w : World) : Calls Tryd.prog 29 #[] w fun e w' => ∃ b, e = .returned (.slice (some ⟨b, 0, none⟩) 33 33) ∧ w.heap.size ≤ b ∧ At w' b (.cells (genL.map u8v).toArray 5) ∧ Fr [] w w' := by
  obtain ⟨i0, hi, hz, hsz, hby⟩ := info_bytes Tryd.infoByte
  go_enter Tryd.func29, Tryd.ntmps29
  go_wp2
  go_loopw [1, 2, 3] (fun g r i wr => ∃ (j b n : Nat), j ≤ 32 ∧ n = j + 1 ∧ i = .int .i64 j ∧ g = .slice (some ⟨b, 0, none⟩) n n ∧ r = .int .u8 ((gref j).2.toNat : Int) ∧ w.heap.size ≤ b ∧ Hid (At wr b (.cells ((gref j).1.map u8v).toArray 5)) ∧ Hid (Fr [] w wr)) (fun _ _ i _ => 32 - (intOf i).toNat)
  case atStart => exact ⟨0, w.heap.size, 1, by omega, rfl, rfl, rfl, rfl, Nat.le_refl _, Lib.hid (At.new rfl), Lib.hid (Fr.alloc _ _)⟩
  case round =>
    obtain ⟨j, b, n, hj, hn, rfl, rfl, rfl, hwb, HA, HF⟩ := hrel
    have hn3 : n ≤ 33 := by omega
    have HN0 := Lib.hid hn
    clear hn
    by_cases hjn : j < 32
    · have HGL := Lib.hid (gref_len j)
      have HN1 := Lib.hid (show (gref (j + 1)).1 = grRow (gref j).2 (gref j).1 0 (List.replicate (n + 1) 0) by
        show grRow _ _ 0 (List.replicate ((gref j).1.length + 1) 0) = _
        rw [gref_len j, ← HN0.out])
      have HN2 := Lib.hid (show (gref (j + 1)).2 = gmul (gref j).2 2 from rfl)
      rw [← HN0.out] at HGL
      obtain ⟨G, hG⟩ : ∃ G, (gref j).1 = G := ⟨_, rfl⟩
      obtain ⟨R, hR⟩ : ∃ R, (gref j).2 = R := ⟨_, rfl⟩
      rw [hG] at HGL HN1 HA
      rw [hR] at HN1 HN2 ⊢
      clear hG hR
      go_wp2_with (refine wpList_make_row _ rfl (.tmp 14) (.tmp 14) 22 rfl 5 i0 (.int .u8 0) Tryd.underlying22 hi hz hsz rfl .i64 .i64 (n + 1) (by show Value.int .i64 _ = _; simp) (by show Value.int .i64 _ = _; simp) (by rw [hby]; omega) (by omega) ?_)
      have HX := Lib.hid (show At (wr.alloc (.cells (madeCells #[.int .u8 0] (n + 1)) 5)) wr.heap.size (.cells ((grRow R (G.take 0) 0 (List.replicate (n + 1) 0)).map u8v).toArray 5) by rw [made_u8]; exact At.new rfl)
      have HA2 := Lib.hid (HA.out.al (o' := .cells (madeCells #[.int .u8 0] (n + 1)) 5))
      have HF2 := Lib.hid (show Fr [] w (wr.alloc (.cells (madeCells #[.int .u8 0] (n + 1)) 5)) from Fr.al HF.out)
      have hbl := HA.out.lt
      obtain ⟨w2, hw2⟩ : ∃ w2, wr.alloc (.cells (madeCells #[.int .u8 0] (n + 1)) 5) = w2 := ⟨_, rfl⟩
      rw [hw2] at HX HA2 HF2 ⊢
      obtain ⟨g, hg⟩ : ∃ g, wr.heap.size = g := ⟨_, rfl⟩
      rw [hg] at HX hbl ⊢
      have hgw : w.heap.size ≤ g := by omega
      clear hw2 hg HA HF
      have hgb : b ≠ g := by omega
      go_wp2
      go_loopw [18] (fun i wr => ∃ k : Nat, k ≤ n ∧ i = .int .i64 k ∧ Hid (At wr g (.cells ((grRow R (G.take k) 0 (List.replicate (n + 1) 0)).map u8v).toArray 5)) ∧ Hid (At wr b (.cells (G.map u8v).toArray 5)) ∧ Hid (Fr [] w wr)) (fun i _ => n - (intOf i).toNat)
      case atStart => exact ⟨0, by omega, rfl, HX, HA2, HF2⟩
      case round =>
        clear HX HA2 HF2
        obtain ⟨k, hk, rfl, HX, HA, HF⟩ := hrel
        by_cases hkn : k < n
        · obtain ⟨c, hc⟩ : ∃ c, G[k]? = some c := ⟨_, List.getElem?_eq_getElem (by have := HGL.out; omega)⟩
          have hcc : wr.cell? ⟨b, k, none⟩ = some (.int .u8 (c.toNat : Int)) := by
            rw [byte_cell HA.out (by have := HGL.out; omega), List.getD_eq_getElem?_getD, hc]; rfl
          have HT := Lib.hid (grRow_take R G k 0 c (List.replicate (n + 1) 0) hc)
          have HL2 := Lib.hid (show (grRow R (G.take k) 0 (List.replicate (n + 1) 0)).length = n + 1 by rw [grRow_len, List.length_replicate])
          obtain ⟨cur, hcur⟩ : ∃ cur, grRow R (G.take k) 0 (List.replicate (n + 1) 0) = cur := ⟨_, rfl⟩
          rw [hcur] at HX HT HL2
          rw [Nat.zero_add] at HT
          clear hc hcur
          go_wp2_with fail
          refine rgen_reg _ _ rfl g (n + 1) k cur c R (by omega) (by omega) HL2.out rfl rfl rfl rfl HX.out _ ?_
          intro b' p h1 h2 h3 hf ha
          obtain ⟨f, hb⟩ := putsX b' _ _ h1 h2 h3
          have HF2 := Lib.hid (HF.out.then hf (by intro b hb; simp at hb; omega))
          have HA2 := Lib.hid (HA.out.keep hf (by simpa using hgb))
          have HL3 := Lib.hid (show (updX cur k (gmul c R)).length = n + 1 by rw [updX_len, HL2.out])
          obtain ⟨cu2, hcu⟩ : ∃ cu2, updX cur k (gmul c R) = cu2 := ⟨_, rfl⟩
          rw [hcu] at HT HL3 ha
          have HX2 := Lib.hid ha
          obtain ⟨d, hd⟩ : ∃ d, cu2.getD (k + 1) 0 = d := ⟨_, rfl⟩
          have hce := byte_cell ha (i := k + 1) (by have := HL3.out; omega)
          rw [hd] at hce
          have hxu := u8_xor_u d c
          obtain ⟨z, hz2⟩ : ∃ z, d ^^^ c = z := ⟨_, rfl⟩
          rw [hz2] at hxu
          have HXU := Lib.hid hxu
          have HZ := Lib.hid (show cu2.getD (k + 1) 0 ^^^ c = z by rw [hd, hz2])
          clear hd hxu hz2
          clear h1 h2 h3 hf ha HX HA HF hcc hcu HL2
          subst hb
          simp only [List.foldl_cons, List.foldl_nil, Go.Act.put, List.setIfInBounds_toArray, List.set_cons_succ, List.set_cons_zero]
          go_wp2_with (refine wpl_store_one (.tmp 44) (.tmp 43) rfl rfl (.int .u8 (z.toNat : Int)) rfl (by show Value.int .u8 _ = _; rw [HXU.out]) HX2.out (by simp [HL3.out]; omega) (by kernel_rfl) rfl ?_)
          intro w3 f3 a3 _
          have HX3 := Lib.hid (show At w3 g (.cells ((grRow R (G.take (k + 1)) 0 (List.replicate (n + 1) 0)).map u8v).toArray 5) by
            rw [HT.out]
            unfold updX
            rw [HZ.out, List.map_set]
            simpa [u8v] using a3)
          have HF3 := Lib.hid (HF2.out.then f3 (by intro b hb; simp at hb; omega))
          have HA3 := Lib.hid (HA2.out.keep f3 (by simpa using hgb))
          clear f3 a3 HX2 HF2 HA2 hce HT HL3
          go_wp2
          go_roundw
          case rel => exact ⟨k + 1, by omega, by go_num, HX3, HA3, HF3⟩
          case measure => simp [intOf]; omega
        · obtain rfl : k = n := by omega
          have HX2 := Lib.hid (show At wr g (.cells ((gref (j + 1)).1.map u8v).toArray 5) by
            have h := HX.out
            rw [List.take_of_length_le (by have := HGL.out; omega)] at h
            rw [HN1.out]; exact h)
          clear HX HN1
          go_wp2_with fail
          refine (rmul_any wr R 2).mono ?_
          rintro e w3 ⟨rfl, hf⟩
          have HX3 := Lib.hid (HX2.out.keep0 hf)
          have HF3 := Lib.hid (HF.out.trans hf)
          clear hf HX2 HF HA
          unfold u8v
          go_wp2
          go_roundw
          case rel => exact ⟨j + 1, g, k + 1, by omega, by have := HN0.out; omega, by go_num, rfl, by rw [HN2.out], hgw, HX3, HF3⟩
          case measure => simp [intOf]; omega
    · obtain rfl : j = 32 := by omega
      have hn := HN0.out
      subst hn
      clear HN0
      have HA2 := Lib.hid (show At wr b (.cells (genL.map u8v).toArray 5) by rw [← gref_gen]; exact HA.out)
      clear HA
      go_wp2
      go_ret
      exact ⟨b, rfl, hwb, HA2.out, HF.out⟩
end Go.Proofs.YtenjpnhccnmnpaaDoor
