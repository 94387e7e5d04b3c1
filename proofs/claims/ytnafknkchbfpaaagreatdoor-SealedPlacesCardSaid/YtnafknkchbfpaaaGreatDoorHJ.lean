import Derived.Test.YtnafknkchbfpaaaGreatDoorHH
import Derived.Test.YtnafknkchbfpaaaGreatDoorGT
import Derived.Test.YtnafknkchbfpaaaGreatDoorHI
import Derived.Outline
import Derived.Maps.RangeWalk
import Derived.Deep.OwnRows
set_option maxRecDepth 1000000
set_option maxHeartbeats 8000000
namespace Go.Proofs.YtnafknkchbfpaaaGreatDoor
open Go.RowKit Go.Bl
set_option linter.unusedVariables false
def rowN (n : Int) (t : Nat) : List UInt8 := List.replicate (8 - t) 0 ++ (beK 8 n).drop (8 - t)
theorem rowN_len (n : Int) (t : Nat) (h : t <= 8) : (rowN n t).length = 8 := by
 rw [rowN, List.length_append, List.length_replicate, List.length_drop, beK_len]; omega
theorem rowN_set (n : Int) (t : Nat) (h : t < 8) : (rowN n t).set (7 - t) (b8 (n / (256 ^ t : Nat))) = rowN n (t + 1) := by
 have : t = 0 ∨ t = 1 ∨ t = 2 ∨ t = 3 ∨ t = 4 ∨ t = 5 ∨ t = 6 ∨ t = 7 := by omega
 rcases this with rfl | rfl | rfl | rfl | rfl | rfl | rfl | rfl <;> rfl
theorem rnum_any (w : World) (n : Int) :
  Calls Tryz.prog 62 #[.int .i64 n] w fun e w' => ∃ u, e = .returned u /\ OwnB 5 w.heap.size w' u (beK 8 n) /\ Fr [] w w' := by
 obtain ⟨X, hX⟩ := exq (n % 18446744073709551616)
 have hXb : 0 <= X /\ X < 18446744073709551616 := by omega
 have HX := Hdq hX
 have hcv : IntKind.u64.wrap n = X := by rw [<- hX]; simp [IntKind.wrap, IntKind.signed, IntKind.bits]
 go_enter Tryz.func62, Tryz.ntmps62
 go_wp2_with (refine wpl_mk Tryz.underlying22 Tryz.infoByte rfl rfl (.const (.int .i64 8)) rfl 8 rfl (by decide) (by decide) ?_)
 go_loopw [4, 5] (fun v i wr => ∃ t : Nat, t <= 8 /\ i = .int .i64 (7 - (t : Int)) /\ v = .int .u64 (X / (256 ^ t : Nat)) /\ Hid (At wr w.heap.size (.cells ((rowN n t).map u8v).toArray 5)) /\ Hid (Fr [] w wr)) (fun _ i _ => (intOf i + 1).toNat)
 case atStart => exact ⟨0, by omega, rfl, by simp, Hdq (by rw [show ((rowN n 0).map u8v).toArray = madeCells #[.int .u8 0] 8 by rw [made_one]; rfl]; exact At.new rfl), Hdq (Fr.alloc _ _)⟩
 case round =>
  obtain ⟨t, ht, rfl, rfl, HA, HF⟩ := hrel
  by_cases h8 : t < 8
  ·obtain ⟨V, hV⟩ := exq (X / (256 ^ t : Nat))
   have hp : (0 : Int) < ((256 ^ t : Nat) : Int) := by exact_mod_cast Nat.pow_pos (by decide)
   have hV0 : 0 <= V := by rw [<- hV]; exact Int.ediv_nonneg hXb.1 (Int.le_of_lt hp)
   have hV1 : V < 18446744073709551616 := by rw [<- hV]; exact Int.lt_of_le_of_lt (Int.ediv_le_self _ hXb.1) hXb.2
   obtain ⟨c, hc⟩ := exq (b8 (n / (256 ^ t : Nat)))
   have hvc : V % 256 = (c.toNat : Int) := by rw [<- hc, b8_mod, <- hV, <- HX.out]; exact u64_quo n t (by omega)
   obtain ⟨q, hq⟩ : ∃ q : Nat, 7 - t = q := ⟨_, rfl⟩
   have hqi : (7 : Int) - (t : Int) = (q : Int) := by omega
   have hsz : ((rowN n t).map u8v).toArray.size = 8 := by rw [List.size_toArray, List.length_map, rowN_len n t ht]
   have hq8 : q < 8 := by omega
   have HS := Hdq hsz
   have HC := Hdq (show ((rowN n t).map u8v).toArray.setIfInBounds q (u8v c) = ((rowN n (t + 1)).map u8v).toArray by rw [<- rowN_set n t h8, hc, hq, List.map_set, List.setIfInBounds_toArray])
   have HVV := Hdq hV
   rw [hV, hqi]
   clear hV hc hp hq hsz
   go_wp2_with (refine wpl_store_one (.tmp 18) (.tmp 17) rfl rfl (u8v c) rfl rfl HA.out (by rw [HS.out]; exact hq8) (by kernel_rfl) rfl ?_)
   intro w7 f7 a7 s7
   have HA7 := Hdq (show At w7 w.heap.size (.cells ((rowN n (t + 1)).map u8v).toArray 5) by
    have h := HC.out
    rw [List.setIfInBounds_toArray] at h
    rw [<- h]
    exact a7)
   have HF7 := Hdq (HF.out.then f7 (fun z hz => .inr (by simp at hz; omega)))
   clear f7 a7 s7 HA HF HC HS
   go_wp2
   go_roundw
   case rel => exact ⟨t + 1, by omega, by first | (simp; omega) | (congr 1; omega), by first | (rw [<- quo_step, HVV.out]) | (simp [<- quo_step, HVV.out]), HA7, HF7⟩
   case measure => simp [intOf] <;> omega
  ·obtain rfl : t = 8 := by omega
   go_wp2
   go_ret
   refine ⟨_, rfl, ?_, HF.out⟩
   have h8 : (beK 8 n).length = 8 := beK_len 8 n
   refine ⟨by simp [h8], .inr ⟨w.heap.size, 8, ((rowN n 8).map u8v).toArray, by rw [h8]; rfl, Nat.le_refl _, HA.out, by omega, by decide, by rw [List.size_toArray, List.length_map, rowN_len n 8 (by omega)], by simp [rowN, h8]; exact List.take_of_length_le (by rw [List.length_map, h8]; exact Nat.le_refl _)⟩⟩
theorem rtag16_any (w0 : World) (kv v : Value) (key xs : List UInt8) (x : Int) (hK : Bs (fun b => w0.heap.size <= b) w0 kv key) (hV : Bs (fun b => w0.heap.size <= b) w0 v xs) (hkl : key.length <= 1000000) (hxl : xs.length <= 1000000) (hR : RG w0) :
  Calls Tryz.prog 17 #[kv, .int .i64 x, v] w0 fun e w' => ∃ u, e = .returned u /\ OwnB 5 w0.heap.size w' u (tgdL key x xs) /\ Fr [] w0 w' := by
 obtain ⟨ka, kc, rfl, -, -, -⟩ := id hK
 obtain ⟨va, vc, rfl, -, -, -⟩ := id hV
 obtain ⟨kn, hkn⟩ := exq (key.length)
 obtain ⟨vn, hvn⟩ := exq (xs.length)
 rw [hkn] at hK ⊢
 rw [hvn] at hV ⊢
 have F1 : Fr [] w0 (w0.alloc (.cells #[] 5)) := Fr.alloc _ _
 have HE := Hdq (OwnB.empty 5 w0.heap.size w0 (Nat.le_refl _))
 have HV1 := Hdq (hV.keep F1 (by simp))
 have HF1 := Hdq F1
 have HK := Hdq (And.intro hK (And.intro hV (And.intro hkl (And.intro hxl hR))))
 clear hK hV hkl hxl hR F1 hkn hvn
 go_enter Tryz.func17, Tryz.ntmps17
 go_wp2_with (at_builtin; refine wpl_append_bs (ys := xs) (base := w0.heap.size) Tryz.underlying22 Tryz.infoByte rfl (.tmp 7) (.tmp 8) rfl rfl rfl HE.out HV1.out (by have := HK.out.2.2.2.1; simp; omega) (by simp) ?_)
 intro v9 w2 g1 g2
 have HO9 := Hdq (show OwnB 5 w0.heap.size w2 v9 xs from g1)
 have HF2 := Hdq (OwnB.fr HE.out HF1.out g2 (Nat.le_refl _))
 obtain ⟨a9, n9, c9, rfl⟩ := ownB_ps g1
 clear g1 g2
 go_wp2_with (go_at_call 62; fail)
 refine (rnum_any w2 x).mono ?_
 rintro e w3 ⟨u, rfl, hu, hf⟩
 obtain ⟨ua, un, uc, rfl⟩ := ownB_ps hu
 have HU := Hdq hu
 have HF3 := Hdq (HF2.out.trans hf)
 have HO93 := Hdq (HO9.out.keep hf (by simp))
 have H9 := Hdq (ownB_hi HO9.out)
 have HV3 := Hdq (HK.out.2.1.mono (A' := fun b => w2.heap.size <= b) HF3.out (by simp) (fun b hb => .inl (Nat.le_trans HF2.out.size hb)))
 have HSZ := Hdq hf.size
 clear hu hf
 go_wp2_with (at_builtin; refine wpl_append_bs (ys := xs) (base := w2.heap.size) Tryz.underlying22 Tryz.infoByte rfl (.tmp 12) (.tmp 13) rfl rfl rfl HU.out HV3.out (by rw [beK_len]; have := HK.out.2.2.2.1; omega) HSZ.out ?_)
 intro v14 w4 g1 g2
 have F4 : Fr (Value.slice ua un uc).ownBlock.toList w3 w4 := Fr.grown g2 (by intro g hg; simp [hg])
 have HO94 := Hdq (show OwnB 5 w0.heap.size w4 (.slice a9 n9 c9) xs from own_keep HO93.out F4 (fun g hg hm => by
  have h1 := H9.out g hg
  have h2 := (HU.out.lt g (by simpa using hm)).1
  omega))
 have HF4 := Hdq (OwnB.fr HU.out HF3.out g2 HF2.out.size)
 have HB4 := Hdq (bs_low (g1.bs (A := fun _ => False) (fun _ h => h.elim)))
 obtain ⟨a4, n4, c4, rfl⟩ := ownB_ps g1
 clear g1 g2 F4
 go_wp2_with (go_at_call 61; fail)
 refine (rmtag_any w4 (.slice ka kn kc) (.slice a4 n4 c4) key (beK 8 x ++ xs) (HK.out.1.mono (A' := fun b => w4.heap.size <= b) HF4.out (by simp) (fun b hb => .inl (Nat.le_trans HF4.out.size hb))) HB4.out (by have := HK.out.2.2.1; omega) (by rw [List.length_append, beK_len]; have := HK.out.2.2.2.1; omega) (HK.out.2.2.2.2.keep HF4.out)).mono ?_
 rintro e w5 ⟨t, rfl, ht, hf⟩
 have HT := Hdq (ht.bs (A := fun _ => False) (fun _ h => h.elim))
 obtain ⟨ta, tn, tc, rfl⟩ := ownB_ps ht
 have HO95 := Hdq (HO94.out.keep hf (by simp))
 have HF5 := Hdq (HF4.out.trans hf)
 clear ht hf
 go_wp2_with (at_builtin; refine wpl_append_bs (ys := tagL key (beK 8 x ++ xs)) (base := w0.heap.size) Tryz.underlying22 Tryz.infoByte rfl (.tmp 9) (.tmp 15) rfl rfl rfl HO95.out HT.out (by rw [tagL_len]; have := HK.out.2.2.2.1; omega) HF5.out.size ?_)
 intro v16 w6 g1 g2
 have HO6 := Hdq (show OwnB 5 w0.heap.size w6 v16 (tgdL key x xs) from g1)
 have HF6 := Hdq (OwnB.fr HO95.out HF5.out g2 (Nat.le_refl _))
 clear g1 g2
 go_wp2
 go_ret
 exact ⟨_, rfl, HO6.out, HF6.out⟩
end Go.Proofs.YtnafknkchbfpaaaGreatDoor
