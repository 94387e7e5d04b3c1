import Derived.Test.YtnafknkchbfpaaaGreatDoorHI
import Derived.Test.YtnafknkchbfpaaaGreatDoorSStr
set_option maxRecDepth 1000000
set_option maxHeartbeats 8000000
namespace Go.Proofs.YtnafknkchbfpaaaGreatDoor
open Go.RowKit Go.Bl
set_option linter.unusedVariables false
def Ji (n : Int) (t : Nat) : List UInt8 := List.replicate (8 - t) 0 ++ (beK 8 n).drop (8 - t)
theorem UM (n : Int) (t : Nat) (h : t <= 8) : (Ji n t).length = 8 := by
 rw [Ji, List.length_append, List.length_replicate, List.length_drop, zf]; omega
theorem L8 (n : Int) (t : Nat) (h : t < 8) : (Ji n t).set (7 - t) (b8 (n / (256 ^ t : Nat))) = Ji n (t + 1) := by
 have : t = 0 ∨ t = 1 ∨ t = 2 ∨ t = 3 ∨ t = 4 ∨ t = 5 ∨ t = 6 ∨ t = 7 := by omega
 rcases this with rfl | rfl | rfl | rfl | rfl | rfl | rfl | rfl <;> rfl
theorem Qm (w : World) (n : Int) :
  Calls Tryz.prog 62 #[.int .i64 n] w fun e w' => ∃ u, e = .returned u /\ qi 5 w.heap.size w' u (beK 8 n) /\ Fr [] w w' := by
 obtain ⟨X, hX⟩ := exq (n % 18446744073709551616)
 have hXb : 0 <= X /\ X < 18446744073709551616 := by omega
 have HX := Hdq hX
 have hcv : IntKind.u64.wrap n = X := by rw [<- hX]; simp [IntKind.wrap, IntKind.signed, IntKind.bits]
 go_enter Tryz.func62, Tryz.ntmps62
 go_wp2_with (refine UH Tryz.underlying22 Tryz.infoByte rfl rfl (.const (.int .i64 8)) rfl 8 rfl qe qe ?_)
 go_loopw [4, 5] (fun v i wr => ∃ t : Nat, t <= 8 /\ i = .int .i64 (7 - (t : Int)) /\ v = .int .u64 (X / (256 ^ t : Nat)) /\ Hid (At wr w.heap.size (.cells ((Ji n t).map u8v).toArray 5)) /\ Hid (Fr [] w wr)) (fun _ i _ => (intOf i + 1).toNat)
 case atStart => exact ⟨0, by omega, rfl, by simp, Hdq (by rw [show ((Ji n 0).map u8v).toArray = madeCells #[.int .u8 0] 8 by rw [Qr]; rfl]; exact At.new rfl), Hdq (Fr.alloc _ _)⟩
 case round =>
  obtain ⟨t, ht, rfl, rfl, HA, HF⟩ := hrel
  by_cases h8 : t < 8
  ·obtain ⟨V, hV⟩ := exq (X / (256 ^ t : Nat))
   have hp : (0 : Int) < ((256 ^ t : Nat) : Int) := by exact_mod_cast Nat.pow_pos qe
   have hV0 : 0 <= V := by rw [<- hV]; exact Int.ediv_nonneg hXb.1 (Int.le_of_lt hp)
   have hV1 : V < 18446744073709551616 := by rw [<- hV]; exact Int.lt_of_le_of_lt (Int.ediv_le_self _ hXb.1) hXb.2
   obtain ⟨c, hc⟩ := exq (b8 (n / (256 ^ t : Nat)))
   have hvc : V % 256 = (c.toNat : Int) := by rw [<- hc, qaB, <- hV, <- HX.out]; exact qcc n t Y95
   obtain ⟨q, hq⟩ : ∃ q : Nat, 7 - t = q := ⟨_, rfl⟩
   have hqi : (7 : Int) - (t : Int) = (q : Int) := by omega
   have hsz : ((Ji n t).map u8v).toArray.size = 8 := by rw [List.size_toArray, List.length_map, UM n t ht]
   have hq8 : q < 8 := by omega
   have HS := Hdq hsz
   have HC := Hdq (show ((Ji n t).map u8v).toArray.setIfInBounds q (u8v c) = ((Ji n (t + 1)).map u8v).toArray by rw [<- L8 n t h8, hc, hq, List.map_set, List.setIfInBounds_toArray])
   have HVV := Hdq hV
   rw [hV, hqi]
   clear hV hc hp hq hsz
   go_wp2_with (refine qj (.tmp 18) (.tmp 17) rfl rfl (u8v c) rfl rfl HA.out (by rw [HS.out]; exact hq8) qf rfl ?_)
   intro w7 f7 a7 s7
   have HA7 := Hdq (show At w7 w.heap.size (.cells ((Ji n (t + 1)).map u8v).toArray 5) by
    have h := HC.out
    rw [List.setIfInBounds_toArray] at h
    rw [<- h]
    exact a7)
   have HF7 := Hdq (HF.out.then f7 (fun z hz => .inr vV))
   clear f7 a7 s7 HA HF HC HS
   go_wp2
   go_roundw
   case rel => exact ⟨t + 1, by omega, by first | (simp; omega) | (congr 1; omega), by first | (rw [<- U1, HVV.out]) | (simp [<- U1, HVV.out]), HA7, HF7⟩
   case measure => simp [intOf] <;> omega
  ·obtain rfl : t = 8 := by omega
   go_wp2
   go_ret
   refine ⟨_, rfl, ?_, HF.out⟩
   have h8 : (beK 8 n).length = 8 := zf 8 n
   refine ⟨by simp [h8], .inr ⟨w.heap.size, 8, ((Ji n 8).map u8v).toArray, by rw [h8]; rfl, Nat.le_refl _, HA.out, by omega, by decide, by rw [List.size_toArray, List.length_map, UM n 8 Y95], by simp [Ji, h8]; exact List.take_of_length_le (by rw [List.length_map, h8]; exact Nat.le_refl _)⟩⟩
theorem WQ (w : World) (size : Int) (h0 : 0 <= size) (h2 : size <= 2000) :
  Calls Tryz.prog 69 #[.int .i64 size] w fun e w' => e = .returned (.tuple #[.int .i64 (xt (qK (z6 size))), .int .i64 0]) /\ Fr [] w w' := by
 have hn := vh size h2
 have hs := Hdq (ZF w size h0 h2)
 have hsh := Hdq (uU _ hn.1 hn.2)
 obtain ⟨sh, HSH⟩ : ∃ sh, Hid (qK (z6 size) = sh) := ⟨_, rfl⟩
 rw [HSH.out] at hs hsh ⊢
 clear HSH hn
 go_enter Tryz.func69, Tryz.ntmps69
 go_wp2_with fail
 refine hs.out.mono ?_; rintro e w1 ⟨v, rfl, ho, hf⟩
 obtain ⟨a, cap, rfl, h3, h4, hc⟩ := (ho.is (A := fun _ => False) qg).shape
 have hl := hsh.out.len
 clear ho
 go_wp2
 go_loop [6, 16] (fun t i => ∃ j : Nat, j <= sh.length /\ i = .int .i64 j /\ t = .int .i64 (xt (sh.take j))) (fun _ i => 2 - (intOf i).toNat)
 case atStart => exact ⟨0, Nat.zero_le _, rfl, by rw [List.take_zero]; rfl⟩
 case round =>
  obtain ⟨j, hj, rfl, rfl⟩ := hrel
  have hbd := Qk sh hsh.out j hj
  by_cases hjn : j < sh.length
  ·obtain ⟨b1, o1, rfl, -, hc1⟩ := hc Y95
   have g1 := hc1 j hjn
   have hx := hsh.out.at_ j hjn
   have hs' := Hdq (vM sh j hjn)
   obtain ⟨x, HX⟩ : ∃ x, Hid (sh.getD j 0 = x) := ⟨_, rfl⟩
   rw [HX.out] at g1 hx hs'
   obtain ⟨y, HY⟩ : ∃ y, Hid (xt (sh.take j) = y) := ⟨_, rfl⟩
   rw [HY.out] at hbd hs' ⊢
   clear hc hc1
   go_wp2
   go_round
   case rel => exact ⟨j + 1, by omega, by go_num, by rw [hs'.out]⟩
   case measure => simp [intOf]; omega
  ·exact Y84
theorem Ym {w : World} {b : Nat} {p : Par} (h : w.heap[b]? = some (.cells #[.int .i64 p.size, .int .i64 p.sent, .int .i64 p.spots, .int .i64 p.per, .int .i64 p.pat, .int .i64 p.ret] 44 (0, 0))) :
  w.cell? ⟨b, 0, none⟩ = some (.int .i64 p.size) /\ w.cell? ⟨b, 1, none⟩ = some (.int .i64 p.sent) /\ w.cell? ⟨b, 2, none⟩ = some (.int .i64 p.spots) /\ w.cell? ⟨b, 3, none⟩ = some (.int .i64 p.per) /\ w.cell? ⟨b, 4, none⟩ = some (.int .i64 p.pat) /\ w.cell? ⟨b, 5, none⟩ = some (.int .i64 p.ret) :=
 ⟨by rw [qE h]; rfl, by rw [qE h]; rfl, by rw [qE h]; rfl, by rw [qE h]; rfl, by rw [qE h]; rfl, by rw [qE h]; rfl⟩
theorem qek (p : Par) (h : ¬ jg p 0) : chk p = 8 := zh p 0 qe (fun i h => by omega) h
theorem qew (p : Par) (h0 : jg p 0) (h : ¬ jg p 1) : chk p = 18 := zh p 1 qe (fun i h => by
 have : i = 0 := by omega
 subst this; exact h0) h
theorem qeq (p : Par) (h0 : jg p 0) (h1 : jg p 1) (h : ¬ (jg p 2 /\ jg p 3 /\ jg p 4 /\ jg p 5)) : chk p = 1 := by
 unfold chk
 rw [if_neg (by simp [h0]), if_neg (by simp [h1]), if_pos]
 by_cases h2 : jg p 2
 ·by_cases h3 : jg p 3
  ·by_cases h4 : jg p 4
   ·by_cases h5 : jg p 5
    ·exact absurd ⟨h2, h3, h4, h5⟩ h
    ·exact .inr (.inr (.inr h5))
   ·exact .inr (.inr (.inl h4))
  ·exact .inr (.inl h3)
 ·exact .inl h2
theorem qee (p : Par) (h0 : jg p 0) (h1 : jg p 1) (h : jg p 2 /\ jg p 3 /\ jg p 4 /\ jg p 5) : chk p = 0 := by
 simp [chk, h0, h1, h.1, h.2.1, h.2.2.1, h.2.2.2]
theorem xh (w : World) (p : Par) :
  Calls Tryz.prog 63 #[.agg #[.int .i64 p.size, .int .i64 p.sent, .int .i64 p.spots, .int .i64 p.per, .int .i64 p.pat, .int .i64 p.ret]] w fun e w' => ∃ s v, e = .returned (.tuple #[s, v, .int .i64 (chk p)]) /\ Fr [] w w' := by
 have h0 : p.size < 0 ∨ (0 <= p.size /\ 2000 < p.size) ∨ (0 <= p.size /\ p.size <= 2000) := by omega
 have h1 : p.sent < 0 ∨ (0 <= p.sent /\ 8 < p.sent) ∨ (0 <= p.sent /\ p.sent <= 8) := by omega
 rcases h0 with h0 | h0 | h0
 ·exact Y45
 ·exact Y45
 ·have g0 : jg p 0 := h0
  rcases h1 with h1 | h1 | h1
  ·exact Y44
  ·exact Y44
  ·have g1 : jg p 1 := h1
   have hto : ∀ w, Calls Tryz.prog 69 #[.int .i64 p.size] w fun e w' => e = .returned (.tuple #[.int .i64 (blk p.size), .int .i64 0]) /\ Fr [] w w' := fun w => WQ w p.size h0.1 h0.2
   have hi2 : jg p 2 ↔ (1 <= p.spots /\ p.spots <= 12 /\ p.spots <= blk p.size + p.sent) := by
    simp only [jg]; omega
   have hnb := vh p.size h0.2
   have hbb := Qk _ (uU _ hnb.1 hnb.2) (qK (z6 p.size)).length (Nat.le_refl _)
   rw [List.take_length, show xt (qK (z6 p.size)) = blk p.size from rfl] at hbb
   have hb2 : (¬ (jg p 2 /\ jg p 3 /\ jg p 4 /\ jg p 5)) -> chk p = 1 := qeq p g0 g1
   have hb3 : (jg p 2 /\ jg p 3 /\ jg p 4 /\ jg p 5) -> chk p = 0 := qee p g0 g1
   obtain ⟨n, hn⟩ := exq (blk p.size)
   rw [hn] at hi2 hbb
   simp only [hn] at hto
   have HTO := Hdq hto
   have HI2 := Hdq hi2
   have HB2 := Hdq hb2
   have HB3 := Hdq hb3
   clear hto hi2 hb2 hb3 hn hnb g0 g1
   have h2 : p.spots < 1 ∨ (1 <= p.spots /\ 12 < p.spots) ∨ (1 <= p.spots /\ p.spots <= 12 /\ n + p.sent < p.spots) ∨ (1 <= p.spots /\ p.spots <= 12 /\ p.spots <= n + p.sent) := by omega
   have h3 : p.per < 1 ∨ (1 <= p.per /\ 10000 < p.per) ∨ (1 <= p.per /\ p.per <= 10000) := by omega
   have h4 : p.pat < 1 ∨ (1 <= p.pat /\ p.per < p.pat) ∨ (1 <= p.pat /\ p.pat <= p.per) := by omega
   have h5 : p.ret < 0 ∨ (0 <= p.ret /\ 5 < p.ret) ∨ (0 <= p.ret /\ p.ret <= 5) := by omega
   go_enter Tryz.func63, Tryz.ntmps63
   go_wp2_with fail
   refine (HTO.out _).mono ?_
   rintro e w1 ⟨rfl, hf⟩
   obtain ⟨k0, k1, k2, k3, k4, k5⟩ := Ym (hf.keep (heap_alloc_new w _) qg)
   have HF := Hdq ((Fr.alloc (S := []) w _).trans hf)
   clear hf
   rcases h2 with h2 | h2 | h2 | h2
   iterate 3
    ·have HB := Hdq (HB2.out (fun h => by have := HI2.out.1 h.1; omega))
     clear h3 h4 h5 HB2 HB3 HI2
     exact Y26
   rcases h3 with h3 | h3 | h3
   iterate 2
    ·have HB := Hdq (HB2.out (fun h => by have : 1 <= p.per /\ p.per <= 10000 := h.2.1; omega))
     clear h4 h5 HB2 HB3 HI2
     exact Y26
   rcases h4 with h4 | h4 | h4
   iterate 2
    ·have HB := Hdq (HB2.out (fun h => by have : 1 <= p.pat /\ p.pat <= p.per := h.2.2.1; omega))
     clear h5 HB2 HB3 HI2
     exact Y26
   rcases h5 with h5 | h5 | h5
   iterate 2
    ·have HB := Hdq (HB2.out (fun h => by have : 0 <= p.ret /\ p.ret <= 5 := h.2.2.2; omega))
     clear HB2 HB3 HI2
     exact Y26
   have HB := Hdq (HB3.out ⟨HI2.out.2 h2, h3, h4, h5⟩)
   clear HB2 HB3 HI2
   go_wp2
   exact bodyPost_ret (results_tmp3 rfl _ _ _) rfl ⟨_, _, by rw [HB.out]; rfl, HF.out⟩
theorem JA (w0 : World) (kv v : Value) (key xs : List UInt8) (x : Int) (hK : Bs (fun b => w0.heap.size <= b) w0 kv key) (hV : Bs (fun b => w0.heap.size <= b) w0 v xs) (hkl : key.length <= 1000000) (hxl : xs.length <= 1000000) (hR : RG w0) :
  Calls Tryz.prog 17 #[kv, .int .i64 x, v] w0 fun e w' => ∃ u, e = .returned u /\ qi 5 w0.heap.size w' u (zk key x xs) /\ Fr [] w0 w' := by
 obtain ⟨ka, kc, rfl, -, -, -⟩ := id hK
 obtain ⟨va, vc, rfl, -, -, -⟩ := id hV
 obtain ⟨kn, hkn⟩ := exq (key.length)
 obtain ⟨vn, hvn⟩ := exq (xs.length)
 rw [hkn] at hK ⊢
 rw [hvn] at hV ⊢
 have F1 : Fr [] w0 (w0.alloc (.cells #[] 5)) := Fr.alloc _ _
 have HE := Hdq (qi.empty 5 w0.heap.size w0 (Nat.le_refl _))
 have HV1 := Hdq (hV.keep F1 qg)
 have HF1 := Hdq F1
 have HK := Hdq (And.intro hK (And.intro hV (And.intro hkl (And.intro hxl hR))))
 clear hK hV hkl hxl hR F1 hkn hvn
 go_enter Tryz.func17, Tryz.ntmps17
 go_wp2_with (at_builtin; refine qh (ys := xs) (base := w0.heap.size) Tryz.underlying22 Tryz.infoByte rfl (.tmp 7) (.tmp 8) rfl rfl rfl HE.out HV1.out (by have := HK.out.2.2.2.1; simp; omega) qg ?_)
 intro v9 w2 g1 g2
 have HO9 := Hdq (show qi 5 w0.heap.size w2 v9 xs from g1)
 have HF2 := Hdq (qi.fr HE.out HF1.out g2 (Nat.le_refl _))
 obtain ⟨a9, n9, c9, rfl⟩ := jh g1
 clear g1 g2
 go_wp2_with (go_at_call 62; fail)
 refine (Qm w2 x).mono ?_
 rintro e w3 ⟨u, rfl, hu, hf⟩
 obtain ⟨ua, un, uc, rfl⟩ := jh hu
 have HU := Hdq hu
 have HF3 := Hdq (HF2.out.trans hf)
 have HO93 := Hdq (HO9.out.keep hf qg)
 have H9 := Hdq (Ul HO9.out)
 have HV3 := Hdq (HK.out.2.1.mono (A' := fun b => w2.heap.size <= b) HF3.out qg (fun b hb => .inl (Nat.le_trans HF2.out.size hb)))
 have HSZ := Hdq hf.size
 clear hu hf
 go_wp2_with (at_builtin; refine qh (ys := xs) (base := w2.heap.size) Tryz.underlying22 Tryz.infoByte rfl (.tmp 12) (.tmp 13) rfl rfl rfl HU.out HV3.out (by rw [zf]; have := HK.out.2.2.2.1; omega) HSZ.out ?_)
 intro v14 w4 g1 g2
 have F4 : Fr (Value.slice ua un uc).ownBlock.toList w3 w4 := Fr.grown g2 Ky
 have HO94 := Hdq (show qi 5 w0.heap.size w4 (.slice a9 n9 c9) xs from j9 HO93.out F4 (fun g hg hm => by
  have h1 := H9.out g hg
  have h2 := (HU.out.lt g vd).1
  omega))
 have HF4 := Hdq (qi.fr HU.out HF3.out g2 HF2.out.size)
 have HB4 := Hdq (jb (g1.bs (A := fun _ => False) (fun _ h => h.elim)))
 obtain ⟨a4, n4, c4, rfl⟩ := jh g1
 clear g1 g2 F4
 go_wp2_with (go_at_call 61; fail)
 refine (Wn w4 (.slice ka kn kc) (.slice a4 n4 c4) key (beK 8 x ++ xs) (HK.out.1.mono (A' := fun b => w4.heap.size <= b) HF4.out qg (fun b hb => .inl (Nat.le_trans HF4.out.size hb))) HB4.out (by have := HK.out.2.2.1; omega) (by rw [List.length_append, zf]; have := HK.out.2.2.2.1; omega) (HK.out.2.2.2.2.keep HF4.out)).mono ?_
 rintro e w5 ⟨t, rfl, ht, hf⟩
 have HT := Hdq (ht.bs (A := fun _ => False) (fun _ h => h.elim))
 obtain ⟨ta, tn, tc, rfl⟩ := jh ht
 have HO95 := Hdq (HO94.out.keep hf qg)
 have HF5 := Hdq (HF4.out.trans hf)
 clear ht hf
 go_wp2_with (at_builtin; refine qh (ys := xm key (beK 8 x ++ xs)) (base := w0.heap.size) Tryz.underlying22 Tryz.infoByte rfl (.tmp 9) (.tmp 15) rfl rfl rfl HO95.out HT.out (by rw [JO]; have := HK.out.2.2.2.1; omega) HF5.out.size ?_)
 intro v16 w6 g1 g2
 have HO6 := Hdq (show qi 5 w0.heap.size w6 v16 (zk key x xs) from g1)
 have HF6 := Hdq (qi.fr HO95.out HF5.out g2 (Nat.le_refl _))
 clear g1 g2
 go_wp2
 go_ret
 exact ⟨_, rfl, HO6.out, HF6.out⟩
end Go.Proofs.YtnafknkchbfpaaaGreatDoor
