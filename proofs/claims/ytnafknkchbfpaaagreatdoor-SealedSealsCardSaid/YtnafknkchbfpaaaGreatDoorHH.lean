import Derived.Test.YtnafknkchbfpaaaGreatDoorGS
import Derived.Test.YtnafknkchbfpaaaGreatDoorHG
set_option maxRecDepth 1000000
set_option maxHeartbeats 8000000
namespace Go.Proofs.YtnafknkchbfpaaaGreatDoor
open Go.RowKit Go.Bl
set_option linter.unusedVariables false
theorem Qs {a : Option Addr} {n n' c : Nat} : (Value.slice a n c).ownBlock = (Value.slice a n' c).ownBlock := by cases a <;> rfl
structure RG (w : World) : Prop where
 f : FAt 20 w
 k : KAt 21 w
 g : 21 < w.heap.size
theorem RG.keep {w w' : World} (h : RG w) (hf : Fr [] w w') : RG w' := ⟨h.f.keep hf, h.k.keep hf, Nat.lt_of_lt_of_le h.g hf.size⟩
theorem Qw (w0 : World) (v0 u0 : Value) (key m : List UInt8) (hK : Bs (fun b => w0.heap.size <= b) w0 v0 key) (hM : Bs (fun b => w0.heap.size <= b) w0 u0 m) (hkl : key.length <= 90000000) (hml : m.length <= 90000000) (hR : RG w0) :
  Calls Tryz.prog 102 #[v0, u0] w0 fun e w' => e = .returned (.agg ((zm key m).map u8v).toArray) /\ Fr [] w0 w' := by
 obtain ⟨b0, c0, rfl, -, -, -⟩ := id hK
 obtain ⟨b1, c1, rfl, -, -, -⟩ := id hM
 obtain ⟨kn, hkn⟩ := exq (key.length)
 obtain ⟨mn, hmn⟩ := exq (m.length)
 rw [hkn] at hK hkl ⊢
 rw [hmn] at hM hml ⊢
 obtain ⟨Z, hZ⟩ := exq (w0.heap.size)
 obtain ⟨w1, hw1⟩ := exq (w0.alloc (.cells qD 57))
 have F1 : Fr [] w0 w1 := by rw [<- hw1]; exact Fr.alloc _ _
 have hs1 : w1.heap.size = Z + 1 := by rw [<- hw1, <- hZ]; simp
 have HA1 := Hdq (show At w1 Z (.cells qD 57) by rw [<- hw1]; exact At.new hZ.symm)
 have HF1 := Hdq F1
 have HM := Hdq (And.intro hM hml)
 have HMN := Hdq hmn
 have HR := Hdq hR
 have HE := Hdq (qi.empty 5 w1.heap.size w1 (Nat.le_refl _))
 have G1 : Fr [] w1 (w1.alloc (.cells #[] 5)) := Fr.alloc _ _
 have HG1 := Hdq G1
 have HK := Hdq (show Bs (fun b => w1.heap.size <= b) (w1.alloc (.cells #[] 5)) (.slice b0 kn c0) key from (hK.mono (A' := fun b => w1.heap.size <= b) F1 qg (fun b hb => .inl WT)).keep G1 qg)
 have HKN := Hdq (And.intro hkn hkl)
 have HS1 := Hdq hs1
 clear hK hM hkl hml hR F1 G1 hkn hmn hs1
 go_enter Tryz.func102, Tryz.ntmps102
 go_wp2_with (at_builtin; refine qh (ys := key) (base := w1.heap.size) Tryz.underlying22 Tryz.infoByte rfl (.tmp 12) (.tmp 13) rfl rfl rfl HE.out HK.out (by rw [HKN.out.1]; have := HKN.out.2; simp; omega) qg ?_)
 intro v5 wc g1 g2
 have HO5 := Hdq (show qi 5 w1.heap.size wc v5 key from g1)
 have HF5 := Hdq (show Fr [] w1 wc from qi.fr HE.out HG1.out g2 (Nat.le_refl _))
 obtain ⟨va, vc, rfl, -⟩ := g1.bs (A := fun _ => False) (fun _ h => h.elim)
 rw [HKN.out.1]
 clear g1 g2 HE HK
 by_cases h64 : 64 < kn
 ·have hi : (64 : Int) < (kn : Int) := by omega
  rw [HKN.out.1] at HO5
  have HBK := Hdq (jb (HO5.out.bs (A := fun _ => False) (fun _ h => h.elim)))
  have HRC := Hdq (HR.out.keep (HF1.out.trans HF5.out))
  go_wp2_with (go_at_call 31; fail)
  refine (vq wc (.slice va kn vc) key HBK.out HRC.out.f HRC.out.k HRC.out.g (by rw [HKN.out.1]; have := HKN.out.2; omega)).mono ?_
  rintro e wp ⟨rfl, hf⟩
  obtain ⟨d, hd⟩ := exq (jE key)
  rw [hd]
  have hkk : xV key = d := by unfold xV; rw [if_pos (by rw [HKN.out.1]; exact h64)]; exact hd
  have hdl : d.length = 32 := by rw [<- hd]; exact jM _
  have HSD := Hdq (show (Tryz.prog.info? 57).map (·.size) = some (d.map u8v).toArray.size by rw [List.size_toArray, List.length_map, hdl]; kernel_rfl)
  have HSE := Hdq (show ((qD : Array Value)).size = (d.map u8v).toArray.size by
   have h : (d.map u8v).toArray.size = 32 := by rw [List.size_toArray, List.length_map, hdl]
   exact h.symm)
  have GD : Fr [] wp (wp.alloc (.cells (d.map u8v).toArray 57)) := Fr.alloc _ _
  have GE : Fr [] (wp.alloc (.cells (d.map u8v).toArray 57)) ((wp.alloc (.cells (d.map u8v).toArray 57)).alloc (.cells #[] 5)) := Fr.alloc _ _
  have HBD := Hdq (show Bs (fun _ => False) ((wp.alloc (.cells (d.map u8v).toArray 57)).alloc (.cells #[] 5)) (.slice (some ⟨wp.heap.size, 0, none⟩) 32 32) d from (zB (A := fun _ => False) (At.new rfl) hdl qe (fun h => h)).keep GE (fun b h => by cases h))
  have hsz : w1.heap.size <= (wp.alloc (.cells (d.map u8v).toArray 57)).heap.size := ((HF5.out.trans hf).trans GD).size
  have HE0 := Hdq (show qi 5 w1.heap.size ((wp.alloc (.cells (d.map u8v).toArray 57)).alloc (.cells #[] 5)) (.slice (some ⟨wp.heap.size + 1, 0, none⟩) 0 0) [] from by
   have h := qi.empty 5 w1.heap.size (wp.alloc (.cells (d.map u8v).toArray 57)) hsz
   rw [World.size_alloc] at h
   exact h)
  have HFE := Hdq (((HF5.out.trans hf).trans GD).trans GE)
  have HDL := Hdq hdl
  have HSZ := Hdq (Nat.le_trans hsz GE.size)
  have HKK := Hdq hkk
  clear h64 hd hdl hkk hf GD GE hsz HO5 HF5 HBK HRC
  go_wp2_with (first | (refine qy (.tmp 6) (.tmp 19) rfl rfl (d.map u8v).toArray rfl rfl HSD.out HSE.out (jv _) ?_) | (at_builtin; refine qh (ys := d) (base := w1.heap.size) Tryz.underlying22 Tryz.infoByte rfl (.tmp 20) (.tmp 21) rfl rfl rfl HE0.out HBD.out (by rw [HDL.out]; decide) HSZ.out ?_))
  intro v5 wc2 g1 g2
  have HO5 := Hdq (show qi 5 w1.heap.size wc2 v5 (xV key) by rw [HKK.out]; exact g1)
  have HF5 := Hdq (show Fr [] w1 wc2 from qi.fr HE0.out HFE.out g2 (Nat.le_refl _))
  obtain ⟨ea, en, ec, rfl⟩ := jh g1
  clear g1 g2 HE0 HBD HFE HSZ HSD HSE
  go_wp2
  refine Vt w1 wc2 _ rfl rfl (.slice b0 kn c0) (.slice b1 mn c1) (.slice ea en ec) Z (xV key) rfl rfl rfl rfl (xP key) HO5.out HF5.out _ ?_
  intro c wB vv kd ks q0 q1 q4 q5 hO hF
  rw [vg c ks kd, q0, q1, q4, q5]
  have hl64 : (xV key ++ List.replicate (64 - (xV key).length) (0 : UInt8)).length = 64 := by rw [List.length_append, List.length_replicate]; have := xP key; omega
  obtain ⟨ka, kc, rfl, -⟩ := hO.bs (A := fun _ => False) (fun _ h => h.elim)
  rw [hl64]
  have F7 : Fr [] wB ((wB.alloc (.cells #[] 5)).alloc (.cells #[] 5)) := (Fr.alloc _ _).trans (Fr.alloc _ _)
  have HFB := Hdq (hF.trans F7)
  have HB2 := Hdq (show Bs (fun b => wB.heap.size <= b) ((wB.alloc (.cells #[] 5)).alloc (.cells #[] 5)) (.slice ka 64 kc) (Qu key) from by
   have h := jb (hO.bs (A := fun _ => False) (fun _ h => h.elim))
   rw [hl64] at h
   exact h.keep F7 qg)
  have HO7 := Hdq (show qi 5 wB.heap.size ((wB.alloc (.cells #[] 5)).alloc (.cells #[] 5)) (.slice (some ⟨wB.heap.size, 0, none⟩) 0 0) [] from qi.keep (qi.empty 5 wB.heap.size wB (Nat.le_refl _)) (Fr.alloc (S := []) _ _) (fun g h => by cases h))
  have HO8 := Hdq (show qi 5 wB.heap.size ((wB.alloc (.cells #[] 5)).alloc (.cells #[] 5)) (.slice (some ⟨wB.heap.size + 1, 0, none⟩) 0 0) [] from by
   have h := qi.empty 5 wB.heap.size (wB.alloc (.cells #[] 5)) (by rw [World.size_alloc]; omega)
   rw [World.size_alloc] at h
   exact h)
  have HBW := Hdq (And.intro hF F7)
  clear kd ks q0 q1 q4 q5 hO hF HO5 HF5 hl64 F7
  go_wp2
  refine VE wB _ _ rfl rfl (.slice b0 kn c0) (.slice b1 mn c1) (.slice (some ⟨wB.heap.size, 0, none⟩) 0 0) (.slice (some ⟨wB.heap.size + 1, 0, none⟩) 0 0) Z ka kc (Qu key) rfl rfl rfl rfl rfl rfl rfl rfl (vT key) HB2.out HO7.out HO8.out (fun g hg h2 => by simp [Value.ownBlock] at hg h2; omega) HBW.out.2 _ ?_
  intro c wC u7 u8 kd ks q0 q1 q4 q7 q8 h7 h8 hne hF
  rw [vg c ks kd, q0, q1, q4, q7, q8]
  obtain ⟨a7, c7, rfl, -⟩ := h7.bs (A := fun _ => False) (fun _ h => h.elim)
  have l7 : ((Qu key).map (· ^^^ 54)).length = 64 := by rw [List.length_map, vT]
  rw [l7]
  rw [l7] at h7
  have HFC := Hdq ((HF1.out.trans HBW.out.1).trans hF)
  have HO7 := Hdq (show qi 5 wB.heap.size wC (.slice a7 64 c7) (zR key) from h7)
  have HO8 := Hdq (show qi 5 wB.heap.size wC u8 (zM key) from h8)
  have HNE := Hdq hne
  have HMC := Hdq (HM.out.1.keep HFC.out qg)
  have HBC := Hdq hF.size
  have HFW := Hdq hF
  clear kd ks q0 q1 q4 q7 q8 h7 h8 hne hF HB2 l7
  go_wp2_with (at_builtin; refine qh (ys := m) (base := wB.heap.size) Tryz.underlying22 Tryz.infoByte rfl (.tmp 48) (.tmp 49) rfl rfl rfl HO7.out HMC.out (by rw [vC]; have := HM.out.2; have := HMN.out; omega) HBC.out ?_)
  intro v9 w9 g1 g2
  have F9 : Fr (Value.slice a7 64 c7).ownBlock.toList wC w9 := Fr.grown g2 Ky
  have HO89 := Hdq (show qi 5 wB.heap.size w9 u8 (zM key) from j9 HO8.out F9 (fun g hg hm => HNE.out g (by rw [Qs (n' := 64)]; simpa using hm) hg))
  have HF9 := Hdq (qi.fr HO7.out HFC.out g2 (HF1.out.trans HBW.out.1).size)
  have HF19 := Hdq (qi.fr HO7.out (HBW.out.1.trans HFW.out) g2 HBW.out.1.size)
  have HB9 := Hdq (jb (g1.bs (A := fun _ => False) (fun _ h => h.elim)))
  have HBS := Hdq (Nat.le_trans HBC.out F9.size)
  obtain ⟨a9, c9, rfl, -⟩ := g1.bs (A := fun _ => False) (fun _ h => h.elim)
  have HL9 := Hdq (show (zR key ++ m).length <= 100000000 by rw [List.length_append, vC]; have := HM.out.2; have := HMN.out; omega)
  obtain ⟨n9, hn9⟩ := exq ((zR key ++ m).length)
  rw [hn9] at HB9 ⊢
  have HR9 := Hdq (HR.out.keep HF9.out)
  clear g1 g2 F9 HO7 HO8 HNE HMC HFC HFW hn9
  go_wp2_with (go_at_call 31; fail)
  refine (vq w9 (.slice a9 n9 c9) (zR key ++ m) HB9.out HR9.out.f HR9.out.k HR9.out.g HL9.out).mono ?_
  rintro e wD ⟨rfl, hf⟩
  obtain ⟨d, hd⟩ := exq (jE (zR key ++ m))
  rw [hd]
  have HD := Hdq hd
  have hdl : d.length = 32 := by rw [<- hd]; exact jM _
  have HSD := Hdq (show (Tryz.prog.info? 57).map (·.size) = some (d.map u8v).toArray.size by rw [List.size_toArray, List.length_map, hdl]; kernel_rfl)
  have HSE := Hdq (show ((qD : Array Value)).size = (d.map u8v).toArray.size by
   have h : (d.map u8v).toArray.size = 32 := by rw [List.size_toArray, List.length_map, hdl]
   exact h.symm)
  have GD : Fr [] wD (wD.alloc (.cells (d.map u8v).toArray 57)) := Fr.alloc _ _
  have HBD := Hdq (show Bs (fun _ => False) (wD.alloc (.cells (d.map u8v).toArray 57)) (.slice (some ⟨wD.heap.size, 0, none⟩) 32 32) d from zB (At.new rfl) hdl qe (fun h => h))
  have HOD := Hdq (qi.keep (qi.keep HO89.out hf (fun g h => by cases h)) GD (fun g h => by cases h))
  have HFD := Hdq ((HF9.out.trans hf).trans GD)
  have HFX := Hdq ((HF19.out.trans hf).trans GD)
  have HBZ := Hdq (Nat.le_trans HBS.out (hf.trans GD).size)
  have HDL := Hdq hdl
  clear hd hf GD hdl HO89 HF9 HB9 HBS HL9 HR9
  go_wp2_with (first | (refine qy (.tmp 11) (.tmp 51) rfl rfl (d.map u8v).toArray rfl rfl HSD.out HSE.out (jv _) ?_) | (at_builtin; refine qh (ys := d) (base := wB.heap.size) Tryz.underlying22 Tryz.infoByte rfl (.tmp 52) (.tmp 53) rfl rfl rfl HOD.out HBD.out (by rw [vF, HDL.out]; decide) HBZ.out ?_))
  intro vE wE g1 g2
  have HFE := Hdq (qi.fr HOD.out HFD.out g2 (HF1.out.trans HBW.out.1).size)
  have HBE := Hdq (jb (g1.bs (A := fun _ => False) (fun _ h => h.elim)))
  obtain ⟨aE, cE, rfl, -⟩ := g1.bs (A := fun _ => False) (fun _ h => h.elim)
  have HLE := Hdq (show (zM key ++ d).length <= 100000000 by rw [List.length_append, vF, HDL.out]; decide)
  obtain ⟨nE, hnE⟩ := exq ((zM key ++ d).length)
  rw [hnE] at HBE ⊢
  have HRE := Hdq (HR.out.keep HFE.out)
  have hzw : Z < w1.heap.size := qx HA1.out
  have HAE := Hdq (show At wE Z (.cells (qD : Array Value) 57) from by
   have f1 : Fr [] w1 (wD.alloc (.cells (d.map u8v).toArray 57)) := HFX.out
   exact qi.fr HOD.out f1 g2 HBW.out.1.size |>.keep HA1.out qg)
  clear g1 g2 HOD HBD HFD HBZ hnE
  go_wp2_with (go_at_call 31; fail)
  refine (vq wE (.slice aE nE cE) (zM key ++ d) HBE.out HRE.out.f HRE.out.k HRE.out.g HLE.out).mono ?_
  rintro e wF ⟨rfl, hf⟩
  obtain ⟨o, ho⟩ := exq (jE (zM key ++ d))
  rw [ho]
  have HO := Hdq (show zm key m = o by rw [<- ho, <- HD.out]; rfl)
  have hol : o.length = 32 := by rw [<- ho]; exact jM _
  have HSO := Hdq (show (Tryz.prog.info? 57).map (·.size) = some (o.map u8v).toArray.size by rw [List.size_toArray, List.length_map, hol]; kernel_rfl)
  exact Y18
 ·have hi : ¬ (64 : Int) < (kn : Int) := by omega
  have hkk : xV key = key := by unfold xV; rw [if_neg (by rw [HKN.out.1]; exact h64)]
  rw [HKN.out.1] at HO5
  rw [<- hkk] at HO5
  clear h64 hkk
  go_wp2
  refine Vt w1 wc _ rfl rfl (.slice b0 kn c0) (.slice b1 mn c1) (.slice va kn vc) Z (xV key) rfl rfl rfl rfl (xP key) HO5.out HF5.out _ ?_
  intro c wB vv kd ks q0 q1 q4 q5 hO hF
  rw [vg c ks kd, q0, q1, q4, q5]
  have hl64 : (xV key ++ List.replicate (64 - (xV key).length) (0 : UInt8)).length = 64 := by rw [List.length_append, List.length_replicate]; have := xP key; omega
  obtain ⟨ka, kc, rfl, -⟩ := hO.bs (A := fun _ => False) (fun _ h => h.elim)
  rw [hl64]
  have F7 : Fr [] wB ((wB.alloc (.cells #[] 5)).alloc (.cells #[] 5)) := (Fr.alloc _ _).trans (Fr.alloc _ _)
  have HFB := Hdq (hF.trans F7)
  have HB2 := Hdq (show Bs (fun b => wB.heap.size <= b) ((wB.alloc (.cells #[] 5)).alloc (.cells #[] 5)) (.slice ka 64 kc) (Qu key) from by
   have h := jb (hO.bs (A := fun _ => False) (fun _ h => h.elim))
   rw [hl64] at h
   exact h.keep F7 qg)
  have HO7 := Hdq (show qi 5 wB.heap.size ((wB.alloc (.cells #[] 5)).alloc (.cells #[] 5)) (.slice (some ⟨wB.heap.size, 0, none⟩) 0 0) [] from qi.keep (qi.empty 5 wB.heap.size wB (Nat.le_refl _)) (Fr.alloc (S := []) _ _) (fun g h => by cases h))
  have HO8 := Hdq (show qi 5 wB.heap.size ((wB.alloc (.cells #[] 5)).alloc (.cells #[] 5)) (.slice (some ⟨wB.heap.size + 1, 0, none⟩) 0 0) [] from by
   have h := qi.empty 5 wB.heap.size (wB.alloc (.cells #[] 5)) (by rw [World.size_alloc]; omega)
   rw [World.size_alloc] at h
   exact h)
  have HBW := Hdq (And.intro hF F7)
  clear kd ks q0 q1 q4 q5 hO hF HO5 HF5 hl64 F7
  go_wp2
  refine VE wB _ _ rfl rfl (.slice b0 kn c0) (.slice b1 mn c1) (.slice (some ⟨wB.heap.size, 0, none⟩) 0 0) (.slice (some ⟨wB.heap.size + 1, 0, none⟩) 0 0) Z ka kc (Qu key) rfl rfl rfl rfl rfl rfl rfl rfl (vT key) HB2.out HO7.out HO8.out (fun g hg h2 => by simp [Value.ownBlock] at hg h2; omega) HBW.out.2 _ ?_
  intro c wC u7 u8 kd ks q0 q1 q4 q7 q8 h7 h8 hne hF
  rw [vg c ks kd, q0, q1, q4, q7, q8]
  obtain ⟨a7, c7, rfl, -⟩ := h7.bs (A := fun _ => False) (fun _ h => h.elim)
  have l7 : ((Qu key).map (· ^^^ 54)).length = 64 := by rw [List.length_map, vT]
  rw [l7]
  rw [l7] at h7
  have HFC := Hdq ((HF1.out.trans HBW.out.1).trans hF)
  have HO7 := Hdq (show qi 5 wB.heap.size wC (.slice a7 64 c7) (zR key) from h7)
  have HO8 := Hdq (show qi 5 wB.heap.size wC u8 (zM key) from h8)
  have HNE := Hdq hne
  have HMC := Hdq (HM.out.1.keep HFC.out qg)
  have HBC := Hdq hF.size
  have HFW := Hdq hF
  clear kd ks q0 q1 q4 q7 q8 h7 h8 hne hF HB2 l7
  go_wp2_with (at_builtin; refine qh (ys := m) (base := wB.heap.size) Tryz.underlying22 Tryz.infoByte rfl (.tmp 48) (.tmp 49) rfl rfl rfl HO7.out HMC.out (by rw [vC]; have := HM.out.2; have := HMN.out; omega) HBC.out ?_)
  intro v9 w9 g1 g2
  have F9 : Fr (Value.slice a7 64 c7).ownBlock.toList wC w9 := Fr.grown g2 Ky
  have HO89 := Hdq (show qi 5 wB.heap.size w9 u8 (zM key) from j9 HO8.out F9 (fun g hg hm => HNE.out g (by rw [Qs (n' := 64)]; simpa using hm) hg))
  have HF9 := Hdq (qi.fr HO7.out HFC.out g2 (HF1.out.trans HBW.out.1).size)
  have HF19 := Hdq (qi.fr HO7.out (HBW.out.1.trans HFW.out) g2 HBW.out.1.size)
  have HB9 := Hdq (jb (g1.bs (A := fun _ => False) (fun _ h => h.elim)))
  have HBS := Hdq (Nat.le_trans HBC.out F9.size)
  obtain ⟨a9, c9, rfl, -⟩ := g1.bs (A := fun _ => False) (fun _ h => h.elim)
  have HL9 := Hdq (show (zR key ++ m).length <= 100000000 by rw [List.length_append, vC]; have := HM.out.2; have := HMN.out; omega)
  obtain ⟨n9, hn9⟩ := exq ((zR key ++ m).length)
  rw [hn9] at HB9 ⊢
  have HR9 := Hdq (HR.out.keep HF9.out)
  clear g1 g2 F9 HO7 HO8 HNE HMC HFC HFW hn9
  go_wp2_with (go_at_call 31; fail)
  refine (vq w9 (.slice a9 n9 c9) (zR key ++ m) HB9.out HR9.out.f HR9.out.k HR9.out.g HL9.out).mono ?_
  rintro e wD ⟨rfl, hf⟩
  obtain ⟨d, hd⟩ := exq (jE (zR key ++ m))
  rw [hd]
  have HD := Hdq hd
  have hdl : d.length = 32 := by rw [<- hd]; exact jM _
  have HSD := Hdq (show (Tryz.prog.info? 57).map (·.size) = some (d.map u8v).toArray.size by rw [List.size_toArray, List.length_map, hdl]; kernel_rfl)
  have HSE := Hdq (show ((qD : Array Value)).size = (d.map u8v).toArray.size by
   have h : (d.map u8v).toArray.size = 32 := by rw [List.size_toArray, List.length_map, hdl]
   exact h.symm)
  have GD : Fr [] wD (wD.alloc (.cells (d.map u8v).toArray 57)) := Fr.alloc _ _
  have HBD := Hdq (show Bs (fun _ => False) (wD.alloc (.cells (d.map u8v).toArray 57)) (.slice (some ⟨wD.heap.size, 0, none⟩) 32 32) d from zB (At.new rfl) hdl qe (fun h => h))
  have HOD := Hdq (qi.keep (qi.keep HO89.out hf (fun g h => by cases h)) GD (fun g h => by cases h))
  have HFD := Hdq ((HF9.out.trans hf).trans GD)
  have HFX := Hdq ((HF19.out.trans hf).trans GD)
  have HBZ := Hdq (Nat.le_trans HBS.out (hf.trans GD).size)
  have HDL := Hdq hdl
  clear hd hf GD hdl HO89 HF9 HB9 HBS HL9 HR9
  go_wp2_with (first | (refine qy (.tmp 11) (.tmp 51) rfl rfl (d.map u8v).toArray rfl rfl HSD.out HSE.out (jv _) ?_) | (at_builtin; refine qh (ys := d) (base := wB.heap.size) Tryz.underlying22 Tryz.infoByte rfl (.tmp 52) (.tmp 53) rfl rfl rfl HOD.out HBD.out (by rw [vF, HDL.out]; decide) HBZ.out ?_))
  intro vE wE g1 g2
  have HFE := Hdq (qi.fr HOD.out HFD.out g2 (HF1.out.trans HBW.out.1).size)
  have HBE := Hdq (jb (g1.bs (A := fun _ => False) (fun _ h => h.elim)))
  obtain ⟨aE, cE, rfl, -⟩ := g1.bs (A := fun _ => False) (fun _ h => h.elim)
  have HLE := Hdq (show (zM key ++ d).length <= 100000000 by rw [List.length_append, vF, HDL.out]; decide)
  obtain ⟨nE, hnE⟩ := exq ((zM key ++ d).length)
  rw [hnE] at HBE ⊢
  have HRE := Hdq (HR.out.keep HFE.out)
  have hzw : Z < w1.heap.size := qx HA1.out
  have HAE := Hdq (show At wE Z (.cells (qD : Array Value) 57) from by
   have f1 : Fr [] w1 (wD.alloc (.cells (d.map u8v).toArray 57)) := HFX.out
   exact qi.fr HOD.out f1 g2 HBW.out.1.size |>.keep HA1.out qg)
  clear g1 g2 HOD HBD HFD HBZ hnE
  go_wp2_with (go_at_call 31; fail)
  refine (vq wE (.slice aE nE cE) (zM key ++ d) HBE.out HRE.out.f HRE.out.k HRE.out.g HLE.out).mono ?_
  rintro e wF ⟨rfl, hf⟩
  obtain ⟨o, ho⟩ := exq (jE (zM key ++ d))
  rw [ho]
  have HO := Hdq (show zm key m = o by rw [<- ho, <- HD.out]; rfl)
  have hol : o.length = 32 := by rw [<- ho]; exact jM _
  have HSO := Hdq (show (Tryz.prog.info? 57).map (·.size) = some (o.map u8v).toArray.size by rw [List.size_toArray, List.length_map, hol]; kernel_rfl)
  exact Y18
theorem Wn (w0 : World) (v0 u0 : Value) (key m : List UInt8) (hK : Bs (fun b => w0.heap.size <= b) w0 v0 key) (hM : Bs (fun b => w0.heap.size <= b) w0 u0 m) (hkl : key.length <= 90000000) (hml : m.length <= 90000000) (hR : RG w0) :
  Calls Tryz.prog 61 #[v0, u0] w0 fun e w' => ∃ u, e = .returned u /\ qi 5 w0.heap.size w' u (xm key m) /\ Fr [] w0 w' := by
 obtain ⟨b0, c0, rfl, -, -, -⟩ := id hK
 obtain ⟨b1, c1, rfl, -, -, -⟩ := id hM
 have HC := Hdq (Qw w0 _ _ key m hK hM hkl hml hR)
 obtain ⟨kn, hkn⟩ := exq (key.length)
 obtain ⟨mn, hmn⟩ := exq (m.length)
 rw [hkn, hmn] at HC
 rw [hkn, hmn]
 clear hK hM hkl hml hR hkn hmn
 go_enter Tryz.func61, Tryz.ntmps61
 go_wp2_with (go_at_call 102; fail)
 refine HC.out.mono ?_
 rintro e wp ⟨rfl, hf⟩
 obtain ⟨d, hd⟩ := exq (zm key m)
 rw [hd]
 have hdl : d.length = 32 := by rw [<- hd]; exact Qc _ _
 have HT := Hdq (show xm key m = d.take 8 by unfold xm; rw [hd])
 have HSD := Hdq (show (Tryz.prog.info? 57).map (·.size) = some (d.map u8v).toArray.size by rw [List.size_toArray, List.length_map, hdl]; kernel_rfl)
 have HSE := Hdq (show ((qD : Array Value)).size = (d.map u8v).toArray.size by
  have h : (d.map u8v).toArray.size = 32 := by rw [List.size_toArray, List.length_map, hdl]
  exact h.symm)
 have GD : Fr [] wp (wp.alloc (.cells (d.map u8v).toArray 57)) := Fr.alloc _ _
 have GE : Fr [] (wp.alloc (.cells (d.map u8v).toArray 57)) ((wp.alloc (.cells (d.map u8v).toArray 57)).alloc (.cells #[] 5)) := Fr.alloc _ _
 have HBD := Hdq (show Bs (fun _ => False) ((wp.alloc (.cells (d.map u8v).toArray 57)).alloc (.cells #[] 5)) (.slice (some ⟨wp.heap.size, 0, none⟩) 8 32) (d.take 8) from ((zB (A := fun _ => False) (n := 32) (At.new rfl) hdl qe (fun h => h)).keep GE (fun b h => by cases h)).take 8 qe)
 have hsz : w0.heap.size <= (wp.alloc (.cells (d.map u8v).toArray 57)).heap.size := (hf.trans GD).size
 have HE0 := Hdq (show qi 5 w0.heap.size ((wp.alloc (.cells (d.map u8v).toArray 57)).alloc (.cells #[] 5)) (.slice (some ⟨wp.heap.size + 1, 0, none⟩) 0 0) [] from by
  have h := qi.empty 5 w0.heap.size (wp.alloc (.cells (d.map u8v).toArray 57)) hsz
  rw [World.size_alloc] at h
  exact h)
 have HFE := Hdq ((hf.trans GD).trans GE)
 have HSZ := Hdq (Nat.le_trans hsz GE.size)
 have HDL := Hdq hdl
 clear hd hdl hf GD GE hsz HC
 go_wp2_with (first | (refine qy (.tmp 5) (.tmp 8) rfl rfl (d.map u8v).toArray rfl rfl HSD.out HSE.out (jv _) ?_) | (at_builtin; refine qh (ys := d.take 8) (base := w0.heap.size) Tryz.underlying22 Tryz.infoByte rfl (.tmp 9) (.tmp 10) rfl rfl rfl HE0.out HBD.out (by rw [List.length_take, HDL.out]; decide) HSZ.out ?_))
 intro v5 wc2 g1 g2
 have HO5 := Hdq (show qi 5 w0.heap.size wc2 v5 (xm key m) by rw [HT.out]; exact g1)
 have HF5 := Hdq (show Fr [] w0 wc2 from qi.fr HE0.out HFE.out g2 (Nat.le_refl _))
 clear g1 g2
 go_wp2
 go_ret
 exact ⟨_, rfl, HO5.out, HF5.out⟩
end Go.Proofs.YtnafknkchbfpaaaGreatDoor
