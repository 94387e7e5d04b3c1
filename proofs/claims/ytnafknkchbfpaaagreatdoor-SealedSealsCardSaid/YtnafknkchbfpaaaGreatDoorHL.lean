import Derived.Test.YtnafknkchbfpaaaGreatDoorSRchk
import Derived.Test.YtnafknkchbfpaaaGreatDoorOwM
set_option maxRecDepth 1000000
set_option maxHeartbeats 8000000
namespace Go.Proofs.YtnafknkchbfpaaaGreatDoor
open Go.RowKit Go.Bl
set_option linter.unusedVariables false
structure QV (S : ByteArray) : Prop where
 pos : 0 < S.size
 lt : S.size < 13
 abc : ∀ (i : Nat) (h : i < S.size), 97 <= (S[i].toNat : Int) /\ (S[i].toNat : Int) <= 122
theorem QB (w : World) (S : ByteArray) (hS : QV S) : Calls Tryz.prog 101 #[.string S] w fun e w' => e = .returned (.bool true) /\ w = w' := by
 have h1 : (0 : Int) < (S.size : Int) := by have := hS.pos; omega
 have h2 : (S.size : Int) < 13 := by have := hS.lt; omega
 have HS := Hdq hS.abc
 clear hS
 go_enter Tryz.func101, Tryz.ntmps101
 go_wp2
 go_loop [3] (fun i => ∃ k : Nat, k <= S.size /\ i = .int .i64 k) (fun i => S.size - (intOf i).toNat)
 case atStart => exact ⟨0, Nat.zero_le _, rfl⟩
 case round =>
  obtain ⟨k, hk, rfl⟩ := hrel
  by_cases hlt : k < S.size
  ·have h3 : ¬ (S[k].toNat : Int) < 97 := by have := (HS.out k hlt).1; omega
   have h4 : ¬ (122 : Int) < (S[k].toNat : Int) := by have := (HS.out k hlt).2; omega
   go_wp2
   go_round
   case rel => exact ⟨k + 1, by omega, by go_num⟩
   case measure => simp [intOf]; omega
  ·go_wp2
   go_ret
   exact ⟨rfl, rfl⟩
theorem vA (w0 : World) (mv : Value) (m : List UInt8) (n : Int) (S : ByteArray) (hB : Bs (fun b => w0.heap.size <= b) w0 mv m) (hS : QV S) (hR : RG w0) :
  Calls Tryz.prog 52 #[mv, .string S, .int .i64 n] w0 fun e w' => ∃ u, e = .returned (.tuple #[u, .int .i64 (qz m n : Nat)]) /\ (qz m n = 0 -> qi 5 w0.heap.size w' u (qv m S.data.toList n)) /\ (qz m n ≠ 0 -> u = .slice none 0 0) /\ Fr [] w0 w' := by
 obtain ⟨ma, mc, rfl, -, -, -⟩ := id hB
 obtain ⟨mn, hmn⟩ := exq (m.length)
 have HM := Hdq hmn
 rw [hmn] at hB ⊢
 have HB := Hdq hB
 have HR := Hdq hR
 have HS := Hdq hS
 have HSZ := Hdq (show S.data.toList.length <= 13 from by
  have h := hS.lt
  have h2 : S.data.toList.length = S.size := by simp
  omega)
 have HS13 := Hdq (show S.size <= 140737488355328 from by have h := hS.lt; omega)
 clear hB hR hS hmn
 by_cases h1 : mn < 16 ∨ 64 < mn
 ·have HK := Hdq (J4 (n := n) (m := m) (by rw [HM.out]; exact h1))
  by_cases h2 : mn < 16
  ·have h3 : (mn : Int) < 16 := by omega
   clear h1 h2
   go_enter Tryz.func52, Tryz.ntmps52
   exact Y34
  ·have h3 : ¬ (mn : Int) < 16 := by omega
   have h4 : (64 : Int) < (mn : Int) := by omega
   clear h1 h2
   go_enter Tryz.func52, Tryz.ntmps52
   exact Y34
 ·have h3 : ¬ (mn : Int) < 16 := by omega
  have h4 : ¬ (64 : Int) < (mn : Int) := by omega
  by_cases h5 : n < 0 ∨ 1099511627776 < n
  ·have HK := Hdq (JE (m := m) (by rw [HM.out]; exact h1) h5)
   by_cases h6 : n < 0
   ·clear h1 h5
    go_enter Tryz.func52, Tryz.ntmps52
    go_wp2_with (go_at_call 101; fail)
    refine (QB w0 S HS.out).mono ?_
    rintro e w1 ⟨rfl, rfl⟩
    exact Y34
   ·have h7 : (1099511627776 : Int) < n := by omega
    clear h1 h5
    go_enter Tryz.func52, Tryz.ntmps52
    go_wp2_with (go_at_call 101; fail)
    refine (QB w0 S HS.out).mono ?_
    rintro e w1 ⟨rfl, rfl⟩
    exact Y34
  ·have HK := Hdq (Zs (m := m) (by rw [HM.out]; exact h1) h5)
   have h6 : ¬ n < 0 := by omega
   have h7 : ¬ (1099511627776 : Int) < n := by omega
   have HML := Hdq (show m.length <= 90000000 by rw [HM.out]; omega)
   clear h1 h5
   go_enter Tryz.func52, Tryz.ntmps52
   go_wp2_with (go_at_call 101; fail)
   refine (QB w0 S HS.out).mono ?_
   rintro e w1 ⟨rfl, rfl⟩
   go_wp2_with (refine K5 Tryz.underlying9 Tryz.underlying22 Tryz.underlying5 S (.tmp 27) rfl rfl rfl HS13.out ?_)
   intro sv p1 hf1 hs1
   have F2 : Fr [] p1 (p1.alloc (.cells #[.int .u8 0] 5)) := Fr.alloc _ _
   have HM2 := Hdq (hs1.keep F2 qg)
   have HF2 := Hdq (hf1.trans F2)
   have HZ2 := Hdq (zB (A := fun _ => False) (n := 1) (e := 5) (xs := [0]) (At.new rfl : At (p1.alloc (.cells #[.int .u8 0] 5)) p1.heap.size (.cells #[.int .u8 0] 5)) rfl qe (fun h => h))
   have HSB2 := Hdq (HF2.out.size)
   clear hf1 hs1 F2
   go_wp2_with (at_builtin; refine Qb (ys := [0]) (xs := S.data.toList) (base := w0.heap.size) (e := 5) Tryz.underlying22 Tryz.infoByte rfl (.tmp 28) (.tmp 29) rfl rfl rfl HM2.out HZ2.out (by have := HSZ.out; simp only [List.length_cons, List.length_nil]; omega) HSB2.out qe ?_)
   intro v3 w3 g1 g2
   have HO3 := Hdq (show Qx 5 w0.heap.size w3 v3 (S.data.toList ++ [0]) from g1)
   have HF3 := Hdq (HM2.out.fr HF2.out g2 (Nat.le_refl _))
   clear g1 g2 HM2 HF2 HZ2 HSB2
   go_wp2_with (go_at_call 62; fail)
   refine (Qm w3 n).mono ?_
   rintro e w4 ⟨u4, rfl, hu, hf⟩
   have HF4 := Hdq (HF3.out.trans hf)
   have HO4 := Hdq (HO3.out.keep hf qg)
   have HU4 := Hdq (hu.bs (A := fun _ => False) (fun _ h => h.elim))
   have HSB4 := Hdq HF4.out.size
   clear hu hf HO3 HF3
   go_wp2_with (at_builtin; refine Qb (ys := beK 8 n) (xs := S.data.toList ++ [0]) (base := w0.heap.size) (e := 5) Tryz.underlying22 Tryz.infoByte rfl (.tmp 30) (.tmp 32) rfl rfl rfl HO4.out HU4.out qdG HSB4.out (by rw [zf]; decide) ?_)
   intro v5 w5 g1 g2
   have HF5 := Hdq (HO4.out.fr HF4.out g2 (Nat.le_refl _))
   have HO5 := Hdq (jb ((show Qx 5 w0.heap.size w5 v5 (S.data.toList ++ 0 :: beK 8 n) from g1).bs (A := fun _ => False) (fun _ h => h.elim)))
   have HB5 := Hdq (HB.out.mono (A' := fun b => w5.heap.size <= b) HF5.out qg (fun b hb => .inl (Nat.le_trans HF5.out.size hb)))
   have HR5 := Hdq (HR.out.keep HF5.out)
   clear g1 g2 HO4 HU4 HF4 HSB4
   go_wp2_with (go_at_call 102; fail)
   refine (Qw w5 (.slice ma mn mc) v5 m (S.data.toList ++ 0 :: beK 8 n) HB5.out HO5.out HML.out qdG HR5.out).mono ?_
   rintro e wp ⟨rfl, hf⟩
   obtain ⟨d, hd⟩ := exq (zm m (S.data.toList ++ 0 :: beK 8 n))
   rw [hd]
   have hdl : d.length = 32 := by rw [<- hd]; exact Qc _ _
   have HT := Hdq (show qv m S.data.toList n = d by rw [<- hd]; simp [qv])
   have HSD := Hdq (show (Tryz.prog.info? 57).map (·.size) = some (d.map u8v).toArray.size by rw [List.size_toArray, List.length_map, hdl]; kernel_rfl)
   have HSE := Hdq (show ((qD : Array Value)).size = (d.map u8v).toArray.size by
    have h : (d.map u8v).toArray.size = 32 := by rw [List.size_toArray, List.length_map, hdl]
    exact h.symm)
   have GD : Fr [] wp (wp.alloc (.cells (d.map u8v).toArray 57)) := Fr.alloc _ _
   have GE : Fr [] (wp.alloc (.cells (d.map u8v).toArray 57)) ((wp.alloc (.cells (d.map u8v).toArray 57)).alloc (.cells #[] 5)) := Fr.alloc _ _
   have HBD := Hdq (show Bs (fun _ => False) ((wp.alloc (.cells (d.map u8v).toArray 57)).alloc (.cells #[] 5)) (.slice (some ⟨wp.heap.size, 0, none⟩) 32 32) d from (zB (A := fun _ => False) (n := 32) (At.new rfl) hdl qe (fun h => h)).keep GE (fun b h => by cases h))
   have hf5 : Fr [] w0 wp := HF5.out.trans hf
   have hsz : w0.heap.size <= (wp.alloc (.cells (d.map u8v).toArray 57)).heap.size := (hf5.trans GD).size
   have HE0 := Hdq (show qi 5 w0.heap.size ((wp.alloc (.cells (d.map u8v).toArray 57)).alloc (.cells #[] 5)) (.slice (some ⟨wp.heap.size + 1, 0, none⟩) 0 0) [] from by
    have h := qi.empty 5 w0.heap.size (wp.alloc (.cells (d.map u8v).toArray 57)) hsz
    rw [World.size_alloc] at h
    exact h)
   have HFE := Hdq ((hf5.trans GD).trans GE)
   have HSZ9 := Hdq (Nat.le_trans hsz GE.size)
   have HDL := Hdq hdl
   clear hd hdl hf hf5 GD GE hsz HO5 HB5 HR5 HF5
   go_wp2_with (first | (refine qy (.tmp 8) (.tmp 34) rfl rfl (d.map u8v).toArray rfl rfl HSD.out HSE.out (jv _) ?_) | (at_builtin; refine qh (ys := d) (base := w0.heap.size) Tryz.underlying22 Tryz.infoByte rfl (.tmp 35) (.tmp 36) rfl rfl rfl HE0.out HBD.out (by rw [HDL.out]; decide) HSZ9.out ?_))
   intro v9 w9 g1 g2
   have HO9 := Hdq (show qi 5 w0.heap.size w9 v9 (qv m S.data.toList n) by rw [HT.out]; exact g1)
   have HF9 := Hdq (show Fr [] w0 w9 from qi.fr HE0.out HFE.out g2 (Nat.le_refl _))
   clear g1 g2
   go_wp2
   go_ret2
   exact ⟨_, by rw [HK.out]; rfl, fun _ => HO9.out, fun h => absurd HK.out h, HF9.out⟩
theorem ye {S : ByteArray} (h1 : 0 < S.size) (h2 : S.size < 13) (h : ∀ c ∈ S.data.toList, 97 <= (c.toNat : Int) /\ (c.toNat : Int) <= 122) : QV S := ⟨h1, h2, fun i hi => h (S[i]) (Array.mem_toList_iff.2 (Array.getElem_mem hi))⟩
theorem Vh : QV ⟨#[109, 97, 115, 107]⟩ := ye qe qe qe
theorem Wq : QV ⟨#[112, 108, 97, 99, 101]⟩ := ye qe qe qe
theorem qap : QV ⟨#[115, 101, 110, 116, 105, 110, 101, 108]⟩ := ye qe qe qe
theorem qbq : QV ⟨#[116, 97, 103]⟩ := ye qe qe qe
theorem qbi : QV ⟨#[115, 112, 111, 116]⟩ := ye qe qe qe
theorem LS (w0 : World) (mv : Value) (m : List UInt8) (n : Int) (hB : Bs (fun b => w0.heap.size <= b) w0 mv m) (hR : RG w0) (hk : qz m n ≠ 0) :
  Calls Tryz.prog 11 #[mv, .int .i64 n] w0 fun e w' => e = .returned (.tuple #[.agg n5q, .int .i64 (qz m n : Nat)]) /\ Fr [] w0 w' := by
 obtain ⟨ma, mc, rfl, -, -, -⟩ := id hB
 obtain ⟨mn, hmn⟩ := exq (m.length)
 rw [hmn] at hB ⊢
 obtain ⟨Z, hZ⟩ := exq (w0.heap.size)
 have F0 : Fr [] w0 (((w0.alloc (.cells n5q 29)).alloc (.cells n5q 29)).alloc (.cells #[.string ⟨#[109, 97, 115, 107]⟩, .string ⟨#[112, 108, 97, 99, 101]⟩, .string ⟨#[115, 101, 110, 116, 105, 110, 101, 108]⟩, .string ⟨#[116, 97, 103]⟩, .string ⟨#[115, 112, 111, 116]⟩] 9)) := (Fr.alloc _ _).al.al
 have HF := Hdq F0
 have HKK := Hdq hk
 have HB := Hdq (fun wi (h : Fr [] w0 wi) => hB.mono (A' := fun b => wi.heap.size <= b) h qg (fun b hb => .inl (Nat.le_trans h.size hb)))
 have HR := Hdq (fun wi (h : Fr [] w0 wi) => hR.keep h)
 have HC := Hdq (show At (((w0.alloc (.cells n5q 29)).alloc (.cells n5q 29)).alloc (.cells #[.string ⟨#[109, 97, 115, 107]⟩, .string ⟨#[112, 108, 97, 99, 101]⟩, .string ⟨#[115, 101, 110, 116, 105, 110, 101, 108]⟩, .string ⟨#[116, 97, 103]⟩, .string ⟨#[115, 112, 111, 116]⟩] 9)) Z (.cells n5q 29) from (At.new hZ.symm).al.al)
 have HK := Hdq (show At (((w0.alloc (.cells n5q 29)).alloc (.cells n5q 29)).alloc (.cells #[.string ⟨#[109, 97, 115, 107]⟩, .string ⟨#[112, 108, 97, 99, 101]⟩, .string ⟨#[115, 101, 110, 116, 105, 110, 101, 108]⟩, .string ⟨#[116, 97, 103]⟩, .string ⟨#[115, 112, 111, 116]⟩] 9)) (Z + 1) (.cells n5q 29) from (At.new vt).al)
 have HL := Hdq (show At (((w0.alloc (.cells n5q 29)).alloc (.cells n5q 29)).alloc (.cells #[.string ⟨#[109, 97, 115, 107]⟩, .string ⟨#[112, 108, 97, 99, 101]⟩, .string ⟨#[115, 101, 110, 116, 105, 110, 101, 108]⟩, .string ⟨#[116, 97, 103]⟩, .string ⟨#[115, 112, 111, 116]⟩] 9)) (Z + 2) (.cells #[.string ⟨#[109, 97, 115, 107]⟩, .string ⟨#[112, 108, 97, 99, 101]⟩, .string ⟨#[115, 101, 110, 116, 105, 110, 101, 108]⟩, .string ⟨#[116, 97, 103]⟩, .string ⟨#[115, 112, 111, 116]⟩] 9) from At.new vt)
 have HSZ := Hdq (show Z + 3 <= (((w0.alloc (.cells n5q 29)).alloc (.cells n5q 29)).alloc (.cells #[.string ⟨#[109, 97, 115, 107]⟩, .string ⟨#[112, 108, 97, 99, 101]⟩, .string ⟨#[115, 101, 110, 116, 105, 110, 101, 108]⟩, .string ⟨#[116, 97, 103]⟩, .string ⟨#[115, 112, 111, 116]⟩] 9)).heap.size from by simp [hZ])
 have HZ := Hdq hZ
 clear hB hR hk F0 hmn
 go_enter Tryz.func11, Tryz.ntmps11
 go_wp2
 refine wp_loop_rounds 6 ?_
 rw [rounds_succ]
 have c0 : (((w0.alloc (.cells n5q 29)).alloc (.cells n5q 29)).alloc (.cells #[.string ⟨#[109, 97, 115, 107]⟩, .string ⟨#[112, 108, 97, 99, 101]⟩, .string ⟨#[115, 101, 110, 116, 105, 110, 101, 108]⟩, .string ⟨#[116, 97, 103]⟩, .string ⟨#[115, 112, 111, 116]⟩] 9)).cell? ⟨Z + 2, 0, none⟩ = some (.string ⟨#[109, 97, 115, 107]⟩) := HL.out.cell 0
 clear hZ
 obtain ⟨wa, hwa⟩ := exq ((((w0.alloc (.cells n5q 29)).alloc (.cells n5q 29)).alloc (.cells #[.string ⟨#[109, 97, 115, 107]⟩, .string ⟨#[112, 108, 97, 99, 101]⟩, .string ⟨#[115, 101, 110, 116, 105, 110, 101, 108]⟩, .string ⟨#[116, 97, 103]⟩, .string ⟨#[115, 112, 111, 116]⟩] 9)))
 rw [hwa] at HF HC HK HL HSZ c0 ⊢
 clear hwa
 go_wp2_with (go_at_call 52; fail)
 refine (vA wa (.slice ma mn mc) m n _ (HB.out _ HF.out) Vh (HR.out _ HF.out)).mono ?_
 rintro e w1 ⟨u, rfl, -, h2, hf⟩
 obtain rfl := h2 HKK.out
 have HF1 := Hdq (HF.out.trans hf)
 have HC1 := Hdq (HC.out.keep0 hf)
 obtain ⟨kb, hkb⟩ := exq (qz m n)
 rw [hkb] at HKK ⊢
 have h0 : ¬ (kb : Int) = 0 := by have := HKK.out; omega
 have h0b : ((kb : Int) != 0) = true := by simpa using h0
 have HKB := Hdq hkb
 clear h2 hf c0 hkb
 go_wp2_with (refine ql (.tmp 4) (.tmp 28) rfl rfl n5q rfl rfl qf HC1.out rfl qf ?_)
 intro w3 f3 k3 s3
 have HF3 := Hdq (HF1.out.then f3 (fun z hz => .inr vH))
 have HK3 := Hdq k3
 clear f3 k3 s3
 go_wp2
 refine bodyPost_ret (jC rfl _ _ Z [.slice none 0 0, .slice none 0 0, .slice none 0 0, .slice none 0 0, .slice none 0 0] rfl (qr HK3.out) Tryz.underlying29 rfl qf) rfl ?_
 exact ⟨by rw [HKB.out]; rfl, HF3.out⟩
theorem qbL (w0 : World) (mv : Value) (m : List UInt8) (n : Int) (hB : Bs (fun b => w0.heap.size <= b) w0 mv m) (hR : RG w0) (hk : qz m n = 0) :
  Calls Tryz.prog 11 #[mv, .int .i64 n] w0 fun e w' => ∃ u0 u1 u2 u3 u4, e = .returned (.tuple #[.agg #[u0, u1, u2, u3, u4], .int .i64 0]) /\ (qi 5 w0.heap.size w' u0 (qv m jT n) /\ qi 5 w0.heap.size w' u1 (qv m je n) /\ qi 5 w0.heap.size w' u2 (qv m jw n) /\ qi 5 w0.heap.size w' u3 (qv m zi n) /\ qi 5 w0.heap.size w' u4 (qv m Zw n)) /\ Fr [] w0 w' := by
 obtain ⟨ma, mc, rfl, -, -, -⟩ := id hB
 obtain ⟨mn, hmn⟩ := exq (m.length)
 rw [hmn] at hB ⊢
 obtain ⟨Z, hZ⟩ := exq (w0.heap.size)
 have F0 : Fr [] w0 (((w0.alloc (.cells n5q 29)).alloc (.cells n5q 29)).alloc (.cells #[.string ⟨#[109, 97, 115, 107]⟩, .string ⟨#[112, 108, 97, 99, 101]⟩, .string ⟨#[115, 101, 110, 116, 105, 110, 101, 108]⟩, .string ⟨#[116, 97, 103]⟩, .string ⟨#[115, 112, 111, 116]⟩] 9)) := (Fr.alloc _ _).al.al
 have HF := Hdq F0
 have HKK := Hdq hk
 have HB := Hdq (fun wi (h : Fr [] w0 wi) => hB.mono (A' := fun b => wi.heap.size <= b) h qg (fun b hb => .inl (Nat.le_trans h.size hb)))
 have HR := Hdq (fun wi (h : Fr [] w0 wi) => hR.keep h)
 have HC := Hdq (show At (((w0.alloc (.cells n5q 29)).alloc (.cells n5q 29)).alloc (.cells #[.string ⟨#[109, 97, 115, 107]⟩, .string ⟨#[112, 108, 97, 99, 101]⟩, .string ⟨#[115, 101, 110, 116, 105, 110, 101, 108]⟩, .string ⟨#[116, 97, 103]⟩, .string ⟨#[115, 112, 111, 116]⟩] 9)) Z (.cells n5q 29) from (At.new hZ.symm).al.al)
 have HK := Hdq (show At (((w0.alloc (.cells n5q 29)).alloc (.cells n5q 29)).alloc (.cells #[.string ⟨#[109, 97, 115, 107]⟩, .string ⟨#[112, 108, 97, 99, 101]⟩, .string ⟨#[115, 101, 110, 116, 105, 110, 101, 108]⟩, .string ⟨#[116, 97, 103]⟩, .string ⟨#[115, 112, 111, 116]⟩] 9)) (Z + 1) (.cells n5q 29) from (At.new vt).al)
 have HL := Hdq (show At (((w0.alloc (.cells n5q 29)).alloc (.cells n5q 29)).alloc (.cells #[.string ⟨#[109, 97, 115, 107]⟩, .string ⟨#[112, 108, 97, 99, 101]⟩, .string ⟨#[115, 101, 110, 116, 105, 110, 101, 108]⟩, .string ⟨#[116, 97, 103]⟩, .string ⟨#[115, 112, 111, 116]⟩] 9)) (Z + 2) (.cells #[.string ⟨#[109, 97, 115, 107]⟩, .string ⟨#[112, 108, 97, 99, 101]⟩, .string ⟨#[115, 101, 110, 116, 105, 110, 101, 108]⟩, .string ⟨#[116, 97, 103]⟩, .string ⟨#[115, 112, 111, 116]⟩] 9) from At.new vt)
 have HSZ := Hdq (show Z + 3 <= (((w0.alloc (.cells n5q 29)).alloc (.cells n5q 29)).alloc (.cells #[.string ⟨#[109, 97, 115, 107]⟩, .string ⟨#[112, 108, 97, 99, 101]⟩, .string ⟨#[115, 101, 110, 116, 105, 110, 101, 108]⟩, .string ⟨#[116, 97, 103]⟩, .string ⟨#[115, 112, 111, 116]⟩] 9)).heap.size from by simp [hZ])
 have HZ := Hdq hZ
 clear hB hR hk F0 hmn
 go_enter Tryz.func11, Tryz.ntmps11
 go_wp2
 refine wp_loop_rounds 6 ?_
 clear hZ
 obtain ⟨wa, hwa⟩ := exq ((((w0.alloc (.cells n5q 29)).alloc (.cells n5q 29)).alloc (.cells #[.string ⟨#[109, 97, 115, 107]⟩, .string ⟨#[112, 108, 97, 99, 101]⟩, .string ⟨#[115, 101, 110, 116, 105, 110, 101, 108]⟩, .string ⟨#[116, 97, 103]⟩, .string ⟨#[115, 112, 111, 116]⟩] 9)))
 rw [hwa] at HF HC HK HL HSZ ⊢
 clear hwa
 rw [rounds_succ]
 have c0 : wa.cell? ⟨Z + 2, 0, none⟩ = some (.string ⟨#[109, 97, 115, 107]⟩) := HL.out.cell 0
 go_wp2_with (go_at_call 52; fail)
 refine (vA wa (.slice ma mn mc) m n _ (HB.out _ HF.out) Vh (HR.out _ HF.out)).mono ?_
 rintro e wb0 ⟨u0, rfl, h1, -, hf⟩
 have hu := (h1 HKK.out).base (base' := Z + 3) HSZ.out
 rw [HKK.out]
 obtain ⟨x0, n0, y0, rfl⟩ := jh hu
 replace HF := Hdq (HF.out.trans hf)
 replace HC := Hdq (HC.out.keep0 hf)
 replace HK := Hdq (HK.out.keep0 hf)
 replace HL := Hdq (HL.out.keep0 hf)
 replace HSZ := Hdq (Nat.le_trans HSZ.out hf.size)
 have HO0 := Hdq hu
 clear h1 hf hu c0
 go_wp2_with (refine qj (.tmp 32) (.tmp 31) rfl rfl _ rfl rfl HK.out (show 0 < 5 by decide) qf rfl ?_)
 intro wc0 f3 k3 s3
 replace HK := Hdq (show At wc0 (Z + 1) (.cells #[.slice x0 n0 y0, .slice none 0 0, .slice none 0 0, .slice none 0 0, .slice none 0 0] 29) from by simpa using k3)
 replace HF := Hdq (HF.out.then f3 (fun z hz => .inr vH))
 replace HC := Hdq (HC.out.keep f3 qg)
 replace HL := Hdq (HL.out.keep f3 qg)
 replace HSZ := Hdq (Nat.le_trans HSZ.out f3.size)
 replace HO0 := Hdq (HO0.out.keep f3 qg)
 clear f3 k3 s3
 go_wp2
 rw [rounds_succ]
 have c1 : wc0.cell? ⟨Z + 2, 1, none⟩ = some (.string ⟨#[112, 108, 97, 99, 101]⟩) := HL.out.cell 1
 go_wp2_with (go_at_call 52; fail)
 refine (vA wc0 (.slice ma mn mc) m n _ (HB.out _ HF.out) Wq (HR.out _ HF.out)).mono ?_
 rintro e wb1 ⟨u1, rfl, h1, -, hf⟩
 have hu := (h1 HKK.out).base (base' := Z + 3) HSZ.out
 rw [HKK.out]
 obtain ⟨x1, n1, y1, rfl⟩ := jh hu
 replace HF := Hdq (HF.out.trans hf)
 replace HC := Hdq (HC.out.keep0 hf)
 replace HK := Hdq (HK.out.keep0 hf)
 replace HL := Hdq (HL.out.keep0 hf)
 replace HSZ := Hdq (Nat.le_trans HSZ.out hf.size)
 replace HO0 := Hdq (HO0.out.keep hf qg)
 have HO1 := Hdq hu
 clear h1 hf hu c1
 go_wp2_with (refine qj (.tmp 32) (.tmp 31) rfl rfl _ rfl rfl HK.out (show 1 < 5 by decide) qf rfl ?_)
 intro wc1 f3 k3 s3
 replace HK := Hdq (show At wc1 (Z + 1) (.cells #[.slice x0 n0 y0, .slice x1 n1 y1, .slice none 0 0, .slice none 0 0, .slice none 0 0] 29) from by simpa using k3)
 replace HF := Hdq (HF.out.then f3 (fun z hz => .inr vH))
 replace HC := Hdq (HC.out.keep f3 qg)
 replace HL := Hdq (HL.out.keep f3 qg)
 replace HSZ := Hdq (Nat.le_trans HSZ.out f3.size)
 replace HO0 := Hdq (HO0.out.keep f3 qg)
 replace HO1 := Hdq (HO1.out.keep f3 qg)
 clear f3 k3 s3
 go_wp2
 rw [rounds_succ]
 have c2 : wc1.cell? ⟨Z + 2, 2, none⟩ = some (.string ⟨#[115, 101, 110, 116, 105, 110, 101, 108]⟩) := HL.out.cell 2
 go_wp2_with (go_at_call 52; fail)
 refine (vA wc1 (.slice ma mn mc) m n _ (HB.out _ HF.out) qap (HR.out _ HF.out)).mono ?_
 rintro e wb2 ⟨u2, rfl, h1, -, hf⟩
 have hu := (h1 HKK.out).base (base' := Z + 3) HSZ.out
 rw [HKK.out]
 obtain ⟨x2, n2, y2, rfl⟩ := jh hu
 replace HF := Hdq (HF.out.trans hf)
 replace HC := Hdq (HC.out.keep0 hf)
 replace HK := Hdq (HK.out.keep0 hf)
 replace HL := Hdq (HL.out.keep0 hf)
 replace HSZ := Hdq (Nat.le_trans HSZ.out hf.size)
 replace HO0 := Hdq (HO0.out.keep hf qg)
 replace HO1 := Hdq (HO1.out.keep hf qg)
 have HO2 := Hdq hu
 clear h1 hf hu c2
 go_wp2_with (refine qj (.tmp 32) (.tmp 31) rfl rfl _ rfl rfl HK.out (show 2 < 5 by decide) qf rfl ?_)
 intro wc2 f3 k3 s3
 replace HK := Hdq (show At wc2 (Z + 1) (.cells #[.slice x0 n0 y0, .slice x1 n1 y1, .slice x2 n2 y2, .slice none 0 0, .slice none 0 0] 29) from by simpa using k3)
 replace HF := Hdq (HF.out.then f3 (fun z hz => .inr vH))
 replace HC := Hdq (HC.out.keep f3 qg)
 replace HL := Hdq (HL.out.keep f3 qg)
 replace HSZ := Hdq (Nat.le_trans HSZ.out f3.size)
 replace HO0 := Hdq (HO0.out.keep f3 qg)
 replace HO1 := Hdq (HO1.out.keep f3 qg)
 replace HO2 := Hdq (HO2.out.keep f3 qg)
 clear f3 k3 s3
 go_wp2
 rw [rounds_succ]
 have c3 : wc2.cell? ⟨Z + 2, 3, none⟩ = some (.string ⟨#[116, 97, 103]⟩) := HL.out.cell 3
 go_wp2_with (go_at_call 52; fail)
 refine (vA wc2 (.slice ma mn mc) m n _ (HB.out _ HF.out) qbq (HR.out _ HF.out)).mono ?_
 rintro e wb3 ⟨u3, rfl, h1, -, hf⟩
 have hu := (h1 HKK.out).base (base' := Z + 3) HSZ.out
 rw [HKK.out]
 obtain ⟨x3, n3, y3, rfl⟩ := jh hu
 replace HF := Hdq (HF.out.trans hf)
 replace HC := Hdq (HC.out.keep0 hf)
 replace HK := Hdq (HK.out.keep0 hf)
 replace HL := Hdq (HL.out.keep0 hf)
 replace HSZ := Hdq (Nat.le_trans HSZ.out hf.size)
 replace HO0 := Hdq (HO0.out.keep hf qg)
 replace HO1 := Hdq (HO1.out.keep hf qg)
 replace HO2 := Hdq (HO2.out.keep hf qg)
 have HO3 := Hdq hu
 clear h1 hf hu c3
 go_wp2_with (refine qj (.tmp 32) (.tmp 31) rfl rfl _ rfl rfl HK.out (show 3 < 5 by decide) qf rfl ?_)
 intro wc3 f3 k3 s3
 replace HK := Hdq (show At wc3 (Z + 1) (.cells #[.slice x0 n0 y0, .slice x1 n1 y1, .slice x2 n2 y2, .slice x3 n3 y3, .slice none 0 0] 29) from by simpa using k3)
 replace HF := Hdq (HF.out.then f3 (fun z hz => .inr vH))
 replace HC := Hdq (HC.out.keep f3 qg)
 replace HL := Hdq (HL.out.keep f3 qg)
 replace HSZ := Hdq (Nat.le_trans HSZ.out f3.size)
 replace HO0 := Hdq (HO0.out.keep f3 qg)
 replace HO1 := Hdq (HO1.out.keep f3 qg)
 replace HO2 := Hdq (HO2.out.keep f3 qg)
 replace HO3 := Hdq (HO3.out.keep f3 qg)
 clear f3 k3 s3
 go_wp2
 rw [rounds_succ]
 have c4 : wc3.cell? ⟨Z + 2, 4, none⟩ = some (.string ⟨#[115, 112, 111, 116]⟩) := HL.out.cell 4
 go_wp2_with (go_at_call 52; fail)
 refine (vA wc3 (.slice ma mn mc) m n _ (HB.out _ HF.out) qbi (HR.out _ HF.out)).mono ?_
 rintro e wb4 ⟨u4, rfl, h1, -, hf⟩
 have hu := (h1 HKK.out).base (base' := Z + 3) HSZ.out
 rw [HKK.out]
 obtain ⟨x4, n4, y4, rfl⟩ := jh hu
 replace HF := Hdq (HF.out.trans hf)
 replace HC := Hdq (HC.out.keep0 hf)
 replace HK := Hdq (HK.out.keep0 hf)
 replace HL := Hdq (HL.out.keep0 hf)
 replace HSZ := Hdq (Nat.le_trans HSZ.out hf.size)
 replace HO0 := Hdq (HO0.out.keep hf qg)
 replace HO1 := Hdq (HO1.out.keep hf qg)
 replace HO2 := Hdq (HO2.out.keep hf qg)
 replace HO3 := Hdq (HO3.out.keep hf qg)
 have HO4 := Hdq hu
 clear h1 hf hu c4
 go_wp2_with (refine qj (.tmp 32) (.tmp 31) rfl rfl _ rfl rfl HK.out (show 4 < 5 by decide) qf rfl ?_)
 intro wc4 f3 k3 s3
 replace HK := Hdq (show At wc4 (Z + 1) (.cells #[.slice x0 n0 y0, .slice x1 n1 y1, .slice x2 n2 y2, .slice x3 n3 y3, .slice x4 n4 y4] 29) from by simpa using k3)
 replace HF := Hdq (HF.out.then f3 (fun z hz => .inr vH))
 replace HC := Hdq (HC.out.keep f3 qg)
 replace HL := Hdq (HL.out.keep f3 qg)
 replace HSZ := Hdq (Nat.le_trans HSZ.out f3.size)
 replace HO0 := Hdq (HO0.out.keep f3 qg)
 replace HO1 := Hdq (HO1.out.keep f3 qg)
 replace HO2 := Hdq (HO2.out.keep f3 qg)
 replace HO3 := Hdq (HO3.out.keep f3 qg)
 replace HO4 := Hdq (HO4.out.keep f3 qg)
 clear f3 k3 s3
 go_wp2
 rw [rounds_succ]
 go_wp2_with (first | (refine qu (.tmp 6) rfl rfl (Z + 1) 0 [.slice x0 n0 y0, .slice x1 n1 y1, .slice x2 n2 y2, .slice x3 n3 y3, .slice x4 n4 y4] rfl (qr HK.out) Tryz.underlying29 rfl qf ?_) | (refine ql (.tmp 4) (.tmp 34) rfl rfl #[.slice x0 n0 y0, .slice x1 n1 y1, .slice x2 n2 y2, .slice x3 n3 y3, .slice x4 n4 y4] rfl rfl qf HC.out rfl qf ?_))
 intro w9 f9 k9 s9
 have HF9 := Hdq (HF.out.then f9 (fun z hz => .inr vH))
 have HK9 := Hdq k9
 have HP0 := Hdq ((HO0.out.keep f9 qg).base (base' := w0.heap.size) qbh)
 have HP1 := Hdq ((HO1.out.keep f9 qg).base (base' := w0.heap.size) qbh)
 have HP2 := Hdq ((HO2.out.keep f9 qg).base (base' := w0.heap.size) qbh)
 have HP3 := Hdq ((HO3.out.keep f9 qg).base (base' := w0.heap.size) qbh)
 have HP4 := Hdq ((HO4.out.keep f9 qg).base (base' := w0.heap.size) qbh)
 clear f9 k9 s9
 go_wp2
 refine bodyPost_ret (jC rfl _ _ Z [.slice x0 n0 y0, .slice x1 n1 y1, .slice x2 n2 y2, .slice x3 n3 y3, .slice x4 n4 y4] rfl (qr HK9.out) Tryz.underlying29 rfl qf) rfl ?_
 exact ⟨_, _, _, _, _, rfl, ⟨HP0.out, HP1.out, HP2.out, HP3.out, HP4.out⟩, HF9.out⟩
end Go.Proofs.YtnafknkchbfpaaaGreatDoor
