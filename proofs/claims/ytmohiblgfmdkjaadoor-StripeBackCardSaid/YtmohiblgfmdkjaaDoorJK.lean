/-
  Layer 6: stripe.Rebuild, walked. (printed by genrq2.py)
-/
import Derived.Test.YtmohiblgfmdkjaaDoorJI
import Derived.Test.YtmohiblgfmdkjaaDoorJM
import Derived.Test.YtmohiblgfmdkjaaDoorJH
import Derived.OwnWalk
import Derived.BigQuiet
namespace Go.Proofs.YtmohiblgfmdkjaaDoor
open Go.RowKit Go.Bl
set_option linter.unusedVariables false
/-- which error stripe.Rebuild answers -/
noncomputable def rebBad (bs : List (List UInt8)) (size : Int) : Nat := by
  classical exact if size < 0 ∨ 2000 < size then 8 else if offN (shZ size) (shZ size).length ≠ bs.length then 4 else if gAll bs (shZ size) (shZ size).length ∧ zeroAll ((fileK bs (shZ size) (shZ size).length).drop size.toNat) then 0 else 17
theorem rebBad_8 {bs : List (List UInt8)} {size : Int} (h : size < 0 ∨ 2000 < size) : rebBad bs size = 8 := by unfold rebBad; rw [if_pos h]
theorem rebBad_4 {bs : List (List UInt8)} {size : Int} (h : ¬ (size < 0 ∨ 2000 < size)) (h2 : offN (shZ size) (shZ size).length ≠ bs.length) : rebBad bs size = 4 := by unfold rebBad; rw [if_neg h, if_pos h2]
theorem rebBad_0 {bs : List (List UInt8)} {size : Int} (h : ¬ (size < 0 ∨ 2000 < size)) (h2 : offN (shZ size) (shZ size).length = bs.length) (h3 : gAll bs (shZ size) (shZ size).length ∧ zeroAll ((fileK bs (shZ size) (shZ size).length).drop size.toNat)) : rebBad bs size = 0 := by unfold rebBad; rw [if_neg h, if_neg (fun h => h h2), if_pos h3]
theorem rebBad_17 {bs : List (List UInt8)} {size : Int} (h : ¬ (size < 0 ∨ 2000 < size)) (h2 : offN (shZ size) (shZ size).length = bs.length) (h3 : ¬ (gAll bs (shZ size) (shZ size).length ∧ zeroAll ((fileK bs (shZ size) (shZ size).length).drop size.toNat))) : rebBad bs size = 17 := by unfold rebBad; rw [if_neg h, if_neg (fun h => h h2), if_neg h3]
def rebAllP (E : Nat → Addr) (w : World) (bs : List (List UInt8)) (size : Int) (e : Ending) (w' : World) : Prop :=
  ((∃ K, e = .returned (.tuple #[.agg #[.slice none 0 0, .slice none 0 0, .slice none 0 0], .iface 261 (.pointer (some (E K)))]) ∧ rebBad bs size = K ∧ K ≠ 0) ∨
   (rebBad bs size = 0 ∧ ∃ fv ev nv, e = .returned (.tuple #[.agg #[fv, ev, nv], .nilIface]) ∧ OwnB 5 w.heap.size w' fv ((fileK bs (shZ size) (shZ size).length).take size.toNat) ∧
     OwnI 3 w.heap.size w' ev (intL (eraK bs (shZ size) (shZ size).length)) ∧ OwnI 3 w.heap.size w' nv (intL (nhK bs (shZ size) (shZ size).length)))) ∧ Fr [] w w'
set_option maxRecDepth 100000 in
set_option maxHeartbeats 4000000 in
theorem rebuild_size (E : Nat → Addr) (B : Nat) (w : World) (v : Value) (bs : List (List UInt8)) (size : Int) (hE : Errs all20 E B w) (h : size < 0 ∨ 2000 < size) : Calls Tryd.prog 9 #[v, .int .i64 size] w (rebAllP E w bs size) := by
  suffices H : ∀ Q : Ending → World → Prop, (∀ e w', rebAllP E w bs size e w' → Q e w') → Calls Tryd.prog 9 #[v, .int .i64 size] w Q from H _ fun _ _ h => h
  intro Q hQ
  have HQ := Lib.hid hQ
  have HBAD := Lib.hid (rebBad_8 (bs := bs) h)
  have HR0 := Lib.hid (show At (w.alloc (.cells #[.slice none 0 0, .slice none 0 0, .slice none 0 0] 34)) w.heap.size (.cells #[.slice none 0 0, .slice none 0 0, .slice none 0 0] 34) from At.new rfl)
  have HF0 := Lib.hid (show Fr [] w (w.alloc (.cells #[.slice none 0 0, .slice none 0 0, .slice none 0 0] 34)) from Fr.alloc _ _)
  obtain ⟨w0, hw0⟩ : ∃ x, w.alloc (.cells #[.slice none 0 0, .slice none 0 0, .slice none 0 0] 34) = x := ⟨_, rfl⟩
  rw [hw0] at HR0 HF0
  have HSH := Lib.hid (shape_bad all20 E B w0 (hE.keep0 HF0.out) (by decide) size h)
  rw [errv_pos E 8 (by decide)] at HSH
  clear hQ hE h
  go_enter Tryd.func9, Tryd.ntmps9
  go_wp2_with (go_at_call 29; fail)
  try rw [hw0]
  clear hw0
  refine HSH.out.mono ?_
  rintro e w1 ⟨rfl, hf⟩
  have HR1 := Lib.hid (HR0.out.keep0 hf)
  have HF1 := Lib.hid (HF0.out.trans hf)
  clear hf HR0 HF0 HSH
  go_wp2_with (refine wpl_store_at (.tmp 4) (.tmp 25) rfl rfl #[.slice none 0 0, .slice none 0 0, .slice none 0 0] rfl rfl (by kernel_rfl) HR1.out (by simp) (by simp [Value.oneCell']) ?_)
  intro w9 hf9 hr9 _
  have HF9 := Lib.hid (show Fr [] w w9 from HF1.out.then hf9 (by intro x hx; simp at hx; subst hx; exact .inr (Nat.le_refl _)))
  have hc0 := hr9.cell 0
  have hc1 := hr9.cell 1
  have hc2 := hr9.cell 2
  simp at hc0 hc1 hc2
  clear hf9 hr9
  go_wp2
  refine bodyPost_ret (v := .tuple #[.agg #[.slice none 0 0, .slice none 0 0, .slice none 0 0], .iface 261 (.pointer (some (E 8)))]) ?_ rfl ?_
  · rw [results_cell_tmp rfl]
    simp [asAddr, Result.andThen, hc0, hc1, hc2, go_sem]
  · exact HQ.out _ _ ⟨.inl ⟨8, rfl, HBAD.out, by decide⟩, HF9.out⟩
set_option maxRecDepth 100000 in
set_option maxHeartbeats 4000000 in
theorem rebuild_form (E : Nat → Addr) (B : Nat) (w : World) (v : Value) (ls : List (Value × List UInt8)) (bs : List (List UInt8)) (size : Int) (hE : Errs all20 E B w) (hr : RdB (fun _ => False) w v ls) (hls : ls.map (·.2) = bs) (h0 : 0 ≤ size) (h2 : size ≤ 2000) (hne : offN (shZ size) (shZ size).length ≠ bs.length) : Calls Tryd.prog 9 #[v, .int .i64 size] w (rebAllP E w bs size) := by
  suffices H : ∀ Q : Ending → World → Prop, (∀ e w', rebAllP E w bs size e w' → Q e w') → Calls Tryd.prog 9 #[v, .int .i64 size] w Q from H _ fun _ _ h => h
  intro Q hQ
  have HQ := Lib.hid hQ
  have HBAD := Lib.hid (rebBad_4 (bs := bs) (size := size) (by omega) hne)
  have HER := Lib.hid hE
  have hbl : bs.length = ls.length := by rw [← hls, List.length_map]
  obtain ⟨ba, bc, e, c2, c3⟩ := rdb_shape hr
  subst e
  unfold maxLen at c3
  have hst := shZ_tot h2
  rw [← hbl] at c2 ⊢
  obtain ⟨n, hn⟩ : ∃ n, bs.length = n := ⟨_, rfl⟩
  rw [hn] at c2 hne ⊢
  obtain ⟨T_, hT⟩ : ∃ t, offN (shZ size) (shZ size).length = t := ⟨_, rfl⟩
  rw [hT] at hne hst
  have hnei : ¬ ((T_ : Int) = (n : Int)) := by omega
  have HR0 := Lib.hid (show At (w.alloc (.cells #[.slice none 0 0, .slice none 0 0, .slice none 0 0] 34)) w.heap.size (.cells #[.slice none 0 0, .slice none 0 0, .slice none 0 0] 34) from At.new rfl)
  have HF0 := Lib.hid (show Fr [] w (w.alloc (.cells #[.slice none 0 0, .slice none 0 0, .slice none 0 0] 34)) from Fr.alloc _ _)
  obtain ⟨w0, hw0⟩ : ∃ x, w.alloc (.cells #[.slice none 0 0, .slice none 0 0, .slice none 0 0] 34) = x := ⟨_, rfl⟩
  rw [hw0] at HR0 HF0
  have HSH := Lib.hid (shape_ok w0 size h0 h2)
  have HTO := Lib.hid (fun w' => total_ok w' size h0 h2)
  rw [hst] at HTO
  have hlt : 0 < w.heap.size := by
    obtain ⟨t, fz, hh⟩ := hE.glob 4 (by decide)
    exact (Array.getElem?_eq_some_iff.1 hh).1
  have hn1 : ¬ 0 = w.heap.size := by omega
  have hn2 : ¬ w.heap.size = 0 := by omega
  clear hQ hE hr hls hbl hst hT hne hlt hn
  go_enter Tryd.func9, Tryd.ntmps9
  go_wp2_with (go_at_call 29; fail)
  try rw [hw0]
  clear hw0
  refine HSH.out.mono ?_
  rintro e w1 ⟨sv, rfl, ho, hf⟩
  have HR1 := Lib.hid (HR0.out.keep0 hf)
  have HF1 := Lib.hid (HF0.out.trans hf)
  clear hf HR0 HF0 HSH ho
  go_wp2_with (go_at_call 28; fail)
  refine (HTO.out w1).mono ?_
  rintro e w2 ⟨rfl, hf⟩
  have HR2 := Lib.hid (HR1.out.keep0 hf)
  have HF2 := Lib.hid (HF1.out.trans hf)
  have hcc := (HER.out.keep0 HF2.out).cell 4 (by decide)
  simp only [gOf, List.getD_eq_getElem?_getD, List.getElem?_cons_zero, List.getElem?_cons_succ, Option.getD_some] at hcc
  clear hf HR1 HF1 HTO
  obtain ⟨rb, hrb⟩ : ∃ x, w.heap.size = x := ⟨_, rfl⟩
  have HRB := Lib.hid hrb
  rw [hrb] at HR2 hn1 hn2 ⊢
  clear hrb
  have z0 := HR2.out.cell 0
  have z1 := HR2.out.cell 1
  have z2 := HR2.out.cell 2
  have f0 := HR2.out.free 0
  have f1 := HR2.out.free 1
  have f2 := HR2.out.free 2
  simp at z0 z1 z2
  go_wp2
  go_region
  have HF9 := Lib.hid (show Fr [rb] w2 (((w2.setCell ⟨rb, 0, none⟩ (.slice none 0 0)).setCell ⟨rb, 1, none⟩ (.slice none 0 0)).setCell ⟨rb, 2, none⟩ (.slice none 0 0)).drew from ((((Fr.refl _ _).sc (.inr (by simp))).sc (.inr (by simp))).sc (.inr (by simp))).dr)
  have hr9 : At (((w2.setCell ⟨rb, 0, none⟩ (.slice none 0 0)).setCell ⟨rb, 1, none⟩ (.slice none 0 0)).setCell ⟨rb, 2, none⟩ (.slice none 0 0)).drew rb (.cells #[.slice none 0 0, .slice none 0 0, .slice none 0 0] 34) := by
    have h := ((HR2.out.set 0 (.slice none 0 0)).set 1 (.slice none 0 0)).set 2 (.slice none 0 0)
    simp only [Array.setIfInBounds, List.size_toArray, List.length_cons, List.length_nil] at h
    exact At.keep0 h (Fr.drew _)
  have hc0 := hr9.cell 0
  have hc1 := hr9.cell 1
  have hc2 := hr9.cell 2
  simp only [List.getElem?_toArray, List.getElem?_cons_zero, List.getElem?_cons_succ] at hc0 hc1 hc2
  clear hr9 z0 z1 z2 f0 f1 f2 hcc
  generalize (((w2.setCell ⟨rb, 0, none⟩ (.slice none 0 0)).setCell ⟨rb, 1, none⟩ (.slice none 0 0)).setCell ⟨rb, 2, none⟩ (.slice none 0 0)).drew = w9 at HF9 hc0 hc1 hc2 ⊢
  go_wp2
  refine bodyPost_ret (v := .tuple #[.agg #[.slice none 0 0, .slice none 0 0, .slice none 0 0], .iface 261 (.pointer (some (E 4)))]) ?_ rfl ?_
  · rw [results_cell_tmp rfl]
    simp [asAddr, Result.andThen, hc0, hc1, hc2, go_sem]
  · exact HQ.out _ _ ⟨.inl ⟨4, rfl, HBAD.out, by decide⟩, HF2.out.then HF9.out (by intro x hx; simp at hx; subst hx; exact .inr (by rw [HRB.out]; exact Nat.le_refl _))⟩
set_option maxRecDepth 100000 in
set_option maxHeartbeats 8000000 in
theorem rebuild_go (E : Nat → Addr) (B : Nat) (w : World) (v : Value) (ls : List (Value × List UInt8)) (bs : List (List UInt8)) (size : Int) (hE : Errs all20 E B w) (hr : RdB (fun _ => False) w v ls) (hls : ls.map (·.2) = bs) (h0 : 0 ≤ size) (h2 : size ≤ 2000) (he : offN (shZ size) (shZ size).length = bs.length) : Calls Tryd.prog 9 #[v, .int .i64 size] w (rebAllP E w bs size) := by
  suffices H : ∀ Q : Ending → World → Prop, (∀ e w', rebAllP E w bs size e w' → Q e w') → Calls Tryd.prog 9 #[v, .int .i64 size] w Q from H _ fun _ _ h => h
  intro Q hQ
  have HQ := Lib.hid hQ
  have HB17 := Lib.hid (fun h => rebBad_17 (bs := bs) (size := size) (by omega) he h)
  have HB0 := Lib.hid (fun h => rebBad_0 (bs := bs) (size := size) (by omega) he h)
  have HER := Lib.hid hE
  have hbl : bs.length = ls.length := by rw [← hls, List.length_map]
  have HLS := Lib.hid hls
  obtain ⟨ba, bc, e, c2, c3⟩ := rdb_shape hr
  subst e
  have HRD := Lib.hid hr
  unfold maxLen at c3
  have hst := shZ_tot h2
  have hmap := shZ_map size h2
  have hsl := shZ_len h2
  have hsum := shZ_sum h2
  have hnb := nblk_le size h2
  have hzle : size.toNat ≤ 8 * nblk size := by unfold nblk; omega
  obtain ⟨z, hz⟩ : ∃ z, size.toNat = z := ⟨_, rfl⟩
  have hzi : (z : Int) = size := by omega
  have HZI := Lib.hid hzi
  rw [hz] at hzle
  rw [he, hbl] at hst
  have HOF := Lib.hid (show ls.length = offN (shZ size) (shZ size).length by rw [he, hbl])
  obtain ⟨n, hn⟩ : ∃ n, ls.length = n := ⟨_, rfl⟩
  rw [hn] at c2 hst HRD HOF ⊢
  have HN := Lib.hid hn
  obtain ⟨sh, hsh⟩ : ∃ s, shZ size = s := ⟨_, rfl⟩
  have HSHZ := Lib.hid hsh
  rw [hsh] at HOF HB17 HB0 hmap hsl hsum
  obtain ⟨SL, hSL⟩ : ∃ s, sh.length = s := ⟨_, rfl⟩
  have HSL := Lib.hid hSL
  rw [hSL] at HOF HB17 HB0 hsl
  have hflen : (fileK bs sh SL).length = 8 * nblk size := by rw [fileK_len _ _ _ (by omega), ← hSL, List.take_length, hsum]
  have HFL := Lib.hid hflen
  have HZL := Lib.hid hzle
  have HNB := Lib.hid hnb
  rw [hz] at HB17 HB0
  have HQ2 := Lib.hid (fun (fv ev nv : Value) (w' : World) (k1 : gAll bs sh SL) (k2 : zeroAll ((fileK bs sh SL).drop z)) (k3 : OwnB 5 w.heap.size w' fv ((fileK bs sh SL).take z)) (k4 : OwnI 3 w.heap.size w' ev (intL (eraK bs sh SL))) (k5 : OwnI 3 w.heap.size w' nv (intL (nhK bs sh SL))) (k6 : Fr [] w w') => HQ.out (.returned (.tuple #[.agg #[fv, ev, nv], .nilIface])) w' ⟨.inr ⟨HB0.out ⟨k1, k2⟩, fv, ev, nv, rfl, by rw [HSHZ.out, HSL.out, hz]; exact k3, by rw [HSHZ.out, HSL.out]; exact k4, by rw [HSHZ.out, HSL.out]; exact k5⟩, k6⟩)
  have HR0 := Lib.hid (show At (w.alloc (.cells #[.slice none 0 0, .slice none 0 0, .slice none 0 0] 34)) w.heap.size (.cells #[.slice none 0 0, .slice none 0 0, .slice none 0 0] 34) from At.new rfl)
  have HF0 := Lib.hid (show Fr [] w (w.alloc (.cells #[.slice none 0 0, .slice none 0 0, .slice none 0 0] 34)) from Fr.alloc _ _)
  obtain ⟨w0, hw0⟩ : ∃ x, w.alloc (.cells #[.slice none 0 0, .slice none 0 0, .slice none 0 0] 34) = x := ⟨_, rfl⟩
  rw [hw0] at HR0 HF0
  have HSH := Lib.hid (shape_ok w0 size h0 h2)
  have HTO := Lib.hid (fun w' => total_ok w' size h0 h2)
  rw [hst] at HTO
  rw [← hmap] at HSH
  have hlt : 1 < w.heap.size := by
    obtain ⟨t, fz, hh⟩ := hE.glob 17 (by decide)
    exact (Array.getElem?_eq_some_iff.1 hh).1
  have hn1 : ¬ 1 = w.heap.size := by omega
  have hn2 : ¬ w.heap.size = 1 := by omega
  clear hQ hE hr hls hbl hst he hlt hn hsh hSL hmap hsum hflen hzle hnb HB0 hzi
  go_enter Tryd.func9, Tryd.ntmps9
  go_wp2_with (go_at_call 29; fail)
  try rw [hw0]
  clear hw0
  refine HSH.out.mono ?_
  rintro e w1 ⟨sv, rfl, ho, hf⟩
  have HS1 := Lib.hid (show Is (fun _ => False) w1 sv (intL sh) from ho.is (by simp))
  obtain ⟨sa, sc, e, -⟩ := HS1.out.shape
  subst e
  rw [intL_len, HSL.out] at HS1 ⊢
  have HR1 := Lib.hid (HR0.out.keep0 hf)
  have HF1 := Lib.hid (HF0.out.trans hf)
  clear hf HR0 HF0 HSH ho
  go_wp2_with (go_at_call 28; fail)
  refine (HTO.out w1).mono ?_
  rintro e w2 ⟨rfl, hf⟩
  have HR2 := Lib.hid (HR1.out.keep0 hf)
  have HS2 := Lib.hid (HS1.out.keep0 hf)
  have HF2 := Lib.hid (HF1.out.trans hf)
  clear hf HR1 HF1 HTO HS1
  obtain ⟨rb, hrb⟩ : ∃ x, w.heap.size = x := ⟨_, rfl⟩
  have HRB := Lib.hid hrb
  have hrl := HR2.out.lt
  rw [hrb] at HR2 hn1 hn2 hrl ⊢
  clear hrb
  have fa : Fr [] w2 (w2.alloc (.cells #[.slice none 0 0, .slice none 0 0, .slice none 0 0] 34)) := Fr.alloc _ _
  have HB3 := Lib.hid (show At (w2.alloc (.cells #[.slice none 0 0, .slice none 0 0, .slice none 0 0] 34)) w2.heap.size (.cells #[.slice none 0 0, .slice none 0 0, .slice none 0 0] 34) from At.new rfl)
  have HR3 := Lib.hid (HR2.out.keep0 fa)
  have HF3 := Lib.hid fa
  clear fa
  go_wp2_with fail
  refine rq_loop w2 (w2.alloc (.cells #[.slice none 0 0, .slice none 0 0, .slice none 0 0] 34)) _ rfl rfl sa ba rb w2.heap.size SL sc n bc size E B ls bs sh rfl rfl rfl rfl rfl rfl rfl h2 HSHZ.out HSL.out HLS.out (by rw [HN.out]; exact HOF.out) (HER.out.keep0 HF2.out) (HRD.out.keep HF2.out (by simp)) HS2.out HF3.out HB3.out HR3.out (Nat.le_refl _) (by omega) _ ?_ ?_
  · intro c w5 fv ev nv kd ks q1 q4 q10 hga hf hB hO hE hN hR
    have HGA := Lib.hid hga
    have HF5 := Lib.hid hf
    have HB5 := Lib.hid hB
    have HO5 := Lib.hid hO
    have HE5 := Lib.hid hE
    have HN5 := Lib.hid hN
    have HR5 := Lib.hid hR
    obtain ⟨fa, fc, e, -⟩ := hO.bs (A := fun _ => False) (by simp)
    subst e
    obtain ⟨ea, ec, e, -⟩ := (hE.is (A := fun _ => False) (by simp)).shape
    subst e
    obtain ⟨na, nc, e, -⟩ := (hN.is (A := fun _ => False) (by simp)).shape
    subst e
    have hfn := HFL.out
    have hz2 := HZL.out
    have hnb2 := HNB.out
    have HFC := Lib.hid (hO.bs (A := fun _ => False) (by simp))
    obtain ⟨FF, hFF⟩ : ∃ f, fileK bs sh SL = f := ⟨_, rfl⟩
    rw [hFF] at HO5 HFC HB17 HQ2 hfn hB hO HB5
    obtain ⟨fn, hfnn⟩ : ∃ x, FF.length = x := ⟨_, rfl⟩
    have HFN := Lib.hid hfnn
    rw [hfnn] at HO5 HFC hfn hB hO HB5
    obtain ⟨EL, hEL⟩ : ∃ x, (intL (eraK bs sh SL)).length = x := ⟨_, rfl⟩
    obtain ⟨NL, hNL⟩ : ∃ x, (intL (nhK bs sh SL)).length = x := ⟨_, rfl⟩
    rw [hEL] at HE5 HB5 hB hE
    rw [hNL] at HN5 HB5 hB hN
    have hcap : fn ≤ fc ∧ fc ≤ 2 ^ 63 - 1 := by
      obtain ⟨a', c', e, k2, k3, -⟩ := HFC.out
      cases e
      unfold maxLen at k3
      omega
    have hzf : z ≤ fn := by omega
    have hfn2 : fn ≤ 100000 := by omega
    have hzi0 : (0 : Int) ≤ (z : Int) := by omega
    have hzi1 : (z : Int) ≤ fn := by omega
    have hzi2 : (fn : Int) ≤ fc := by omega
    have hzi3 : (z : Int) ≤ fc := by omega
    have HCUT := Lib.hid (HFC.out.cut z hzf)
    have hc0 := HB5.out.cell 0
    simp only [List.getElem?_toArray, List.getElem?_cons_zero, List.getElem?_cons_succ] at hc0
    rw [frame94 c ks kd, q1, q4, q10]
    rw [← HZI.out]
    clear ks kd q1 q4 q10 hga hf hB hO hE hN hR hFF hfnn hEL hNL hfn hz2 hnb2
    by_cases hce : fc = z
    · have hfz : fn = z := by omega
      rw [if_pos hce, hfz, hce, Nat.sub_self] at HCUT
      have HCF := Lib.hid (cfun_zero w5 _ _ HCUT.out (by rw [List.length_drop, HFN.out]; omega))
      rw [hfz, hce] at HO5 HFC HB5 hc0
      clear hzi1 hzi2 hzi3
      clear hce
      go_wp2_with (go_at_call 37; fail)
      refine HCF.out.mono ?_
      rintro e w6 ⟨r, rfl, hrz, hf⟩
      have HRZ := Lib.hid hrz
      have HB6 := Lib.hid (HB5.out.keep0 hf)
      have HR6 := Lib.hid (HR5.out.keep0 hf)
      have HO6 := Lib.hid (HO5.out.keep hf (by simp))
      have HE6 := Lib.hid (HE5.out.keep0 hf)
      have HN6 := Lib.hid (HN5.out.keep0 hf)
      have HF6 := Lib.hid (HF5.out.trans hf)
      clear hrz hf HCF HCUT HB5 HR5 HO5 HE5 HN5 HF5 hc0
      cases r with
      | true =>
        have HNZ := Lib.hid (HRZ.out.1 rfl)
        have HF7 := Lib.hid (HF2.out.trans HF6.out)
        have hcc := (HER.out.keep0 HF7.out).cell 17 (by decide)
        simp only [gOf, List.getD_eq_getElem?_getD, List.getElem?_cons_zero, List.getElem?_cons_succ, Option.getD_some] at hcc
        clear HB6 HO6 HE6 HN6
        have z0 := HR6.out.cell 0
        have z1 := HR6.out.cell 1
        have z2 := HR6.out.cell 2
        have f0 := HR6.out.free 0
        have f1 := HR6.out.free 1
        have f2 := HR6.out.free 2
        simp at z0 z1 z2
        go_wp2
        go_region
        have HF9 := Lib.hid (show Fr [rb] w6 (((w6.setCell ⟨rb, 0, none⟩ (.slice none 0 0)).setCell ⟨rb, 1, none⟩ (.slice none 0 0)).setCell ⟨rb, 2, none⟩ (.slice none 0 0)).drew from ((((Fr.refl _ _).sc (.inr (by simp))).sc (.inr (by simp))).sc (.inr (by simp))).dr)
        have hr9 : At (((w6.setCell ⟨rb, 0, none⟩ (.slice none 0 0)).setCell ⟨rb, 1, none⟩ (.slice none 0 0)).setCell ⟨rb, 2, none⟩ (.slice none 0 0)).drew rb (.cells #[.slice none 0 0, .slice none 0 0, .slice none 0 0] 34) := by
          have h := ((HR6.out.set 0 (.slice none 0 0)).set 1 (.slice none 0 0)).set 2 (.slice none 0 0)
          simp only [Array.setIfInBounds, List.size_toArray, List.length_cons, List.length_nil] at h
          exact At.keep0 h (Fr.drew _)
        have hc0 := hr9.cell 0
        have hc1 := hr9.cell 1
        have hc2 := hr9.cell 2
        simp only [List.getElem?_toArray, List.getElem?_cons_zero, List.getElem?_cons_succ] at hc0 hc1 hc2
        clear hr9 z0 z1 z2 f0 f1 f2 hcc
        generalize (((w6.setCell ⟨rb, 0, none⟩ (.slice none 0 0)).setCell ⟨rb, 1, none⟩ (.slice none 0 0)).setCell ⟨rb, 2, none⟩ (.slice none 0 0)).drew = w9 at HF9 hc0 hc1 hc2 ⊢
        go_wp2
        refine bodyPost_ret (v := .tuple #[.agg #[.slice none 0 0, .slice none 0 0, .slice none 0 0], .iface 261 (.pointer (some (E 17)))]) ?_ rfl ?_
        · rw [results_cell_tmp rfl]
          simp [asAddr, Result.andThen, hc0, hc1, hc2, go_sem]
        · exact HQ.out _ _ ⟨.inl ⟨17, rfl, HB17.out (fun h => HNZ.out h.2), by decide⟩, HF7.out.then HF9.out (by intro x hx; simp at hx; subst hx; exact .inr (by rw [HRB.out]; exact Nat.le_refl _))⟩
      | false =>
        have HZ := Lib.hid (show zeroAll (FF.drop z) from Classical.byContradiction fun h => by
          have := HRZ.out.2 h
          cases this)
        have hc0 := HB6.out.cell 0
        simp only [List.getElem?_toArray, List.getElem?_cons_zero, List.getElem?_cons_succ] at hc0
        have HTK := Lib.hid (OwnB_cut HO6.out z (by rw [HFN.out]; omega))
        clear HRZ
        go_wp2_with (refine wpl_store_one (.tmp 92) (.tmp 91) rfl rfl (.slice fa z z) rfl rfl HB6.out (by simp) (by kernel_rfl) rfl ?_)
        intro w7 f7 a7 _
        have HB7 := Lib.hid (show At w7 w2.heap.size (.cells #[.slice fa z z, .slice ea EL ec, .slice na NL nc] 34) by simpa using a7)
        have HR7 := Lib.hid (HR6.out.keep f7 (by simp; omega))
        have HO7 := Lib.hid (show OwnB 5 w2.heap.size w7 (.slice fa z z) (FF.take z) from own_keep HTK.out f7 (fun g hg hm => by simp at hm; subst hm; exact own_ne_tyB HTK.out HB6.out (by decide) hg))
        have HE7 := Lib.hid (show OwnI 3 w2.heap.size w7 (.slice ea EL ec) (intL (eraK bs sh SL)) from own_keep HE6.out f7 (fun g hg hm => by simp at hm; subst hm; exact own_ne_tyB HE6.out HB6.out (by decide) hg))
        have HN7 := Lib.hid (show OwnI 3 w2.heap.size w7 (.slice na NL nc) (intL (nhK bs sh SL)) from own_keep HN6.out f7 (fun g hg hm => by simp at hm; subst hm; exact own_ne_tyB HN6.out HB6.out (by decide) hg))
        have HF7 := Lib.hid (show Fr [] w w7 from (HF2.out.trans HF6.out).then f7 (by intro x hx; simp at hx; subst hx; exact .inr HF2.out.size))
        clear f7 a7 HB6 HR6 HO6 HE6 HN6 HF6 HTK hc0
        go_wp2_with (first | (refine wpl_load_rowG (.tmp 10) rfl rfl w2.heap.size #[.slice fa z z, .slice ea EL ec, .slice na NL nc] rfl HB7.out Tryd.underlying34 rfl (by kernel_rfl) ?_) | (refine wpl_store_at (.tmp 4) (.tmp 93) rfl rfl #[.slice fa z z, .slice ea EL ec, .slice na NL nc] rfl rfl (by kernel_rfl) HR7.out (by simp) (by simp [Value.oneCell']) ?_))
        intro w9 f9 a9 _
        have hr9 : At w9 rb (.cells #[.slice fa z z, .slice ea EL ec, .slice na NL nc] 34) := by simpa using a9
        have HO9 := Lib.hid (show OwnB 5 w2.heap.size w9 (.slice fa z z) (FF.take z) from own_keep HO7.out f9 (fun g hg hm => by simp at hm; subst hm; exact own_ne_tyB HO7.out HR7.out (by decide) hg))
        have HE9 := Lib.hid (show OwnI 3 w2.heap.size w9 (.slice ea EL ec) (intL (eraK bs sh SL)) from own_keep HE7.out f9 (fun g hg hm => by simp at hm; subst hm; exact own_ne_tyB HE7.out HR7.out (by decide) hg))
        have HN9 := Lib.hid (show OwnI 3 w2.heap.size w9 (.slice na NL nc) (intL (nhK bs sh SL)) from own_keep HN7.out f9 (fun g hg hm => by simp at hm; subst hm; exact own_ne_tyB HN7.out HR7.out (by decide) hg))
        have HF9 := Lib.hid (HF7.out.then f9 (by intro x hx; simp at hx; subst hx; exact .inr (by rw [HRB.out]; exact Nat.le_refl _)))
        have hc0 := hr9.cell 0
        have hc1 := hr9.cell 1
        have hc2 := hr9.cell 2
        simp only [List.getElem?_toArray, List.getElem?_cons_zero, List.getElem?_cons_succ] at hc0 hc1 hc2
        clear f9 a9 hr9 HB7 HR7 HO7 HE7 HN7 HF7
        go_wp2
        refine bodyPost_ret (v := .tuple #[.agg #[.slice fa z z, .slice ea EL ec, .slice na NL nc], .nilIface]) ?_ rfl ?_
        · rw [results_cell_tmp rfl]
          simp [asAddr, Result.andThen, hc0, hc1, hc2, go_sem]
        · exact HQ2.out _ _ _ _ HGA.out HZ.out (HO9.out.base HF2.out.size) (OwnV.base HE9.out HF2.out.size) (OwnV.base HN9.out HF2.out.size) HF9.out
    · rw [if_neg hce] at HCUT
      have HCF := Lib.hid (cfun_zero w5 _ _ HCUT.out (by rw [List.length_drop, HFN.out]; omega))
      have hcei : ¬ ((fc : Int) = (z : Int)) := by omega
      go_wp2_with (go_at_call 37; fail)
      refine HCF.out.mono ?_
      rintro e w6 ⟨r, rfl, hrz, hf⟩
      have HRZ := Lib.hid hrz
      have HB6 := Lib.hid (HB5.out.keep0 hf)
      have HR6 := Lib.hid (HR5.out.keep0 hf)
      have HO6 := Lib.hid (HO5.out.keep hf (by simp))
      have HE6 := Lib.hid (HE5.out.keep0 hf)
      have HN6 := Lib.hid (HN5.out.keep0 hf)
      have HF6 := Lib.hid (HF5.out.trans hf)
      clear hrz hf HCF HCUT HB5 HR5 HO5 HE5 HN5 HF5 hc0
      cases r with
      | true =>
        have HNZ := Lib.hid (HRZ.out.1 rfl)
        have HF7 := Lib.hid (HF2.out.trans HF6.out)
        have hcc := (HER.out.keep0 HF7.out).cell 17 (by decide)
        simp only [gOf, List.getD_eq_getElem?_getD, List.getElem?_cons_zero, List.getElem?_cons_succ, Option.getD_some] at hcc
        clear HB6 HO6 HE6 HN6
        have z0 := HR6.out.cell 0
        have z1 := HR6.out.cell 1
        have z2 := HR6.out.cell 2
        have f0 := HR6.out.free 0
        have f1 := HR6.out.free 1
        have f2 := HR6.out.free 2
        simp at z0 z1 z2
        go_wp2
        go_region
        have HF9 := Lib.hid (show Fr [rb] w6 (((w6.setCell ⟨rb, 0, none⟩ (.slice none 0 0)).setCell ⟨rb, 1, none⟩ (.slice none 0 0)).setCell ⟨rb, 2, none⟩ (.slice none 0 0)).drew from ((((Fr.refl _ _).sc (.inr (by simp))).sc (.inr (by simp))).sc (.inr (by simp))).dr)
        have hr9 : At (((w6.setCell ⟨rb, 0, none⟩ (.slice none 0 0)).setCell ⟨rb, 1, none⟩ (.slice none 0 0)).setCell ⟨rb, 2, none⟩ (.slice none 0 0)).drew rb (.cells #[.slice none 0 0, .slice none 0 0, .slice none 0 0] 34) := by
          have h := ((HR6.out.set 0 (.slice none 0 0)).set 1 (.slice none 0 0)).set 2 (.slice none 0 0)
          simp only [Array.setIfInBounds, List.size_toArray, List.length_cons, List.length_nil] at h
          exact At.keep0 h (Fr.drew _)
        have hc0 := hr9.cell 0
        have hc1 := hr9.cell 1
        have hc2 := hr9.cell 2
        simp only [List.getElem?_toArray, List.getElem?_cons_zero, List.getElem?_cons_succ] at hc0 hc1 hc2
        clear hr9 z0 z1 z2 f0 f1 f2 hcc
        generalize (((w6.setCell ⟨rb, 0, none⟩ (.slice none 0 0)).setCell ⟨rb, 1, none⟩ (.slice none 0 0)).setCell ⟨rb, 2, none⟩ (.slice none 0 0)).drew = w9 at HF9 hc0 hc1 hc2 ⊢
        go_wp2
        refine bodyPost_ret (v := .tuple #[.agg #[.slice none 0 0, .slice none 0 0, .slice none 0 0], .iface 261 (.pointer (some (E 17)))]) ?_ rfl ?_
        · rw [results_cell_tmp rfl]
          simp [asAddr, Result.andThen, hc0, hc1, hc2, go_sem]
        · exact HQ.out _ _ ⟨.inl ⟨17, rfl, HB17.out (fun h => HNZ.out h.2), by decide⟩, HF7.out.then HF9.out (by intro x hx; simp at hx; subst hx; exact .inr (by rw [HRB.out]; exact Nat.le_refl _))⟩
      | false =>
        have HZ := Lib.hid (show zeroAll (FF.drop z) from Classical.byContradiction fun h => by
          have := HRZ.out.2 h
          cases this)
        have hc0 := HB6.out.cell 0
        simp only [List.getElem?_toArray, List.getElem?_cons_zero, List.getElem?_cons_succ] at hc0
        have HTK := Lib.hid (OwnB_cut HO6.out z (by rw [HFN.out]; omega))
        clear HRZ
        go_wp2_with (refine wpl_store_one (.tmp 92) (.tmp 91) rfl rfl (.slice fa z fc) rfl rfl HB6.out (by simp) (by kernel_rfl) rfl ?_)
        intro w7 f7 a7 _
        have HB7 := Lib.hid (show At w7 w2.heap.size (.cells #[.slice fa z fc, .slice ea EL ec, .slice na NL nc] 34) by simpa using a7)
        have HR7 := Lib.hid (HR6.out.keep f7 (by simp; omega))
        have HO7 := Lib.hid (show OwnB 5 w2.heap.size w7 (.slice fa z fc) (FF.take z) from own_keep HTK.out f7 (fun g hg hm => by simp at hm; subst hm; exact own_ne_tyB HTK.out HB6.out (by decide) hg))
        have HE7 := Lib.hid (show OwnI 3 w2.heap.size w7 (.slice ea EL ec) (intL (eraK bs sh SL)) from own_keep HE6.out f7 (fun g hg hm => by simp at hm; subst hm; exact own_ne_tyB HE6.out HB6.out (by decide) hg))
        have HN7 := Lib.hid (show OwnI 3 w2.heap.size w7 (.slice na NL nc) (intL (nhK bs sh SL)) from own_keep HN6.out f7 (fun g hg hm => by simp at hm; subst hm; exact own_ne_tyB HN6.out HB6.out (by decide) hg))
        have HF7 := Lib.hid (show Fr [] w w7 from (HF2.out.trans HF6.out).then f7 (by intro x hx; simp at hx; subst hx; exact .inr HF2.out.size))
        clear f7 a7 HB6 HR6 HO6 HE6 HN6 HF6 HTK hc0
        go_wp2_with (first | (refine wpl_load_rowG (.tmp 10) rfl rfl w2.heap.size #[.slice fa z fc, .slice ea EL ec, .slice na NL nc] rfl HB7.out Tryd.underlying34 rfl (by kernel_rfl) ?_) | (refine wpl_store_at (.tmp 4) (.tmp 93) rfl rfl #[.slice fa z fc, .slice ea EL ec, .slice na NL nc] rfl rfl (by kernel_rfl) HR7.out (by simp) (by simp [Value.oneCell']) ?_))
        intro w9 f9 a9 _
        have hr9 : At w9 rb (.cells #[.slice fa z fc, .slice ea EL ec, .slice na NL nc] 34) := by simpa using a9
        have HO9 := Lib.hid (show OwnB 5 w2.heap.size w9 (.slice fa z fc) (FF.take z) from own_keep HO7.out f9 (fun g hg hm => by simp at hm; subst hm; exact own_ne_tyB HO7.out HR7.out (by decide) hg))
        have HE9 := Lib.hid (show OwnI 3 w2.heap.size w9 (.slice ea EL ec) (intL (eraK bs sh SL)) from own_keep HE7.out f9 (fun g hg hm => by simp at hm; subst hm; exact own_ne_tyB HE7.out HR7.out (by decide) hg))
        have HN9 := Lib.hid (show OwnI 3 w2.heap.size w9 (.slice na NL nc) (intL (nhK bs sh SL)) from own_keep HN7.out f9 (fun g hg hm => by simp at hm; subst hm; exact own_ne_tyB HN7.out HR7.out (by decide) hg))
        have HF9 := Lib.hid (HF7.out.then f9 (by intro x hx; simp at hx; subst hx; exact .inr (by rw [HRB.out]; exact Nat.le_refl _)))
        have hc0 := hr9.cell 0
        have hc1 := hr9.cell 1
        have hc2 := hr9.cell 2
        simp only [List.getElem?_toArray, List.getElem?_cons_zero, List.getElem?_cons_succ] at hc0 hc1 hc2
        clear f9 a9 hr9 HB7 HR7 HO7 HE7 HN7 HF7
        go_wp2
        refine bodyPost_ret (v := .tuple #[.agg #[.slice fa z fc, .slice ea EL ec, .slice na NL nc], .nilIface]) ?_ rfl ?_
        · rw [results_cell_tmp rfl]
          simp [asAddr, Result.andThen, hc0, hc1, hc2, go_sem]
        · exact HQ2.out _ _ _ _ HGA.out HZ.out (HO9.out.base HF2.out.size) (OwnV.base HE9.out HF2.out.size) (OwnV.base HN9.out HF2.out.size) HF9.out
  · intro c w5 kd ks q4 q5 hno hf hR
    have HNO := Lib.hid hno
    have HF5 := Lib.hid (show Fr [] w w5 from HF2.out.then hf (by intro x hx; simp at hx; subst hx; exact .inr (by rw [HRB.out]; exact Nat.le_refl _)))
    have hc0 := hR.cell 0
    have hc1 := hR.cell 1
    have hc2 := hR.cell 2
    simp at hc0 hc1 hc2
    rw [frame94 c ks kd, q4, q5]
    clear ks kd q4 q5 hno hf hR
    go_wp2
    refine bodyPost_ret (v := .tuple #[.agg #[.slice none 0 0, .slice none 0 0, .slice none 0 0], .iface 261 (.pointer (some (E 17)))]) ?_ rfl ?_
    · rw [results_cell_tmp rfl]
      simp [asAddr, Result.andThen, hc0, hc1, hc2, go_sem]
    · exact HQ.out _ _ ⟨.inl ⟨17, rfl, HB17.out (fun h => HNO.out h.1), by decide⟩, HF5.out⟩
end Go.Proofs.YtmohiblgfmdkjaaDoor
