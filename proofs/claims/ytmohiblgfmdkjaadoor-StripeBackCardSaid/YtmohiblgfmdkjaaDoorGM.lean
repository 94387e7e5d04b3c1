/-
  Layer 4: locate.Find where it does not find.
  Layer 4: locate.Find where it finds, whatever the places.
  Layer 4: what locate.Find finds of a word that was changed at few places.
-/
import Derived.Test.YtmohiblgfmdkjaaDoorJQ
import Derived.Test.YtmohiblgfmdkjaaDoorHF
import Derived.Test.YtmohiblgfmdkjaaDoorGF
namespace Go.Proofs.YtmohiblgfmdkjaaDoor
open Go.RowKit Go.Bl
set_option linter.unusedVariables false
/-- nothing found -/
def noFound : Value := .agg #[.int .i64 0, .slice none 0 0, .slice none 0 0]
set_option maxRecDepth 100000 in
set_option maxHeartbeats 4000000 in
theorem find_bad (L : List Nat) (E : Nat → Addr) (B : Nat) (w : World) (s : List UInt8) (v : Value) (n : Int) (l : List Int) (hs : s.length = 32) (hE : Errs L E B w) (m1 : 1 ∈ L) (m8 : 8 ∈ L) (m10 : 10 ∈ L) (m16 : 16 ∈ L) (hv : Is (fun _ => False) w v l) (hl : l.length ≤ 1000) (hbad : eraBad n l ≠ 0) :
    Calls Tryd.prog 68 #[.agg (s.map u8v).toArray, .int .i64 n, v] w fun r w' => r = .returned (.tuple #[noFound, errv E (eraBad n l)]) ∧ Fr [] w w' := by
  have hsz : (s.map u8v).toArray.size = 32 := by simp [hs]
  obtain ⟨SC, hSC⟩ : ∃ c, (s.map u8v).toArray = c := ⟨_, rfl⟩
  rw [hSC] at hsz ⊢
  obtain ⟨w0, hw0⟩ : ∃ w0, (w.alloc (.cells SC 148)).alloc (.cells #[.int .i64 0, .slice none 0 0, .slice none 0 0] 152) = w0 := ⟨_, rfl⟩
  have HR0 := Lib.hid (show At w0 (w.heap.size + 1) (.cells #[.int .i64 0, .slice none 0 0, .slice none 0 0] 152 (0, 0)) by rw [← hw0]; exact At.new (by simp))
  have HF0 := Lib.hid (show Fr [] w w0 by rw [← hw0]; exact (Fr.alloc _ _).trans (Fr.alloc _ _))
  have HS0 := Lib.hid (show w0.heap.size = w.heap.size + 2 by rw [← hw0]; simp)
  have HE := Lib.hid (lera_any L E B w0 v n l (hE.keep0 HF0.out) m1 m8 m10 m16 (hv.keep HF0.out (by simp)) hl)
  obtain ⟨a, cap, rfl, -, -, -⟩ := hv.shape
  obtain ⟨N, hN⟩ : ∃ N, l.length = N := ⟨_, rfl⟩
  rw [hN] at HE ⊢
  have HEV := Lib.hid (errv_pos E (eraBad n l) hbad)
  obtain ⟨K, hK⟩ : ∃ K, eraBad n l = K := ⟨_, rfl⟩
  rw [hK] at HE HEV hbad ⊢
  obtain ⟨EV, hEV⟩ : ∃ EV, errv E K = EV := ⟨_, rfl⟩
  have HEK := Lib.hid hEV
  rw [hEV] at HEV ⊢
  obtain ⟨AD, hAD⟩ : ∃ x, E K = x := ⟨_, rfl⟩
  rw [hAD] at HEV
  have HBAD := Lib.hid hbad
  unfold noFound
  clear hE hv hN hSC hEV hAD hK m1 m8 m10 m16 hbad
  go_enter Tryd.func68, Tryd.ntmps68
  go_wp2_with (go_at_call 83; fail)
  try rw [hw0]
  clear hw0
  refine HE.out.mono ?_
  rintro r w1 ⟨gv, k, rfl, rfl, ho1, hf1⟩
  rw [if_neg HBAD.out] at ho1
  obtain ⟨ga, gc, rfl, -, -, -⟩ := ho1.bs (A := fun _ => False) (by simp)
  rw [HEK.out, HEV.out]
  have HR1 := Lib.hid (HR0.out.keep0 hf1)
  have HF1 := Lib.hid (HF0.out.trans hf1)
  clear ho1 hf1 HR0 HE HBAD HEK
  have HONE := Lib.hid (show (#[.int .i64 (0 : Int), .slice none 0 0, .slice none 0 0] : Array Value).all (·.oneCell') = true by simp [Value.oneCell'])
  go_wp2_with (refine wpl_store_at (.tmp 6) (.tmp 21) rfl rfl #[.int .i64 0, .slice none 0 0, .slice none 0 0] rfl rfl (by kernel_rfl) HR1.out (by simp) HONE.out ?_)
  intro w9 hf9 hr9 _
  have HF9 := Lib.hid (show Fr [] w w9 from HF1.out.then hf9 (by intro x hx; simp at hx; subst hx; exact .inr (by omega)))
  have hc0 := hr9.cell 0
  have hc1 := hr9.cell 1
  have hc2 := hr9.cell 2
  simp at hc0 hc1 hc2
  clear hf9 hr9
  go_wp2
  refine bodyPost_ret (v := .tuple #[.agg #[.int .i64 0, .slice none 0 0, .slice none 0 0], .iface 261 (.pointer (some AD))]) ?_ rfl ?_
  · rw [results_cell_tmp rfl]
    simp [asAddr, Result.andThen, hc0, hc1, hc2, go_sem]
  · exact ⟨by rw [HEV.out], HF9.out⟩
def fRow (s : List UInt8) (n : Int) (l : List Int) : List UInt8 := fornL s (pinvs (eraV n l)) l.length
def fLost (s : List UInt8) (n : Int) (l : List Int) : Prop := 32 < 2 * regL (fRow s n l) + l.length ∨ plen (regP (fRow s n l)) ≤ regL (fRow s n l)
theorem era_g {n : Int} {l : List Int} (h : eraBad n l = 0) (hl : l.length ≤ 32) : plen (pinvs (eraV n l)) = l.length + 1 ∧ (pinvs (eraV n l)).length ≤ 100 := by
  have e : (eraV n l).length = l.length := by unfold eraV; rw [List.length_map]
  have h2 := pinvs_len (eraV n l) (eraV n l).length
  rw [List.take_length] at h2
  exact ⟨by rw [pinvs_plen _ (by intro r hr; unfold eraV at hr; obtain ⟨p, -, rfl⟩ := List.mem_map.1 hr; exact plX_ne _ _), e], by omega⟩
theorem era_len {n : Int} {l : List Int} (h : eraBad n l = 0) : l.length ≤ 32 := by
  unfold eraBad at h
  repeat' split at h
  all_goals first | assumption | omega
set_option maxRecDepth 100000 in
set_option maxHeartbeats 4000000 in
theorem find_lost (L : List Nat) (E : Nat → Addr) (B : Nat) (w : World) (s : List UInt8) (v : Value) (n : Int) (l : List Int) (hs : s.length = 32) (hE : Errs L E B w) (m1 : 1 ∈ L) (m8 : 8 ∈ L) (m10 : 10 ∈ L) (m16 : 16 ∈ L) (m17 : 17 ∈ L) (hv : Is (fun _ => False) w v l) (hbad : eraBad n l = 0) (hlost : fLost s n l) :
    Calls Tryd.prog 68 #[.agg (s.map u8v).toArray, .int .i64 n, v] w fun r w' => r = .returned (.tuple #[noFound, errv E 17]) ∧ Fr [] w w' := by
  have hl := era_len hbad
  obtain ⟨hg1, hg2⟩ := era_g hbad hl
  have hsz : (s.map u8v).toArray.size = 32 := by simp [hs]
  unfold fLost fRow at hlost
  obtain ⟨g, hg⟩ : ∃ g, pinvs (eraV n l) = g := ⟨_, rfl⟩
  rw [hg] at hlost hg1 hg2
  have hrowl : (fornL s g l.length).length ≤ 32 := by rw [fornL_len]; omega
  have HFOR := Lib.hid (fun w gv (hb : Bs (fun _ => False) w gv g) => forney_any w s g gv l.length hs hb hg1 hl hg2)
  obtain ⟨row, hrow⟩ : ∃ row, fornL s g l.length = row := ⟨_, rfl⟩
  rw [hrow] at HFOR hlost hrowl
  have HREG := Lib.hid (fun w gv (hb : Bs (fun _ => False) w gv row) => register_any w gv row hb (by omega))
  have hrpl := reg_len row
  have hrpp := reg_pos row
  have hrl32 : regL row ≤ 32 := by have := reg_le row; omega
  obtain ⟨rp, hrp⟩ : ∃ rp, regP row = rp := ⟨_, rfl⟩
  obtain ⟨rl, hrl⟩ : ∃ rl, regL row = rl := ⟨_, rfl⟩
  rw [hrp, hrl] at HREG hlost hrpl
  rw [hrl] at hrl32
  rw [hrp] at hrpp
  have hne : rp ≠ [] := by intro h; rw [h] at hrpp; simp at hrpp
  have HDEG := Lib.hid (fun w v (hb : Bs (fun _ => False) w v rp) => degree_any (fun _ => False) w v rp hb hne (by have := reg_le row; omega))
  obtain ⟨SC, hSC⟩ : ∃ c, (s.map u8v).toArray = c := ⟨_, rfl⟩
  rw [hSC] at hsz HFOR ⊢
  obtain ⟨w0, hw0⟩ : ∃ w0, (w.alloc (.cells SC 148)).alloc (.cells #[.int .i64 0, .slice none 0 0, .slice none 0 0] 152) = w0 := ⟨_, rfl⟩
  have HA0 := Lib.hid (show At w0 w.heap.size (.cells SC 148 (0, 0)) by rw [← hw0]; exact (At.new rfl).al)
  have HR0 := Lib.hid (show At w0 (w.heap.size + 1) (.cells #[.int .i64 0, .slice none 0 0, .slice none 0 0] 152 (0, 0)) by rw [← hw0]; exact At.new (by simp))
  have HF0 := Lib.hid (show Fr [] w w0 by rw [← hw0]; exact (Fr.alloc _ _).trans (Fr.alloc _ _))
  have HS0 := Lib.hid (show w0.heap.size = w.heap.size + 2 by rw [← hw0]; simp)
  have HE := Lib.hid (lera_any L E B w0 v n l (hE.keep0 HF0.out) m1 m8 m10 m16 (hv.keep HF0.out (by simp)) (by omega))
  have HXX := Lib.hid (hE.keep0 HF0.out)
  have HM := Lib.hid m17
  have HLT := Lib.hid (show gOf 17 < w.heap.size by obtain ⟨_, _, h⟩ := hE.glob 17 m17; exact lt_of_heap h)
  obtain ⟨a, cap, rfl, -, -, -⟩ := hv.shape
  obtain ⟨N, hN⟩ : ∃ N, l.length = N := ⟨_, rfl⟩
  rw [hN] at HE hlost hl ⊢
  have HBAD := Lib.hid hbad
  have HGG := Lib.hid hg
  have HX17 := Lib.hid (errv_pos E 17 (by decide))
  unfold noFound
  clear hE hv hN hSC m1 m8 m10 m16 m17 hbad hg hg1 hg2 hrow hrp hrl hne hrowl hrpl hrpp
  go_enter Tryd.func68, Tryd.ntmps68
  go_wp2_with (go_at_call 83; fail)
  try rw [hw0]
  clear hw0
  refine HE.out.mono ?_
  rintro r w1 ⟨gv, k, rfl, rfl, ho1, hf1⟩
  rw [HBAD.out, if_pos rfl, HGG.out] at ho1
  rw [HBAD.out, errv_zero]
  have HA1 := Lib.hid (HA0.out.keep0 hf1)
  have HR1 := Lib.hid (HR0.out.keep0 hf1)
  have hs1 : w0.heap.size ≤ w1.heap.size := hf1.size
  have HF1 := Lib.hid (HF0.out.trans hf1)
  have HX1 := Lib.hid (HXX.out.keep0 hf1)
  have HG1 := Lib.hid ho1
  clear ho1 hf1 HA0 HR0 HE HXX HBAD
  go_wp2_with (first | (refine wpl_load_rowG (.tmp 3) rfl rfl w.heap.size SC rfl HA1.out Tryd.underlying148 rfl (by rw [hsz]; kernel_rfl) ?_) | (go_at_call 85; fail))
  refine (HFOR.out w1 gv (HG1.out.bs (by simp))).mono ?_
  rintro r w2 ⟨rv, rfl, ho2, hf2⟩
  have HR2 := Lib.hid (HR1.out.keep0 hf2)
  have HF2 := Lib.hid (HF1.out.trans hf2)
  have HX2 := Lib.hid (HX1.out.keep0 hf2)
  have HW2 := Lib.hid (ho2.base hs1)
  clear ho2 hf2 HA1 HR1 HG1 HFOR HX1
  go_wp2_with (go_at_call 84; fail)
  refine (HREG.out w2 rv (HW2.out.bs (by simp))).mono ?_
  rintro r w3 ⟨pv, rfl, ho3, hf3⟩
  have HR3 := Lib.hid (HR2.out.keep0 hf3)
  have HF3 := Lib.hid (HF2.out.trans hf3)
  have HX3 := Lib.hid (HX2.out.keep0 hf3)
  have HP3 := Lib.hid (ho3.bs (A := fun _ => False) (by simp))
  have hg17 := HX3.out.cell 17 HM.out
  simp only [gOf, List.getD_eq_getElem?_getD, List.getElem?_cons_zero, List.getElem?_cons_succ, Option.getD_some] at hg17
  clear ho3 hf3 HR2 HW2 HREG HX2
  by_cases hd : (32 : Int) - N < 2 * (rl : Int)
  · have z0 := HR3.out.cell 0
    have z1 := HR3.out.cell 1
    have z2 := HR3.out.cell 2
    have f0 := HR3.out.free 0
    have f1 := HR3.out.free 1
    have f2 := HR3.out.free 2
    simp at z0 z1 z2
    have hlt := HLT.out
    simp only [gOf, List.getD_eq_getElem?_getD, List.getElem?_cons_zero, List.getElem?_cons_succ, Option.getD_some] at hlt
    have hn1 : ¬ 1 = w.heap.size + 1 := by omega
    have hn2 : ¬ w.heap.size + 1 = 1 := by omega
    clear hlt
    go_wp2_with (go_at_call 86; exfalso; omega)
    go_region
    have HF9 := Lib.hid (show Fr [] w (((w3.setCell ⟨w.heap.size + 1, 0, none⟩ (.int .i64 0)).setCell ⟨w.heap.size + 1, 1, none⟩ (.slice none 0 0)).setCell ⟨w.heap.size + 1, 2, none⟩ (.slice none 0 0)).drew from
      (((HF3.out.sc (.inl (by simp))).sc (.inl (by simp))).sc (.inl (by simp))).dr)
    have hr9 : At (((w3.setCell ⟨w.heap.size + 1, 0, none⟩ (.int .i64 0)).setCell ⟨w.heap.size + 1, 1, none⟩ (.slice none 0 0)).setCell ⟨w.heap.size + 1, 2, none⟩ (.slice none 0 0)).drew (w.heap.size + 1) (.cells #[.int .i64 0, .slice none 0 0, .slice none 0 0] 152 (0, 0)) := by
      have h := ((HR3.out.set 0 (.int .i64 0)).set 1 (.slice none 0 0)).set 2 (.slice none 0 0)
      simp only [Array.setIfInBounds, List.size_toArray, List.length_cons, List.length_nil] at h
      exact At.keep0 h (Fr.drew _)
    have hc0 := hr9.cell 0
    have hc1 := hr9.cell 1
    have hc2 := hr9.cell 2
    simp only [List.getElem?_toArray, List.getElem?_cons_zero, List.getElem?_cons_succ] at hc0 hc1 hc2
    clear hr9 z0 z1 z2 f0 f1 f2
    generalize (((w3.setCell ⟨w.heap.size + 1, 0, none⟩ (.int .i64 0)).setCell ⟨w.heap.size + 1, 1, none⟩ (.slice none 0 0)).setCell ⟨w.heap.size + 1, 2, none⟩ (.slice none 0 0)).drew = w9 at HF9 hc0 hc1 hc2 ⊢
    go_wp2
    refine bodyPost_ret (v := .tuple #[.agg #[.int .i64 0, .slice none 0 0, .slice none 0 0], .iface 261 (.pointer (some (E 17)))]) ?_ rfl ?_
    · rw [results_cell_tmp rfl]
      simp [asAddr, Result.andThen, hc0, hc1, hc2, go_sem]
    · exact ⟨by rw [HX17.out], HF9.out⟩
  · have hd2 : (plen rp : Int) - 1 < rl := by omega
    have hdn : ¬ (32 : Int) - N < 2 * (rl : Int) := hd
    go_wp2_with (go_at_call 86; fail)
    refine (HDEG.out w3 pv HP3.out).mono ?_
    rintro r w4 ⟨rfl, hf4⟩
    replace hg17 := cell_mono hf4 hg17
    replace HR3 := Lib.hid (HR3.out.keep0 hf4)
    replace HF3 := Lib.hid (HF3.out.trans hf4)
    have z0 := HR3.out.cell 0
    have z1 := HR3.out.cell 1
    have z2 := HR3.out.cell 2
    have f0 := HR3.out.free 0
    have f1 := HR3.out.free 1
    have f2 := HR3.out.free 2
    simp at z0 z1 z2
    have hlt := HLT.out
    simp only [gOf, List.getD_eq_getElem?_getD, List.getElem?_cons_zero, List.getElem?_cons_succ, Option.getD_some] at hlt
    have hn1 : ¬ 1 = w.heap.size + 1 := by omega
    have hn2 : ¬ w.heap.size + 1 = 1 := by omega
    clear hlt hf4
    go_wp2
    go_region
    have HF9 := Lib.hid (show Fr [] w (((w4.setCell ⟨w.heap.size + 1, 0, none⟩ (.int .i64 0)).setCell ⟨w.heap.size + 1, 1, none⟩ (.slice none 0 0)).setCell ⟨w.heap.size + 1, 2, none⟩ (.slice none 0 0)).drew from
      (((HF3.out.sc (.inl (by simp))).sc (.inl (by simp))).sc (.inl (by simp))).dr)
    have hr9 : At (((w4.setCell ⟨w.heap.size + 1, 0, none⟩ (.int .i64 0)).setCell ⟨w.heap.size + 1, 1, none⟩ (.slice none 0 0)).setCell ⟨w.heap.size + 1, 2, none⟩ (.slice none 0 0)).drew (w.heap.size + 1) (.cells #[.int .i64 0, .slice none 0 0, .slice none 0 0] 152 (0, 0)) := by
      have h := ((HR3.out.set 0 (.int .i64 0)).set 1 (.slice none 0 0)).set 2 (.slice none 0 0)
      simp only [Array.setIfInBounds, List.size_toArray, List.length_cons, List.length_nil] at h
      exact At.keep0 h (Fr.drew _)
    have hc0 := hr9.cell 0
    have hc1 := hr9.cell 1
    have hc2 := hr9.cell 2
    simp only [List.getElem?_toArray, List.getElem?_cons_zero, List.getElem?_cons_succ] at hc0 hc1 hc2
    clear hr9 z0 z1 z2 f0 f1 f2
    generalize (((w4.setCell ⟨w.heap.size + 1, 0, none⟩ (.int .i64 0)).setCell ⟨w.heap.size + 1, 1, none⟩ (.slice none 0 0)).setCell ⟨w.heap.size + 1, 2, none⟩ (.slice none 0 0)).drew = w9 at HF9 hc0 hc1 hc2 ⊢
    go_wp2
    refine bodyPost_ret (v := .tuple #[.agg #[.int .i64 0, .slice none 0 0, .slice none 0 0], .iface 261 (.pointer (some (E 17)))]) ?_ rfl ?_
    · rw [results_cell_tmp rfl]
      simp [asAddr, Result.andThen, hc0, hc1, hc2, go_sem]
    · exact ⟨by rw [HX17.out], HF9.out⟩
end Go.Proofs.YtmohiblgfmdkjaaDoor
namespace Go.Proofs.YtmohiblgfmdkjaaDoor
open Go.RowKit Go.Bl
set_option linter.unusedVariables false
/-- the locator that is found, and the evaluator -/
def fLoc (s : List UInt8) (n : Int) (l : List Int) : List UInt8 := pmul (regP (fRow s n l)) (pinvs (eraV n l))
def fEv (s : List UInt8) (n : Int) (l : List Int) : List UInt8 := ptrim ((pmul (ptrim s) (fLoc s n l)).take 32)
theorem fLoc_pos (s : List UInt8) (n : Int) (l : List Int) : 0 < (fLoc s n l).length := by
  rcases Nat.eq_zero_or_pos (fLoc s n l).length with h | h
  · exfalso
    have h0 : cf (fLoc s n l) 0 = 0 := cf_ge (by omega)
    unfold fLoc at h0
    rw [cf_mul] at h0
    unfold conv at h0
    have e : xsum (0 + 1) (fun i => gmul (cf (regP (fRow s n l)) i) (cf (pinvs (eraV n l)) (0 - i))) = gmul (cf (regP (fRow s n l)) 0) (cf (pinvs (eraV n l)) 0) := by
      show (0 : UInt8) ^^^ _ = _
      simp
    rw [e, reg_c0, pinvs_c0, one_gmul] at h0
    cases h0
  · exact h
theorem find_good (L : List Nat) (E : Nat → Addr) (B : Nat) (w : World) (s : List UInt8) (v : Value) (n : Int) (l : List Int) (hs : s.length = 32) (hE : Errs L E B w) (m1 : 1 ∈ L) (m8 : 8 ∈ L) (m10 : 10 ∈ L) (m16 : 16 ∈ L) (hv : Is (fun _ => False) w v l) (hn : 0 ≤ n) (hbad : eraBad n l = 0) (hlost : ¬ fLost s n l) :
    Calls Tryd.prog 68 #[.agg (s.map u8v).toArray, .int .i64 n, v] w fun r w' => ∃ u e, r = .returned (.tuple #[.agg #[.int .i64 (regL (fRow s n l) : Int), u, e], .nilIface]) ∧ OwnB 5 w.heap.size w' u (fLoc s n l) ∧ OwnB 5 w.heap.size w' e (fEv s n l) ∧ Fr [] w w' := by
  have hl := era_len hbad
  obtain ⟨hg1, hg2⟩ := era_g hbad hl
  obtain ⟨a, cap, e, -, -, -⟩ := hv.shape
  unfold fLost at hlost
  subst e
  have hnn : ((n.toNat : Nat) : Int) = n := Int.toNat_of_nonneg hn
  have h := find_ok w s (pinvs (eraV n l)) (fRow s n l) (regP (fRow s n l)) (fLoc s n l) (fEv s n l) n.toNat l.length (regL (fRow s n l)) a l.length cap hs hg1 hl hg2 hl (fun w0 h0 => by
    rw [hnn]
    refine (lera_any L E B w0 (.slice a l.length cap) n l (hE.keep0 h0) m1 m8 m10 m16 (hv.keep h0 (by simp)) (by omega)).mono ?_
    rintro r w' ⟨u, k, rfl, rfl, ho, hf⟩
    rw [hbad, errv_zero]
    rw [hbad, if_pos rfl] at ho
    exact ⟨u, rfl, ho, hf⟩) rfl rfl rfl rfl rfl (by omega) (by omega) (fLoc_pos s n l)
  rw [hnn] at h
  exact h
end Go.Proofs.YtmohiblgfmdkjaaDoor
namespace Go.Proofs.YtmohiblgfmdkjaaDoor
open Go.RowKit Go.Bl
set_option linter.unusedVariables false
def intL (ps : List Nat) : List Int := List.map (fun p : Nat => (p : Int)) ps
theorem intL_len (ps : List Nat) : (intL ps).length = ps.length := by simp [intL]
theorem eraV_nat (n : Nat) (ps : List Nat) : eraV (n : Int) (intL ps) = ps.map (plX n) := by
  unfold eraV intL
  rw [List.map_map]
  apply List.map_congr_left
  intro p _
  simp
theorem era_nat {n : Nat} {ps : List Nat} (h1 : 33 ≤ n) (h2 : n ≤ 255) (hp : ∀ p ∈ ps, p < n) (hd : ps.Nodup) (hl : ps.length ≤ 32) : eraBad (n : Int) (intL ps) = 0 := by
  refine era_0 ⟨by omega, by omega⟩ (fun p hm => ?_) ?_ (by rw [intL_len]; exact hl)
  · obtain ⟨q, hq, rfl⟩ := List.mem_map.1 hm
    have := hp q hq
    omega
  · unfold intL
    exact nodup_map_on (fun a _ b _ e => by omega) hd
structure Finds (n : Nat) (err : Nat → UInt8) (ps : List Nat) (s : List UInt8) : Prop where
  bad : eraBad (n : Int) (intL ps) = 0
  lost : ¬ fLost s n (intL ps)
  long : regL (fRow s n (intL ps)) = (hits n err ps).length
  er : Errata n err ps s (fLoc s n (intL ps))
  ev : ∀ j, cf (fEv s n (intL ps)) j = if j < 32 then conv (cf s) (cf (fLoc s n (intL ps))) j else 0
theorem fEv_cf (s : List UInt8) (n : Int) (l : List Int) (j : Nat) : cf (fEv s n l) j = if j < 32 then conv (cf s) (cf (fLoc s n l)) j else 0 := by
  unfold fEv
  rw [cf_trim, cf_take, cf_mul]
  unfold conv
  simp only [cf_trim]
theorem finds {n : Nat} {err : Nat → UInt8} {ps : List Nat} {s : List UInt8} (h : Bent n err ps s) (h33 : 33 ≤ n) (h2 : 2 * (hits n err ps).length + ps.length ≤ 32) : Finds n err ps s := by
  have hrow : fRow s n (intL ps) = fornL s (locP n ps) ps.length := by unfold fRow; rw [eraV_nat, intL_len]; rfl
  obtain ⟨h3, h4⟩ := bent_reg h h2
  have hpl : plen (regP (fornL s (locP n ps) ps.length)) = (hits n err ps).length + 1 := by rw [plen_ext h4, locP_plen]
  refine ⟨era_nat h33 h.n1 h.pn h.pd (by omega), ?_, by rw [hrow, h3], ?_, fEv_cf _ _ _⟩
  · unfold fLost
    rw [hrow, h3, hpl, intL_len]
    omega
  · have := errata h h2
    unfold fLoc
    rw [hrow, eraV_nat]
    exact this
theorem Finds.ev_len {n : Nat} {err : Nat → UInt8} {ps : List Nat} {s : List UInt8} (h : Finds n err ps s) (hB : Bent n err ps s) : (fEv s n (intL ps)).length ≤ (allP n err ps).length := by
  have e : (fEv s n (intL ps)).length = plen (fEv s n (intL ps)) := by unfold fEv; rw [plen_trim, ptrim_length]
  rw [e]
  refine plen_least fun i hi => ?_
  rw [h.er.ev hB h.ev]
  exact forO_cz _ _ (by unfold pairs; rw [List.length_map]; exact hi)
theorem Finds.ev_plen {n : Nat} {err : Nat → UInt8} {ps : List Nat} {s : List UInt8} (h : Finds n err ps s) : plen (fEv s n (intL ps)) = (fEv s n (intL ps)).length := by unfold fEv; rw [plen_trim, ptrim_length]
theorem Finds.ev_pos {n : Nat} {err : Nat → UInt8} {ps : List Nat} {s : List UInt8} (h : Finds n err ps s) (hB : Bent n err ps s) (hp : 0 < (hits n err ps).length) : 0 < (fEv s n (intL ps)).length := by
  rcases Nat.eq_zero_or_pos (fEv s n (intL ps)).length with h0 | h0
  · exfalso
    obtain ⟨p, hm⟩ : ∃ p, p ∈ hits n err ps := ⟨_, List.getElem_mem hp⟩
    have := forO_nought h.er hB h.ev (fun j => cf_ge (by omega)) p (by unfold allP; simp [hm])
    exact (mem_hits.1 hm).2.1 this
  · exact h0
end Go.Proofs.YtmohiblgfmdkjaaDoor
