/-
  Layer 4: locate.Find where it finds.
-/
import Derived.Test.YtmohiblgfmdkjaaGreatDoorFnd
import Derived.Test.YtmohiblgfmdkjaaGreatDoorGB
import Derived.Laws.ResultCell
namespace Go.Proofs.YtmohiblgfmdkjaaGreatDoor
open Go.RowKit Go.Bl
set_option linter.unusedVariables false
set_option maxRecDepth 100000 in
set_option maxHeartbeats 4000000 in
theorem find_ok (w : World) (s g row rp loc ev : List UInt8) (n e rl : Nat) (pa : Option Addr) (pn pc : Nat) (hs : s.length = 32) (hgn : plen g = e + 1) (he : e ≤ 32) (hgl : g.length ≤ 100) (hpn : pn ≤ 32)
    (hE : ∀ w0, Fr [] w w0 → Calls Tryz.prog 43 #[.int .i64 n, .slice pa pn pc] w0 fun r w' => ∃ u, r = .returned (.tuple #[u, .nilIface]) ∧ OwnB 5 w0.heap.size w' u g ∧ Fr [] w0 w')
    (hrow : fornL s g e = row) (hrp : regP row = rp) (hrl : regL row = rl) (hloc : pmul rp g = loc) (hev : ptrim ((pmul (ptrim s) loc).take 32) = ev)
    (h1 : 2 * rl + pn ≤ 32) (h2 : rl < plen rp) (hl0 : 0 < loc.length) :
    Calls Tryz.prog 21 #[.agg (s.map u8v).toArray, .int .i64 n, .slice pa pn pc] w fun r w' => ∃ u v, r = .returned (.tuple #[.agg #[.int .i64 rl, u, v], .nilIface]) ∧ OwnB 5 w.heap.size w' u loc ∧ OwnB 5 w.heap.size w' v ev ∧ Fr [] w w' := by
  have HFOR := Lib.hid (fun w gv (hb : Bs (fun _ => False) w gv g) => forney_any w s g gv e hs hb hgn he hgl)
  have hrowl : row.length ≤ 32 := by rw [← hrow, fornL_len]; omega
  have hsz : (s.map u8v).toArray.size = 32 := by simp [hs]
  have HREG := Lib.hid (fun w gv (hb : Bs (fun _ => False) w gv row) => register_any w gv row hb (by omega))
  rw [hrow] at HFOR
  rw [hrp, hrl] at HREG
  have hrpl : rp.length ≤ rl + 1 := by rw [← hrp, ← hrl]; exact reg_len row
  have hrpp : 1 ≤ rp.length := by rw [← hrp]; exact reg_pos row
  have hne : rp ≠ [] := by intro h; rw [h] at hrpp; simp at hrpp
  have HDEG := Lib.hid (fun w v (hb : Bs (fun _ => False) w v rp) => degree_any (fun _ => False) w v rp hb hne (by omega))
  have HPO := Lib.hid (fun w => poly_any w s hs)
  have HMU := Lib.hid (fun w v u (hb : Bs (fun _ => False) w v rp) (hg : Bs (fun _ => False) w u g) => pmul_any (fun _ => False) w v u rp g hb hg (by omega) (by omega))
  rw [hloc] at HMU
  have hll : loc.length ≤ 200 := by rw [← hloc]; have := pmul_len rp g; omega
  have hpsl : (ptrim s).length ≤ 32 := by rw [ptrim_length]; have := plen_le s; omega
  have HMU2 := Lib.hid (fun w v u (hb : Bs (fun _ => False) w v (ptrim s)) (hg : Bs (fun _ => False) w u loc) (h0 : 0 < (ptrim s).length + loc.length) => pmul_any (fun _ => False) w v u (ptrim s) loc hb hg h0 (by omega))
  obtain ⟨al, hal⟩ : ∃ al, pmul (ptrim s) loc = al := ⟨_, rfl⟩
  rw [hal] at HMU2 hev
  have hall : al.length ≤ 1000 := by rw [← hal]; have := pmul_len (ptrim s) loc; omega
  obtain ⟨SC, hSC⟩ : ∃ c, (s.map u8v).toArray = c := ⟨_, rfl⟩
  rw [hSC] at hsz HFOR HPO ⊢
  have HE := Lib.hid hE
  have hd : ¬ (32 : Int) - pn < 2 * (rl : Int) := by omega
  have hd2 : ¬ (plen rp : Int) - 1 < rl := by omega
  clear hE hrow hrp hrl hloc hne
  obtain ⟨w0, hw0⟩ : ∃ w0, (w.alloc (.cells SC 52)).alloc (.cells #[.int .i64 0, .slice none 0 0, .slice none 0 0] 56) = w0 := ⟨_, rfl⟩
  have HA0 := Lib.hid (show At w0 w.heap.size (.cells SC 52 (0, 0)) by rw [← hw0]; exact (At.new rfl).al)
  have HR0 := Lib.hid (show At w0 (w.heap.size + 1) (.cells #[.int .i64 0, .slice none 0 0, .slice none 0 0] 56 (0, 0)) by rw [← hw0]; exact At.new (by simp))
  have HF0 := Lib.hid (show Fr [] w w0 by rw [← hw0]; exact (Fr.alloc _ _).trans (Fr.alloc _ _))
  have hs0' : w0.heap.size = w.heap.size + 2 := by rw [← hw0]; simp
  have HS0 := Lib.hid hs0'
  go_enter Tryz.func21, Tryz.ntmps21
  go_wp2_with (go_at_call 43; fail)
  try rw [hw0]
  clear hw0 hs0'
  refine (HE.out w0 HF0.out).mono ?_
  rintro r w1 ⟨gv, rfl, ho1, hf1⟩
  have HA1 := Lib.hid (HA0.out.keep0 hf1)
  have HR1 := Lib.hid (HR0.out.keep0 hf1)
  have hs1 : w0.heap.size ≤ w1.heap.size := hf1.size
  have HF1 := Lib.hid (HF0.out.trans hf1)
  have HG1 := Lib.hid ho1
  clear ho1 hf1 HA0 HR0 HE
  go_wp2_with (first | (refine wpl_load_rowG (.tmp 3) rfl rfl w.heap.size SC rfl HA1.out Tryz.underlying52 rfl (by rw [hsz]; kernel_rfl) ?_) | (go_at_call 45; fail))
  refine (HFOR.out w1 gv (HG1.out.bs (by simp))).mono ?_
  rintro r w2 ⟨rv, rfl, ho2, hf2⟩
  have HA2 := Lib.hid (HA1.out.keep0 hf2)
  have HR2 := Lib.hid (HR1.out.keep0 hf2)
  have hs2 : w0.heap.size ≤ w2.heap.size := Nat.le_trans hs1 hf2.size
  have HF2 := Lib.hid (HF1.out.trans hf2)
  have HG2 := Lib.hid (HG1.out.keep hf2 (by simp))
  have HW2 := Lib.hid (ho2.base hs1)
  clear ho2 hf2 HA1 HR1 HG1 HFOR
  go_wp2_with (go_at_call 44; fail)
  refine (HREG.out w2 rv (HW2.out.bs (by simp))).mono ?_
  rintro r w3 ⟨pv, rfl, ho3, hf3⟩
  have HA3 := Lib.hid (HA2.out.keep0 hf3)
  have HR3 := Lib.hid (HR2.out.keep0 hf3)
  have hs3 : w0.heap.size ≤ w3.heap.size := Nat.le_trans hs2 hf3.size
  have HF3 := Lib.hid (HF2.out.trans hf3)
  have HG3 := Lib.hid (HG2.out.keep hf3 (by simp))
  have HP3 := Lib.hid (ho3.base hs2)
  clear ho3 hf3 HA2 HR2 HG2 HW2 HREG
  go_wp2_with (go_at_call 46; fail)
  refine (HDEG.out w3 pv (HP3.out.bs (by simp))).mono ?_
  rintro r w4 ⟨rfl, hf4⟩
  have HA4 := Lib.hid (HA3.out.keep0 hf4)
  have HR4 := Lib.hid (HR3.out.keep0 hf4)
  have hs4 : w0.heap.size ≤ w4.heap.size := Nat.le_trans hs3 hf4.size
  have HF4 := Lib.hid (HF3.out.trans hf4)
  have HG4 := Lib.hid (HG3.out.keep hf4 (by simp))
  have HP4 := Lib.hid (HP3.out.keep hf4 (by simp))
  clear hf4 HA3 HR3 HG3 HP3 HDEG
  go_wp2_with (go_at_call 47; fail)
  refine (HMU.out w4 pv gv (HP4.out.bs (by simp)) (HG4.out.bs (by simp))).mono ?_
  rintro r w5 ⟨lv, rfl, ho5, hf5⟩
  have HA5 := Lib.hid (HA4.out.keep0 hf5)
  have HR5 := Lib.hid (HR4.out.keep0 hf5)
  have hs5 : w0.heap.size ≤ w5.heap.size := Nat.le_trans hs4 hf5.size
  have HF5 := Lib.hid (HF4.out.trans hf5)
  have HL5 := Lib.hid (ho5.base hs4)
  clear ho5 hf5 HA4 HR4 HG4 HP4 HMU
  go_wp2_with (first | (refine wpl_load_rowG (.tmp 3) rfl rfl w.heap.size SC rfl HA5.out Tryz.underlying52 rfl (by rw [hsz]; kernel_rfl) ?_) | (go_at_call 49; fail))
  refine (HPO.out w5).mono ?_
  rintro r w6 ⟨sv, rfl, ho6, hf6⟩
  have HR6 := Lib.hid (HR5.out.keep0 hf6)
  have hs6 : w0.heap.size ≤ w6.heap.size := Nat.le_trans hs5 hf6.size
  have HF6 := Lib.hid (HF5.out.trans hf6)
  have HL6 := Lib.hid (HL5.out.keep hf6 (by simp))
  have HV6 := Lib.hid (ho6.base hs5)
  clear ho6 hf6 HA5 HR5 HL5 HPO
  go_wp2_with (go_at_call 47; fail)
  refine (HMU2.out w6 sv lv (HV6.out.bs (by simp)) (HL6.out.bs (by simp)) (by omega)).mono ?_
  rintro r w7 ⟨av, rfl, ho7, hf7⟩
  have HR7 := Lib.hid (HR6.out.keep0 hf7)
  have hs7 : w0.heap.size ≤ w7.heap.size := Nat.le_trans hs6 hf7.size
  have HF7 := Lib.hid (HF6.out.trans hf7)
  have HL7 := Lib.hid (HL6.out.keep hf7 (by simp))
  have HV7 := Lib.hid (ho7.base hs6)
  clear ho7 hf7 HR6 HL6 HV6 HMU2
  have HLO := Lib.hid (plow_any (fun _ => False) w7 av al 32 (HV7.out.bs (by simp)) (bwI_own HV7.out) hall (by omega))
  rw [hev] at HLO
  go_wp2_with (go_at_call 48; fail)
  refine HLO.out.mono ?_
  rintro r w8 ⟨ev8, rfl, ho8, hf8⟩
  have HR8 := Lib.hid (HR7.out.keep0 hf8)
  have hs8 : w0.heap.size ≤ w8.heap.size := Nat.le_trans hs7 hf8.size
  have HF8 := Lib.hid (HF7.out.trans hf8)
  have HL8 := Lib.hid (HL7.out.keep hf8 (by simp))
  have HE8 := Lib.hid (ho8.base hs7)
  clear ho8 hf8 HR7 HL7 HV7 HLO
  obtain ⟨la, lc, hlv, -, -, -⟩ := HL8.out.bs (A := fun _ => False) (by simp)
  obtain ⟨ea, ec, hevv, -, -, -⟩ := HE8.out.bs (A := fun _ => False) (by simp)
  obtain ⟨LL, hLL⟩ : ∃ n, loc.length = n := ⟨_, rfl⟩
  obtain ⟨EL, hEL⟩ : ∃ n, ev.length = n := ⟨_, rfl⟩
  rw [hLL] at hlv
  rw [hEL] at hevv
  subst hlv
  subst hevv
  clear hLL hEL
  have HONE := Lib.hid (show (#[.int .i64 (rl : Int), .slice la LL lc, .slice ea EL ec] : Array Value).all (·.oneCell') = true by simp [Value.oneCell'])
  go_wp2_with (go_loud (refine wpl_store_at (.tmp 6) (.tmp 54) rfl rfl #[.int .i64 rl, .slice la LL lc, .slice ea EL ec] rfl rfl (by kernel_rfl) HR8.out (by simp) HONE.out ?_))
  intro w9 hf9 hr9 _
  have HF9 := Lib.hid (show Fr [] w w9 from HF8.out.then hf9 (by intro x hx; simp at hx; subst hx; exact .inr (by omega)))
  have HL9 := Lib.hid (HL8.out.keep hf9 (by intro x hx; simp at hx; subst hx; have := HS0.out; omega))
  have HE9 := Lib.hid (HE8.out.keep hf9 (by intro x hx; simp at hx; subst hx; have := HS0.out; omega))
  have hc0 := hr9.cell 0
  have hc1 := hr9.cell 1
  have hc2 := hr9.cell 2
  simp at hc0 hc1 hc2
  clear hf9 hr9
  go_wp2
  refine bodyPost_ret (v := .tuple #[.agg #[.int .i64 rl, .slice la LL lc, .slice ea EL ec], .nilIface]) ?_ rfl ?_
  · rw [results_cell_tmp rfl]
    simp [asAddr, Result.andThen, hc0, hc1, hc2, go_sem]
  · exact ⟨_, _, rfl, HL9.out.base (by have := HS0.out; omega), HE9.out.base (by have := HS0.out; omega), HF9.out⟩
end Go.Proofs.YtmohiblgfmdkjaaGreatDoor
