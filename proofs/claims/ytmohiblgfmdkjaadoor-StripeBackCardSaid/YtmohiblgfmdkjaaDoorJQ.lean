/-
  Layer 4: locate.Erasures of no places, Syndromes.Poly, locate.Forney.
  Layer 4: locate.Find where it finds.
-/
import Derived.Test.YtmohiblgfmdkjaaDoorShelf
import Derived.Test.YtmohiblgfmdkjaaDoorHN
import Derived.Test.YtmohiblgfmdkjaaDoorGF
import Derived.Deep.MidRow
import Derived.Test.YtmohiblgfmdkjaaDoorGB
import Derived.Laws.ResultCell
namespace Go.Proofs.YtmohiblgfmdkjaaDoor
open Go.RowKit Go.Bl
set_option linter.unusedVariables false

theorem wpl_load_rowG {P : Program} {w : World} {ops : Array Oper} {rest : List Oper} {o : Oper} {a : Go.Act} {Q : Exit → Go.Act → World → Prop} {ty te : TypeId} {d : TypeDesc} {fz : Nat × Nat} (x : Operand) (ho : o.op = .load ty x) (hgd : o.guard = none)
    (b : Nat) (c : Array Value) (hx : a.eval x = .pointer (some ⟨b, 0, none⟩)) (hc : At w b (.cells c te fz)) (hu : P.underlying ty = some d) (hd : d.isRow = true) (hi : (P.info? ty).map (·.size) = some c.size)
    (h : wpList P ops Q rest (a.put o.dst (.agg c)) w) : wpList P ops Q (o :: rest) a w := by
  refine wpl_val _ ho hgd (.agg c) ?_ h
  have hr : w.rangeAt b 0 c.toList := fun j v hj => by rw [Nat.zero_add, hc.cell]; simpa using hj
  have := run_loadAt_mid (P := P) w b 0 ty c.toList d hr hu hd (by simpa using hi)
  unfold execOp
  simp only [ho, hx, Sem.run_bind, this, Result.andThen_ok, Sem.run_pure]
set_option maxHeartbeats 400000 in
theorem ifun_nil (w : World) (f : Value) : Calls Tryd.prog 126 #[.slice none 0 0, f] w fun e w' => e = .returned (.int .i64 (-1)) ∧ Fr [] w w' := by
  go_enter Tryd.func126, Tryd.ntmps126
  go_wp2
  go_loopw [8] (fun i wr => i = .int .i64 0 ∧ Hid (Fr [] w wr)) (fun _ _ => 0)
  case atStart => exact ⟨rfl, Lib.hid (Fr.refl _ _)⟩
  case round =>
    obtain ⟨rfl, HF⟩ := hrel
    go_wp2
    go_ret
    exact ⟨rfl, HF.out⟩
set_option maxHeartbeats 400000 in
theorem cfun_nil (w : World) (f : Value) : Calls Tryd.prog 103 #[.slice none 0 0, f] w fun e w' => e = .returned (.bool false) ∧ Fr [] w w' := by
  go_enter Tryd.func103, Tryd.ntmps103
  go_wp2_with fail
  refine (ifun_nil w f).mono ?_
  rintro e w1 ⟨rfl, hf⟩
  have HF := Lib.hid hf
  clear hf
  go_wp2
  go_ret
  exact ⟨rfl, HF.out⟩
set_option maxHeartbeats 400000 in
theorem twice_nil (w : World) : Calls Tryd.prog 104 #[.slice none 0 0] w fun e w' => e = .returned (.bool false) ∧ Fr [] w w' := by
  go_enter Tryd.func104, Tryd.ntmps104
  go_wp2_with fail
  refine (Tryd.slices_Clone_int_nil 0 0 w).mono ?_
  rintro e w1 ⟨rfl, rfl⟩
  go_wp2_with fail
  refine (Tryd.slices_Sort_int_none none 0 w1).mono ?_
  rintro e w2 ⟨rfl, rfl⟩
  go_wp2_with fail
  refine (Tryd.slices_Compact_int_empty none 0 w2).mono ?_
  rintro e w3 ⟨rfl, rfl⟩
  go_wp2
  go_ret
  exact ⟨rfl, Fr.refl _ _⟩

set_option maxRecDepth 100000 in
set_option maxHeartbeats 1000000 in
theorem erasures_nil (w : World) : Calls Tryd.prog 83 #[.int .i64 40, .slice none 0 0] w fun e w' => ∃ u, e = .returned (.tuple #[u, .nilIface]) ∧ OwnB 5 w.heap.size w' u (pinvs []) ∧ Fr [] w w' := by
  have HF0 := Lib.hid (show Fr [] w (w.alloc (.cells #[.int .i64 40] 3)) from Fr.alloc _ _)
  go_enter Tryd.func83, Tryd.ntmps83
  go_wp2_with (first | (go_at_call 103; refine (cfun_nil _ _).mono ?_; rintro e w1 ⟨rfl, hf1⟩) | (go_at_call 104; refine (twice_nil _).mono ?_; rintro e w2 ⟨rfl, hf2⟩) | go_in)
  have HF2 := Lib.hid ((HF0.out.trans hf1).trans hf2)
  clear hf1 hf2 HF0
  go_loopw [7, 32] (fun v i wr => v = .slice none 0 0 ∧ i = .int .i64 0 ∧ Hid (Fr [] w wr)) (fun _ _ _ => 0)
  case atStart => exact ⟨rfl, rfl, HF2⟩
  case round =>
    obtain ⟨rfl, rfl, HF⟩ := hrel
    go_wp2_with fail
    refine (pinvs_any (fun _ => False) wr _ [] (Bs.nil _ _ _ _ (by simp [maxLen])) (by simp)).mono ?_
    rintro e w3 ⟨u, rfl, ho, hf⟩
    have hs := HF.out.size
    have HO := Lib.hid (ho.base hs)
    have HF3 := Lib.hid (HF.out.trans hf)
    clear ho hf
    go_wp2
    go_ret2
    exact ⟨_, rfl, HO.out, HF3.out⟩

set_option maxRecDepth 100000 in
set_option maxHeartbeats 1000000 in
theorem poly_any (w : World) (s : List UInt8) (hs : s.length = 32) : Calls Tryd.prog 89 #[.agg (s.map u8v).toArray] w fun e w' => ∃ u, e = .returned u ∧ OwnB 5 w.heap.size w' u (ptrim s) ∧ Fr [] w w' := by
  have hf0 : Fr [] w (w.alloc (.cells (s.map u8v).toArray 148)) := Fr.alloc _ _
  have hA : At (w.alloc (.cells (s.map u8v).toArray 148)) w.heap.size (.cells (s.map u8v).toArray 148) := At.new rfl
  have hb : Bs (fun _ => False) (w.alloc (.cells (s.map u8v).toArray 148)) (.slice (some ⟨w.heap.size, 0, none⟩) 32 32) s := ⟨_, 32, by rw [hs], by omega, by simp [maxLen], by simpa using Row.of_block hA (by simp)⟩
  have HT := Lib.hid (trim_z (fun _ => False) _ _ s hb (bwI_of_bs hb (by intro e; rw [e] at hs; simp at hs)) (by omega))
  have HF0 := Lib.hid hf0
  clear hf0 hA hb
  go_enter Tryd.func89, Tryd.ntmps89
  go_wp2_with (go_at_call 108; fail)
  refine HT.out.mono ?_
  rintro e w1 ⟨u, rfl, ho, hf⟩
  have HO := Lib.hid (ho.base HF0.out.size)
  have HF1 := Lib.hid (HF0.out.trans hf)
  clear ho hf HT
  go_wp2
  go_ret
  exact ⟨_, rfl, HO.out, HF1.out⟩

theorem bs_subG {A : Nat → Prop} {w : World} {b o n c : Nat} {xs : List UInt8} (h : Bs A w (.slice (some ⟨b, o, none⟩) n c) xs) (k m : Nat) (hk : k + m ≤ n) : Bs A w (.slice (some ⟨b, o + k, none⟩) m (c - k)) ((xs.drop k).take m) := by
  obtain ⟨a, cap, e, h2, h3, h4⟩ := h
  cases e
  have hl : ((xs.drop k).take m).length = m := by rw [List.length_take, List.length_drop]; omega
  have hr := (h4.drop k).take m
  rw [← List.map_drop, ← List.map_take] at hr
  exact ⟨_, c - k, by rw [hl], by rw [hl]; omega, by omega, hr⟩
set_option maxRecDepth 100000 in
set_option maxHeartbeats 4000000 in
theorem forney_any (w : World) (s g : List UInt8) (gv : Value) (e : Nat) (hs : s.length = 32) (hg : Bs (fun _ => False) w gv g) (hgn : plen g = e + 1) (he : e ≤ 32) (hgl : g.length ≤ 100) :
    Calls Tryd.prog 85 #[.agg (s.map u8v).toArray, gv] w fun r w' => ∃ u, r = .returned u ∧ OwnB 5 w.heap.size w' u (fornL s g e) ∧ Fr [] w w' := by
  have hne : g ≠ [] := by intro h; rw [h] at hgn; simp [plen] at hgn
  have HG := Lib.hid hg
  have hsz : (s.map u8v).toArray.size = 32 := by simp [hs]
  obtain ⟨ga, gc, rfl, g2, g3, -⟩ := hg
  unfold maxLen at g3
  obtain ⟨w0, hw0⟩ : ∃ w0, w.alloc (.cells (s.map u8v).toArray 148) = w0 := ⟨_, rfl⟩
  have HA := Lib.hid (show At w0 w.heap.size (.cells (s.map u8v).toArray 148) by rw [← hw0]; exact At.new rfl)
  have HF0 := Lib.hid (show Fr [] w w0 by rw [← hw0]; exact Fr.alloc _ _)
  have HW0 := Lib.hid hw0
  have HD := Lib.hid (fun w (hb : Bs (fun _ => False) w (.slice ga g.length gc) g) => degree_any (fun _ => False) w (.slice ga g.length gc) g hb hne (by omega))
  have hpe : (plen g : Int) - 1 = e := by omega
  rw [hpe] at HD
  obtain ⟨GL, hGL⟩ : ∃ n, g.length = n := ⟨_, rfl⟩
  have HGL := Lib.hid hGL
  rw [hGL] at HG g2 HD hgl ⊢
  have HSZ := Lib.hid hsz
  obtain ⟨SC, hSC⟩ : ∃ c, (s.map u8v).toArray = c := ⟨_, rfl⟩
  have HSC := Lib.hid hSC
  rw [hSC] at hsz HA hw0 ⊢
  have HW0' := Lib.hid hw0
  clear hGL hpe hne HW0 HSZ
  have HPO := Lib.hid (fun w => poly_any w s hs)
  rw [hSC] at HPO
  have hei : (0 : Int) ≤ e := by omega
  have hei2 : ¬ (e : Int) < 0 := by omega
  have hei3 : ¬ (32 : Int) < e := by omega
  go_enter Tryd.func85, Tryd.ntmps85
  go_wp2_with (go_at_call 86; fail)
  clear hw0
  refine (HD.out w0 (HG.out.keep HF0.out (by simp))).mono ?_
  rintro r w1 ⟨rfl, hf⟩
  have HA1 := Lib.hid (HA.out.keep0 hf)
  have HF1 := Lib.hid (HF0.out.trans hf)
  have HG1 := Lib.hid (HG.out.keep HF1.out (by simp))
  clear hf HA HF0 HD HW0'
  go_wp2_with (first | (refine wpl_load_rowG (.tmp 2) rfl rfl w.heap.size SC rfl HA1.out Tryd.underlying148 rfl (by rw [hsz]; kernel_rfl) ?_) | (go_at_call 89; refine (HPO.out _).mono ?_; rintro r w2 ⟨pv, rfl, ho2, hf2⟩) | (go_at_call 87; fail))
  have hs1 := HF1.out.size
  have HP2 := Lib.hid (ho2.base hs1)
  have HF2 := Lib.hid (HF1.out.trans hf2)
  have HG2 := Lib.hid (HG1.out.keep hf2 (by simp))
  have hpl := plen_le s
  clear ho2 hf2 HA1
  refine (pmul_any (fun _ => False) w2 pv _ (ptrim s) g (HP2.out.bs (by simp)) HG2.out (by have h1 := HGL.out; have h2 := plen_le g; omega) (by rw [ptrim_length]; have := HGL.out; omega)).mono ?_
  rintro r w3 ⟨mv, rfl, ho3, hf3⟩
  have hs2 := HF2.out.size
  have HM3 := Lib.hid (ho3.base hs2)
  have HF3 := Lib.hid (HF2.out.trans hf3)
  have hs3 := HF3.out.size
  have HML := Lib.hid (show (pmul (ptrim s) g).length ≤ 200 by have := pmul_len (ptrim s) g; rw [ptrim_length] at this; have := HGL.out; omega)
  clear ho3 hf3 HP2 HG2
  obtain ⟨ZK, hZK⟩ : ∃ z : Nat, 32 = z := ⟨_, rfl⟩
  have HZK := Lib.hid hZK
  have HZI := Lib.hid (show (32 : Int) = (ZK : Int) by omega)
  have hzk : ZK ≤ 32 := by omega
  clear hZK
  go_wp2_with (refine wpl_append_zeros_bs (kn := .i64) (k := ZK) Tryd.underlying22 Tryd.underlying3 Tryd.infoByte rfl (.tmp 15) (.const (.int .i64 32)) rfl rfl rfl HZI.out HM3.out (by have := HML.out; omega) hs3 ?_)
  intro v4 w4 h4 g4
  rw [← HZK.out] at h4
  have HO4 := Lib.hid h4
  have HF4 := Lib.hid (show Fr [] w w4 from OwnB.fr HM3.out HF3.out g4 (Nat.le_refl _))
  have HRES := Lib.hid (show ((pmul (ptrim s) g ++ List.replicate 32 0).drop e).take (32 - e) = fornL s g e from by
    refine list_ext_cf (by rw [fornL_len, List.length_take, List.length_drop, List.length_append, List.length_replicate]; omega) fun j hj => ?_
    rw [List.length_take, List.length_drop] at hj
    rw [cf_take, if_pos (by omega), cf_drop]
    unfold fornL
    rw [cf_map_range, if_pos (by omega), cf_append]
    have hcv : ∀ m, cf (pmul (ptrim s) g) m = conv (cf s) (cf g) m := fun m => by
      rw [cf_mul]
      unfold conv
      exact xsum_congr _ fun i _ => by rw [cf_trim]
    split
    · exact hcv _
    · rename_i h
      rw [cf_replicate, ← hcv, cf_ge (by omega)])
  obtain ⟨FL, hFL⟩ : ∃ FL, pmul (ptrim s) g ++ List.replicate 32 0 = FL := ⟨_, rfl⟩
  rw [hFL] at HO4 HRES
  have hfl : 32 ≤ FL.length := by rw [← hFL, List.length_append, List.length_replicate]; omega
  have hfl2 : FL.length ≤ 300 := by rw [← hFL, List.length_append, List.length_replicate]; have := HML.out; omega
  obtain ⟨fb, fc, rfl, f0, f1, f2, -⟩ := HO4.out.shape (by omega)
  unfold maxLen at f2
  have HC := Lib.hid (show Bs (fun _ => False) w4 (.slice (some ⟨fb, 0 + e, none⟩) (32 - e) (fc - e)) ((FL.drop e).take (32 - e)) from bs_subG (HO4.out.bs (by simp)) e (32 - e) (by omega))
  rw [HRES.out, Nat.zero_add] at HC
  have HK := Lib.hid (clone_any (fun _ => False) w4 _ _ HC.out (by rw [fornL_len]; omega))
  obtain ⟨FN', hFN⟩ : ∃ n, FL.length = n := ⟨_, rfl⟩
  rw [hFN] at hfl hfl2 f1 ⊢
  clear h4 g4 hFL hFN HM3 HF3 HML hpl
  have HZ := Lib.hid (show fc = e → Calls Tryd.prog 50 #[.slice (some ⟨fb, 0, none⟩) (32 - e) 0] w4 fun e_1 w' => ∃ v', e_1 = Ending.returned v' ∧ OwnB 5 w4.heap.size w' v' (fornL s g e) ∧ Fr [] w4 w' from by
    intro hfe
    have he32 : e = 32 := by omega
    subst he32
    have hnil : fornL s g 32 = [] := List.eq_nil_of_length_eq_zero (by rw [fornL_len])
    rw [hnil]
    obtain ⟨a', c', e1, e2, e3, e4⟩ := HO4.out.bs (A := fun _ => False) (by simp)
    cases e1
    have hr := e4.take 0
    exact clone_any (fun _ => False) w4 _ _ ⟨some ⟨fb, 0, none⟩, 0, rfl, by simp, by simp [maxLen], by simpa using hr⟩ (by simp))
  have hs4 := HF4.out.size
  go_wp2_with (go_at_call 50; fail)
  all_goals
    first | (refine HK.out.mono ?_) | (refine (HZ.out (by assumption)).mono ?_)
    rintro r w5 ⟨u, rfl, ho5, hf5⟩
    have HO5 := Lib.hid (ho5.base hs4)
    have HF5 := Lib.hid (HF4.out.trans hf5)
    clear ho5 hf5
    go_wp2
    go_ret
    exact ⟨_, rfl, HO5.out, HF5.out⟩
end Go.Proofs.YtmohiblgfmdkjaaDoor
namespace Go.Proofs.YtmohiblgfmdkjaaDoor
open Go.RowKit Go.Bl
set_option linter.unusedVariables false
set_option maxRecDepth 100000 in
set_option maxHeartbeats 4000000 in
theorem find_ok (w : World) (s g row rp loc ev : List UInt8) (n e rl : Nat) (pa : Option Addr) (pn pc : Nat) (hs : s.length = 32) (hgn : plen g = e + 1) (he : e ≤ 32) (hgl : g.length ≤ 100) (hpn : pn ≤ 32)
    (hE : ∀ w0, Fr [] w w0 → Calls Tryd.prog 83 #[.int .i64 n, .slice pa pn pc] w0 fun r w' => ∃ u, r = .returned (.tuple #[u, .nilIface]) ∧ OwnB 5 w0.heap.size w' u g ∧ Fr [] w0 w')
    (hrow : fornL s g e = row) (hrp : regP row = rp) (hrl : regL row = rl) (hloc : pmul rp g = loc) (hev : ptrim ((pmul (ptrim s) loc).take 32) = ev)
    (h1 : 2 * rl + pn ≤ 32) (h2 : rl < plen rp) (hl0 : 0 < loc.length) :
    Calls Tryd.prog 68 #[.agg (s.map u8v).toArray, .int .i64 n, .slice pa pn pc] w fun r w' => ∃ u v, r = .returned (.tuple #[.agg #[.int .i64 rl, u, v], .nilIface]) ∧ OwnB 5 w.heap.size w' u loc ∧ OwnB 5 w.heap.size w' v ev ∧ Fr [] w w' := by
  have HFOR := Lib.hid (fun w gv (hb : Bs (fun _ => False) w gv g) => forney_any w s g gv e hs hb hgn he hgl)
  have hrowl : row.length ≤ 32 := by rw [← hrow, fornL_len]; omega
  have hsz : (s.map u8v).toArray.size = 32 := by simp [hs]
  have HREG := Lib.hid (fun w gv (hb : Bs (fun _ => False) w gv row) => register_any w gv row hb (by omega))
  rw [hrow] at HFOR
  rw [hrp, hrl] at HREG
  have hrpl : rp.length ≤ rl + 1 := by rw [← hrp, ← hrl]; exact reg_len row
  have hrpp : 1 ≤ rp.length := by rw [← hrp]; exact reg_pos row
  have hne : rp ≠ [] := by intro h; rw [h] at hrpp; simp at hrpp
  have HDEG := Lib.hid (fun w v (hb : Bs (fun _ => False) w v rp) => degree_any (fun _ => False) w v rp hb hne (by omega))
  have HPO := Lib.hid (fun w => poly_any w s hs)
  have HMU := Lib.hid (fun w v u (hb : Bs (fun _ => False) w v rp) (hg : Bs (fun _ => False) w u g) => pmul_any (fun _ => False) w v u rp g hb hg (by omega) (by omega))
  rw [hloc] at HMU
  have hll : loc.length ≤ 200 := by rw [← hloc]; have := pmul_len rp g; omega
  have hpsl : (ptrim s).length ≤ 32 := by rw [ptrim_length]; have := plen_le s; omega
  have HMU2 := Lib.hid (fun w v u (hb : Bs (fun _ => False) w v (ptrim s)) (hg : Bs (fun _ => False) w u loc) (h0 : 0 < (ptrim s).length + loc.length) => pmul_any (fun _ => False) w v u (ptrim s) loc hb hg h0 (by omega))
  obtain ⟨al, hal⟩ : ∃ al, pmul (ptrim s) loc = al := ⟨_, rfl⟩
  rw [hal] at HMU2 hev
  have hall : al.length ≤ 1000 := by rw [← hal]; have := pmul_len (ptrim s) loc; omega
  obtain ⟨SC, hSC⟩ : ∃ c, (s.map u8v).toArray = c := ⟨_, rfl⟩
  rw [hSC] at hsz HFOR HPO ⊢
  have HE := Lib.hid hE
  have hd : ¬ (32 : Int) - pn < 2 * (rl : Int) := by omega
  have hd2 : ¬ (plen rp : Int) - 1 < rl := by omega
  clear hE hrow hrp hrl hloc hne
  obtain ⟨w0, hw0⟩ : ∃ w0, (w.alloc (.cells SC 148)).alloc (.cells #[.int .i64 0, .slice none 0 0, .slice none 0 0] 152) = w0 := ⟨_, rfl⟩
  have HA0 := Lib.hid (show At w0 w.heap.size (.cells SC 148 (0, 0)) by rw [← hw0]; exact (At.new rfl).al)
  have HR0 := Lib.hid (show At w0 (w.heap.size + 1) (.cells #[.int .i64 0, .slice none 0 0, .slice none 0 0] 152 (0, 0)) by rw [← hw0]; exact At.new (by simp))
  have HF0 := Lib.hid (show Fr [] w w0 by rw [← hw0]; exact (Fr.alloc _ _).trans (Fr.alloc _ _))
  have hs0' : w0.heap.size = w.heap.size + 2 := by rw [← hw0]; simp
  have HS0 := Lib.hid hs0'
  go_enter Tryd.func68, Tryd.ntmps68
  go_wp2_with (go_at_call 83; fail)
  try rw [hw0]
  clear hw0 hs0'
  refine (HE.out w0 HF0.out).mono ?_
  rintro r w1 ⟨gv, rfl, ho1, hf1⟩
  have HA1 := Lib.hid (HA0.out.keep0 hf1)
  have HR1 := Lib.hid (HR0.out.keep0 hf1)
  have hs1 : w0.heap.size ≤ w1.heap.size := hf1.size
  have HF1 := Lib.hid (HF0.out.trans hf1)
  have HG1 := Lib.hid ho1
  clear ho1 hf1 HA0 HR0 HE
  go_wp2_with (first | (refine wpl_load_rowG (.tmp 3) rfl rfl w.heap.size SC rfl HA1.out Tryd.underlying148 rfl (by rw [hsz]; kernel_rfl) ?_) | (go_at_call 85; fail))
  refine (HFOR.out w1 gv (HG1.out.bs (by simp))).mono ?_
  rintro r w2 ⟨rv, rfl, ho2, hf2⟩
  have HA2 := Lib.hid (HA1.out.keep0 hf2)
  have HR2 := Lib.hid (HR1.out.keep0 hf2)
  have hs2 : w0.heap.size ≤ w2.heap.size := Nat.le_trans hs1 hf2.size
  have HF2 := Lib.hid (HF1.out.trans hf2)
  have HG2 := Lib.hid (HG1.out.keep hf2 (by simp))
  have HW2 := Lib.hid (ho2.base hs1)
  clear ho2 hf2 HA1 HR1 HG1 HFOR
  go_wp2_with (go_at_call 84; fail)
  refine (HREG.out w2 rv (HW2.out.bs (by simp))).mono ?_
  rintro r w3 ⟨pv, rfl, ho3, hf3⟩
  have HA3 := Lib.hid (HA2.out.keep0 hf3)
  have HR3 := Lib.hid (HR2.out.keep0 hf3)
  have hs3 : w0.heap.size ≤ w3.heap.size := Nat.le_trans hs2 hf3.size
  have HF3 := Lib.hid (HF2.out.trans hf3)
  have HG3 := Lib.hid (HG2.out.keep hf3 (by simp))
  have HP3 := Lib.hid (ho3.base hs2)
  clear ho3 hf3 HA2 HR2 HG2 HW2 HREG
  go_wp2_with (go_at_call 86; fail)
  refine (HDEG.out w3 pv (HP3.out.bs (by simp))).mono ?_
  rintro r w4 ⟨rfl, hf4⟩
  have HA4 := Lib.hid (HA3.out.keep0 hf4)
  have HR4 := Lib.hid (HR3.out.keep0 hf4)
  have hs4 : w0.heap.size ≤ w4.heap.size := Nat.le_trans hs3 hf4.size
  have HF4 := Lib.hid (HF3.out.trans hf4)
  have HG4 := Lib.hid (HG3.out.keep hf4 (by simp))
  have HP4 := Lib.hid (HP3.out.keep hf4 (by simp))
  clear hf4 HA3 HR3 HG3 HP3 HDEG
  go_wp2_with (go_at_call 87; fail)
  refine (HMU.out w4 pv gv (HP4.out.bs (by simp)) (HG4.out.bs (by simp))).mono ?_
  rintro r w5 ⟨lv, rfl, ho5, hf5⟩
  have HA5 := Lib.hid (HA4.out.keep0 hf5)
  have HR5 := Lib.hid (HR4.out.keep0 hf5)
  have hs5 : w0.heap.size ≤ w5.heap.size := Nat.le_trans hs4 hf5.size
  have HF5 := Lib.hid (HF4.out.trans hf5)
  have HL5 := Lib.hid (ho5.base hs4)
  clear ho5 hf5 HA4 HR4 HG4 HP4 HMU
  go_wp2_with (first | (refine wpl_load_rowG (.tmp 3) rfl rfl w.heap.size SC rfl HA5.out Tryd.underlying148 rfl (by rw [hsz]; kernel_rfl) ?_) | (go_at_call 89; fail))
  refine (HPO.out w5).mono ?_
  rintro r w6 ⟨sv, rfl, ho6, hf6⟩
  have HR6 := Lib.hid (HR5.out.keep0 hf6)
  have hs6 : w0.heap.size ≤ w6.heap.size := Nat.le_trans hs5 hf6.size
  have HF6 := Lib.hid (HF5.out.trans hf6)
  have HL6 := Lib.hid (HL5.out.keep hf6 (by simp))
  have HV6 := Lib.hid (ho6.base hs5)
  clear ho6 hf6 HA5 HR5 HL5 HPO
  go_wp2_with (go_at_call 87; fail)
  refine (HMU2.out w6 sv lv (HV6.out.bs (by simp)) (HL6.out.bs (by simp)) (by omega)).mono ?_
  rintro r w7 ⟨av, rfl, ho7, hf7⟩
  have HR7 := Lib.hid (HR6.out.keep0 hf7)
  have hs7 : w0.heap.size ≤ w7.heap.size := Nat.le_trans hs6 hf7.size
  have HF7 := Lib.hid (HF6.out.trans hf7)
  have HL7 := Lib.hid (HL6.out.keep hf7 (by simp))
  have HV7 := Lib.hid (ho7.base hs6)
  clear ho7 hf7 HR6 HL6 HV6 HMU2
  have HLO := Lib.hid (plow_any (fun _ => False) w7 av al 32 (HV7.out.bs (by simp)) (bwI_own HV7.out) hall (by omega))
  rw [hev] at HLO
  go_wp2_with (go_at_call 88; fail)
  refine HLO.out.mono ?_
  rintro r w8 ⟨ev8, rfl, ho8, hf8⟩
  have HR8 := Lib.hid (HR7.out.keep0 hf8)
  have hs8 : w0.heap.size ≤ w8.heap.size := Nat.le_trans hs7 hf8.size
  have HF8 := Lib.hid (HF7.out.trans hf8)
  have HL8 := Lib.hid (HL7.out.keep hf8 (by simp))
  have HE8 := Lib.hid (ho8.base hs7)
  clear ho8 hf8 HR7 HL7 HV7 HLO
  obtain ⟨la, lc, hlv, -, -, -⟩ := HL8.out.bs (A := fun _ => False) (by simp)
  obtain ⟨ea, ec, hevv, -, -, -⟩ := HE8.out.bs (A := fun _ => False) (by simp)
  obtain ⟨LL, hLL⟩ : ∃ n, loc.length = n := ⟨_, rfl⟩
  obtain ⟨EL, hEL⟩ : ∃ n, ev.length = n := ⟨_, rfl⟩
  rw [hLL] at hlv
  rw [hEL] at hevv
  subst hlv
  subst hevv
  clear hLL hEL
  have HONE := Lib.hid (show (#[.int .i64 (rl : Int), .slice la LL lc, .slice ea EL ec] : Array Value).all (·.oneCell') = true by simp [Value.oneCell'])
  go_wp2_with (go_loud (refine wpl_store_at (.tmp 6) (.tmp 54) rfl rfl #[.int .i64 rl, .slice la LL lc, .slice ea EL ec] rfl rfl (by kernel_rfl) HR8.out (by simp) HONE.out ?_))
  intro w9 hf9 hr9 _
  have HF9 := Lib.hid (show Fr [] w w9 from HF8.out.then hf9 (by intro x hx; simp at hx; subst hx; exact .inr (by omega)))
  have HL9 := Lib.hid (HL8.out.keep hf9 (by intro x hx; simp at hx; subst hx; have := HS0.out; omega))
  have HE9 := Lib.hid (HE8.out.keep hf9 (by intro x hx; simp at hx; subst hx; have := HS0.out; omega))
  have hc0 := hr9.cell 0
  have hc1 := hr9.cell 1
  have hc2 := hr9.cell 2
  simp at hc0 hc1 hc2
  clear hf9 hr9
  go_wp2
  refine bodyPost_ret (v := .tuple #[.agg #[.int .i64 rl, .slice la LL lc, .slice ea EL ec], .nilIface]) ?_ rfl ?_
  · rw [results_cell_tmp rfl]
    simp [asAddr, Result.andThen, hc0, hc1, hc2, go_sem]
  · exact ⟨_, _, rfl, HL9.out.base (by have := HS0.out; omega), HE9.out.base (by have := HS0.out; omega), HF9.out⟩
end Go.Proofs.YtmohiblgfmdkjaaDoor
