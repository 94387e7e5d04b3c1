import Derived.Test.YtnafknkchbfpaaaGreatDoorGZ
set_option linter.unusedVariables false
set_option linter.unusedSimpArgs false
set_option maxRecDepth 1000000
set_option maxHeartbeats 8000000
namespace Go.Proofs.YtnafknkchbfpaaaGreatDoor
open Go.RowKit Go.Bl
theorem qda (S : ByteArray) (nm : List UInt8) (hL : Jv S nm) (E : Nat -> Addr) (B : Nat) (w : World) (v : Value) (m : List UInt8) (n : Int) (hE : vu all20 E B w) (hB : Bs (fun b => w.heap.size <= b) w v m) (hS : SG w) :
  Calls Tryz.prog 140 #[v, .string S, .int .i64 n] w fun e w' => ∃ u, e = .returned (.tuple #[u, jQ E (qc m n)]) /\ (qc m n = 0 -> qs 5 w.heap.size w' u (qi m nm n)) /\ (qc m n ≠ 0 -> u = .slice none 0 0) /\ Fr [] w w' := by
 obtain ⟨sn, hsn⟩ := exq (S.size)
 have HNM := Hdq hL.bytes
 have HNL := Hdq hL.le
 have HLB := Hdq hL.ok
 have HSN := Hdq hsn
 clear hL hsn
 have HE := Hdq hE
 have HB := Hdq hB
 have HS := Hdq hS
 have HM := Hdq (WH _ w v m hB)
 clear hE hB hS
 by_cases h1 : m.length < 16 ∨ 64 < m.length
 ·have HK := Hdq (xr (n := n) h1)
  rw [show decide (16 <= m.length /\ m.length <= 64) = false from decide_eq_false Y44] at HM
  clear h1
  go_enter Tryz.func140, Tryz.ntmps140
  go_wp2_with (go_at_call 166; fail)
  refine HM.out.mono ?_
  rintro e w1 ⟨rfl, hf⟩
  have HF := Hdq hf
  have hcc := (HE.out.keep0 hf).cell 9 Y76
  simp only [gOf, List.getD_eq_getElem?_getD, List.getElem?_cons_zero, List.getElem?_cons_succ, Option.getD_some] at hcc
  clear hf HM
  go_wp2
  go_quiet (fail)
  go_wp2
  go_ret2
  exact ⟨_, by rw [HK.out]; rfl, (fun h => by rw [HK.out] at h; cases h), fun _ => rfl, HF.out.trans (Fr.of_heap rfl rfl rfl rfl)⟩
 ·rw [show decide (16 <= m.length /\ m.length <= 64) = true from decide_eq_true Y44] at HM
  by_cases h2 : n < 0 ∨ 1099511627776 < n
  ·have HK := Hdq (xq h1 h2)
   have HN := Hdq (fun w => XL w n)
   rw [show decide (0 <= n /\ n <= 1099511627776) = false from decide_eq_false Y44] at HN
   clear h1 h2
   go_enter Tryz.func140, Tryz.ntmps140
   go_wp2_with (go_at_call 166; fail)
   refine HM.out.mono ?_
   rintro e w1 ⟨rfl, hf⟩
   have HF := Hdq hf
   clear hf HM
   go_wp2_with (go_at_call 167; fail)
   refine (HLB.out w1).mono ?_
   rintro e w2 ⟨rfl, hf⟩
   have HF2 := Hdq (HF.out.trans hf)
   clear hf HF
   go_wp2_with (go_at_call 168; fail)
   refine (HN.out w2).mono ?_
   rintro e w3 ⟨rfl, hf⟩
   have HF3 := Hdq (HF2.out.trans hf)
   have hcc := (HE.out.keep0 HF3.out).cell 1 Y76
   simp only [gOf, List.getD_eq_getElem?_getD, List.getElem?_cons_zero, List.getElem?_cons_succ, Option.getD_some] at hcc
   clear hf HF2
   go_wp2
   go_quiet (fail)
   go_wp2
   go_ret2
   exact ⟨_, by rw [HK.out]; rfl, (fun h => by rw [HK.out] at h; cases h), fun _ => rfl, HF3.out.trans (Fr.of_heap rfl rfl rfl rfl)⟩
  ·have HK := Hdq (JD h1 h2)
   have HN := Hdq (fun w => XL w n)
   rw [show decide (0 <= n /\ n <= 1099511627776) = true from decide_eq_true Y44] at HN
   have HL := Hdq (show m.length <= 100000000 by omega)
   have HS9 := Hdq (show S.size <= 1000 from by
    have h1 := HNL.out
    rw [<- HNM.out] at h1
    have h2 : S.data.toList.length = S.size := by simp
    omega)
   clear h1 h2
   go_enter Tryz.func140, Tryz.ntmps140
   go_wp2_with (go_at_call 166; fail)
   refine HM.out.mono ?_
   rintro e w1 ⟨rfl, hf⟩
   have HF := Hdq hf
   clear hf HM
   go_wp2_with (go_at_call 167; fail)
   refine (HLB.out w1).mono ?_
   rintro e w2 ⟨rfl, hf⟩
   have HF2 := Hdq (HF.out.trans hf)
   clear hf HF
   go_wp2_with (go_at_call 168; fail)
   refine (HN.out w2).mono ?_
   rintro e w3 ⟨rfl, hf⟩
   have HF3 := Hdq (HF2.out.trans hf)
   clear hf HF2 HN
   go_wp2_with (refine qbp S (.tmp 25) rfl rfl rfl sn HSN.out (HS9.out) ?_)
   intro svb svc p1 hf1 hb1
   rw [HNM.out] at hb1
   have HF4 := Hdq (HF3.out.trans hf1)
   obtain ⟨Z1, hZ1⟩ := exq (p1.heap.size)
   have F2 : Fr [] p1 (p1.alloc (.cells #[.int .u8 0] 5)) := Fr.alloc _ _
   have HB2 := Hdq (hb1.keep F2 Y77)
   have HZ2 := Hdq (show At (p1.alloc (.cells #[.int .u8 0] 5)) Z1 (.cells #[.int .u8 0] 5) from At.new hZ1.symm)
   have HF5 := Hdq (HF4.out.trans F2)
   have HZ1 := Hdq hZ1
   clear F2 hf1 hb1 HF3 HF4
   go_wp2_with (go_at_call 57; fail)
   refine (x8 _ n).mono ?_
   rintro e w4 ⟨u, rfl, hu, hf⟩
   have hub := hu.bs (A := fun _ => False) (fun _ h => h.elim)
   obtain ⟨ua, uc, rfl, -, -, -⟩ := id hub
   rw [beK_len] at hub ⊢
   obtain ⟨Z4, hZ4⟩ := exq (w4.heap.size)
   have F5 : Fr [] w4 (w4.alloc (.cells #[.slice (some ⟨svb, 0, none⟩) sn svc, .slice (some ⟨Z1, 0, none⟩) 1 1, .slice ua 8 uc] 22)) := Fr.alloc _ _
   have HF6 := Hdq ((HF5.out.trans hf).trans F5)
   have HR := Hdq (show RdB (fun b => (w4.alloc (.cells #[.slice (some ⟨svb, 0, none⟩) sn svc, .slice (some ⟨Z1, 0, none⟩) 1 1, .slice ua 8 uc] 22)).heap.size <= b) (w4.alloc (.cells #[.slice (some ⟨svb, 0, none⟩) sn svc, .slice (some ⟨Z1, 0, none⟩) 1 1, .slice ua 8 uc] 22)) (.slice (some ⟨Z4, 0, none⟩) 3 3) [(.slice (some ⟨svb, 0, none⟩) sn svc, nm), (.slice (some ⟨Z1, 0, none⟩) 1 1, [0]), (.slice ua 8 uc, beK 8 n)] by
    refine ⟨⟨_, 3, rfl, by simp, by decide, Row.of_block (c := #[.slice (some ⟨svb, 0, none⟩) sn svc, .slice (some ⟨Z1, 0, none⟩) 1 1, .slice ua 8 uc]) (fz := (0, 0)) (At.new hZ4.symm : At (w4.alloc (.cells #[.slice (some ⟨svb, 0, none⟩) sn svc, .slice (some ⟨Z1, 0, none⟩) 1 1, .slice ua 8 uc] 22)) Z4 _) Y46⟩, fun x hx => qe4 ?_⟩
    rcases List.mem_cons.1 hx with rfl | hx
    ·exact (HB2.out.keep hf Y77).keep F5 Y77
    ·rcases List.mem_cons.1 hx with rfl | hx
     ·exact Yh (n := 1) (e := 5) (((show At _ Z1 (.cells (([0] : List UInt8).map u8v).toArray 5) from HZ2.out).keep0 hf).keep0 F5) rfl Y76 Y77
     ·obtain rfl : x = (.slice ua 8 uc, beK 8 n) := by simpa using hx
      exact hub.keep F5 Y77)
   have HS6 := Hdq (HS.out.keep HF6.out)
   have HB6 := Hdq (HB.out.mono (A' := fun b => (w4.alloc (.cells #[.slice (some ⟨svb, 0, none⟩) sn svc, .slice (some ⟨Z1, 0, none⟩) 1 1, .slice ua 8 uc] 22)).heap.size <= b) HF6.out Y77 (fun b hb => .inl (by have := HF6.out.size; omega)))
   have HZ4 := Hdq hZ4
   clear hu hub hf F5 HB2 HZ2 HF5
   go_wp2_with (go_at_call 169; fail)
   refine (qdz _ v _ m [(.slice (some ⟨svb, 0, none⟩) sn svc, nm), (.slice (some ⟨Z1, 0, none⟩) 1 1, [0]), (.slice ua 8 uc, beK 8 n)] HB6.out HL.out HR.out HS6.out Y77 Y77 (by have := HNL.out; simp [ju, beK_len]; omega)).mono ?_
   rintro e w5 ⟨rfl, hf⟩
   obtain ⟨o, ho⟩ := exq (vN m (ju [(.slice (some ⟨svb, 0, none⟩) sn svc, nm), (.slice (some ⟨Z1, 0, none⟩) 1 1, [0]), (.slice ua 8 uc, beK 8 n)]))
   rw [ho]
   have hol : o.length = 32 := by rw [<- ho]; rfl
   have HO := Hdq (show qi m nm n = o by rw [<- ho]; simp [qi, ju])
   obtain ⟨Zd, hZd⟩ := exq (w5.heap.size)
   have HOL := Hdq hol
   have HS9 := Hdq (show (Tryz.prog.info? 58).map (·.size) = some (o.map u8v).toArray.size by rw [List.size_toArray]; exact vS o hol)
   have F7 : Fr [] w5 (w5.alloc (.cells (o.map u8v).toArray 58)) := Fr.alloc _ _
   have HF7 := Hdq ((HF6.out.trans hf).trans F7)
   have HB7 := Hdq (Yh (A := fun _ => False) (n := 32) (At.new hZd.symm : At (w5.alloc (.cells (o.map u8v).toArray 58)) Zd (.cells (o.map u8v).toArray 58)) hol Y76 Y77)
   have HZD := Hdq hZd
   clear ho hol F7 hf HF6 HR HS6 HB6
   go_wp2_with (first | (refine ub (.tmp 8) (.tmp 31) rfl rfl (o.map u8v).toArray (congrArg (fun n => Value.pointer (some ⟨n, 0, none⟩)) HZD.out.symm) rfl HS9.out (show (32 : Nat) = (o.map u8v).toArray.size by rw [List.size_toArray, List.length_map, HOL.out]) (Qu _) ?_) | (go_at_call 59; fail))
   refine (clone_any (fun _ => False) _ _ o HB7.out (by rw [HOL.out]; decide)).mono ?_
   rintro e w8 ⟨u, rfl, hu, hf⟩
   have HU := Hdq (hu.base HF7.out.size)
   have HF8 := Hdq (HF7.out.trans hf)
   clear hu hf
   go_wp2
   go_ret2
   exact ⟨_, by rw [HK.out]; rfl, fun _ => by rw [HO.out]; exact HU.out, fun h => absurd HK.out h, HF8.out⟩
theorem xK (S : ByteArray) (nm : List UInt8) (hL : Jv S nm) (E : Nat -> Addr) (B : Nat) (w0 w : World) (bm bn bb kb j : Nat) (mv : Value) (m : List UInt8) (n : Int) (K : Array Value) (ev : Value) (F0 : Fr [] w0 w) (hE : vu all20 E B w0) (hS : SG w0) (hB : Bs (fun b => w0.heap.size <= b) w0 mv m)
  (hM : At w bm (.cells #[mv] 22)) (hN : At w bn (.cells #[.int .i64 n] 3)) (hV : At w bb (.cells #[ev] 33)) (hK : At w kb (.cells K 133)) (hj : j < K.size) (h1 : w0.heap.size <= bb) (h2 : w0.heap.size <= kb) :
  Calls Tryz.prog 139 #[.string S, .pointer (some ⟨kb, j, none⟩), .pointer (some ⟨bm, 0, none⟩), .pointer (some ⟨bn, 0, none⟩), .pointer (some ⟨bb, 0, none⟩)] w fun e w' => (∃ v, e = .returned v) /\ ∃ u, At w' kb (.cells (K.setIfInBounds j u) 133) /\ At w' bb (.cells #[xR E (qc m n) ev] 33) /\
   (qc m n = 0 -> qs 5 w.heap.size w' u (qi m nm n)) /\ (qc m n ≠ 0 -> u = .slice none 0 0) /\ Fr [kb, bb] w w' := by
 have c1 : w.cell? ⟨bm, 0, none⟩ = some mv := hM.cell 0
 have c2 : w.cell? ⟨bn, 0, none⟩ = some (.int .i64 n) := hN.cell 0
 have HC := Hdq (qda S nm hL E B w mv m n (hE.keep0 F0) (hB.mono (A' := fun b => w.heap.size <= b) F0 Y77 (fun b hb => .inl (by have := F0.size; omega))) (hS.keep F0))
 have hkb : kb ≠ bb := Q5 hK hV Y76
 have HK := Hdq (And.intro hK (And.intro hV (And.intro hj (And.intro hkb (And.intro h1 (And.intro h2 F0))))))
 clear hL hM hN hE hB hS F0 hK hV hj hkb h1 h2
 obtain ⟨EV, hEV⟩ := exq (jQ E (qc m n))
 rw [hEV] at HC
 have HEV := Hdq hEV
 clear hEV
 go_enter Tryz.func139, Tryz.ntmps139
 go_wp2_with (go_at_call 140; fail)
 refine HC.out.mono ?_
 rintro e w3 ⟨u, rfl, hu, hn, hf⟩
 obtain ⟨k1, k2, k3, k4, k5, k6, k7⟩ := HK.out
 have HU := Hdq hu
 have HN := Hdq hn
 have HF := Hdq hf
 have HK3 := Hdq (k1.keep0 hf)
 have HV3 := Hdq (k2.keep0 hf)
 have hu1 : u.oneCell' = true := by
  by_cases h : qc m n = 0
  ·obtain ⟨a, c, e, -⟩ := (hu h).bs (A := fun _ => False) (fun _ h => h.elim); rw [e]; rfl
  ·rw [hn h]; rfl
 have hu2 : ∃ a n c, u = .slice a n c := by
  by_cases h : qc m n = 0
  ·obtain ⟨a, c, e, -⟩ := (hu h).bs (A := fun _ => False) (fun _ h => h.elim); exact ⟨a, _, c, e⟩
  ·exact ⟨_, _, _, hn h⟩
 have HU1 := Hdq hu1
 clear hu hn hf k1 k2 k3 k5 k6 k7 hu1
 obtain ⟨ua, un, uc, rfl⟩ := hu2
 by_cases hb : qc m n = 0
 ·have HB := Hdq hb
  obtain rfl : EV = .nilIface := HEV.out.symm.trans (by rw [hb]; rfl)
  clear hb k4
  go_wp2_with (refine qM (.tmp 21) (.tmp 20) rfl rfl _ rfl rfl HK3.out HK.out.2.2.1 Y45 rfl ?_)
  intro w4 f4 a4 _
  have HF4 := Hdq f4
  have HK4 := Hdq a4
  clear f4 a4
  go_wp2
  go_end0
  refine ⟨⟨_, rfl⟩, _, HK4.out, ?_, fun h => (HU.out h).keep HF4.out (fun g hg => ?_), HN.out, (HF.out.weak.trans (HF4.out.mono (fun x hx => .inl (by simp at hx; subst hx; simp))))⟩
  ·rw [HB.out, UI]
   exact HV3.out.keep HF4.out (by simp; exact fun h => HK.out.2.2.2.1 h.symm)
  ·simp at hg; subst hg
   exact qo HK.out.1
 ·have HB := Hdq hb
  have hEP := HEV.out.symm.trans (errv_pos E _ hb)
  obtain ⟨ER, hER⟩ : ∃ a, EV = .iface 317 (.pointer (some a)) := ⟨_, hEP⟩
  subst hER
  clear hb hEP
  go_wp2_with (refine qM (.tmp 4) (.tmp 18) rfl rfl _ rfl rfl HV3.out Y77 Y45 rfl ?_)
  intro w4 f4 a4 _
  have HF4 := Hdq f4
  have HV4 := Hdq a4
  have HK4 := Hdq (HK3.out.keep f4 (by simpa using k4))
  clear f4 a4 k4
  go_wp2_with (refine qM (.tmp 21) (.tmp 20) rfl rfl _ rfl rfl HK4.out HK.out.2.2.1 Y45 rfl ?_)
  intro w5 f5 a5 _
  have HF5 := Hdq f5
  have HK5 := Hdq a5
  clear f5 a5
  go_wp2
  go_end0
  refine ⟨⟨_, rfl⟩, _, HK5.out, ?_, fun h => absurd h HB.out, HN.out, ((HF.out.weak.trans (HF4.out.mono (fun x hx => .inl (by simp at hx; subst hx; simp)))).trans (HF5.out.mono (fun x hx => .inl (by simp at hx; subst hx; simp))))⟩
  rw [Wk E _ HB.out, HEV.out]
  have h5 := HV4.out.keep HF5.out (by simp; exact fun h => HK.out.2.2.2.1 h.symm)
  simpa using h5
theorem y9 {P : Program} {fn : Func} {t u : Tmp} {ty : TypeId} {d : TypeDesc} (h : fn.results = #[.cell t ty, .tmp u]) (tmps : Array Value) (w : World) (b : Nat) (cs : List Value) (hp : tmps.getD t undef = .pointer (some ⟨b, 0, none⟩)) (hc : w.rangeAt b 0 cs)
  (hu : P.underlying ty = some d) (hd : d.isRow = true) (hi : (P.info? ty).map (·.size) = some cs.length) : (results fn tmps).run P w = .ok (.tuple #[.agg cs.toArray, tmps.getD u undef]) w := by
 have h1 := run_loadVar_mid (P := P) w b 0 ty cs d hc hu hd hi
 have hp2 : tmps[t]?.getD undef = .pointer (some ⟨b, 0, none⟩) := by rw [<- hp, Array.getD_eq_getD_getElem?]
 rw [results_cell_tmp h]
 simp [hp2, asAddr, h1]
theorem yS (E : Nat -> Addr) (k : Nat) (ev : Value) : xR E k (xR E k ev) = xR E k ev := by unfold xR; split <;> simp_all
theorem qbB (E : Nat -> Addr) (B : Nat) (w0 w : World) (bm bn bb kb : Nat) (mv : Value) (m : List UInt8) (n : Int) (x0 x1 x2 x3 x4 : Value) (F0 : Fr [] w0 w) (hE : vu all20 E B w0) (hS : SG w0) (hB : Bs (fun b => w0.heap.size <= b) w0 mv m)
  (hM : At w bm (.cells #[mv] 22)) (hN : At w bn (.cells #[.int .i64 n] 3)) (hV : At w bb (.cells #[.nilIface] 33)) (hK : At w kb (.cells #[x0, x1, x2, x3, x4] 133)) (h1 : w0.heap.size <= bb) (h2 : w0.heap.size <= kb) :
  Calls Tryz.prog 138 #[.pointer (some ⟨kb, 0, none⟩), .func (.func 139) #[] #[.pointer (some ⟨bm, 0, none⟩), .pointer (some ⟨bn, 0, none⟩), .pointer (some ⟨bb, 0, none⟩)]] w fun e w' => (∃ v, e = .returned v) /\ ∃ u0 u1 u2 u3 u4, At w' kb (.cells #[u0, u1, u2, u3, u4] 133) /\ At w' bb (.cells #[xR E (qc m n) .nilIface] 33) /\
   (qc m n = 0 -> qs 5 w.heap.size w' u0 (qi m jU n) /\ qs 5 w.heap.size w' u1 (qi m qx n) /\ qs 5 w.heap.size w' u2 (qi m qV n) /\ qs 5 w.heap.size w' u3 (qi m jI n) /\ qs 5 w.heap.size w' u4 (qi m jw n)) /\ (qc m n ≠ 0 -> u0 = .slice none 0 0 /\ u1 = .slice none 0 0 /\ u2 = .slice none 0 0 /\ u3 = .slice none 0 0 /\ u4 = .slice none 0 0) /\ Fr [kb, bb] w w' := by
 have hkw := qo hK
 have hbw := qo hV
 have n1 : bm ≠ kb := Q5 hM hK Y76
 have n2 : bm ≠ bb := Q5 hM hV Y76
 have n3 : bn ≠ kb := Q5 hN hK Y76
 have n4 : bn ≠ bb := Q5 hN hV Y76
 have HH := Hdq (And.intro F0 (And.intro hE (And.intro hS (And.intro hB (And.intro hM (And.intro hN (And.intro h1 (And.intro h2 (And.intro hkw hbw)))))))))
 have HNE := Hdq (And.intro n1 (And.intro n2 (And.intro n3 n4)))
 have HP := Hdq hK
 have HV := Hdq hV
 clear F0 hE hS hB hM hN h1 h2 hkw hbw n1 n2 n3 n4 hK hV
 have HF := Hdq (Fr.refl [kb, bb] w)
 go_enter Tryz.func138, Tryz.ntmps138
 go_wp2_with (go_at_call 139; fail)
 refine (xK _ _ qaK E B w0 w bm bn bb kb 0 mv m n #[x0, x1, x2, x3, x4] .nilIface (HH.out.1.then HF.out (fun z hz => .inr Y48)) HH.out.2.1 HH.out.2.2.1 HH.out.2.2.2.1 (HH.out.2.2.2.2.1.keep HF.out Y55) (HH.out.2.2.2.2.2.1.keep HF.out Y51) HV.out HP.out Y77 HH.out.2.2.2.2.2.2.1 HH.out.2.2.2.2.2.2.2.1).mono ?_
 rintro e w1 ⟨⟨rv, rfl⟩, u0, hk, hv, ho, hn, hf⟩
 have HP0 := Hdq (show At w1 kb (.cells #[u0, x1, x2, x3, x4] 133) from by simpa using hk)
 have HV0 := Hdq (show At w1 bb (.cells #[xR E (qc m n) .nilIface] 33) from by simpa using hv)
 have HO0 := Hdq ho
 have HN0 := Hdq hn
 have HF0 := Hdq (HF.out.trans hf)
 have HL0 := Hdq (show w.heap.size <= w.heap.size from HF.out.size)
 clear hk hv ho hn hf HP HV HF
 have HP := HP0
 have HV := HV0
 have HF := HF0
 clear HP0 HV0 HF0
 go_wp2_with (go_at_call 139; fail)
 refine (xK _ _ Kn E B w0 w1 bm bn bb kb 1 mv m n #[u0, x1, x2, x3, x4] (xR E (qc m n) .nilIface) (HH.out.1.then HF.out (fun z hz => .inr Y48)) HH.out.2.1 HH.out.2.2.1 HH.out.2.2.2.1 (HH.out.2.2.2.2.1.keep HF.out Y55) (HH.out.2.2.2.2.2.1.keep HF.out Y51) HV.out HP.out Y77 HH.out.2.2.2.2.2.2.1 HH.out.2.2.2.2.2.2.2.1).mono ?_
 rintro e w2 ⟨⟨rv, rfl⟩, u1, hk, hv, ho, hn, hf⟩
 have HP1 := Hdq (show At w2 kb (.cells #[u0, u1, x2, x3, x4] 133) from by simpa using hk)
 have HV1 := Hdq (show At w2 bb (.cells #[xR E (qc m n) .nilIface] 33) from by rw [yS] at hv; exact hv)
 have HO1 := Hdq ho
 have HN1 := Hdq hn
 have HF1 := Hdq (HF.out.trans hf)
 have HQ0 := Hdq (fun h => (HO0.out h).keep hf (fun g hg => by have h1 := HH.out.2.2.2.2.2.2.2.2; have h2 := HL0.out; simp at hg; omega))
 have HL1 := Hdq (show w.heap.size <= w1.heap.size from HF.out.size)
 clear hk hv ho hn hf HP HV HF HO0
 have HP := HP1
 have HV := HV1
 have HF := HF1
 clear HP1 HV1 HF1
 have HO0 := HQ0
 clear HQ0
 go_wp2_with (go_at_call 139; fail)
 refine (xK _ _ qa6 E B w0 w2 bm bn bb kb 2 mv m n #[u0, u1, x2, x3, x4] (xR E (qc m n) .nilIface) (HH.out.1.then HF.out (fun z hz => .inr Y48)) HH.out.2.1 HH.out.2.2.1 HH.out.2.2.2.1 (HH.out.2.2.2.2.1.keep HF.out Y55) (HH.out.2.2.2.2.2.1.keep HF.out Y51) HV.out HP.out Y77 HH.out.2.2.2.2.2.2.1 HH.out.2.2.2.2.2.2.2.1).mono ?_
 rintro e w3 ⟨⟨rv, rfl⟩, u2, hk, hv, ho, hn, hf⟩
 have HP2 := Hdq (show At w3 kb (.cells #[u0, u1, u2, x3, x4] 133) from by simpa using hk)
 have HV2 := Hdq (show At w3 bb (.cells #[xR E (qc m n) .nilIface] 33) from by rw [yS] at hv; exact hv)
 have HO2 := Hdq ho
 have HN2 := Hdq hn
 have HF2 := Hdq (HF.out.trans hf)
 have HQ0 := Hdq (fun h => (HO0.out h).keep hf (fun g hg => by have h1 := HH.out.2.2.2.2.2.2.2.2; have h2 := HL0.out; simp at hg; omega))
 have HQ1 := Hdq (fun h => (HO1.out h).keep hf (fun g hg => by have h1 := HH.out.2.2.2.2.2.2.2.2; have h2 := HL1.out; simp at hg; omega))
 have HL2 := Hdq (show w.heap.size <= w2.heap.size from HF.out.size)
 clear hk hv ho hn hf HP HV HF HO0 HO1
 have HP := HP2
 have HV := HV2
 have HF := HF2
 clear HP2 HV2 HF2
 have HO0 := HQ0
 clear HQ0
 have HO1 := HQ1
 clear HQ1
 go_wp2_with (go_at_call 139; fail)
 refine (xK _ _ qbS E B w0 w3 bm bn bb kb 3 mv m n #[u0, u1, u2, x3, x4] (xR E (qc m n) .nilIface) (HH.out.1.then HF.out (fun z hz => .inr Y48)) HH.out.2.1 HH.out.2.2.1 HH.out.2.2.2.1 (HH.out.2.2.2.2.1.keep HF.out Y55) (HH.out.2.2.2.2.2.1.keep HF.out Y51) HV.out HP.out Y77 HH.out.2.2.2.2.2.2.1 HH.out.2.2.2.2.2.2.2.1).mono ?_
 rintro e w4 ⟨⟨rv, rfl⟩, u3, hk, hv, ho, hn, hf⟩
 have HP3 := Hdq (show At w4 kb (.cells #[u0, u1, u2, u3, x4] 133) from by simpa using hk)
 have HV3 := Hdq (show At w4 bb (.cells #[xR E (qc m n) .nilIface] 33) from by rw [yS] at hv; exact hv)
 have HO3 := Hdq ho
 have HN3 := Hdq hn
 have HF3 := Hdq (HF.out.trans hf)
 have HQ0 := Hdq (fun h => (HO0.out h).keep hf (fun g hg => by have h1 := HH.out.2.2.2.2.2.2.2.2; have h2 := HL0.out; simp at hg; omega))
 have HQ1 := Hdq (fun h => (HO1.out h).keep hf (fun g hg => by have h1 := HH.out.2.2.2.2.2.2.2.2; have h2 := HL1.out; simp at hg; omega))
 have HQ2 := Hdq (fun h => (HO2.out h).keep hf (fun g hg => by have h1 := HH.out.2.2.2.2.2.2.2.2; have h2 := HL2.out; simp at hg; omega))
 have HL3 := Hdq (show w.heap.size <= w3.heap.size from HF.out.size)
 clear hk hv ho hn hf HP HV HF HO0 HO1 HO2
 have HP := HP3
 have HV := HV3
 have HF := HF3
 clear HP3 HV3 HF3
 have HO0 := HQ0
 clear HQ0
 have HO1 := HQ1
 clear HQ1
 have HO2 := HQ2
 clear HQ2
 go_wp2_with (go_at_call 139; fail)
 refine (xK _ _ qa1 E B w0 w4 bm bn bb kb 4 mv m n #[u0, u1, u2, u3, x4] (xR E (qc m n) .nilIface) (HH.out.1.then HF.out (fun z hz => .inr Y48)) HH.out.2.1 HH.out.2.2.1 HH.out.2.2.2.1 (HH.out.2.2.2.2.1.keep HF.out Y55) (HH.out.2.2.2.2.2.1.keep HF.out Y51) HV.out HP.out Y77 HH.out.2.2.2.2.2.2.1 HH.out.2.2.2.2.2.2.2.1).mono ?_
 rintro e w5 ⟨⟨rv, rfl⟩, u4, hk, hv, ho, hn, hf⟩
 have HP4 := Hdq (show At w5 kb (.cells #[u0, u1, u2, u3, u4] 133) from by simpa using hk)
 have HV4 := Hdq (show At w5 bb (.cells #[xR E (qc m n) .nilIface] 33) from by rw [yS] at hv; exact hv)
 have HO4 := Hdq ho
 have HN4 := Hdq hn
 have HF4 := Hdq (HF.out.trans hf)
 have HQ0 := Hdq (fun h => (HO0.out h).keep hf (fun g hg => by have h1 := HH.out.2.2.2.2.2.2.2.2; have h2 := HL0.out; simp at hg; omega))
 have HQ1 := Hdq (fun h => (HO1.out h).keep hf (fun g hg => by have h1 := HH.out.2.2.2.2.2.2.2.2; have h2 := HL1.out; simp at hg; omega))
 have HQ2 := Hdq (fun h => (HO2.out h).keep hf (fun g hg => by have h1 := HH.out.2.2.2.2.2.2.2.2; have h2 := HL2.out; simp at hg; omega))
 have HQ3 := Hdq (fun h => (HO3.out h).keep hf (fun g hg => by have h1 := HH.out.2.2.2.2.2.2.2.2; have h2 := HL3.out; simp at hg; omega))
 have HL4 := Hdq (show w.heap.size <= w4.heap.size from HF.out.size)
 clear hk hv ho hn hf HP HV HF HO0 HO1 HO2 HO3
 have HP := HP4
 have HV := HV4
 have HF := HF4
 clear HP4 HV4 HF4
 have HO0 := HQ0
 clear HQ0
 have HO1 := HQ1
 clear HQ1
 have HO2 := HQ2
 clear HQ2
 have HO3 := HQ3
 clear HQ3
 go_wp2
 go_end0
 exact ⟨⟨_, rfl⟩, u0, u1, u2, u3, u4, HP.out, HV.out, fun h => ⟨(HO0.out h).base HL0.out, (HO1.out h).base HL1.out, (HO2.out h).base HL2.out, (HO3.out h).base HL3.out, (HO4.out h).base HL4.out⟩, fun h => ⟨HN0.out h, HN1.out h, HN2.out h, HN3.out h, HN4.out h⟩, HF.out⟩
theorem vr {e : TypeId} {base : Nat} {w : World} {u : Value} {xs : List UInt8} (h : qs e base w u xs) : ∃ a b c, u = .slice a b c := by
 obtain ⟨a, c, e, -⟩ := h.bs (A := fun _ => False) (fun _ h => h.elim)
 exact ⟨a, _, c, e⟩
theorem Je {e te : TypeId} {base : Nat} {w w' : World} {v : Value} {xs : List UInt8} {b : Nat} {c : Array Value} (h : qs e base w v xs) (hf : Fr [b] w w') (hb : At w b (.cells c te)) (hne : te ≠ e) : qs e base w' v xs :=
 uR h hf fun g hg hm => by
  simp at hm
  subst hm
  exact zd h hb hne hg
noncomputable def qfZ : Code := ((Tryz.f90.body.bind (qN 5)).getD .skip)
theorem qdO (a : Go.Act) (hs : a.tmps.size = 15) (hd : a.defers = []) : a = ⟨(slot a 0 :: slot a 1 :: slot a 2 :: slot a 3 :: slot a 4 :: slot a 5 :: slot a 6 :: slot a 7 :: slot a 8 :: slot a 9 :: slot a 10 :: slot a 11 :: slot a 12 :: slot a 13 :: slot a 14 :: []).toArray, []⟩ := Ue a 15 hs hd
def qfW (EV : Value) (g4 g7 : Nat) (k : Nat) (b : Go.Act) (p : World) : Prop :=
 match k with
 | 0 => slot b 12 = .agg n5q
 | 1 => slot b 13 = EV
 | 2 => At p g4 (.cells n5q 133)
 | 3 => slot b 5 = EV
 | 4 => At p g4 (.cells n5q 133)
 | _ => True
def qfV (EV : Value) (g4 g7 : Nat) (k : Nat) (b : Go.Act) (p : World) : Prop :=
 match k with
 | _ => True
theorem al5 (EV : Value) (g4 g7 : Nat) (w : World) (a : Go.Act) (hsz : a.tmps.size = 15) (h4 : slot a 4 = .pointer (some ⟨g4, 0, none⟩)) (h7 : slot a 7 = .pointer (some ⟨g7, 0, none⟩)) (hV : At w g7 (.cells #[EV] 33)) (hK : At w g4 (.cells n5q 133)) (Q : Exit -> Go.Act -> World -> Prop)
  (hQ : ∀ (b : Go.Act) (p : World), b.defers = a.defers -> b.tmps.size = 15 -> (∀ s, some s ∉ ([some 12, some 13, none, some 5] : List (Option Nat)) -> slot b s = slot a s) -> Fr [g4] w p -> slot b 5 = EV -> At p g4 (.cells n5q 133) -> Q .normal b p) : Code.wp Tryz.prog qfZ Q a w := by
 conv => arg 2; whnf
 refine uH [g4] (qfW EV g4 g7) (qfV EV g4 g7) [some 12, some 13, none, some 5] [[12], [13], [], [5], []] [] [] [] Y45 Y45 Y45 Y45 Y45 Y76 ?_ ?_ ?_ ?_ ?_
 ·intro w1 hw1 k hk1 hk2
  have hk3 : 4 <= k := hk1
  have hk4 : k < 5 := hk2
  clear hk1 hk2
  rcases (show k = 4 by omega) with rfl
  ·exact hK.keep0 hw1
 ·intro k b b' p hs h
  match k with
  | 0 => show slot b' 12 = .agg n5q; rw [<- hs 12 Y76]; exact h
  | 1 => show slot b' 13 = EV; rw [<- hs 13 Y76]; exact h
  | 2 => show At p g4 (.cells n5q 133); exact h
  | 3 => show slot b' 5 = EV; rw [<- hs 5 Y76]; exact h
  | 4 => show At p g4 (.cells n5q 133); exact h
  | k + 5 => trivial
 ·intro k b b' p hs h
  match k with
  | k => trivial
 ·intro i hi dn b p hs ho hf hF hG hdn hdc hr
  have hi9 : i < 4 := hi
  clear hi
  match i, hi9 with
  | 0, _ =>
   refine opV_step _ Y61 ?_
   refine VK rfl (.agg n5q) p Y45 ?_
   exact fstep_end hf (slot_put_self Y49)
  | 1, _ =>
   have e0 : b.eval (.tmp 7) = .pointer (some ⟨g7, 0, none⟩) := (ho 7 Y76).trans h7
   have c1 : p.cell? ⟨g7, 0, none⟩ = some EV := (hV.keep hf (by simpa using (Q5 hV hK Y76))).cell 0
   exact Y21
  | 2, _ =>
   have e0 : b.eval (.tmp 4) = .pointer (some ⟨g4, 0, none⟩) := (ho 4 Y76).trans h4
   have e1 : b.eval (.tmp 12) = .agg n5q := fdq hF hr 0
   have f4 : At p g4 (.cells n5q 133) := hF 4 (show (4:Nat) < 5 by decide) (fun h => absurd h Y76) (fun c hc => absurd hc Y77)
   refine opV_step _ Y61 ?_
   refine qX (.tmp 4) (.tmp 12) rfl rfl n5q e0 e1 Y45 f4 rfl Y45 ?_
   intro p' f1 a1 _
   refine ⟨rfl, rfl, hf.trans f1, fun k hki hnr hco hli h => ?_, a1, fun _ _ _ h => h, fun e he hi hx => absurd he (Nat.not_lt_zero e)⟩
   match k with
   | 0 => exact h
   | 1 => exact h
   | 2 => exact absurd rfl hki
   | 3 => exact h
   | 4 => exact a1
   | k + 5 => exact trivial
  | 3, _ =>
   have e0 : b.eval (.tmp 13) = EV := fdq hF hr 1
   exact Y2
 ·intro b p hd hs ho hf hall hex
  exact hQ b p hd (hs.trans hsz) ho hf (hall 3 Y76 (fun c hc => by simp at hc)) (hall 2 Y76 (fun c hc => by simp at hc))
theorem all_any (E : Nat -> Addr) (B : Nat) (w0 : World) (mv : Value) (m : List UInt8) (n : Int) (hE : vu all20 E B w0) (hS : SG w0) (hB : Bs (fun b => w0.heap.size <= b) w0 mv m) :
  Calls Tryz.prog 90 #[mv, .int .i64 n] w0 fun e w' => ∃ u0 u1 u2 u3 u4, e = .returned (.tuple #[.agg #[u0, u1, u2, u3, u4], jQ E (qc m n)]) /\
   (qc m n = 0 -> qs 5 w0.heap.size w' u0 (qi m jU n) /\ qs 5 w0.heap.size w' u1 (qi m qx n) /\ qs 5 w0.heap.size w' u2 (qi m qV n) /\ qs 5 w0.heap.size w' u3 (qi m jI n) /\ qs 5 w0.heap.size w' u4 (qi m jw n)) /\ (qc m n ≠ 0 -> u0 = .slice none 0 0 /\ u1 = .slice none 0 0 /\ u2 = .slice none 0 0 /\ u3 = .slice none 0 0 /\ u4 = .slice none 0 0) /\ Fr [] w0 w' := by
 obtain ⟨ma, mc, rfl, -, -, -⟩ := id hB
 obtain ⟨mn, hmn⟩ := exq (m.length)
 rw [hmn] at hB ⊢
 clear hmn
 obtain ⟨Z, hZ⟩ := exq (w0.heap.size)
 have s1 : (w0.alloc (.cells #[.slice ma mn mc] 22)).heap.size = Z + 1 := by simp [hZ]
 have s2 : ((w0.alloc (.cells #[.slice ma mn mc] 22)).alloc (.cells #[.int .i64 n] 3)).heap.size = Z + 2 := by simp [hZ]
 have F0 : Fr [] w0 (((((w0.alloc (.cells #[.slice ma mn mc] 22)).alloc (.cells #[.int .i64 n] 3)).alloc (.cells n5q 133)).alloc (.cells n5q 133)).alloc (.cells #[.nilIface] 33)) := (Fr.alloc _ _).al.al.al.al
 have HK := Hdq (show At (((((w0.alloc (.cells #[.slice ma mn mc] 22)).alloc (.cells #[.int .i64 n] 3)).alloc (.cells n5q 133)).alloc (.cells n5q 133)).alloc (.cells #[.nilIface] 33)) (Z + 3) (.cells n5q 133) from (At.new (by simp [hZ])).al)
 have HK4 := Hdq (show At (((((w0.alloc (.cells #[.slice ma mn mc] 22)).alloc (.cells #[.int .i64 n] 3)).alloc (.cells n5q 133)).alloc (.cells n5q 133)).alloc (.cells #[.nilIface] 33)) (Z + 2) (.cells n5q 133) from (At.new (by simp [hZ])).al.al)
 have HM := Hdq (show At (((((w0.alloc (.cells #[.slice ma mn mc] 22)).alloc (.cells #[.int .i64 n] 3)).alloc (.cells n5q 133)).alloc (.cells n5q 133)).alloc (.cells #[.nilIface] 33)) Z (.cells #[.slice ma mn mc] 22) from (At.new hZ.symm).al.al.al.al)
 have HN := Hdq (show At (((((w0.alloc (.cells #[.slice ma mn mc] 22)).alloc (.cells #[.int .i64 n] 3)).alloc (.cells n5q 133)).alloc (.cells n5q 133)).alloc (.cells #[.nilIface] 33)) (Z + 1) (.cells #[.int .i64 n] 3) from (At.new s1.symm).al.al.al)
 have HV := Hdq (show At (((((w0.alloc (.cells #[.slice ma mn mc] 22)).alloc (.cells #[.int .i64 n] 3)).alloc (.cells n5q 133)).alloc (.cells n5q 133)).alloc (.cells #[.nilIface] 33)) (Z + 4) (.cells #[.nilIface] 33) from At.new (by simp [hZ]))
 have HC := Hdq (qbB E B w0 (((((w0.alloc (.cells #[.slice ma mn mc] 22)).alloc (.cells #[.int .i64 n] 3)).alloc (.cells n5q 133)).alloc (.cells n5q 133)).alloc (.cells #[.nilIface] 33)) Z (Z + 1) (Z + 4) (Z + 3) (.slice ma mn mc) m n _ _ _ _ _ F0 hE hS hB HM.out HN.out HV.out HK.out Y44 Y44)
 have HF0 := Hdq F0
 have HZ := Hdq hZ
 clear F0 hE hS hB HM HN HV HK s1 s2
 obtain ⟨EV, hEV⟩ := exq (jQ E (qc m n))
 rw [hEV]
 have HEV := Hdq hEV
 clear hEV
 go_enter Tryz.func90, Tryz.ntmps90
 go_wp2_with (go_at_call 138; fail)
 refine HC.out.mono ?_
 rintro e w2 ⟨⟨rv, rfl⟩, u0, u1, u2, u3, u4, hk, hv, ho, hn, hf⟩
 have HSZ := Hdq (show Z + 5 <= (((((w0.alloc (.cells #[.slice ma mn mc] 22)).alloc (.cells #[.int .i64 n] 3)).alloc (.cells n5q 133)).alloc (.cells n5q 133)).alloc (.cells #[.nilIface] 33)).heap.size by simp [hZ])
 have HF2 := Hdq (HF0.out.then hf (fun z hz => .inr Y57))
 have HP2 := Hdq hk
 have HK42 := Hdq (HK4.out.keep hf Y77)
 have HO := Hdq (show qc m n = 0 -> qs 5 Z w2 u0 (qi m jU n) /\ qs 5 Z w2 u1 (qi m qx n) /\ qs 5 Z w2 u2 (qi m qV n) /\ qs 5 Z w2 u3 (qi m jI n) /\ qs 5 Z w2 u4 (qi m jw n) from fun h => by
  obtain ⟨a, b, c, d, e⟩ := ho h
  have hz : Z <= (((((w0.alloc (.cells #[.slice ma mn mc] 22)).alloc (.cells #[.int .i64 n] 3)).alloc (.cells n5q 133)).alloc (.cells n5q 133)).alloc (.cells #[.nilIface] 33)).heap.size := by simp [hZ]; omega
  exact ⟨a.base hz, b.base hz, c.base hz, d.base hz, e.base hz⟩)
 have hsl : (∃ a b c, u0 = .slice a b c) /\ (∃ a b c, u1 = .slice a b c) /\ (∃ a b c, u2 = .slice a b c) /\ (∃ a b c, u3 = .slice a b c) /\ ∃ a b c, u4 = .slice a b c := by
  by_cases h : qc m n = 0
  ·obtain ⟨a, b, c, d, e⟩ := HO.out h
   exact ⟨vr a, vr b, vr c, vr d, vr e⟩
  ·obtain ⟨a, b, c, d, e⟩ := hn h
   exact ⟨⟨_, _, _, a⟩, ⟨_, _, _, b⟩, ⟨_, _, _, c⟩, ⟨_, _, _, d⟩, ⟨_, _, _, e⟩⟩
 have HN := Hdq hn
 have hv2 := hv
 clear hk hf ho hn HC HK4 HF0 HSZ
 have hZ := HZ.out
 obtain ⟨⟨a0, b0, c0, rfl⟩, ⟨a1, b1, c1, rfl⟩, ⟨a2, b2, c2, rfl⟩, ⟨a3, b3, c3, rfl⟩, ⟨a4, b4, c4, rfl⟩⟩ := hsl
 by_cases hb : qc m n = 0
 ·have HB := Hdq hb
  obtain rfl : EV = .nilIface := HEV.out.symm.trans (by rw [hb]; rfl)
  rw [hb, UI] at hv
  have cc : w2.cell? ⟨Z + 4, 0, none⟩ = some .nilIface := hv.cell 0
  clear hb hv hv2 hZ
  go_wp2_with (first | (refine jC (.tmp 6) rfl rfl (Z + 3) 0 [.slice a0 b0 c0, .slice a1 b1 c1, .slice a2 b2 c2, .slice a3 b3 c3, .slice a4 b4 c4] rfl (jb HP2.out) Tryz.underlying133 rfl Y45 ?_) | (refine qX (.tmp 4) (.tmp 14) rfl rfl #[.slice a0 b0 c0, .slice a1 b1 c1, .slice a2 b2 c2, .slice a3 b3 c3, .slice a4 b4 c4] rfl rfl Y45 HK42.out rfl Y45 ?_))
  intro w3 f3 k3 s3
  have HF3 := Hdq (HF2.out.then f3 (fun z hz => .inr Y57))
  have HK3 := Hdq k3
  have HO3 := Hdq (show qs 5 Z w3 (.slice a0 b0 c0) (qi m jU n) /\ qs 5 Z w3 (.slice a1 b1 c1) (qi m qx n) /\ qs 5 Z w3 (.slice a2 b2 c2) (qi m qV n) /\ qs 5 Z w3 (.slice a3 b3 c3) (qi m jI n) /\ qs 5 Z w3 (.slice a4 b4 c4) (qi m jw n) from by
   obtain ⟨a, b, c, d, e⟩ := HO.out HB.out
   have hk4 := HK42.out
   exact ⟨Je a f3 hk4 Y76, Je b f3 hk4 Y76, Je c f3 hk4 Y76, Je d f3 hk4 Y76, Je e f3 hk4 Y76⟩)
  clear f3 k3 s3
  go_wp2
  refine bodyPost_ret (y9 rfl _ _ (Z + 2) [.slice a0 b0 c0, .slice a1 b1 c1, .slice a2 b2 c2, .slice a3 b3 c3, .slice a4 b4 c4] rfl (jb HK3.out) Tryz.underlying133 rfl Y45) rfl ?_
  exact ⟨_, _, _, _, _, rfl, fun _ => by rw [HZ.out]; exact HO3.out, fun h => absurd HB.out h, HF3.out⟩
 ·have HB := Hdq hb
  obtain ⟨ER, hER⟩ : ∃ a, EV = .iface 317 (.pointer (some a)) := ⟨_, HEV.out.symm.trans (errv_pos E _ hb)⟩
  subst hER
  rw [Wk E _ hb, HEV.out] at hv
  have cc : w2.cell? ⟨Z + 4, 0, none⟩ = some (.iface 317 (.pointer (some ER))) := hv.cell 0
  have hv2E := Hdq hv
  clear hb hv hv2 hZ
  go_wp2
  refine al5 (.iface 317 (.pointer (some ER))) (Z + 2) (Z + 4) w2 _ rfl rfl rfl hv2E.out HK42.out _ ?_
  intro b p hd hs ho hf h5 hA
  rw [qdO b hs hd, show slot b 4 = .pointer (some ⟨Z + 2, 0, none⟩) from ho 4 Y76, h5]
  have HF9 := Hdq (HF2.out.then hf (fun z hz => .inr Y57))
  have HA := Hdq hA
  clear hf hA ho
  go_wp2
  refine bodyPost_ret (y9 rfl _ _ (Z + 2) [.slice none 0 0, .slice none 0 0, .slice none 0 0, .slice none 0 0, .slice none 0 0] rfl (jb HA.out) Tryz.underlying133 rfl Y45) rfl ?_
  exact ⟨_, _, _, _, _, rfl, fun h => absurd h HB.out, fun _ => ⟨rfl, rfl, rfl, rfl, rfl⟩, HF9.out⟩
end Go.Proofs.YtnafknkchbfpaaaGreatDoor
