/-
  Layer 31: a round of the document's Decode, its body taken out of the program. (printed by genrdec.py)
-/
import Derived.Test.YtbohmnblegljkaaRDec2
namespace Go.Proofs.Ytbohmnblegljkaa
open Go.RowKit Go.Bl
set_option linter.unusedVariables false
set_option maxRecDepth 1000000 in
set_option maxHeartbeats 8000000 in
theorem rdec_1 (rb : Nat) (wr : World) (va : Option Addr) (vc : Nat) (xs ys : List UInt8) (K : Nat) (s4 c1 c2 c6 c7 c8 c9 c100 u5 u10 u11 u12 u13 u14 u15 u16 u17 u18 u19 u20 u21 u22 u23 u24 u25 u26 u27 u28 u29 u30 u31 u32 u33 u34 u35 u36 u37 u38 u39 u40 u41 u42 u43 u44 u45 u46 u47 u48 u49 u50 u51 u52 u53 u54 u55 u56 u57 u58 u59 u60 u61 u62 u63 u64 u65 u66 u67 u68 u69 u70 u71 u72 u73 u74 u75 u76 u77 u78 u79 u80 u81 u82 u83 u84 u85 u86 u87 u88 u89 u90 u91 u92 u93 u94 u95 u96 u97 u98 u99 : Value) (Q : Exit → Act → World → Prop)
    (hK : K < xs.length) (hy : xs.drop K = ys) (hc : Cu (fun b => rb ≤ b) wr rb (.slice va xs.length vc) xs K) (hx : xs.length ≤ 1000000) (hvc : vc ≤ 2 ^ 63 - 1) (w0 : World) (hw0 : w0.heap.size = rb) (hf0 : Fr [] w0 wr) (l : List AV) (ho : OwnA 44 (rb + 1) wr s4 l) (hl : l.length ≤ 1000000)
    (kq : nb 1 ys = 1)
    (hQ : ∀ (s4 u5 u10 u11 u12 u13 u14 u15 u16 u17 u18 u19 u20 u21 u22 u23 u24 u25 u26 u27 u28 u29 u30 u31 u32 u33 u34 u35 u36 u37 u38 u39 u40 u41 u42 u43 u44 u45 u46 u47 u48 u49 u50 u51 u52 u53 u54 u55 u56 u57 u58 u59 u60 u61 u62 u63 u64 u65 u66 u67 u68 u69 u70 u71 u72 u73 u74 u75 u76 u77 u78 u79 u80 u81 u82 u83 u84 u85 u86 u87 u88 u89 u90 u91 u92 u93 u94 u95 u96 u97 u98 u99 : Value) (w' : World), RelE w0 rb (.slice va xs.length vc) xs ys l s4 w' → Q .normal ⟨#[.slice va xs.length vc, c1, c2, .pointer (some ⟨rb, 0, none⟩), s4, u5, c6, c7, c8, c9, u10, u11, u12, u13, u14, u15, u16, u17, u18, u19, u20, u21, u22, u23, u24, u25, u26, u27, u28, u29, u30, u31, u32, u33, u34, u35, u36, u37, u38, u39, u40, u41, u42, u43, u44, u45, u46, u47, u48, u49, u50, u51, u52, u53, u54, u55, u56, u57, u58, u59, u60, u61, u62, u63, u64, u65, u66, u67, u68, u69, u70, u71, u72, u73, u74, u75, u76, u77, u78, u79, u80, u81, u82, u83, u84, u85, u86, u87, u88, u89, u90, u91, u92, u93, u94, u95, u96, u97, u98, u99, c100], []⟩ w') :
    Code.wp Try.prog decBody Q ⟨#[.slice va xs.length vc, c1, c2, .pointer (some ⟨rb, 0, none⟩), s4, u5, c6, c7, c8, c9, u10, u11, u12, u13, u14, u15, u16, u17, u18, u19, u20, u21, u22, u23, u24, u25, u26, u27, u28, u29, u30, u31, u32, u33, u34, u35, u36, u37, u38, u39, u40, u41, u42, u43, u44, u45, u46, u47, u48, u49, u50, u51, u52, u53, u54, u55, u56, u57, u58, u59, u60, u61, u62, u63, u64, u65, u66, u67, u68, u69, u70, u71, u72, u73, u74, u75, u76, u77, u78, u79, u80, u81, u82, u83, u84, u85, u86, u87, u88, u89, u90, u91, u92, u93, u94, u95, u96, u97, u98, u99, c100], []⟩ wr := by
  have HO := Lib.hid ho
  obtain ⟨oa, oc, rfl⟩ := ownA_shape ho
  clear ho
  have HC := Lib.hid hc
  have HR := Lib.hid (show CuR (fun b => rb ≤ b) wr rb (.slice va xs.length vc) xs (ys.drop 0) from ⟨K, hc, by simpa using hy⟩)
  obtain ⟨N, hN⟩ : ∃ N, xs.length = N := ⟨_, rfl⟩
  rw [hN] at HR HC hK ⊢
  have hx' : N ≤ 1000000 := by omega
  have HN := Lib.hid (And.intro hN (And.intro hx hy))
  have q1 := HC.out.2.1.cell 1
  have q0 := HC.out.2.1.cell 0
  simp only [List.getElem?_toArray, List.getElem?_cons_zero, List.getElem?_cons_succ] at q0 q1
  clear hc hN hx hy
  conv => arg 2; whnf
  go_wp2_with fail
  refine (cnum_nb (fun b => rb ≤ b) _ rb _ xs ys 1 0 HR.out (by omega) (by omega) HN.out.2.1).mono ?_
  rintro e w1 ⟨rfl, hr, hf⟩
  replace HR := Lib.hid hr
  have G := Lib.hid hf
  have hsz : rb < w1.heap.size := hr.lt
  have hsw1 : wr.heap.size ≤ w1.heap.size := hf.size
  clear hr hf q0 q1 HC
  rw [List.drop_zero]
  obtain ⟨kk, hkk⟩ : ∃ kk, nb 1 ys = kk := ⟨_, rfl⟩
  rw [hkk] at kq ⊢
  have HKK := Lib.hid hkk
  clear hkk
  have KQ := Lib.hid kq
  clear kq
  go_wp2_with (refine wpl_store_at (.tmp 5) (.tmp 19) rfl rfl _ rfl rfl (by kernel_rfl) (At.new rfl) ?hz ?h1 ?_)
  case hz => exact Nat.le_refl _
  case h1 => simp [Value.oneCell']
  intro w2 f2 hb2 hs2
  replace HR := Lib.hid ((HR.out.keep (Fr.alloc (S := []) w1 _) (by simp) (by simp)).keep f2 (by simp; omega) (by simp; omega))
  replace G := Lib.hid (show Fr [rb] wr w2 from G.out.al.then f2 (by intro x hx; simp at hx; have := G.out.size; omega))
  have hwb := hsw1
  obtain ⟨bb, hbb⟩ : ∃ bb, w1.heap.size = bb := ⟨_, rfl⟩
  rw [hbb] at hb2 hsz hwb ⊢
  have HB := Lib.hid (show At w2 bb (actO ⟨kk, 0, 0, 0, 0, ⟨#[]⟩, [], 0, 0, 0, 0, 0, 0, 0, 0, 0⟩ (.slice none 0 0) 44) from hb2)
  clear hb2 hs2 f2 hbb
  go_wp2_with fail
  refine (cnum_nb (fun b => rb ≤ b) _ rb _ xs ys 2 1 HR.out (by omega) (by omega) HN.out.2.1).mono ?_
  rintro e w3 ⟨rfl, hr, hf⟩
  replace HR := Lib.hid hr
  replace HB := Lib.hid (HB.out.keep hf (by simp; omega))
  replace G := Lib.hid (G.out.trans hf)
  clear hr hf
  obtain ⟨nn, hnn⟩ : ∃ nn, nb 2 (ys.drop 1) = nn := ⟨_, rfl⟩
  rw [hnn]
  have Hnn := Lib.hid hnn
  clear hnn
  go_wp2_with (refine wpl_store_one (.tmp 22) (.tmp 21) rfl rfl (.int .i64 nn) rfl rfl HB.out (by simp [actC]) (by kernel_rfl) (by rfl) ?_)
  intro w4 hf hA hs
  replace HB := Lib.hid (show At w4 bb (actO ⟨kk, nn, 0, 0, 0, ⟨#[]⟩, [], 0, 0, 0, 0, 0, 0, 0, 0, 0⟩ (.slice none 0 0) 44) from hA)
  replace HR := Lib.hid (show CuR (fun b => rb ≤ b) w4 rb (.slice va N vc) xs (ys.drop 3) from HR.out.keep hf (by simp; omega) (by simp; omega))
  replace G := Lib.hid (show Fr [rb] wr w4 from G.out.then hf (by intro x hx; simp at hx; omega))
  clear hf hA hs
  go_wp2_with fail
  refine (cnum_nb (fun b => rb ≤ b) _ rb _ xs ys 2 3 HR.out (by omega) (by omega) HN.out.2.1).mono ?_
  rintro e w5 ⟨rfl, hr, hf⟩
  replace HR := Lib.hid hr
  replace HB := Lib.hid (HB.out.keep hf (by simp; omega))
  replace G := Lib.hid (G.out.trans hf)
  clear hr hf
  obtain ⟨ni, hni⟩ : ∃ ni, nb 2 (ys.drop 3) = ni := ⟨_, rfl⟩
  rw [hni]
  have Hni := Lib.hid hni
  clear hni
  go_wp2_with (refine wpl_store_one (.tmp 25) (.tmp 24) rfl rfl (.int .i64 ni) rfl rfl HB.out (by simp [actC]) (by kernel_rfl) (by rfl) ?_)
  intro w6 hf hA hs
  replace HB := Lib.hid (show At w6 bb (actO ⟨kk, nn, ni, 0, 0, ⟨#[]⟩, [], 0, 0, 0, 0, 0, 0, 0, 0, 0⟩ (.slice none 0 0) 44) from hA)
  replace HR := Lib.hid (show CuR (fun b => rb ≤ b) w6 rb (.slice va N vc) xs (ys.drop 5) from HR.out.keep hf (by simp; omega) (by simp; omega))
  replace G := Lib.hid (show Fr [rb] wr w6 from G.out.then hf (by intro x hx; simp at hx; omega))
  clear hf hA hs
  go_wp2_with fail
  refine (cnum_nb (fun b => rb ≤ b) _ rb _ xs ys 2 5 HR.out (by omega) (by omega) HN.out.2.1).mono ?_
  rintro e w7 ⟨rfl, hr, hf⟩
  replace HR := Lib.hid hr
  replace HB := Lib.hid (HB.out.keep hf (by simp; omega))
  replace G := Lib.hid (G.out.trans hf)
  clear hr hf
  obtain ⟨na, hna⟩ : ∃ na, nb 2 (ys.drop 5) = na := ⟨_, rfl⟩
  rw [hna]
  have Hna := Lib.hid hna
  clear hna
  go_wp2_with (refine wpl_store_one (.tmp 28) (.tmp 27) rfl rfl (.int .i64 na) rfl rfl HB.out (by simp [actC]) (by kernel_rfl) (by rfl) ?_)
  intro w8 hf hA hs
  replace HB := Lib.hid (show At w8 bb (actO ⟨kk, nn, ni, na, 0, ⟨#[]⟩, [], 0, 0, 0, 0, 0, 0, 0, 0, 0⟩ (.slice none 0 0) 44) from hA)
  replace HR := Lib.hid (show CuR (fun b => rb ≤ b) w8 rb (.slice va N vc) xs (ys.drop 7) from HR.out.keep hf (by simp; omega) (by simp; omega))
  replace G := Lib.hid (show Fr [rb] wr w8 from G.out.then hf (by intro x hx; simp at hx; omega))
  clear hf hA hs
  go_wp2_with fail
  refine (cnum_nb (fun b => rb ≤ b) _ rb _ xs ys 1 7 HR.out (by omega) (by omega) HN.out.2.1).mono ?_
  rintro e w9 ⟨rfl, hr, hf⟩
  replace HR := Lib.hid hr
  replace HB := Lib.hid (HB.out.keep hf (by simp; omega))
  replace G := Lib.hid (G.out.trans hf)
  clear hr hf
  obtain ⟨ny, hny⟩ : ∃ ny, nb 1 (ys.drop 7) = ny := ⟨_, rfl⟩
  rw [hny]
  have Hny := Lib.hid hny
  clear hny
  go_wp2_with (refine wpl_store_one (.tmp 31) (.tmp 30) rfl rfl (.int .i64 ny) rfl rfl HB.out (by simp [actC]) (by kernel_rfl) (by rfl) ?_)
  intro w10 hf hA hs
  replace HB := Lib.hid (show At w10 bb (actO ⟨kk, nn, ni, na, ny, ⟨#[]⟩, [], 0, 0, 0, 0, 0, 0, 0, 0, 0⟩ (.slice none 0 0) 44) from hA)
  replace HR := Lib.hid (show CuR (fun b => rb ≤ b) w10 rb (.slice va N vc) xs (ys.drop 8) from HR.out.keep hf (by simp; omega) (by simp; omega))
  replace G := Lib.hid (show Fr [rb] wr w10 from G.out.then hf (by intro x hx; simp at hx; omega))
  clear hf hA hs
  have t10 : ((kk : Int) == 10) = false := by have := KQ.out; rw [beq_eq_false_iff_ne]; omega
  have t1 : ((kk : Int) == 1) = true := by have := KQ.out; rw [beq_iff_eq]; omega
  have t9 : ((kk : Int) == 9) = false := by have := KQ.out; rw [beq_eq_false_iff_ne]; omega
  have t13 : ((kk : Int) == 13) = false := by have := KQ.out; rw [beq_eq_false_iff_ne]; omega
  have z0 := (actCells HB.out).1
  go_wp2_with fail
  refine (cnum_nb (fun b => rb ≤ b) _ rb _ xs ys 1 8 HR.out (by omega) (by omega) HN.out.2.1).mono ?_
  rintro e w11 ⟨rfl, hr, hf⟩
  replace HR := Lib.hid hr
  replace HB := Lib.hid (HB.out.keep hf (by simp; omega))
  replace G := Lib.hid (G.out.trans hf)
  clear hr hf
  obtain ⟨m, hm⟩ : ∃ m, nb 1 (ys.drop 8) = m := ⟨_, rfl⟩
  rw [hm]
  have Hm := Lib.hid hm
  clear hm
  have hmb : m < 65536 := by rw [← Hm.out]; exact nb_lt 1 (ys.drop 8) (by omega)
  clear z0
  go_wp2_with fail
  refine (ctake_nb (fun b => rb ≤ b) _ rb _ xs ys m 9 HR.out (by omega) HN.out.2.1).mono ?_
  rintro e w12 ⟨v, rfl, ho, hr, hf⟩
  obtain ⟨J, hJ⟩ : ∃ J, 9 + m = J := ⟨_, rfl⟩
  rw [hJ] at hr
  have HJ := Lib.hid hJ
  have HV := Lib.hid (ho.bs (A := fun _ => False) (by simp))
  clear ho hJ
  replace HR := Lib.hid hr
  replace HB := Lib.hid (HB.out.keep hf (by simp; omega))
  replace G := Lib.hid (G.out.trans hf)
  clear hr hf
  go_wp2_with (first | (refine wpl_str (src := 22) (dst := 9) Try.underlying22 Try.underlying5 Try.underlying9 (.tmp 51) rfl rfl rfl HV.out ?_) | (refine wpl_store_one (.tmp 53) (.tmp 52) rfl rfl (.string ⟨((ys.drop 9).take m).toArray⟩) rfl rfl HB.out (by simp [actC]) (by kernel_rfl) (by rfl) ?_))
  intro w13 hf hA hs
  replace HB := Lib.hid (show At w13 bb (actO ⟨kk, nn, ni, na, ny, ⟨((ys.drop 9).take m).toArray⟩, [], 0, 0, 0, 0, 0, 0, 0, 0, 0⟩ (.slice none 0 0) 44) from hA)
  replace HR := Lib.hid (show CuR (fun b => rb ≤ b) w13 rb (.slice va N vc) xs (ys.drop J) from HR.out.keep hf (by simp; omega) (by simp; omega))
  replace G := Lib.hid (show Fr [rb] wr w13 from G.out.then hf (by intro x hx; simp at hx; omega))
  clear hf hA hs
  obtain ⟨nm, hnm⟩ : ∃ nm : ByteArray, ⟨((ys.drop 9).take m).toArray⟩ = nm := ⟨_, rfl⟩
  rw [hnm] at HB
  have HNM := Lib.hid hnm
  clear hnm HV
  go_wp2_with fail
  refine (cnum_nb (fun b => rb ≤ b) _ rb _ xs ys 2 J HR.out (by omega) (by omega) HN.out.2.1).mono ?_
  rintro e w14 ⟨rfl, hr, hf⟩
  replace HR := Lib.hid hr
  replace HB := Lib.hid (HB.out.keep hf (by simp; omega))
  replace G := Lib.hid (G.out.trans hf)
  clear hr hf
  obtain ⟨q0, hq0⟩ : ∃ q0, nb 2 (ys.drop J) = q0 := ⟨_, rfl⟩
  rw [hq0]
  have Hq0 := Lib.hid hq0
  clear hq0
  go_wp2_with (refine wpl_store_at (.tmp 57) (.tmp 56) rfl rfl #[.int .i64 q0, .int .i64 0, .int .i64 0, .int .i64 0, .int .i64 0, .int .i64 0] rfl rfl (by kernel_rfl) HB.out (by simp [actC]) (by simp [Value.oneCell']) ?_)
  intro w15 hf hA hs
  replace HB := Lib.hid (show At w15 bb (actO ⟨kk, nn, ni, na, ny, nm, [], q0, 0, 0, 0, 0, 0, 0, 0, 0⟩ (.slice none 0 0) 44) from hA)
  replace HR := Lib.hid (show CuR (fun b => rb ≤ b) w15 rb (.slice va N vc) xs (ys.drop (J + 2)) from HR.out.keep hf (by simp; omega) (by simp; omega))
  replace G := Lib.hid (show Fr [rb] wr w15 from G.out.then hf (by intro x hx; simp at hx; omega))
  clear hf hA hs
  go_wp2_with fail
  refine (cnum_nb (fun b => rb ≤ b) _ rb _ xs ys 1 (J + 2) HR.out (by omega) (by omega) HN.out.2.1).mono ?_
  rintro e w16 ⟨rfl, hr, hf⟩
  replace HR := Lib.hid hr
  replace HB := Lib.hid (HB.out.keep hf (by simp; omega))
  replace G := Lib.hid (G.out.trans hf)
  clear hr hf
  obtain ⟨q1, hq1⟩ : ∃ q1, nb 1 (ys.drop (J + 2)) = q1 := ⟨_, rfl⟩
  rw [hq1]
  have Hq1 := Lib.hid hq1
  clear hq1
  go_wp2_with (refine wpl_store_one (.tmp 61) (.tmp 59) rfl rfl (.int .i64 q1) rfl rfl HB.out (by simp [actC]) (by kernel_rfl) (by rfl) ?_)
  intro w17 hf hA hs
  replace HB := Lib.hid (show At w17 bb (actO ⟨kk, nn, ni, na, ny, nm, [], q0, q1, 0, 0, 0, 0, 0, 0, 0⟩ (.slice none 0 0) 44) from hA)
  replace HR := Lib.hid (show CuR (fun b => rb ≤ b) w17 rb (.slice va N vc) xs (ys.drop (J + 3)) from HR.out.keep hf (by simp; omega) (by simp; omega))
  replace G := Lib.hid (show Fr [rb] wr w17 from G.out.then hf (by intro x hx; simp at hx; omega))
  clear hf hA hs
  go_wp2_with fail
  refine (cnum_nb (fun b => rb ≤ b) _ rb _ xs ys 1 (J + 3) HR.out (by omega) (by omega) HN.out.2.1).mono ?_
  rintro e w18 ⟨rfl, hr, hf⟩
  replace HR := Lib.hid hr
  replace HB := Lib.hid (HB.out.keep hf (by simp; omega))
  replace G := Lib.hid (G.out.trans hf)
  clear hr hf
  obtain ⟨q2, hq2⟩ : ∃ q2, nb 1 (ys.drop (J + 3)) = q2 := ⟨_, rfl⟩
  rw [hq2]
  have Hq2 := Lib.hid hq2
  clear hq2
  go_wp2_with (refine wpl_store_one (.tmp 65) (.tmp 63) rfl rfl (.int .i64 q2) rfl rfl HB.out (by simp [actC]) (by kernel_rfl) (by rfl) ?_)
  intro w19 hf hA hs
  replace HB := Lib.hid (show At w19 bb (actO ⟨kk, nn, ni, na, ny, nm, [], q0, q1, q2, 0, 0, 0, 0, 0, 0⟩ (.slice none 0 0) 44) from hA)
  replace HR := Lib.hid (show CuR (fun b => rb ≤ b) w19 rb (.slice va N vc) xs (ys.drop (J + 4)) from HR.out.keep hf (by simp; omega) (by simp; omega))
  replace G := Lib.hid (show Fr [rb] wr w19 from G.out.then hf (by intro x hx; simp at hx; omega))
  clear hf hA hs
  go_wp2_with fail
  refine (cnum_nb (fun b => rb ≤ b) _ rb _ xs ys 2 (J + 4) HR.out (by omega) (by omega) HN.out.2.1).mono ?_
  rintro e w20 ⟨rfl, hr, hf⟩
  replace HR := Lib.hid hr
  replace HB := Lib.hid (HB.out.keep hf (by simp; omega))
  replace G := Lib.hid (G.out.trans hf)
  clear hr hf
  obtain ⟨q3, hq3⟩ : ∃ q3, nb 2 (ys.drop (J + 4)) = q3 := ⟨_, rfl⟩
  rw [hq3]
  have Hq3 := Lib.hid hq3
  clear hq3
  go_wp2_with (refine wpl_store_one (.tmp 69) (.tmp 67) rfl rfl (.int .i64 q3) rfl rfl HB.out (by simp [actC]) (by kernel_rfl) (by rfl) ?_)
  intro w21 hf hA hs
  replace HB := Lib.hid (show At w21 bb (actO ⟨kk, nn, ni, na, ny, nm, [], q0, q1, q2, q3, 0, 0, 0, 0, 0⟩ (.slice none 0 0) 44) from hA)
  replace HR := Lib.hid (show CuR (fun b => rb ≤ b) w21 rb (.slice va N vc) xs (ys.drop (J + 6)) from HR.out.keep hf (by simp; omega) (by simp; omega))
  replace G := Lib.hid (show Fr [rb] wr w21 from G.out.then hf (by intro x hx; simp at hx; omega))
  clear hf hA hs
  go_wp2_with fail
  refine (cnum_nb (fun b => rb ≤ b) _ rb _ xs ys 2 (J + 6) HR.out (by omega) (by omega) HN.out.2.1).mono ?_
  rintro e w22 ⟨rfl, hr, hf⟩
  replace HR := Lib.hid hr
  replace HB := Lib.hid (HB.out.keep hf (by simp; omega))
  replace G := Lib.hid (G.out.trans hf)
  clear hr hf
  obtain ⟨q4, hq4⟩ : ∃ q4, nb 2 (ys.drop (J + 6)) = q4 := ⟨_, rfl⟩
  rw [hq4]
  have Hq4 := Lib.hid hq4
  clear hq4
  go_wp2_with (refine wpl_store_one (.tmp 73) (.tmp 71) rfl rfl (.int .i64 q4) rfl rfl HB.out (by simp [actC]) (by kernel_rfl) (by rfl) ?_)
  intro w23 hf hA hs
  replace HB := Lib.hid (show At w23 bb (actO ⟨kk, nn, ni, na, ny, nm, [], q0, q1, q2, q3, q4, 0, 0, 0, 0⟩ (.slice none 0 0) 44) from hA)
  replace HR := Lib.hid (show CuR (fun b => rb ≤ b) w23 rb (.slice va N vc) xs (ys.drop (J + 8)) from HR.out.keep hf (by simp; omega) (by simp; omega))
  replace G := Lib.hid (show Fr [rb] wr w23 from G.out.then hf (by intro x hx; simp at hx; omega))
  clear hf hA hs
  go_wp2_with fail
  refine (cnum_nb (fun b => rb ≤ b) _ rb _ xs ys 1 (J + 8) HR.out (by omega) (by omega) HN.out.2.1).mono ?_
  rintro e w24 ⟨rfl, hr, hf⟩
  replace HR := Lib.hid hr
  replace HB := Lib.hid (HB.out.keep hf (by simp; omega))
  replace G := Lib.hid (G.out.trans hf)
  clear hr hf
  obtain ⟨q5, hq5⟩ : ∃ q5, nb 1 (ys.drop (J + 8)) = q5 := ⟨_, rfl⟩
  rw [hq5]
  have Hq5 := Lib.hid hq5
  clear hq5
  go_wp2_with (refine wpl_store_one (.tmp 77) (.tmp 75) rfl rfl (.int .i64 q5) rfl rfl HB.out (by simp [actC]) (by kernel_rfl) (by rfl) ?_)
  intro w25 hf hA hs
  replace HB := Lib.hid (show At w25 bb (actO ⟨kk, nn, ni, na, ny, nm, [], q0, q1, q2, q3, q4, q5, 0, 0, 0⟩ (.slice none 0 0) 44) from hA)
  replace HR := Lib.hid (show CuR (fun b => rb ≤ b) w25 rb (.slice va N vc) xs (ys.drop (J + 9)) from HR.out.keep hf (by simp; omega) (by simp; omega))
  replace G := Lib.hid (show Fr [rb] wr w25 from G.out.then hf (by intro x hx; simp at hx; omega))
  clear hf hA hs
  have z0 := (actCells HB.out).1
  go_wp2_with fail
  refine (cnum_nb (fun b => rb ≤ b) _ rb _ xs ys 2 (J + 9) HR.out (by omega) (by omega) HN.out.2.1).mono ?_
  rintro e w26 ⟨rfl, hr, hf⟩
  replace HR := Lib.hid hr
  replace HB := Lib.hid (HB.out.keep hf (by simp; omega))
  replace G := Lib.hid (G.out.trans hf)
  clear hr hf
  obtain ⟨bq, hbq⟩ : ∃ bq, nb 2 (ys.drop (J + 9)) = bq := ⟨_, rfl⟩
  rw [hbq]
  have Hbq := Lib.hid hbq
  clear hbq
  have hqb : bq < 65536 := by rw [← Hbq.out]; exact nb_lt 2 (ys.drop (J + 9)) (by omega)
  clear z0
  go_wp2_with fail
  refine (ctake_nb (fun b => rb ≤ b) _ rb _ xs ys bq (J + 11) HR.out (by omega) HN.out.2.1).mono ?_
  rintro e w27 ⟨v, rfl, ho, hr, hf⟩
  have HV := Lib.hid (ho.base (base' := bb + 1) (by have := HB.out.lt; omega))
  obtain ⟨ba, bc, hbe, -⟩ := ho.bs (A := fun _ => False) (by simp)
  clear ho
  replace HR := Lib.hid hr
  replace HB := Lib.hid (HB.out.keep hf (by simp; omega))
  replace G := Lib.hid (G.out.trans hf)
  clear hr hf
  subst hbe
  obtain ⟨bl, hbl⟩ : ∃ bl, (ys.drop (J + 11)).take bq = bl := ⟨_, rfl⟩
  rw [hbl] at HV ⊢
  have HBL := Lib.hid hbl
  obtain ⟨bn, hbn⟩ : ∃ bn, bl.length = bn := ⟨_, rfl⟩
  rw [hbn] at HV ⊢
  clear hbl hbn
  go_wp2_with (refine wpl_store_one (.tmp 95) (.tmp 94) rfl rfl (.slice ba bn bc) rfl rfl HB.out (by simp [actC]) (by kernel_rfl) (by rfl) ?_)
  intro w28 hf hA hs
  replace HB := Lib.hid (show At w28 bb (actO ⟨kk, nn, ni, na, ny, nm, bl, q0, q1, q2, q3, q4, q5, 0, 0, 0⟩ (.slice ba bn bc) 44) from hA)
  replace HR := Lib.hid (show CuR (fun b => rb ≤ b) w28 rb (.slice va N vc) xs (ys.drop ((J + 11) + bq)) from HR.out.keep hf (by simp; omega) (by simp; omega))
  replace G := Lib.hid (show Fr [rb] wr w28 from G.out.then hf (by intro x hx; simp at hx; omega))
  replace HV := Lib.hid (HV.out.keep hf (by simp))
  clear hf hA hs
  obtain ⟨z0, z1, z2, z3, z4, z5, z6, z7, z8, z9, z10, z11, z12, z13, z14, z15⟩ := actCells HB.out
  have HO2 := Lib.hid ((HO.out.keep G.out (by simp)).keep (Fr.alloc (S := []) w28 (actO ⟨kk, nn, ni, na, ny, nm, bl, q0, q1, q2, q3, q4, q5, 0, 0, 0⟩ (.slice ba bn bc) 44)) (by simp))
  have HN2 : Hid (OwnB 5 (rb + 1) (w28.alloc (actO ⟨kk, nn, ni, na, ny, nm, bl, q0, q1, q2, q3, q4, q5, 0, 0, 0⟩ (.slice ba bn bc) 44)) (.slice ba bn bc) bl) := Lib.hid ((HV.out.base (base' := rb + 1) (by omega)).keep (Fr.alloc (S := []) w28 (actO ⟨kk, nn, ni, na, ny, nm, bl, q0, q1, q2, q3, q4, q5, 0, 0, 0⟩ (.slice ba bn bc) 44)) (by simp))
  have hrl := HR.out.lt
  go_wp2_with (at_builtin; refine wpl_append_a (n := ⟨kk, nn, ni, na, ny, nm, bl, q0, q1, q2, q3, q4, q5, 0, 0, 0⟩) (bv := .slice ba bn bc) Try.underlying26 Try.infoRAct rfl (by decide) (by decide) rfl (.tmp 96) (.tmp 98) rfl rfl rfl (At.new rfl) HO2.out HN2.out hl (by simp; omega) ?_)
  intro v' w29 h5 h6
  have HO3 := Lib.hid h5
  have HR2 := Lib.hid (HR.out.keep (Fr.alloc (S := []) w28 (actO ⟨kk, nn, ni, na, ny, nm, bl, q0, q1, q2, q3, q4, q5, 0, 0, 0⟩ (.slice ba bn bc) 44)) (by simp) (by simp))
  have HR3 := Lib.hid (HR2.out.keep (Fr.grown (S := (Value.slice oa l.length oc).ownBlock.toList) h6 (by intro k hk; simp [hk])) (fun b hb => by
    have := (HO2.out.1.lt b (by simpa using hb)).1
    omega) (fun hm => by
    have := (HO2.out.1.lt _ (by simpa using hm)).1
    omega))
  have HF3 := Lib.hid (show Fr [] w0 w29 from Fr.own ((hf0.then G.out (by intro x hx; simp at hx; omega)).al (o := actO ⟨kk, nn, ni, na, ny, nm, bl, q0, q1, q2, q3, q4, q5, 0, 0, 0⟩ (.slice ba bn bc) 44)) h6 HO2.out.1 (by omega))
  have HRD : rdAct ys = (⟨kk, nn, ni, na, ny, nm, bl, q0, q1, q2, q3, q4, q5, 0, 0, 0⟩, (J + 11 + bq)) := by
    unfold rdAct
    rw [HKK.out, if_neg (by have := KQ.out; omega), if_pos KQ.out, Hm.out, HJ.out, HNM.out, Hbq.out, HBL.out]
    unfold parA baseA
    rw [HKK.out, ← Hnn.out, ← Hni.out, ← Hna.out, ← Hny.out, ← Hq0.out, ← Hq1.out, ← Hq2.out, ← Hq3.out, ← Hq4.out, ← Hq5.out]
    simp
  have HRE := Lib.hid (show RelE w0 rb (.slice va N vc) xs ys l v' w29 from ⟨_, by rw [HRD]; exact HO3.out, by rw [HRD]; exact HR3.out, HF3.out⟩)
  clear HRD
  clear h5 h6 HO2 HN2 HR2
  go_wp2_with fail
  have hl0 := HN.out.1
  subst hl0
  exact hQ _ _ _ _ _ _ _ _ _ _ _ _ _ _ _ _ _ _ _ _ _ _ _ _ _ _ _ _ _ _ _ _ _ _ _ _ _ _ _ _ _ _ _ _ _ _ _ _ _ _ _ _ _ _ _ _ _ _ _ _ _ _ _ _ _ _ _ _ _ _ _ _ _ _ _ _ _ _ _ _ _ _ _ _ _ _ _ _ _ _ _ _ _ HRE.out
end Go.Proofs.Ytbohmnblegljkaa
