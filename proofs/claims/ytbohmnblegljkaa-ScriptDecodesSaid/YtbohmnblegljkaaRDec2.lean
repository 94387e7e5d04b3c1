/-
  Layer 31: a round of the document's Decode, its body taken out of the program. (printed by genrdec.py)
-/
import Derived.Test.YtbohmnblegljkaaRDec
import Derived.Test.YtbohmnblegljkaaPo2
import Derived.Test.YtbohmnblegljkaaDec
namespace Go.Proofs.Ytbohmnblegljkaa
open Go.RowKit Go.Bl
set_option linter.unusedVariables false

def firstLoop : Code → Option Code
  | .loop c => some c
  | .seq a b => match firstLoop a with
    | some c => some c
    | none => firstLoop b
  | .block _ c => firstLoop c
  | .scope c => firstLoop c
  | .cond _ a b => match firstLoop a with
    | some c => some c
    | none => firstLoop b
  | _ => none
theorem Try.infoRAct : (Try.prog.info? 44).map (fun i => (i.zero, i.size, i.bytes)) = some (some (.agg #[.int .i64 0, .int .i64 0, .int .i64 0, .int .i64 0, .int .i64 0, .string ⟨#[]⟩, .slice none 0 0, .int .i64 0, .int .i64 0, .int .i64 0, .int .i64 0, .int .i64 0, .int .i64 0, .int .i64 0, .int .i64 0, .int .u64 0]), 16, 152) := by kernel_rfl
noncomputable def decBody : Code := ((Try.f10.body.bind firstLoop).getD .skip)

/-- what holds behind a round -/
def RelE (w0 : World) (rb : Nat) (v : Value) (xs ys : List UInt8) (l : List AV) (s4 : Value) (w' : World) : Prop :=
  ∃ bv, OwnA 44 (rb + 1) w' s4 (l ++ [((rdAct ys).1, bv)]) ∧ CuR (fun b => rb ≤ b) w' rb v xs (ys.drop (rdAct ys).2) ∧ Fr [] w0 w'
set_option maxRecDepth 1000000 in
set_option maxHeartbeats 8000000 in
theorem rdec_base (rb : Nat) (wr : World) (va : Option Addr) (vc : Nat) (xs ys : List UInt8) (K : Nat) (s4 c1 c2 c6 c7 c8 c9 c100 u5 u10 u11 u12 u13 u14 u15 u16 u17 u18 u19 u20 u21 u22 u23 u24 u25 u26 u27 u28 u29 u30 u31 u32 u33 u34 u35 u36 u37 u38 u39 u40 u41 u42 u43 u44 u45 u46 u47 u48 u49 u50 u51 u52 u53 u54 u55 u56 u57 u58 u59 u60 u61 u62 u63 u64 u65 u66 u67 u68 u69 u70 u71 u72 u73 u74 u75 u76 u77 u78 u79 u80 u81 u82 u83 u84 u85 u86 u87 u88 u89 u90 u91 u92 u93 u94 u95 u96 u97 u98 u99 : Value) (Q : Exit → Act → World → Prop)
    (hK : K < xs.length) (hy : xs.drop K = ys) (hc : Cu (fun b => rb ≤ b) wr rb (.slice va xs.length vc) xs K) (hx : xs.length ≤ 1000000) (hvc : vc ≤ 2 ^ 63 - 1) (w0 : World) (hw0 : w0.heap.size = rb) (hf0 : Fr [] w0 wr) (l : List AV) (ho : OwnA 44 (rb + 1) wr s4 l) (hl : l.length ≤ 1000000)
    (k0 : nb 1 ys ≠ 10) (k1 : nb 1 ys ≠ 1) (k9 : nb 1 ys ≠ 9) (k13 : nb 1 ys ≠ 13)
    (hQ : ∀ (s4 u5 u10 u11 u12 u13 u14 u15 u16 u17 u18 u19 u20 u21 u22 u23 u24 u25 u26 u27 u28 u29 u30 u31 u32 u33 u34 u35 u36 u37 u38 u39 u40 u41 u42 u43 u44 u45 u46 u47 u48 u49 u50 u51 u52 u53 u54 u55 u56 u57 u58 u59 u60 u61 u62 u63 u64 u65 u66 u67 u68 u69 u70 u71 u72 u73 u74 u75 u76 u77 u78 u79 u80 u81 u82 u83 u84 u85 u86 u87 u88 u89 u90 u91 u92 u93 u94 u95 u96 u97 u98 u99 : Value) (w' : World), RelE w0 rb (.slice va xs.length vc) xs ys l s4 w' → Q .normal ⟨#[.slice va xs.length vc, c1, c2, .pointer (some ⟨rb, 0, none⟩), s4, u5, c6, c7, c8, c9, u10, u11, u12, u13, u14, u15, u16, u17, u18, u19, u20, u21, u22, u23, u24, u25, u26, u27, u28, u29, u30, u31, u32, u33, u34, u35, u36, u37, u38, u39, u40, u41, u42, u43, u44, u45, u46, u47, u48, u49, u50, u51, u52, u53, u54, u55, u56, u57, u58, u59, u60, u61, u62, u63, u64, u65, u66, u67, u68, u69, u70, u71, u72, u73, u74, u75, u76, u77, u78, u79, u80, u81, u82, u83, u84, u85, u86, u87, u88, u89, u90, u91, u92, u93, u94, u95, u96, u97, u98, u99, c100], []⟩ w') :
    Code.wp Try.prog decBody Q ⟨#[.slice va xs.length vc, c1, c2, .pointer (some ⟨rb, 0, none⟩), s4, u5, c6, c7, c8, c9, u10, u11, u12, u13, u14, u15, u16, u17, u18, u19, u20, u21, u22, u23, u24, u25, u26, u27, u28, u29, u30, u31, u32, u33, u34, u35, u36, u37, u38, u39, u40, u41, u42, u43, u44, u45, u46, u47, u48, u49, u50, u51, u52, u53, u54, u55, u56, u57, u58, u59, u60, u61, u62, u63, u64, u65, u66, u67, u68, u69, u70, u71, u72, u73, u74, u75, u76, u77, u78, u79, u80, u81, u82, u83, u84, u85, u86, u87, u88, u89, u90, u91, u92, u93, u94, u95, u96, u97, u98, u99, c100], []⟩ wr := by
  have HO := Lib.hid ho
  obtain ⟨oa, oc, rfl⟩ := ownA_shape ho
  clear ho
  have HC := Lib.hid hc
  have HR := Lib.hid (show CuR (fun b => rb ≤ b) wr rb (.slice va xs.length vc) xs (ys.drop 0) from ⟨K, hc, by simpa using hy⟩)
  obtain ⟨N, hN⟩ : ∃ N, xs.length = N := ⟨_, rfl⟩
  rw [hN] at HR HC hK ⊢
  have hx' : N ≤ 1000000 := by omega
  have HN := Lib.hid (And.intro hN (And.intro hx hy))
  have q1 := HC.out.2.1.cell 1
  have q0 := HC.out.2.1.cell 0
  simp only [List.getElem?_toArray, List.getElem?_cons_zero, List.getElem?_cons_succ] at q0 q1
  clear hc hN hx hy
  conv => arg 2; whnf
  go_wp2_with fail
  refine (cnum_nb (fun b => rb ≤ b) _ rb _ xs ys 1 0 HR.out (by omega) (by omega) HN.out.2.1).mono ?_
  rintro e w1 ⟨rfl, hr, hf⟩
  replace HR := Lib.hid hr
  have G := Lib.hid hf
  have hsz : rb < w1.heap.size := hr.lt
  have hsw1 : wr.heap.size ≤ w1.heap.size := hf.size
  clear hr hf q0 q1 HC
  rw [List.drop_zero]
  obtain ⟨kk, hkk⟩ : ∃ kk, nb 1 ys = kk := ⟨_, rfl⟩
  rw [hkk] at k0 k1 k9 k13 ⊢
  have HKK := Lib.hid hkk
  clear hkk
  go_wp2_with (refine wpl_store_at (.tmp 5) (.tmp 19) rfl rfl _ rfl rfl (by kernel_rfl) (At.new rfl) ?hz ?h1 ?_)
  case hz => exact Nat.le_refl _
  case h1 => simp [Value.oneCell']
  intro w2 f2 hb2 hs2
  replace HR := Lib.hid ((HR.out.keep (Fr.alloc (S := []) w1 _) (by simp) (by simp)).keep f2 (by simp; omega) (by simp; omega))
  replace G := Lib.hid (show Fr [rb] wr w2 from G.out.al.then f2 (by intro x hx; simp at hx; have := G.out.size; omega))
  have hwb := hsw1
  obtain ⟨bb, hbb⟩ : ∃ bb, w1.heap.size = bb := ⟨_, rfl⟩
  rw [hbb] at hb2 hsz hwb ⊢
  have HB := Lib.hid (show At w2 bb (actO ⟨kk, 0, 0, 0, 0, ⟨#[]⟩, [], 0, 0, 0, 0, 0, 0, 0, 0, 0⟩ (.slice none 0 0) 44) from hb2)
  clear hb2 hs2 f2 hbb
  go_wp2_with fail
  refine (cnum_nb (fun b => rb ≤ b) _ rb _ xs ys 2 1 HR.out (by omega) (by omega) HN.out.2.1).mono ?_
  rintro e w3 ⟨rfl, hr, hf⟩
  replace HR := Lib.hid hr
  replace HB := Lib.hid (HB.out.keep hf (by simp; omega))
  replace G := Lib.hid (G.out.trans hf)
  clear hr hf
  obtain ⟨nn, hnn⟩ : ∃ nn, nb 2 (ys.drop 1) = nn := ⟨_, rfl⟩
  rw [hnn]
  have Hnn := Lib.hid hnn
  clear hnn
  go_wp2_with (refine wpl_store_one (.tmp 22) (.tmp 21) rfl rfl (.int .i64 nn) rfl rfl HB.out (by simp [actC]) (by kernel_rfl) (by rfl) ?_)
  intro w4 hf hA hs
  replace HB := Lib.hid (show At w4 bb (actO ⟨kk, nn, 0, 0, 0, ⟨#[]⟩, [], 0, 0, 0, 0, 0, 0, 0, 0, 0⟩ (.slice none 0 0) 44) from hA)
  replace HR := Lib.hid (show CuR (fun b => rb ≤ b) w4 rb (.slice va N vc) xs (ys.drop 3) from HR.out.keep hf (by simp; omega) (by simp; omega))
  replace G := Lib.hid (show Fr [rb] wr w4 from G.out.then hf (by intro x hx; simp at hx; omega))
  clear hf hA hs
  go_wp2_with fail
  refine (cnum_nb (fun b => rb ≤ b) _ rb _ xs ys 2 3 HR.out (by omega) (by omega) HN.out.2.1).mono ?_
  rintro e w5 ⟨rfl, hr, hf⟩
  replace HR := Lib.hid hr
  replace HB := Lib.hid (HB.out.keep hf (by simp; omega))
  replace G := Lib.hid (G.out.trans hf)
  clear hr hf
  obtain ⟨ni, hni⟩ : ∃ ni, nb 2 (ys.drop 3) = ni := ⟨_, rfl⟩
  rw [hni]
  have Hni := Lib.hid hni
  clear hni
  go_wp2_with (refine wpl_store_one (.tmp 25) (.tmp 24) rfl rfl (.int .i64 ni) rfl rfl HB.out (by simp [actC]) (by kernel_rfl) (by rfl) ?_)
  intro w6 hf hA hs
  replace HB := Lib.hid (show At w6 bb (actO ⟨kk, nn, ni, 0, 0, ⟨#[]⟩, [], 0, 0, 0, 0, 0, 0, 0, 0, 0⟩ (.slice none 0 0) 44) from hA)
  replace HR := Lib.hid (show CuR (fun b => rb ≤ b) w6 rb (.slice va N vc) xs (ys.drop 5) from HR.out.keep hf (by simp; omega) (by simp; omega))
  replace G := Lib.hid (show Fr [rb] wr w6 from G.out.then hf (by intro x hx; simp at hx; omega))
  clear hf hA hs
  go_wp2_with fail
  refine (cnum_nb (fun b => rb ≤ b) _ rb _ xs ys 2 5 HR.out (by omega) (by omega) HN.out.2.1).mono ?_
  rintro e w7 ⟨rfl, hr, hf⟩
  replace HR := Lib.hid hr
  replace HB := Lib.hid (HB.out.keep hf (by simp; omega))
  replace G := Lib.hid (G.out.trans hf)
  clear hr hf
  obtain ⟨na, hna⟩ : ∃ na, nb 2 (ys.drop 5) = na := ⟨_, rfl⟩
  rw [hna]
  have Hna := Lib.hid hna
  clear hna
  go_wp2_with (refine wpl_store_one (.tmp 28) (.tmp 27) rfl rfl (.int .i64 na) rfl rfl HB.out (by simp [actC]) (by kernel_rfl) (by rfl) ?_)
  intro w8 hf hA hs
  replace HB := Lib.hid (show At w8 bb (actO ⟨kk, nn, ni, na, 0, ⟨#[]⟩, [], 0, 0, 0, 0, 0, 0, 0, 0, 0⟩ (.slice none 0 0) 44) from hA)
  replace HR := Lib.hid (show CuR (fun b => rb ≤ b) w8 rb (.slice va N vc) xs (ys.drop 7) from HR.out.keep hf (by simp; omega) (by simp; omega))
  replace G := Lib.hid (show Fr [rb] wr w8 from G.out.then hf (by intro x hx; simp at hx; omega))
  clear hf hA hs
  go_wp2_with fail
  refine (cnum_nb (fun b => rb ≤ b) _ rb _ xs ys 1 7 HR.out (by omega) (by omega) HN.out.2.1).mono ?_
  rintro e w9 ⟨rfl, hr, hf⟩
  replace HR := Lib.hid hr
  replace HB := Lib.hid (HB.out.keep hf (by simp; omega))
  replace G := Lib.hid (G.out.trans hf)
  clear hr hf
  obtain ⟨ny, hny⟩ : ∃ ny, nb 1 (ys.drop 7) = ny := ⟨_, rfl⟩
  rw [hny]
  have Hny := Lib.hid hny
  clear hny
  go_wp2_with (refine wpl_store_one (.tmp 31) (.tmp 30) rfl rfl (.int .i64 ny) rfl rfl HB.out (by simp [actC]) (by kernel_rfl) (by rfl) ?_)
  intro w10 hf hA hs
  replace HB := Lib.hid (show At w10 bb (actO ⟨kk, nn, ni, na, ny, ⟨#[]⟩, [], 0, 0, 0, 0, 0, 0, 0, 0, 0⟩ (.slice none 0 0) 44) from hA)
  replace HR := Lib.hid (show CuR (fun b => rb ≤ b) w10 rb (.slice va N vc) xs (ys.drop 8) from HR.out.keep hf (by simp; omega) (by simp; omega))
  replace G := Lib.hid (show Fr [rb] wr w10 from G.out.then hf (by intro x hx; simp at hx; omega))
  clear hf hA hs
  have t10 : ((kk : Int) == 10) = false := by rw [beq_eq_false_iff_ne]; omega
  have t1 : ((kk : Int) == 1) = false := by rw [beq_eq_false_iff_ne]; omega
  have t9 : ((kk : Int) == 9) = false := by rw [beq_eq_false_iff_ne]; omega
  have t13 : ((kk : Int) == 13) = false := by rw [beq_eq_false_iff_ne]; omega
  obtain ⟨z0, z1, z2, z3, z4, z5, z6, z7, z8, z9, z10, z11, z12, z13, z14, z15⟩ := actCells HB.out
  have HO2 := Lib.hid ((HO.out.keep G.out (by simp)).keep (Fr.alloc (S := []) w10 (actO ⟨kk, nn, ni, na, ny, ⟨#[]⟩, [], 0, 0, 0, 0, 0, 0, 0, 0, 0⟩ (.slice none 0 0) 44)) (by simp))
  have HN2 : Hid (OwnB 5 (rb + 1) (w10.alloc (actO ⟨kk, nn, ni, na, ny, ⟨#[]⟩, [], 0, 0, 0, 0, 0, 0, 0, 0, 0⟩ (.slice none 0 0) 44)) (.slice none 0 0) []) := Lib.hid (OwnB.nil _ _ _)
  have hrl := HR.out.lt
  go_wp2_with (at_builtin; refine wpl_append_a (n := ⟨kk, nn, ni, na, ny, ⟨#[]⟩, [], 0, 0, 0, 0, 0, 0, 0, 0, 0⟩) (bv := .slice none 0 0) Try.underlying26 Try.infoRAct rfl (by decide) (by decide) rfl (.tmp 96) (.tmp 98) rfl rfl rfl (At.new rfl) HO2.out HN2.out hl (by simp; omega) ?_)
  intro v' w11 h5 h6
  have HO3 := Lib.hid h5
  have HR2 := Lib.hid (HR.out.keep (Fr.alloc (S := []) w10 (actO ⟨kk, nn, ni, na, ny, ⟨#[]⟩, [], 0, 0, 0, 0, 0, 0, 0, 0, 0⟩ (.slice none 0 0) 44)) (by simp) (by simp))
  have HR3 := Lib.hid (HR2.out.keep (Fr.grown (S := (Value.slice oa l.length oc).ownBlock.toList) h6 (by intro k hk; simp [hk])) (fun b hb => by
    have := (HO2.out.1.lt b (by simpa using hb)).1
    omega) (fun hm => by
    have := (HO2.out.1.lt _ (by simpa using hm)).1
    omega))
  have HF3 := Lib.hid (show Fr [] w0 w11 from Fr.own ((hf0.then G.out (by intro x hx; simp at hx; omega)).al (o := actO ⟨kk, nn, ni, na, ny, ⟨#[]⟩, [], 0, 0, 0, 0, 0, 0, 0, 0, 0⟩ (.slice none 0 0) 44)) h6 HO2.out.1 (by omega))
  have HRD : rdAct ys = (⟨kk, nn, ni, na, ny, ⟨#[]⟩, [], 0, 0, 0, 0, 0, 0, 0, 0, 0⟩, 8) := by
    unfold rdAct
    rw [HKK.out, if_neg k0, if_neg k1, if_neg (by omega)]
    unfold baseA
    rw [HKK.out, ← Hnn.out, ← Hni.out, ← Hna.out, ← Hny.out]
    simp
  have HRE := Lib.hid (show RelE w0 rb (.slice va N vc) xs ys l v' w11 from ⟨_, by rw [HRD]; exact HO3.out, by rw [HRD]; exact HR3.out, HF3.out⟩)
  clear HRD
  clear h5 h6 HO2 HN2 HR2
  go_wp2_with fail
  have hl0 := HN.out.1
  subst hl0
  exact hQ _ _ _ _ _ _ _ _ _ _ _ _ _ _ _ _ _ _ _ _ _ _ _ _ _ _ _ _ _ _ _ _ _ _ _ _ _ _ _ _ _ _ _ _ _ _ _ _ _ _ _ _ _ _ _ _ _ _ _ _ _ _ _ _ _ _ _ _ _ _ _ _ _ _ _ _ _ _ _ _ _ _ _ _ _ _ _ _ _ _ _ _ _ HRE.out
end Go.Proofs.Ytbohmnblegljkaa
