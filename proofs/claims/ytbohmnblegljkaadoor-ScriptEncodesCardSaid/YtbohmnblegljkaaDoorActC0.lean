/-
  Layer 31: an act is read.
-/
import Derived.Test.YtbohmnblegljkaaDoorGC
import Derived.Laws.IdiomStrings
import Derived.Lib.BufferRead
namespace Go.Proofs.YtbohmnblegljkaaDoor
open Go.RowKit Go.Bl
set_option linter.unusedVariables false

set_option maxRecDepth 100000 in
set_option maxHeartbeats 8000000 in
theorem act_10 (A : Nat → Prop) (w : World) (rb : Nat) (xs : List UInt8) (hr : Rd A w rb xs) (hn : xs.length ≤ 4000000) (hk : nb 1 xs = 10) :
   Calls Tryd.prog 52 #[.pointer (some ⟨rb, 0, none⟩)] w fun e w' => ∃ bv, e = .returned (.agg (actC (rdAct xs).1 bv)) ∧ OwnB 5 w.heap.size w' bv (rdAct xs).1.bytes ∧ Rd A w' rb (xs.drop (rdAct xs).2) ∧ Fr [rb] w w' := by
  have hrb := hr.lt
  have H_hk := Lib.hid hk
  clear hk
  have hAr := hr.1
  have HR := Lib.hid ((hr.mono (A' := (fun b => A b ∨ w.heap.size ≤ b)) (fun b h => h) (.inl hr.1)).keep (Fr.alloc (S := []) w (.cells #[.int .i64 0, .int .i64 0, .int .i64 0, .int .i64 0, .int .i64 0, .string ⟨#[]⟩, .slice none 0 0, .int .i64 0, .int .i64 0, .int .i64 0, .int .i64 0, .int .i64 0, .int .i64 0, .int .i64 0, .int .i64 0, .int .u64 0] 71)) (by simp) (by simp))
  have HT := Lib.hid (show At (w.alloc (.cells #[.int .i64 0, .int .i64 0, .int .i64 0, .int .i64 0, .int .i64 0, .string ⟨#[]⟩, .slice none 0 0, .int .i64 0, .int .i64 0, .int .i64 0, .int .i64 0, .int .i64 0, .int .i64 0, .int .i64 0, .int .i64 0, .int .u64 0] 71)) w.heap.size _ from At.new rfl)
  have G := Lib.hid (Fr.refl [rb] w)
  have hz : xs.drop 0 = xs := rfl
  rw [← hz] at HR
  clear hr hz
  go_enter Tryd.func52, Tryd.ntmps52
  go_wp2_with fail
  refine (number_nb (fun b => A b ∨ w.heap.size ≤ b) _ rb xs 1 0 HR.out (by omega) (by omega) hn).mono ?_
  rintro e w1 ⟨rfl, hr, hf⟩
  replace HR := Lib.hid hr
  have hsz : w.heap.size ≤ w1.heap.size := by have := hf.size; (try simp at this); omega
  replace G := Lib.hid (show Fr [rb] w w1 from (show Fr [rb] w _ from (by repeat (first | exact G.out | exact Fr.refl _ _ | refine Fr.al ?_ | refine Fr.dn ?_))).trans hf)
  replace HT := Lib.hid (HT.out.keep hf (by simp; omega))
  clear hr hf
  go_wp2_with fail
  refine (number_nb (fun b => A b ∨ w.heap.size ≤ b) _ rb xs 2 1 HR.out (by omega) (by omega) hn).mono ?_
  rintro e w2 ⟨rfl, hr, hf⟩
  replace HR := Lib.hid hr
  have hsz : w.heap.size ≤ w2.heap.size := by have := hf.size; (try simp at this); omega
  replace G := Lib.hid (show Fr [rb] w w2 from (show Fr [rb] w _ from (by repeat (first | exact G.out | exact Fr.refl _ _ | refine Fr.al ?_ | refine Fr.dn ?_))).trans hf)
  replace HT := Lib.hid (HT.out.keep hf (by simp; omega))
  clear hr hf
  go_wp2_with fail
  refine (number_nb (fun b => A b ∨ w.heap.size ≤ b) _ rb xs 2 3 HR.out (by omega) (by omega) hn).mono ?_
  rintro e w3 ⟨rfl, hr, hf⟩
  replace HR := Lib.hid hr
  have hsz : w.heap.size ≤ w3.heap.size := by have := hf.size; (try simp at this); omega
  replace G := Lib.hid (show Fr [rb] w w3 from (show Fr [rb] w _ from (by repeat (first | exact G.out | exact Fr.refl _ _ | refine Fr.al ?_ | refine Fr.dn ?_))).trans hf)
  replace HT := Lib.hid (HT.out.keep hf (by simp; omega))
  clear hr hf
  go_wp2_with fail
  refine (number_nb (fun b => A b ∨ w.heap.size ≤ b) _ rb xs 2 5 HR.out (by omega) (by omega) hn).mono ?_
  rintro e w4 ⟨rfl, hr, hf⟩
  replace HR := Lib.hid hr
  have hsz : w.heap.size ≤ w4.heap.size := by have := hf.size; (try simp at this); omega
  replace G := Lib.hid (show Fr [rb] w w4 from (show Fr [rb] w _ from (by repeat (first | exact G.out | exact Fr.refl _ _ | refine Fr.al ?_ | refine Fr.dn ?_))).trans hf)
  replace HT := Lib.hid (HT.out.keep hf (by simp; omega))
  clear hr hf
  go_wp2_with fail
  refine (number_nb (fun b => A b ∨ w.heap.size ≤ b) _ rb xs 1 7 HR.out (by omega) (by omega) hn).mono ?_
  rintro e w5 ⟨rfl, hr, hf⟩
  replace HR := Lib.hid hr
  have hsz : w.heap.size ≤ w5.heap.size := by have := hf.size; (try simp at this); omega
  replace G := Lib.hid (show Fr [rb] w w5 from (show Fr [rb] w _ from (by repeat (first | exact G.out | exact Fr.refl _ _ | refine Fr.al ?_ | refine Fr.dn ?_))).trans hf)
  replace HT := Lib.hid (HT.out.keep hf (by simp; omega))
  clear hr hf
  have HB := Lib.hid (show At (w5.alloc (actO (baseA xs) (.slice none 0 0) 71)) w5.heap.size (actO (baseA xs) (.slice none 0 0) 71) from At.new rfl)
  obtain ⟨bb, hbb⟩ : ∃ bb, w5.heap.size = bb := ⟨_, rfl⟩
  have hbw : w.heap.size < bb := by have := HT.out.lt; omega
  replace HT := Lib.hid (HT.out.al (o' := actO (baseA xs) (.slice none 0 0) 71))
  replace HR := Lib.hid (HR.out.keep (Fr.alloc (S := []) w5 (actO (baseA xs) (.slice none 0 0) 71)) (by simp) (by simp))
  replace G := Lib.hid (G.out.al (o := actO (baseA xs) (.slice none 0 0) 71))
  have hszb : bb ≤ w5.heap.size := by omega
  rw [hbb] at HB
  have HRD := Lib.hid (show rdAct xs = ({ baseA xs with kept := nb 1 (xs.drop 8), torn := nb 1 (xs.drop 9), scat := nb 8 (xs.drop 10) }, 18) by unfold rdAct; rw [if_pos H_hk.out])
  have t10 : ((nb 1 xs : Int) == 10) = true := by rw [H_hk.out]; rfl
  go_wp2_with fail
  refine (number_nb (fun b => A b ∨ w.heap.size ≤ b) _ rb xs 1 8 HR.out (by omega) (by omega) hn).mono ?_
  rintro e w6 ⟨rfl, hr, hf⟩
  replace HR := Lib.hid hr
  have hsz : w.heap.size ≤ w6.heap.size := by have := hf.size; (try simp at this); omega
  have hszb : bb < w6.heap.size := by have := hf.size; (try simp at this); omega
  replace G := Lib.hid (show Fr [rb] w w6 from (show Fr [rb] w _ from (by repeat (first | exact G.out | exact Fr.refl _ _ | refine Fr.al ?_ | refine Fr.dn ?_))).trans hf)
  replace HT := Lib.hid (HT.out.keep hf (by simp; omega))
  replace HB := Lib.hid (HB.out.keep hf (by simp; omega))
  clear hr hf
  go_wp2_with fail
  refine (number_nb (fun b => A b ∨ w.heap.size ≤ b) _ rb xs 1 9 HR.out (by omega) (by omega) hn).mono ?_
  rintro e w7 ⟨rfl, hr, hf⟩
  replace HR := Lib.hid hr
  have hsz : w.heap.size ≤ w7.heap.size := by have := hf.size; (try simp at this); omega
  have hszb : bb < w7.heap.size := by have := hf.size; (try simp at this); omega
  replace G := Lib.hid (show Fr [rb] w w7 from (show Fr [rb] w _ from (by repeat (first | exact G.out | exact Fr.refl _ _ | refine Fr.al ?_ | refine Fr.dn ?_))).trans hf)
  replace HT := Lib.hid (HT.out.keep hf (by simp; omega))
  replace HB := Lib.hid (HB.out.keep hf (by simp; omega))
  clear hr hf
  go_wp2_with fail
  refine (long_nb (fun b => A b ∨ w.heap.size ≤ b) _ rb xs 10 HR.out hn).mono ?_
  rintro e w8 ⟨rfl, hr, hf⟩
  replace HR := Lib.hid hr
  have hsz : w.heap.size ≤ w8.heap.size := by have := hf.size; (try simp at this); omega
  have hszb : bb < w8.heap.size := by have := hf.size; (try simp at this); omega
  replace G := Lib.hid (show Fr [rb] w w8 from (show Fr [rb] w _ from (by repeat (first | exact G.out | exact Fr.refl _ _ | refine Fr.al ?_ | refine Fr.dn ?_))).trans hf)
  replace HT := Lib.hid (HT.out.keep hf (by simp; omega))
  replace HB := Lib.hid (HB.out.keep hf (by simp; omega))
  clear hr hf
  go_wp2_with (refine wpl_store_at (.tmp 31) (.tmp 30) rfl rfl #[.int .i64 (nb 1 (xs.drop 8)), .int .i64 (nb 1 (xs.drop 9)), .int .u64 (nb 8 (xs.drop 10))] rfl rfl (by kernel_rfl) HB.out (by simp [actC]) (by simp [Value.oneCell']) ?_)
  intro w9 hf hA hs
  have hsz : w.heap.size ≤ w9.heap.size := by omega
  have hszb : bb < w9.heap.size := by omega
  replace HB := Lib.hid (show At w9 bb (actO ({ baseA xs with kept := nb 1 (xs.drop 8), torn := nb 1 (xs.drop 9), scat := nb 8 (xs.drop 10) }) (.slice none 0 0) 71) from hA)
  replace HT := Lib.hid (HT.out.keep hf (by simp; omega))
  replace HR := Lib.hid (HR.out.keep hf (by simp; omega) (by simp; omega))
  replace G := Lib.hid (show Fr [rb] w w9 from G.out.then hf (fun x hx => .inr (by simp at hx; omega)))
  clear hf hA hs
  obtain ⟨c0, c1, c2, c3, c4, c5, c6, c7, c8, c9, c10, c11, c12, c13, c14, c15⟩ := actCells HB.out
  go_wp2_with (refine wpl_store_at (.tmp 2) (.tmp 46) rfl rfl (actC ({ baseA xs with kept := nb 1 (xs.drop 8), torn := nb 1 (xs.drop 9), scat := nb 8 (xs.drop 10) }) (.slice none 0 0)) rfl rfl (by kernel_rfl) HT.out (by simp [actC]) (by simp [Value.oneCell', actC]) ?_)
  intro wz hf hA hs
  have HF := Lib.hid (show At wz w.heap.size (actO ({ baseA xs with kept := nb 1 (xs.drop 8), torn := nb 1 (xs.drop 9), scat := nb 8 (xs.drop 10) }) (.slice none 0 0) 71) from hA)
  obtain ⟨d0, d1, d2, d3, d4, d5, d6, d7, d8, d9, d10, d11, d12, d13, d14, d15⟩ := actCells HF.out
  replace HR := Lib.hid ((HR.out.keep hf (by simp) (by simp; omega)).mono (A' := A) (fun b h => .inl (.inl h)) hAr)
  replace G := Lib.hid (show Fr [rb] w wz from G.out.then hf (fun x hx => .inr (by simp at hx; omega)))
  have HBS := Lib.hid (show OwnB 5 w.heap.size wz (.slice none 0 0) [] from OwnB.nil _ _ _)
  clear hf hA hs c0 c1 c2 c3 c4 c5 c6 c7 c8 c9 c10 c11 c12 c13 c14 c15
  go_wp2
  rw [HRD.out]
  exact bodyPost_ret (v := .agg (actC ({ baseA xs with kept := nb 1 (xs.drop 8), torn := nb 1 (xs.drop 9), scat := nb 8 (xs.drop 10) }) (.slice none 0 0))) (by simp [results, Tryd.results52, go_sem, d0, d1, d2, d3, d4, d5, d6, d7, d8, d9, d10, d11, d12, d13, d14, d15, actC]) rfl ⟨_, rfl, HBS.out, HR.out, G.out⟩

end Go.Proofs.YtbohmnblegljkaaDoor
