/-
  Layer 31: baileelaw31.long answers.
-/
import Derived.Test.YtbohmnblegljkaaOf
namespace Go.Proofs.Ytbohmnblegljkaa
open Go.RowKit Go.Bl
set_option linter.unusedVariables false

def RetB (e : Ending) : Prop := ∃ b : Bool, e = .returned (.bool b)
set_option maxRecDepth 100000 in
set_option maxHeartbeats 4000000 in
theorem long31_any (A : Nat → Prop) (w : World) (v : Value) (l : List AV) (hr : RdA A w v l) (hl : l.length ≤ 30) :
    Calls Try.prog 12 #[v] w fun e w' => RetB e ∧ Fr [] w w' := by
  have HR := Lib.hid hr
  obtain ⟨a, cap, rfl, h2, h3, h4⟩ := hr.shape
  obtain ⟨N, hN⟩ : ∃ N, l.length = N := ⟨_, rfl⟩
  rw [hN] at HR h2 h4 hl ⊢
  have HN := Lib.hid hN
  have H4 := Lib.hid h4
  clear hr hN h4
  unfold maxLen at h3
  go_enter Try.func12, Try.ntmps12
  go_wp2
  go_loopw [10] (fun i wr => ∃ j : Nat, j ≤ N ∧ i = .int .i64 j ∧ Hid (Fr [] w wr)) (fun i _ => N - (intOf i).toNat)
  case atStart => exact ⟨0, by omega, rfl, Fr.refl _ _⟩
  case round =>
    obtain ⟨j, hj, rfl, HF⟩ := hrel
    by_cases hjn : j < N
    · obtain ⟨b, off, rfl, hnA, hcell⟩ := H4.out (by omega)
      obtain ⟨x, hx⟩ : ∃ x, l[j]? = some x := ⟨_, List.getElem?_eq_getElem (by have := HN.out; omega)⟩
      have hc := hcell j x hx
      have hm : x ∈ l := List.mem_of_getElem? hx
      obtain ⟨bo, bn, bc, hb⟩ := bs_shape (HR.out.2 x hm)
      obtain ⟨ac, bv⟩ := x
      simp only at hb
      subst hb
      have hc' : wr.rangeAt b (off + j * 16) (avC (ac, .slice bo bn bc)) := fun f u hu => cell_mono HF.out (hc f u hu)
      have HC := Lib.hid hc'
      clear hcell hc hc' hx hm
      have G := Lib.hid (show Fr [] w (wr.alloc (.cells #[.int .i64 ac.kind, .int .i64 ac.n, .int .i64 ac.i, .int .i64 ac.at_, .int .i64 ac.by_, .string ac.name, .slice bo bn bc, .int .i64 ac.p0, .int .i64 ac.p1, .int .i64 ac.p2, .int .i64 ac.p3, .int .i64 ac.p4, .int .i64 ac.p5, .int .i64 ac.kept, .int .i64 ac.torn, .int .u64 ac.scat] 39)) from Fr.al HF.out)
      clear HF
      by_cases g1 : 400 < ac.name.size
      · have t1 : (400 : Int) < ac.name.size := by omega
        go_wp2_with (refine wpl_load_row (.tmp 12) rfl rfl b (off + j * 16) #[.int .i64 ac.kind, .int .i64 ac.n, .int .i64 ac.i, .int .i64 ac.at_, .int .i64 ac.by_, .string ac.name, .slice bo bn bc, .int .i64 ac.p0, .int .i64 ac.p1, .int .i64 ac.p2, .int .i64 ac.p3, .int .i64 ac.p4, .int .i64 ac.p5, .int .i64 ac.kept, .int .i64 ac.torn, .int .u64 ac.scat] rfl HC.out Try.underlying39 rfl (by kernel_rfl) ?_)
        go_ret
        exact ⟨⟨_, rfl⟩, G.out⟩
      · have t1 : ¬ (400 : Int) < ac.name.size := by omega
        by_cases g2 : 70000 < bn
        · have t2 : (70000 : Int) < bn := by omega
          go_wp2_with (refine wpl_load_row (.tmp 12) rfl rfl b (off + j * 16) #[.int .i64 ac.kind, .int .i64 ac.n, .int .i64 ac.i, .int .i64 ac.at_, .int .i64 ac.by_, .string ac.name, .slice bo bn bc, .int .i64 ac.p0, .int .i64 ac.p1, .int .i64 ac.p2, .int .i64 ac.p3, .int .i64 ac.p4, .int .i64 ac.p5, .int .i64 ac.kept, .int .i64 ac.torn, .int .u64 ac.scat] rfl HC.out Try.underlying39 rfl (by kernel_rfl) ?_)
          go_ret
          exact ⟨⟨_, rfl⟩, G.out⟩
        · have t2 : ¬ (70000 : Int) < bn := by omega
          go_wp2_with (refine wpl_load_row (.tmp 12) rfl rfl b (off + j * 16) #[.int .i64 ac.kind, .int .i64 ac.n, .int .i64 ac.i, .int .i64 ac.at_, .int .i64 ac.by_, .string ac.name, .slice bo bn bc, .int .i64 ac.p0, .int .i64 ac.p1, .int .i64 ac.p2, .int .i64 ac.p3, .int .i64 ac.p4, .int .i64 ac.p5, .int .i64 ac.kept, .int .i64 ac.torn, .int .u64 ac.scat] rfl HC.out Try.underlying39 rfl (by kernel_rfl) ?_)
          go_roundw
          case rel => exact ⟨j + 1, by omega, by go_num, G.out⟩
          case measure => simp [intOf]; omega
    · obtain rfl : j = N := by omega
      go_wp2
      go_ret
      exact ⟨⟨_, rfl⟩, HF.out⟩
end Go.Proofs.Ytbohmnblegljkaa
