/-
  Layer 31: script.Encode of an act that can't be written.
  The chapter's example: alive of law 31.
  Layer 31: what baileelaw31.long answers.
-/
import Derived.Test.YtbohmnblegljkaaDoorGG
import Derived.Test.YtbohmnblegljkaaDoorErr
import Derived.Test.YtbohmnblegljkaaDoorOf
namespace Go.Proofs.YtbohmnblegljkaaDoor
open Go.RowKit Go.Bl
set_option linter.unusedVariables false

set_option maxRecDepth 100000 in
set_option maxHeartbeats 4000000 in
theorem encode_bad (L : List Nat) (E : Nat → Addr) (B : Nat) (A : Nat → Prop) (w : World) (hE : Errs L E B w) (h7 : 7 ∈ L) (v : Value) (l : List AV) (hr : RdA A w v l) (hl : l.length ≤ 30) (hby : ∀ x ∈ l, x.1.bytes.length ≤ 70000) (hk : ∃ x ∈ l, ¬ (0 ≤ x.1.kind ∧ x.1.kind ≤ 255)) :
    Calls Tryd.prog 29 #[v] w fun e w' => e = .returned (.tuple #[.slice none 0 0, errv E 7]) ∧ Fr [] w w' := by
  have HE := Lib.hid hE
  rw [errv_pos E 7 (by decide)]
  clear hE
  have HR := Lib.hid hr
  have HBY := Lib.hid hby
  have HKD := Lib.hid hk
  obtain ⟨a, cap, rfl, h2, h3, h4⟩ := hr.shape
  obtain ⟨N, hN⟩ : ∃ N, l.length = N := ⟨_, rfl⟩
  rw [hN] at HR h2 h4 hl ⊢
  have HN := Lib.hid hN
  have H4 := Lib.hid h4
  clear hr hN h4 hby hk
  unfold maxLen at h3
  go_enter Tryd.func29, Tryd.ntmps29
  go_wp2
  go_loopw [4, 9] (fun o i wr => ∃ j : Nat, j ≤ N ∧ i = .int .i64 j ∧ Hid (OwnB 5 w.heap.size wr o (encL ((l.take j).map (·.1)))) ∧ Hid (Fr [] w wr) ∧ Hid (∀ x ∈ l.take j, 0 ≤ x.1.kind ∧ x.1.kind ≤ 255)) (fun _ i _ => N - (intOf i).toNat)
  case atStart => exact ⟨0, by omega, rfl, OwnB.nil _ _ _, Fr.refl _ _, fun x hx => by simp at hx⟩
  case round =>
    obtain ⟨j, hj, rfl, HO, HF, HG⟩ := hrel
    by_cases hjn : j < N
    · obtain ⟨b, off, rfl, hnA, hcell⟩ := H4.out (by omega)
      obtain ⟨x, hx⟩ : ∃ x, l[j]? = some x := ⟨_, List.getElem?_eq_getElem (by have := HN.out; omega)⟩
      have hc := hcell j x hx
      have hm : x ∈ l := List.mem_of_getElem? hx
      have hbx := HR.out.2 x hm
      obtain ⟨bo, bn, bc, hb⟩ := bs_shape hbx
      have hby := HBY.out x hm
      have HG2 := Lib.hid (show 0 ≤ x.1.kind ∧ x.1.kind ≤ 255 → ∀ y ∈ l.take (j + 1), 0 ≤ y.1.kind ∧ y.1.kind ≤ 255 from fun hgo y hy => by
        rw [List.take_add_one, hx] at hy
        rcases List.mem_append.1 hy with hy | hy
        · exact HG.out y hy
        · simp at hy; subst hy; exact hgo)
      have HT := Lib.hid (encL_take l j x hx)
      have hel := encL_len ((l.take j).map (·.1))
      obtain ⟨ac, bv⟩ := x
      simp only at hb hby hbx HG2
      subst hb
      have hc' : wr.rangeAt b (off + j * 16) (avC (ac, .slice bo bn bc)) := fun f u hu => cell_mono HF.out (hc f u hu)
      have HC := Lib.hid hc'
      have BX := Lib.hid (hbx.keep HF.out (by simp))
      have HEL := Lib.hid (show (encL ((l.take j).map (·.1))).length ≤ 3000000 by
        have : ((l.take j).map (·.1)).length ≤ 30 := by simp; omega
        omega)
      obtain ⟨k0, hk0⟩ : ∃ k, ac.kind = k := ⟨_, rfl⟩
      clear hcell hc hc' hx hm hbx hel
      have HNB := Lib.hid (show (wr.alloc (.cells (actC ac (.slice bo bn bc)) 71)).rangeAt wr.heap.size 0 (actC ac (.slice bo bn bc)).toList from range_at' (At.new rfl))
      have z0 : (wr.alloc (.cells (actC ac (.slice bo bn bc)) 71)).cell? ⟨wr.heap.size, 0, none⟩ = some (.int .i64 ac.kind) := (actCells (show At (wr.alloc (actO ac (.slice bo bn bc) 71)) wr.heap.size (actO ac (.slice bo bn bc) 71) from At.new rfl)).1
      have z1 : (actC ac (.slice bo bn bc))[0]? = some (.int .i64 ac.kind) := rfl
      clear hk0
      by_cases hgo : 0 ≤ ac.kind ∧ ac.kind ≤ 255
      · have HG3 := Lib.hid (HG2.out hgo)
        obtain ⟨hg0, hg1⟩ := hgo
        clear HG HG2
        go_wp2_with (first | (refine wpl_load_row (.tmp 11) rfl rfl b (off + j * 16) (actC ac (.slice bo bn bc)) rfl HC.out Tryd.underlying71 rfl (by kernel_rfl) ?_) | (refine wpl_store_new (.tmp 6) (.tmp 12) rfl rfl (actC ac (.slice bo bn bc)) rfl rfl (by kernel_rfl) rfl (by simp [actC, Value.oneCell']) ?_) | (refine wpl_load_row (.tmp 6) rfl rfl wr.heap.size 0 (actC ac (.slice bo bn bc)) rfl HNB.out Tryd.underlying71 rfl (by kernel_rfl) ?_))
        have G := Lib.hid (show Fr [] w (wr.alloc (actO ac (.slice bo bn bc) 71)) from Fr.al HF.out)
        have HO1 := Lib.hid (HO.out.keep (Fr.alloc (S := []) wr (actO ac (.slice bo bn bc) 71)) (by simp))
        have BX1 := Lib.hid (BX.out.keep (Fr.alloc (S := []) wr (actO ac (.slice bo bn bc) 71)) (by simp))
        refine (Plain_any A _ ac _ BX1.out (by omega)).mono ?_
        rintro e w2 ⟨pv, rfl, ho, hf⟩
        have G2 := Lib.hid (G.out.trans hf)
        have HO2 := Lib.hid (HO1.out.keep hf (by simp))
        have BP := Lib.hid (ho.bs (A := fun _ => False) (by simp))
        obtain ⟨po, pn, pc, rfl⟩ := bs_shape BP.out
        clear ho hf z0 z1 HNB HC BX BX1 HO1 HO HF G
        go_wp2_with fail
        refine (entry_any _ (plainA ac) _ BP.out (by have := plainA_bytes ac; omega) (plainA_name ac)).mono ?_
        rintro e w3 ⟨ev, rfl, ho, hf⟩
        have G3 := Lib.hid (G2.out.trans hf)
        have HO3 := Lib.hid (HO2.out.keep hf (by simp))
        have BE := Lib.hid (ho.bs (A := fun _ => False) (by simp))
        obtain ⟨eo, en, ec, rfl⟩ := bs_shape BE.out
        have hs3 := G3.out.size
        have hll : (encL ((l.take j).map (·.1))).length + (entryL (plainA ac)).length ≤ 140737488355328 := by
          have := HEL.out
          have := entryL_len (plainA ac) (plainA_bytes ac) (plainA_name ac)
          omega
        have HLL := Lib.hid hll
        clear ho hf HO2 G2 BP hll
        go_wp2_with (at_builtin; refine wpl_append_bs (A := fun _ => False) (base := w.heap.size) Tryd.underlying59 Tryd.infoByte rfl (.tmp 22) (.tmp 25) rfl rfl rfl HO3.out BE.out HLL.out hs3 ?_)
        intro v' w4 h5 h6
        have HO4 := Lib.hid (show OwnB 5 w.heap.size w4 v' (encL ((l.take (j + 1)).map (·.1))) by rw [HT.out, List.map_take]; exact h5)
        have HF4 := Lib.hid (show Fr [] w w4 from OwnB.fr HO3.out G3.out h6 (Nat.le_refl _))
        clear h5 h6 HO3 G3 BE HLL
        go_wp2
        go_roundw
        case rel => exact ⟨j + 1, by omega, by go_num, HO4.out, HF4.out, HG3.out⟩
        case measure => simp [intOf]; omega
      · have G := Lib.hid (show Fr [] w (wr.alloc (actO ac (.slice bo bn bc) 71)) from Fr.al HF.out)
        have hc := (HE.out.keep0 G.out).cell 7 h7
        simp only [gOf, List.getD_eq_getElem?_getD, List.getElem?_cons_zero, List.getElem?_cons_succ, Option.getD_some] at hc
        unfold actO at hc
        have hor : ac.kind < 0 ∨ (0 ≤ ac.kind ∧ 255 < ac.kind) := by omega
        clear hgo HG HG2
        rcases hor with hneg | ⟨hpos, hbig⟩
        all_goals
          go_wp2_with (first | (refine wpl_load_row (.tmp 11) rfl rfl b (off + j * 16) (actC ac (.slice bo bn bc)) rfl HC.out Tryd.underlying71 rfl (by kernel_rfl) ?_) | (refine wpl_store_new (.tmp 6) (.tmp 12) rfl rfl (actC ac (.slice bo bn bc)) rfl rfl (by kernel_rfl) rfl (by simp [actC, Value.oneCell']) ?_) | (refine wpl_load_row (.tmp 6) rfl rfl wr.heap.size 0 (actC ac (.slice bo bn bc)) rfl HNB.out Tryd.underlying71 rfl (by kernel_rfl) ?_))
          go_quiet (fail)
          go_wp2
          go_ret2
          exact ⟨rfl, G.out.trans (Fr.of_heap rfl rfl rfl rfl)⟩
    · exfalso
      obtain rfl : j = N := by omega
      have hla : l.take j = l := List.take_of_length_le (by have := HN.out; omega)
      obtain ⟨x, hx, hbd⟩ := HKD.out
      exact hbd (HG.out x (by rw [hla]; exact hx))
end Go.Proofs.YtbohmnblegljkaaDoor
namespace Go.Proofs.YtbohmnblegljkaaDoor
open Go.RowKit Go.Bl
set_option linter.unusedVariables false

theorem acts_example : acts [2, 0, 3] = [⟨2, 3, 0, 0, 0, ⟨#[]⟩, [], 0, 0, 0, 0, 0, 0, 0, 0, 0⟩] := by
  have h1 : nb 1 [2, 0, 3] = 2 := by decide
  have h2 : rdAct [2, 0, 3] = (⟨2, 3, 0, 0, 0, ⟨#[]⟩, [], 0, 0, 0, 0, 0, 0, 0, 0, 0⟩, 8) := by
    unfold rdAct
    rw [h1, if_neg (by decide), if_neg (by decide), if_neg (by decide)]
    unfold baseA
    rw [h1]
    rfl
  rw [acts_cons _ (by simp), h2]
  simp [acts_nil]

set_option maxRecDepth 100000 in
set_option maxHeartbeats 4000000 in
theorem alive31_any (w : World) : Calls Tryd.prog 27 #[] w fun e w' => e = .returned (.bool true) ∧ Fr [] w w' := by
  have hb : Bs (fun _ => False) (w.alloc (.cells #[.int .u8 2, .int .u8 0, .int .u8 3] 5)) (.slice (some ⟨w.heap.size, 0, none⟩) 3 3) [2, 0, 3] :=
    ⟨_, 3, rfl, by simp, by simp [maxLen], Row.of_block (heap_alloc_at rfl) (by simp)⟩
  have HD := Lib.hid (decode_any (fun _ => False) _ _ _ hb (by simp))
  clear hb
  go_enter Tryd.func27, Tryd.ntmps27
  go_wp2_with fail
  refine HD.out.mono ?_
  rintro e w1 ⟨u, l, rfl, ho, he, hf⟩
  rw [acts_example] at he
  have HF := Lib.hid ((Fr.alloc (S := []) w _).trans hf)
  obtain ⟨x, rfl⟩ : ∃ x, l = [x] := by
    cases l with
    | nil => simp at he
    | cons x r => cases r with
      | nil => exact ⟨x, rfl⟩
      | cons y r => simp at he
  have hx : x.1 = ⟨2, 3, 0, 0, 0, ⟨#[]⟩, [], 0, 0, 0, 0, 0, 0, 0, 0, 0⟩ := by simpa using he
  obtain ⟨a, cap, rfl, g1, g2, g3⟩ := (ho.rd (A := fun _ => False) (by simp)).shape
  obtain ⟨b, off, rfl, -, hc⟩ := g3 (by simp)
  have q0 := hc 0 x rfl 0 (.int .i64 2) (by simp [avC, actC, hx])
  have q1 := hc 0 x rfl 1 (.int .i64 3) (by simp [avC, actC, hx])
  simp only [Nat.zero_mul, Nat.add_zero] at q0 q1
  simp only [List.length_singleton] at g1 ⊢
  unfold maxLen at g2
  clear g3 hc he hx ho hf HD
  go_wp2
  go_ret
  exact ⟨rfl, HF.out⟩

end Go.Proofs.YtbohmnblegljkaaDoor
namespace Go.Proofs.YtbohmnblegljkaaDoor
open Go.RowKit Go.Bl
set_option linter.unusedVariables false

def Short (l : List AV) : Prop := l.length ≤ 30 ∧ ∀ x ∈ l, x.1.name.size ≤ 400 ∧ x.1.bytes.length ≤ 70000
/-- true, or false of a short list -/
def RetL (l : List AV) (e : Ending) : Prop := e = .returned (.bool true) ∨ (e = .returned (.bool false) ∧ Short l)
set_option maxRecDepth 100000 in
set_option maxHeartbeats 4000000 in
theorem long31_full (A : Nat → Prop) (w : World) (v : Value) (l : List AV) (hr : RdA A w v l) :
    Calls Tryd.prog 28 #[v] w fun e w' => RetL l e ∧ Fr [] w w' := by
  have HR := Lib.hid hr
  obtain ⟨a, cap, rfl, h2, h3, h4⟩ := hr.shape
  obtain ⟨N, hN⟩ : ∃ N, l.length = N := ⟨_, rfl⟩
  rw [hN] at HR h2 h4 ⊢
  have HN := Lib.hid hN
  have H4 := Lib.hid h4
  clear hr hN h4
  unfold maxLen at h3
  by_cases h30 : 30 < N
  · go_enter Tryd.func28, Tryd.ntmps28
    go_wp2
    go_ret
    exact ⟨.inl rfl, Fr.refl _ _⟩
  have hl : N ≤ 30 := by omega
  clear h30
  go_enter Tryd.func28, Tryd.ntmps28
  go_wp2
  go_loopw [10] (fun i wr => ∃ j : Nat, j ≤ N ∧ i = .int .i64 j ∧ Hid (Fr [] w wr) ∧ Hid (∀ x ∈ l.take j, x.1.name.size ≤ 400 ∧ x.1.bytes.length ≤ 70000)) (fun i _ => N - (intOf i).toNat)
  case atStart => exact ⟨0, by omega, rfl, Fr.refl _ _, fun x hx => by simp at hx⟩
  case round =>
    obtain ⟨j, hj, rfl, HF, HS⟩ := hrel
    by_cases hjn : j < N
    · obtain ⟨b, off, rfl, hnA, hcell⟩ := H4.out (by omega)
      obtain ⟨x, hx⟩ : ∃ x, l[j]? = some x := ⟨_, List.getElem?_eq_getElem (by have := HN.out; omega)⟩
      have hc := hcell j x hx
      have hm : x ∈ l := List.mem_of_getElem? hx
      obtain ⟨bo, bc, hb, -⟩ := HR.out.2 x hm
      have HS2 := Lib.hid (show x.1.name.size ≤ 400 ∧ x.1.bytes.length ≤ 70000 → ∀ y ∈ l.take (j + 1), y.1.name.size ≤ 400 ∧ y.1.bytes.length ≤ 70000 from fun hgo y hy => by
        rw [List.take_add_one, hx] at hy
        rcases List.mem_append.1 hy with hy | hy
        · exact HS.out y hy
        · simp at hy; subst hy; exact hgo)
      obtain ⟨bn, hbn⟩ : ∃ bn, x.1.bytes.length = bn := ⟨_, rfl⟩
      rw [hbn] at hb HS2
      clear hbn
      obtain ⟨ac, bv⟩ := x
      simp only at hb HS2
      subst hb
      have hc' : wr.rangeAt b (off + j * 16) (avC (ac, .slice bo bn bc)) := fun f u hu => cell_mono HF.out (hc f u hu)
      have HC := Lib.hid hc'
      clear hcell hc hc' hx hm
      have G := Lib.hid (show Fr [] w (wr.alloc (.cells #[.int .i64 ac.kind, .int .i64 ac.n, .int .i64 ac.i, .int .i64 ac.at_, .int .i64 ac.by_, .string ac.name, .slice bo bn bc, .int .i64 ac.p0, .int .i64 ac.p1, .int .i64 ac.p2, .int .i64 ac.p3, .int .i64 ac.p4, .int .i64 ac.p5, .int .i64 ac.kept, .int .i64 ac.torn, .int .u64 ac.scat] 71)) from Fr.al HF.out)
      clear HF
      by_cases g1 : 400 < ac.name.size
      · have t1 : (400 : Int) < ac.name.size := by omega
        go_wp2_with (refine wpl_load_row (.tmp 12) rfl rfl b (off + j * 16) #[.int .i64 ac.kind, .int .i64 ac.n, .int .i64 ac.i, .int .i64 ac.at_, .int .i64 ac.by_, .string ac.name, .slice bo bn bc, .int .i64 ac.p0, .int .i64 ac.p1, .int .i64 ac.p2, .int .i64 ac.p3, .int .i64 ac.p4, .int .i64 ac.p5, .int .i64 ac.kept, .int .i64 ac.torn, .int .u64 ac.scat] rfl HC.out Tryd.underlying71 rfl (by kernel_rfl) ?_)
        go_ret
        exact ⟨.inl rfl, G.out⟩
      · have t1 : ¬ (400 : Int) < ac.name.size := by omega
        by_cases g2 : 70000 < bn
        · have t2 : (70000 : Int) < bn := by omega
          go_wp2_with (refine wpl_load_row (.tmp 12) rfl rfl b (off + j * 16) #[.int .i64 ac.kind, .int .i64 ac.n, .int .i64 ac.i, .int .i64 ac.at_, .int .i64 ac.by_, .string ac.name, .slice bo bn bc, .int .i64 ac.p0, .int .i64 ac.p1, .int .i64 ac.p2, .int .i64 ac.p3, .int .i64 ac.p4, .int .i64 ac.p5, .int .i64 ac.kept, .int .i64 ac.torn, .int .u64 ac.scat] rfl HC.out Tryd.underlying71 rfl (by kernel_rfl) ?_)
          go_ret
          exact ⟨.inl rfl, G.out⟩
        · have t2 : ¬ (70000 : Int) < bn := by omega
          go_wp2_with (refine wpl_load_row (.tmp 12) rfl rfl b (off + j * 16) #[.int .i64 ac.kind, .int .i64 ac.n, .int .i64 ac.i, .int .i64 ac.at_, .int .i64 ac.by_, .string ac.name, .slice bo bn bc, .int .i64 ac.p0, .int .i64 ac.p1, .int .i64 ac.p2, .int .i64 ac.p3, .int .i64 ac.p4, .int .i64 ac.p5, .int .i64 ac.kept, .int .i64 ac.torn, .int .u64 ac.scat] rfl HC.out Tryd.underlying71 rfl (by kernel_rfl) ?_)
          go_roundw
          case rel => exact ⟨j + 1, by omega, by go_num, G.out, HS2.out ⟨by omega, by omega⟩⟩
          case measure => simp [intOf]; omega
    · obtain rfl : j = N := by omega
      have hla : l.take j = l := List.take_of_length_le (by have := HN.out; omega)
      rw [hla] at HS
      clear hla
      go_wp2
      go_ret
      exact ⟨.inr ⟨rfl, by have := HN.out; omega, HS.out⟩, HF.out⟩
end Go.Proofs.YtbohmnblegljkaaDoor
