/-
  slices.Concat of lists of rows (out of the text on lists of bytes).
-/
import Derived.Test.YtfblhdomjnffcaaDoorBlk
namespace Go.Proofs.YtfblhdomjnffcaaDoor
open Go.RowKit Go.Bl
set_option linter.unusedVariables false

theorem wpl_append_zeros_vs {P : Program} {w : World} {ops : Array Oper} {rest : List Oper} {o : Oper} {a : Go.Act} {Q : Exit → Go.Act → World → Prop} {t tn e : TypeId} {kn : IntKind} {z : Value} {bytes : Nat}
    (ht : P.underlying t = some (.slice e)) (htn : P.underlying tn = some (.int kn)) (hinfo : (P.info? e).map (fun i => (i.zero, i.size, i.bytes)) = some (some z, 1, bytes)) (hzc : z.cells = #[z]) (hz1 : z.oneCell' = true) (hgd : o.guard = none) (s x : Operand)
    (ho : o.op = .call { callee := .builtin .append, args := #[s, x], argTypes := #[t, tn] })
    {base : Nat} {v : Value} {xs : List Value} {kq : IntKind} {k : Nat} {K : Int} (hs : a.eval s = v) (hx : a.eval x = .int kq K) (hK : K = k) (hown : OwnV e base w v xs)
    (hlen : xs.length + k ≤ maxLen ∧ (xs.length + k) * bytes ≤ 140737488355328) (hbase : base ≤ w.heap.size)
    (h : ∀ v' w', OwnV e base w' v' (xs ++ List.replicate k z) → w.grownBy w' v.ownBlock → wpList P ops Q rest (a.put o.dst v') w') : wpList P ops Q (o :: rest) a w := by
  obtain ⟨i, hi, hz, hsz, hby⟩ := info_bytes hinfo
  subst hK
  obtain ⟨v', w', hr, h2, h3⟩ := run_append_zeros_own (P := P) (w := w) base t tn o.type e i z kq kn ht htn hi hz hsz hzc hz1 v xs.length _ hown k hlen.1 (by rw [hby]; exact hlen.2) hbase
  refine wpList_plain hgd fun K hK => ?_
  unfold Oper.wp execOp
  simp only [ho, resolve, invoke, builtin, Sem.run_bind, Sem.run_pure, Result.andThen_ok, List.map_toArray, List.map_cons, List.map_nil, hs, hx, hr]
  refine hK _ _ (h v' w' ?_ h3)
  unfold OwnV
  rw [List.length_append, List.length_replicate]
  exact h2
/-- less of what is owned -/
theorem OwnV_cut {e : TypeId} {base : Nat} {w : World} {a : Option Addr} {n cap : Nat} {xs : List Value} (h : OwnV e base w (.slice a n cap) xs) (k : Nat) (hk : k ≤ xs.length) : OwnV e base w (.slice a k cap) (xs.take k) := by
  obtain ⟨h1, h2⟩ := h
  unfold OwnV
  rw [List.length_take, Nat.min_eq_left hk]
  refine ⟨by simp [hk], ?_⟩
  rcases h2 with ⟨h2, h3⟩ | ⟨g, cap', cur, h2, h3, h4, h5, h6, h7, h8⟩
  · cases h2
    have : k = 0 := by omega
    subst this
    exact .inl ⟨rfl, rfl⟩
  · cases h2
    refine .inr ⟨g, cap, cur, rfl, h3, h4, by omega, h6, h7, ?_⟩
    rw [← h8, List.take_take]
    congr 1
    omega

set_option maxRecDepth 100000 in
set_option maxHeartbeats 4000000 in
theorem growV_nil (w : World) (n : Nat) (hn : n ≤ 1000000) :
    Calls Tryd.prog 118 #[.slice none 0 0, .int .i64 n] w fun e w' => ∃ u, e = .returned u ∧ OwnV 22 w.heap.size w' u [] ∧ Fr [] w w' := by
  by_cases h0 : n = 0
  · subst h0
    go_enter Tryd.func118, Tryd.ntmps118
    go_wp2
    go_ret
    exact ⟨_, rfl, OwnV.nil _ _ _, Fr.refl _ _⟩
  · go_enter Tryd.func118, Tryd.ntmps118
    go_wp2_with (refine wpl_append_zeros_vs (kn := .i64) Tryd.underlying77 Tryd.underlying3 Tryd.infoBytes rfl rfl rfl (.tmp 20) (.tmp 21) rfl rfl rfl rfl (OwnV.nil _ w.heap.size _) ?hl ?hb ?_)
    case hl => simp [maxLen]; omega
    case hb => exact Nat.le_refl _
    intro v' w1 ho hg
    have HF := Lib.hid (show Fr [] w w1 from Fr.own (Fr.refl [] w) hg (OwnV.nil 22 w.heap.size w) (Nat.le_refl _))
    obtain ⟨a, cap, rfl, hc, hm, -⟩ := ho.vs (A := fun _ => False) (by simp)
    rw [List.length_replicate] at ho hc ⊢
    have HO := Lib.hid (OwnV_cut ho 0 (Nat.zero_le _))
    unfold maxLen at hm
    clear ho hg
    go_wp2
    go_ret
    exact ⟨_, rfl, HO.out, HF.out⟩

/-- lists of bytes that can be read -/
def RdLV (A : Nat → Prop) (w : World) (v : Value) (ls : List (Value × List Value)) : Prop := Vs A w v (ls.map (·.1)) ∧ ∀ x ∈ ls, Vs A w x.1 x.2 ∧ ∀ u ∈ x.2, u.oneCell' = true
def catV (ls : List (Value × List Value)) : List Value := ls.flatMap (·.2)
theorem catV_take (ls : List (Value × List Value)) (j : Nat) (x : Value × List Value) (h : ls[j]? = some x) : catV (ls.take (j + 1)) = catV (ls.take j) ++ x.2 := by
  unfold catV
  rw [List.take_add_one, h]
  simp
theorem catV_le (ls : List (Value × List Value)) (j : Nat) : (catV (ls.take j)).length ≤ (catV ls).length := by
  have : catV ls = catV (ls.take j) ++ catV (ls.drop j) := by
    unfold catV
    rw [← List.flatMap_append, List.take_append_drop]
  rw [this]
  simp

set_option maxRecDepth 100000 in
set_option maxHeartbeats 4000000 in
theorem concatV_any (A : Nat → Prop) (w : World) (v : Value) (ls : List (Value × List Value)) (hr : RdLV A w v ls) (hl : ls.length ≤ 100) (hn : (catV ls).length ≤ 100000) :
    Calls Tryd.prog 105 #[v] w fun e w' => ∃ u, e = .returned u ∧ OwnV 22 w.heap.size w' u (catV ls) ∧ Fr [] w w' := by
  have HR := Lib.hid hr
  obtain ⟨a, cap, rfl, h2, h3, h4⟩ := id hr.1
  simp only [List.length_map] at h2 HR ⊢
  obtain ⟨N, hN⟩ : ∃ N, ls.length = N := ⟨_, rfl⟩
  rw [hN] at h2 hl HR ⊢
  have HN := Lib.hid hN
  have H4 := Lib.hid h4
  have HL := Lib.hid (catV_le ls)
  obtain ⟨S, hS⟩ : ∃ S, (catV ls).length = S := ⟨_, rfl⟩
  have HS := Lib.hid hS
  rw [hS] at hn
  clear hr hN h4 hS
  unfold maxLen at h3
  have HX := Lib.hid (show ∀ j, j < N → ∃ x b off, ls[j]? = some x ∧ a = some ⟨b, off, none⟩ ∧ w.cell? ⟨b, off + j, none⟩ = some x.1 ∧ (Vs A w x.1 x.2 ∧ ∀ u ∈ x.2, u.oneCell' = true) from fun j hj => by
    obtain ⟨x, hx⟩ : ∃ x, ls[j]? = some x := ⟨_, List.getElem?_eq_getElem (by have := HN.out; omega)⟩
    obtain ⟨b, off, rfl, -, hc⟩ := H4.out.some_of (by have := HN.out; simp; omega)
    refine ⟨x, b, off, hx, rfl, ?_, HR.out.2 x (List.mem_of_getElem? hx)⟩
    rw [hc j (by have := HN.out; simp; omega)]
    simp [hx])
  clear H4
  go_enter Tryd.func105, Tryd.ntmps105
  go_wp2
  go_loopw [3, 11] (fun s i wr => ∃ j : Nat, j ≤ N ∧ i = .int .i64 j ∧ s = .int .i64 ((catV (ls.take j)).length : Nat) ∧ Hid (wr = w)) (fun _ i _ => N - (intOf i).toNat)
  case atStart => exact ⟨0, by omega, rfl, by simp [catV], rfl⟩
  case round =>
    obtain ⟨j, hj, rfl, rfl, hw⟩ := hrel
    by_cases hjn : j < N
    · obtain ⟨x, b, off, hx, rfl, hc, hb, -⟩ := HX.out j hjn
      have hct := catV_take ls j x hx
      have hle := HL.out (j + 1)
      rw [hct, List.length_append, HS.out] at hle
      have HCT := Lib.hid hct
      obtain ⟨ba, bc, hxe, -⟩ := id hb
      obtain ⟨xv, xs⟩ := x
      simp only at hxe hb hle hc
      subst hxe
      obtain ⟨L, hL⟩ : ∃ L, (catV (ls.take j)).length = L := ⟨_, rfl⟩
      obtain ⟨M, hM⟩ : ∃ M, xs.length = M := ⟨_, rfl⟩
      rw [hL, hM] at hle
      rw [hL]
      rw [hM] at hc
      have HLM := Lib.hid (And.intro hL hM)
      have hw' := hw.out.symm
      subst hw'
      clear hct hx hb hL hM hw
      go_wp2
      go_roundw
      case rel => exact ⟨j + 1, by omega, by go_num, by rw [HCT.out, List.length_append, HLM.out.1, HLM.out.2]; go_num, by first | exact rfl | exact trivial⟩
      case measure => simp [intOf]; omega
    · obtain rfl : N = j := by omega
      have hta : ls.take N = ls := List.take_of_length_le (by have := HN.out; omega)
      rw [hta, HS.out]
      have hw' := hw.out.symm
      subst hw'
      clear hta hw
      go_wp2_with fail
      refine (growV_nil _ S (by omega)).mono ?_
      rintro e w1 ⟨u, rfl, ho, hf⟩
      have HO := Lib.hid ho
      have HF := Lib.hid hf
      clear ho hf
      go_wp2
      go_loopw [6, 27] (fun o i wr => ∃ j : Nat, j ≤ N ∧ i = .int .i64 j ∧ Hid (OwnV 22 w.heap.size wr o (catV (ls.take j))) ∧ Hid (Fr [] w wr)) (fun _ i _ => N - (intOf i).toNat)
      case atStart => exact ⟨0, by omega, rfl, by simp only [catV, List.take_zero, List.flatMap_nil]; exact HO, HF⟩
      case round =>
        obtain ⟨j, hj, rfl, HO, HF⟩ := hrel
        by_cases hjn : j < N
        · obtain ⟨x, b, off, hx, rfl, hc, hb, hone⟩ := HX.out j hjn
          have HONE := Lib.hid hone
          clear hone
          have hct := catV_take ls j x hx
          have hle := HL.out (j + 1)
          rw [hct, List.length_append, HS.out] at hle
          have HCT := Lib.hid hct
          obtain ⟨ba, bc, hxe, -⟩ := id hb
          obtain ⟨xv, xs⟩ := x
          simp only at hxe hb hle hc HONE
          subst hxe
          have BX := Lib.hid (hb.keep HF.out (by simp))
          have hsz := HF.out.size
          obtain ⟨M, hM⟩ : ∃ M, xs.length = M := ⟨_, rfl⟩
          have hc2 : wr.cell? ⟨b, off + j, none⟩ = some (.slice ba M bc) := by rw [← hM]; exact cell_mono HF.out hc
          rw [hM] at BX
          have HM := Lib.hid hM
          clear hct hx hb hM hc
          go_wp2_with (at_builtin; refine wpl_append_vs (ys := xs) (base := w.heap.size) Tryd.underlying77 Tryd.infoBytes rfl rfl (.tmp 31) (.tmp 32) rfl rfl rfl HO.out BX.out HONE.out (by simp only [maxLen]; omega) (by omega) hsz ?_)
          intro v' w2 h5 h6
          have HO3 := Lib.hid (show OwnV 22 w.heap.size w2 v' (catV (ls.take (j + 1))) by rw [HCT.out]; exact h5)
          have HF3 := Lib.hid (show Fr [] w w2 from Fr.own HF.out h6 HO.out (Nat.le_refl _))
          clear h5 h6 HO HF
          go_wp2
          go_roundw
          case rel => exact ⟨j + 1, by omega, by go_num, HO3.out, HF3.out⟩
          case measure => simp [intOf]; omega
        · obtain rfl : j = N := by omega
          have hta : ls.take j = ls := List.take_of_length_le (by have := HN.out; omega)
          rw [hta] at HO
          clear hta
          go_wp2
          go_ret
          exact ⟨_, rfl, HO.out, HF.out⟩
end Go.Proofs.YtfblhdomjnffcaaDoor
