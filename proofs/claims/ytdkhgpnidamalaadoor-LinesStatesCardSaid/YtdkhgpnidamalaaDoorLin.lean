/-
  Layer 35: lines.line: words and numbers side by side.
-/
import Derived.Test.YtdkhgpnidamalaaDoorHA
import Derived.Test.YtdkhgpnidamalaaDoorOwb
import Derived.Test.YtdkhgpnidamalaaDoorShl
import Derived.Lib.SmallJoins
import Derived.Lib.AppendIntMem
namespace Go.Proofs.YtdkhgpnidamalaaDoor
open Go.RowKit Go.Bl
set_option linter.unusedVariables false
/-- a part of a line -/
inductive LP where
  | num (n : Int)
  | txt (l : List UInt8)
def lpV : LP → Value
  | .num n => .iface 3 (.int .i64 n)
  | .txt l => .iface 9 (.string (bA l))
def lpT : LP → List UInt8
  | .num n => Lib.itoa n
  | .txt l => qwd l
def lpOk : LP → Prop
  | .num n => -9223372036854775808 ≤ n ∧ n ≤ 9223372036854775807
  | .txt l => l.length ≤ 100000
instance (p : LP) : Decidable (lpOk p) := by
  cases p <;> (unfold lpOk; infer_instance)
def lineL (ps : List LP) : List UInt8 := Lib.join (ps.map lpT) [32]
theorem lpT_len {p : LP} (h : lpOk p) : (lpT p).length ≤ 100000 := by
  cases p with
  | num n => have := itoa_len n h.1 h.2; simp only [lpT]; omega
  | txt l => exact qwd_len h (by omega)
def Tab10 (w : World) : Prop := Lib.TabIs Tryd.prog w "internal/strconv.uint64pow10" .u64 Lib.pow10Tab
theorem Tab10.keep {w w' : World} (h : Tab10 w) (hf : Fr [] w w') : Tab10 w' := Go.Joins.tab_stays (g := 1) (by kernel_rfl) h hf.below (Nat.le_refl _)
theorem fr_below {w w' : World} (h : Below w.heap.size w w') : Fr [] w w' := ⟨h.os, h.tape, h.output, h.size, fun k hk _ => h.block k hk⟩
theorem Tryd.infoString : (Tryd.prog.info? 9).map (fun i => (i.zero, i.size, i.bytes)) = some (some (.string ⟨#[]⟩), 1, 16) := by kernel_rfl
theorem Tryd.isInt (n : Int) (x : TypeId) (w : World) : (Instr.typeAssert (.iface 3 (.int .i64 n)) x 3 true).run Tryd.prog w = .ok (.tuple #[.int .i64 n, .bool true]) w := by kernel_rfl
theorem Tryd.noInt (v : Value) (x : TypeId) (w : World) : (Instr.typeAssert (.iface 9 v) x 3 true).run Tryd.prog w = .ok (.tuple #[.int .i64 0, .bool false]) w := by kernel_rfl
theorem Tryd.isStr (v : Value) (x : TypeId) (w : World) : (Instr.typeAssert (.iface 9 v) x 9 true).run Tryd.prog w = .ok (.tuple #[v, .bool true]) w := by kernel_rfl
set_option maxRecDepth 100000 in
set_option maxHeartbeats 8000000 in
theorem line_any (w : World) (v : Value) (ps : List LP) (hT : Tab10 w) (hv : Vs (fun _ => False) w v (ps.map lpV)) (h0 : 0 < ps.length) (hn : ps.length ≤ 1000) (hok : ∀ p ∈ ps, lpOk p) :
    Calls Tryd.prog 16 #[v] w fun e w' => e = .returned (.string (bA (lineL ps))) ∧ Fr [] w w' := by
  have HT := Lib.hid hT
  have HV := Lib.hid hv
  have HOK := Lib.hid hok
  obtain ⟨va, vc, e, v2, v3, v4⟩ := id hv
  rw [List.length_map] at e v2
  subst e
  obtain ⟨vb, vo, e, -, hcell⟩ := v4.some_of (by rw [List.length_map]; exact h0)
  subst e
  obtain ⟨N, hN⟩ : ∃ N, ps.length = N := ⟨_, rfl⟩
  have HN := Lib.hid hN
  rw [hN] at h0 hn v2 HV ⊢
  unfold maxLen at v3
  have h00 := Lib.hid (OwnV.nil 9 w.heap.size w)
  clear hT hv hok v4 hcell hN
  go_enter Tryd.func16, Tryd.ntmps16
  go_wp2
  go_loopw [3, 10] (fun o i wr => ∃ k : Nat, k ≤ N ∧ i = .int .i64 k ∧ Hid (OwnV 9 w.heap.size wr o ((ps.take k).map fun p => Value.string (bA (lpT p)))) ∧ Hid (Fr [] w wr)) (fun _ i _ => N - (intOf i).toNat)
  case atStart => exact ⟨0, by omega, rfl, h00, Fr.refl _ _⟩
  case round =>
    clear h00
    obtain ⟨k, hk, rfl, HO, HF⟩ := hrel
    by_cases hkN : k < N
    · obtain ⟨p, hp⟩ : ∃ p, ps[k]? = some p := ⟨_, List.getElem?_eq_getElem (by have := HN.out; omega)⟩
      have hci : wr.cell? ⟨vb, vo + k, none⟩ = some (lpV p) := by
        obtain ⟨_, _, e, -, -, h4⟩ := HV.out.keep HF.out (by simp)
        cases e
        obtain ⟨b2, o2, e, -, hc⟩ := h4.some_of (by rw [List.length_map, HN.out]; omega)
        cases e
        rw [hc k (by rw [List.length_map, HN.out]; exact hkN), List.getElem?_map, hp]
        rfl
      have HOKP := Lib.hid (HOK.out p (List.mem_of_getElem? hp))
      have HTK := Lib.hid (show (ps.take (k + 1)).map (fun p => Value.string (bA (lpT p))) = (ps.take k).map (fun p => Value.string (bA (lpT p))) ++ [.string (bA (lpT p))] by
        rw [List.take_add_one, hp]
        simp)
      have HLN := Lib.hid (show ((ps.take k).map fun p => Value.string (bA (lpT p))).length ≤ 1000 by rw [List.length_map, List.length_take]; omega)
      obtain ⟨XS, hXS⟩ : ∃ XS, ((ps.take k).map fun p => Value.string (bA (lpT p))) = XS := ⟨_, rfl⟩
      rw [hXS] at HO HTK HLN
      clear hXS
      have hki : (k : Int) < N := by omega
      have HTB := Lib.hid (HT.out.keep HF.out)
      clear hp
      cases p with
      | num n =>
        simp only [lpV] at hci
        obtain ⟨n1, n2⟩ := HOKP.out
        have ha1 := Tryd.isInt n
        go_wp2_with (go_at_call 24; fail)
        refine (Tryd.strconv_Itoa n n1 n2 wr HTB.out).mono ?_
        rintro e w1 ⟨rfl, kd, os, hw1⟩
        have hf1 : Fr [] wr w1 := by rw [hw1]; exact fr_below (Lib.below_grow _ _ (Nat.le_refl _) _ _)
        have HF1 := Lib.hid hf1
        obtain ⟨W1, hW1⟩ : ∃ W1, w1.heap.size = W1 := ⟨_, rfl⟩
        have f2 : Fr [] w1 (w1.alloc (.cells #[.string ⟨(Lib.itoa n).toArray⟩] 9)) := Fr.alloc _ _
        have HL := Lib.hid (show (w1.alloc (.cells #[.string ⟨(Lib.itoa n).toArray⟩] 9)).heap[W1]? = some (.cells #[.string ⟨(Lib.itoa n).toArray⟩] 9 (0, 0)) from heap_alloc_at hW1.symm)
        have HF2 := Lib.hid (HF1.out.trans f2)
        have HO2 := Lib.hid (HO.out.keep0 HF2.out)
        have hs2 : w.heap.size ≤ (w1.alloc (.cells #[.string ⟨(Lib.itoa n).toArray⟩] 9)).heap.size := by have := HF.out.size; have := HF2.out.size; omega
        clear hw1 hf1 f2 hci ha1
        go_wp2_with (at_builtin; refine wpl_append_1 Tryd.underlying50 Tryd.infoString rfl rfl (.tmp 18) (.tmp 21) rfl rfl rfl HL.out rfl HO2.out (by have := HLN.out; omega) (by have := HLN.out; unfold maxLen; omega) hs2 ?_)
        intro v3 w3 h4 h5
        have HO3 := Lib.hid (show OwnV 9 w.heap.size w3 v3 ((ps.take (k + 1)).map fun p => Value.string (bA (lpT p))) by rw [HTK.out]; exact h4)
        have HF3 := Lib.hid (show Fr [] w w3 from OwnV.fr HO2.out (HF.out.trans HF2.out) h5 (Nat.le_refl _))
        clear h4 h5 HO HF HO2 HF2 HF1 HL HTB
        go_wp2
        go_roundw
        case rel => exact ⟨k + 1, by omega, by go_num, HO3, HF3⟩
        case measure => simp [intOf]; omega
      | txt l =>
        simp only [lpV] at hci
        have ha1 := Tryd.noInt (.string (bA l))
        have ha2 := Tryd.isStr (.string (bA l))
        obtain ⟨W1, hW1⟩ : ∃ W1, wr.heap.size = W1 := ⟨_, rfl⟩
        by_cases hl : l = []
        · have hemp : (bA l).toList.isEmpty = true := by rw [hl]; exact bA_empty
          have HQ := Lib.hid (show bA (lpT (.txt l)) = ⟨#[63]⟩ by simp only [lpT, qwd, if_pos hl]; rfl)
          have f2 : Fr [] wr (wr.alloc (.cells #[.string ⟨#[63]⟩] 9)) := Fr.alloc _ _
          have HL := Lib.hid (show (wr.alloc (.cells #[.string ⟨#[63]⟩] 9)).heap[W1]? = some (.cells #[.string ⟨#[63]⟩] 9 (0, 0)) from heap_alloc_at hW1.symm)
          have HF2 := Lib.hid f2
          have HO2 := Lib.hid (HO.out.keep0 HF2.out)
          have hs2 : w.heap.size ≤ (wr.alloc (.cells #[.string ⟨#[63]⟩] 9)).heap.size := by have := HF.out.size; have := HF2.out.size; omega
          clear f2 hl
          go_wp2_with (at_builtin; refine wpl_append_1 Tryd.underlying50 Tryd.infoString rfl rfl (.tmp 28) (.tmp 30) rfl rfl rfl HL.out rfl HO2.out (by have := HLN.out; omega) (by have := HLN.out; unfold maxLen; omega) hs2 ?_)
          intro v3 w3 h4 h5
          have HO3 := Lib.hid (show OwnV 9 w.heap.size w3 v3 ((ps.take (k + 1)).map fun p => Value.string (bA (lpT p))) by rw [HTK.out, HQ.out]; exact h4)
          have HF3 := Lib.hid (show Fr [] w w3 from OwnV.fr HO2.out (HF.out.trans HF2.out) h5 (Nat.le_refl _))
          clear h4 h5 HO HF HO2 HF2 HL HTB hci ha1 ha2 hemp
          go_wp2
          go_roundw
          case rel => exact ⟨k + 1, by omega, by go_num, HO3, HF3⟩
          case measure => simp [intOf]; omega
        · have hemp : (bA l).toList.isEmpty = false := bA_full hl
          have HQ := Lib.hid (show lpT (.txt l) = l by simp only [lpT, qwd, if_neg hl])
          have f2 : Fr [] wr (wr.alloc (.cells #[.string (bA l)] 9)) := Fr.alloc _ _
          have HL := Lib.hid (show (wr.alloc (.cells #[.string (bA l)] 9)).heap[W1]? = some (.cells #[.string (bA l)] 9 (0, 0)) from heap_alloc_at hW1.symm)
          have HF2 := Lib.hid f2
          have HO2 := Lib.hid (HO.out.keep0 HF2.out)
          have hs2 : w.heap.size ≤ (wr.alloc (.cells #[.string (bA l)] 9)).heap.size := by have := HF.out.size; have := HF2.out.size; omega
          clear f2 hl
          go_wp2_with (at_builtin; refine wpl_append_1 Tryd.underlying50 Tryd.infoString rfl rfl (.tmp 28) (.tmp 30) rfl rfl rfl HL.out rfl HO2.out (by have := HLN.out; omega) (by have := HLN.out; unfold maxLen; omega) hs2 ?_)
          intro v3 w3 h4 h5
          have HO3 := Lib.hid (show OwnV 9 w.heap.size w3 v3 ((ps.take (k + 1)).map fun p => Value.string (bA (lpT p))) by rw [HTK.out, HQ.out]; exact h4)
          have HF3 := Lib.hid (show Fr [] w w3 from OwnV.fr HO2.out (HF.out.trans HF2.out) h5 (Nat.le_refl _))
          clear h4 h5 HO HF HO2 HF2 HL HTB hci ha1 ha2 hemp
          go_wp2
          go_roundw
          case rel => exact ⟨k + 1, by omega, by go_num, HO3, HF3⟩
          case measure => simp [intOf]; omega
    · obtain rfl : k = N := by omega
      have hki : ¬ (k : Int) < k := by omega
      have hown := HO.out
      rw [List.take_of_length_le (by rw [HN.out]; exact Nat.le_refl _)] at hown
      clear HO
      have hpl : (ps.map fun p => Value.string (bA (lpT p))).length = k := by rw [List.length_map, HN.out]
      rcases id hown.2 with ⟨-, he⟩ | ⟨g, cap, cur, rfl, -, hh, hcap, -⟩
      · omega
      rw [hpl] at hown hcap ⊢
      have HO := Lib.hid hown
      have HG := Lib.hid (show g < wr.heap.size from lt_of_heap hh)
      have HJ := Lib.hid (show ∀ (j : Nat) x, (ps.map fun p => bA (lpT p))[j]? = some x → wr.cell? ⟨g, 0 + j, none⟩ = some (.string x) from fun j x hx => by
        rw [Nat.zero_add]
        refine own_cellV HO.out ?_
        rw [List.getElem?_map] at hx ⊢
        cases hpj : ps[j]? with
        | none => rw [hpj] at hx; cases hx
        | some p => rw [hpj] at hx; cases hx; rfl)
      have HLE := Lib.hid (show (ps.map fun p => bA (lpT p)).length = k by rw [List.length_map, HN.out])
      have HMM := Lib.hid (show (ps.map fun p => bA (lpT p)).map (·.data.toList) = ps.map lpT by
        rw [List.map_map]
        exact List.map_congr_left fun p _ => bA_toList _)
      have HJL := Lib.hid (show (Lib.join (ps.map lpT) [32]).length ≤ 140737488355328 by
        have := join_len [32] 100000 (ps.map lpT) (fun x hx => by
          obtain ⟨p, hp, rfl⟩ := List.mem_map.1 hx
          exact lpT_len (HOK.out p hp))
        rw [List.length_map, HN.out] at this
        simp at this
        omega)
      clear hown hh hpl
      go_wp2_with (go_at_call 25; fail)
      have hcall := Tryd.strings_Join g 0 cap (ps.map fun p => bA (lpT p)) ⟨#[32]⟩ wr HJ.out HG.out (by rw [HLE.out]; omega) (by rw [HLE.out]; exact hcap) (by rw [HMM.out]; exact HJL.out)
      rw [HLE.out, HMM.out] at hcall
      refine hcall.mono ?_
      clear hcall
      rintro e w1 ⟨rfl, hb⟩
      have HF1 := Lib.hid (HF.out.trans (fr_below hb))
      clear hb
      go_wp2
      go_ret
      exact ⟨rfl, HF1.out⟩
end Go.Proofs.YtdkhgpnidamalaaDoor
