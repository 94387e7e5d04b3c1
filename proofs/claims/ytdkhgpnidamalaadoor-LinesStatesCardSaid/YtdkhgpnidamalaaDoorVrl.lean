/-
  Layer 35: lines.Verdicts. (printed by genlst.py)
-/
import Derived.Test.YtdkhgpnidamalaaDoorMrk
import Derived.Test.YtdkhgpnidamalaaDoorBs0
import Derived.Test.YtdkhgpnidamalaaDoorHC
import Derived.Test.YtdkhgpnidamalaaDoorStr
namespace Go.Proofs.YtdkhgpnidamalaaDoor
open Go.RowKit Go.Bl
set_option linter.unusedVariables false
theorem wpl_strL {P : Program} {A : Nat → Prop} {w : World} {ops : Array Oper} {rest : List Oper} {o : Oper} {a : Go.Act} {Q : Exit → Go.Act → World → Prop} {src dst e : TypeId} {v : Value} {xs : List UInt8} (hs : P.underlying src = some (.slice e)) (he : P.underlying e = some (.int .u8)) (hd : P.underlying dst = some .string)
    (x : Operand) (ho : o.op = .convert src dst x) (hgd : o.guard = none) (hx : a.eval x = v) (hb : Bs A w v xs) (S : ByteArray) (hS : (⟨xs.toArray⟩ : ByteArray) = S) (h : wpList P ops Q rest (a.put o.dst (.string S)) w) : wpList P ops Q (o :: rest) a w :=
  wpl_val _ ho hgd (.string S) (run_strO hs he hd x ho hx hb S hS) h
theorem Tryd.infoByteV : (Tryd.prog.info? 5).map (fun i => (i.zero, i.size, i.bytes)) = some (some (.int .u8 0), 1, 1) := by kernel_rfl
set_option maxRecDepth 100000 in
set_option maxHeartbeats 8000000 in
theorem verdicts_line (w0 : World) (ia ea : Option Addr) (IN ic EN ec : Nat) (n : Int) (its : List ItP) (ens : List EntP) (hS : StA (fun _ => False) w0 (.slice ia IN ic) (.slice ea EN ec) its ens) (hE : ens.length = EN) (hEN : EN ≤ 60) :
    Calls Tryd.prog 14 #[.agg #[.slice ia IN ic, .slice ea EN ec], .int .i64 n] w0 fun r w' => r = .returned (.string (bA (verL n ens))) ∧ Fr [] w0 w' := by
  have HEN := Lib.hid hE
  have HS := Lib.hid hS
  have hA : At (w0.alloc (.cells #[.slice ia IN ic, .slice ea EN ec] 25)) w0.heap.size (.cells #[.slice ia IN ic, .slice ea EN ec] 25) := At.new rfl
  have c1 : (w0.alloc (.cells #[.slice ia IN ic, .slice ea EN ec] 25)).cell? ⟨w0.heap.size, 1, none⟩ = some (.slice ea EN ec) := hA.cell 1
  have HF0 := Lib.hid (show Fr [] w0 (w0.alloc (.cells #[.slice ia IN ic, .slice ea EN ec] 25)) from Fr.alloc _ _)
  clear hS hE hA
  go_enter Tryd.func14, Tryd.ntmps14
  go_wp2
  go_loopw [5, 11] (fun s i wr => ∃ k : Nat, k ≤ EN ∧ i = .int .i64 k ∧ Hid (OwnV 5 w0.heap.size wr s ((verL n (ens.take k)).map u8v)) ∧ Hid (Fr [] w0 wr)) (fun _ i _ => EN - (intOf i).toNat)
  case atStart => exact ⟨0, by omega, rfl, Lib.hid (OwnV.nil _ _ _), HF0⟩
  case round =>
    clear c1 HF0
    obtain ⟨k, hk, rfl, HO, HR⟩ := hrel
    by_cases hkN : k < EN
    · obtain ⟨x, hx⟩ : ∃ x, ens[k]? = some x := ⟨_, List.getElem?_eq_getElem (by have := HEN.out; omega)⟩
      obtain ⟨xb, xo, e, -, hrg⟩ := (HS.out.re.keep0 HR.out).range (by decide) k (entR x) (by rw [List.getElem?_map, hx]; rfl)
      subst e
      have HRG := Lib.hid hrg
      have HALL := Lib.hid (entR_all x)
      have hA : At (wr.alloc (.cells (entR x).toArray 40)) wr.heap.size (.cells (entR x).toArray 40) := At.new rfl
      have HFA := Lib.hid (HR.out.trans (Fr.alloc (S := []) wr (.cells (entR x).toArray 40)))
      have HUP := Lib.hid (verL_up (n := n) hx)
      have HLN := Lib.hid (show (verL n (ens.take k)).length ≤ 60 by have := verL_len n (ens.take k); rw [List.length_take] at this; omega)
      have HOK := Lib.hid (HS.out.we x (List.mem_of_getElem? hx))
      have d1 : (wr.alloc (.cells (entR x).toArray 40)).cell? ⟨wr.heap.size, 1, none⟩ = some (.int .i64 x.obj) := hA.cell 1
      have d5 : (wr.alloc (.cells (entR x).toArray 40)).cell? ⟨wr.heap.size, 5, none⟩ = some (.int .i64 x.verd) := hA.cell 5
      have HOA := Lib.hid (HO.out.keep0 (Fr.alloc (S := []) wr (.cells (entR x).toArray 40)))
      obtain ⟨VL, hVL⟩ : ∃ l, verL n (ens.take k) = l := ⟨_, rfl⟩
      rw [hVL] at HUP HLN HOA
      have hki : (k : Int) < EN := by omega
      clear hA hx hrg hVL HO
      by_cases ho : x.obj = n
      · have HV := Lib.hid (show verL n (ens.take (k + 1)) = VL ++ [markB x.verd] by rw [HUP.out, if_pos ho])
        have hq : (x.obj == n) = true := by simpa using ho
        clear ho
        go_wp2_with (first | (refine wpl_load_k (.tmp 13) rfl rfl xb (xo + k * 7) (entR x) rfl HRG.out Tryd.underlying40 rfl (by kernel_rfl) ?_) | (refine wpl_store_new (.tmp 7) (.tmp 14) rfl rfl (entR x).toArray rfl rfl (by kernel_rfl) rfl HALL.out ?_) | (go_at_call 23; fail))
        refine (mark_any x.verd _).mono ?_
        rintro r w2 ⟨rfl, h2⟩
        have f2 : Fr [] w2 (w2.alloc (.cells #[.int .u8 ((markB x.verd).toNat : Int)] 5)) := Fr.alloc _ _
        have HF2 := Lib.hid ((HFA.out.trans h2).trans f2)
        have HO2 := Lib.hid (HOA.out.keep0 (h2.trans f2))
        have HL := Lib.hid (show (w2.alloc (.cells #[.int .u8 ((markB x.verd).toNat : Int)] 5)).heap[w2.heap.size]? = some (.cells #[.int .u8 ((markB x.verd).toNat : Int)] 5 (0, 0)) from heap_alloc_at rfl)
        have hs2 : w0.heap.size ≤ (w2.alloc (.cells #[.int .u8 ((markB x.verd).toNat : Int)] 5)).heap.size := by have := HF2.out.size; omega
        clear h2 f2 HFA HOA d1 d5 hq
        go_wp2_with (at_builtin; refine wpl_append_1 Tryd.underlying61 Tryd.infoByteV rfl rfl (.tmp 19) (.tmp 23) rfl rfl rfl HL.out rfl HO2.out (by have := HLN.out; rw [List.length_map]; omega) (by have := HLN.out; rw [List.length_map]; unfold maxLen; omega) hs2 ?_)
        intro vq wq h4 h5
        have HO3 := Lib.hid (show OwnV 5 w0.heap.size wq vq ((verL n (ens.take (k + 1))).map u8v) by rw [HV.out, List.map_append]; exact h4)
        have HF3 := Lib.hid (show Fr [] w0 wq from OwnV.fr HO2.out HF2.out h5 (Nat.le_refl _))
        clear h4 h5 HO2 HF2 HL hs2 HV HLN
        go_wp2
        go_roundw
        case rel => exact ⟨k + 1, by omega, by go_num, HO3, HF3⟩
        case measure => simp [intOf]; omega
      · have HV := Lib.hid (show verL n (ens.take (k + 1)) = VL by rw [HUP.out, if_neg ho, List.append_nil])
        have hq : (x.obj == n) = false := by simpa using ho
        have HO3 := Lib.hid (show OwnV 5 w0.heap.size (wr.alloc (.cells (entR x).toArray 40)) _ ((verL n (ens.take (k + 1))).map u8v) by rw [HV.out]; exact HOA.out)
        clear ho HOA
        go_wp2_with (first | (refine wpl_load_k (.tmp 13) rfl rfl xb (xo + k * 7) (entR x) rfl HRG.out Tryd.underlying40 rfl (by kernel_rfl) ?_) | (refine wpl_store_new (.tmp 7) (.tmp 14) rfl rfl (entR x).toArray rfl rfl (by kernel_rfl) rfl HALL.out ?_))
        go_roundw
        case rel => exact ⟨k + 1, by omega, by go_num, HO3, HFA⟩
        case measure => simp [intOf]; omega
    · obtain rfl : EN = k := by omega
      have hki : ¬ (EN : Int) < EN := by omega
      have HOE := Lib.hid (show Bs (fun _ => False) wr _ (verL n ens) from by
        have h := HO.out
        rw [List.take_of_length_le (by rw [HEN.out]; exact Nat.le_refl _)] at h
        exact OwnB.bs (e := 5) (base := w0.heap.size) (by unfold OwnB; rw [← List.length_map (f := u8v)]; exact h) (by simp))
      have HRE := HR
      clear HO HR
      go_wp2_with (refine wpl_strL Tryd.underlying61 Tryd.underlying5 Tryd.underlying9 (.tmp 26) rfl rfl rfl HOE.out (bA (verL n ens)) rfl ?_)
      go_ret
      exact ⟨rfl, HRE.out⟩
end Go.Proofs.YtdkhgpnidamalaaDoor
