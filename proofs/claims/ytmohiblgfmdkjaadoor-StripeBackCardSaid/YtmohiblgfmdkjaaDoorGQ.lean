/-
  Layer 3: code.Encode of any data, and code.Parity of data of a wrong size.
  Layer 3: code.Of: a word's syndromes.
-/
import Derived.Test.YtmohiblgfmdkjaaDoorGI
import Derived.Test.YtmohiblgfmdkjaaDoorJM
import Derived.Test.YtmohiblgfmdkjaaDoorGF
import Derived.Test.YtmohiblgfmdkjaaDoorJP
import Derived.BigQuiet
import Derived.Test.YtmohiblgfmdkjaaDoorJN
import Derived.Test.YtmohiblgfmdkjaaDoorJQ
import Derived.Test.YtmohiblgfmdkjaaDoorGB
import Derived.Deep.MidRow
namespace Go.Proofs.YtmohiblgfmdkjaaDoor
open Go.RowKit Go.Bl
set_option linter.unusedVariables false
theorem sized_no (w : World) (n : Nat) (h : n < 1 ∨ 223 < n) : Calls Tryd.prog 62 #[.int .i64 n] w fun e w' => e = .returned (.bool false) ∧ Fr [] w w' := by
  rcases h with h | h
  · have h1 : ¬ (0 : Int) < (n : Int) := by omega
    have h2 : ¬ (1 : Int) ≤ (n : Int) := by omega
    go_enter Tryd.func62, Tryd.ntmps62
    go_wp2
    go_ret
    exact ⟨rfl, Fr.refl _ _⟩
  · have h1 : (0 : Int) < (n : Int) := by omega
    have h2 : (1 : Int) ≤ (n : Int) := by omega
    go_enter Tryd.func62, Tryd.ntmps62
    go_wp2
    go_ret
    refine ⟨?_, Fr.refl _ _⟩
    show Ending.returned (.bool (decide ((n : Int) ≤ 223))) = _
    rw [decide_eq_false (by omega)]
set_option maxRecDepth 100000 in
set_option maxHeartbeats 1000000 in
theorem par_bad (L : List Nat) (E : Nat → Addr) (B : Nat) (w : World) (v : Value) (ds : List UInt8) (hE : Errs L E B w) (m8 : 8 ∈ L) (hb : Bs (fun _ => False) w v ds) (h : ds.length < 1 ∨ 223 < ds.length) :
    Calls Tryd.prog 52 #[v] w fun e w' => e = .returned (.tuple #[.slice none 0 0, errv E 8]) ∧ Fr [] w w' := by
  have x8 : errv E 8 = .iface 261 (.pointer (some (E 8))) := errv_pos E 8 (by decide)
  have X8 := Lib.hid x8
  have HE := Lib.hid hE
  obtain ⟨a, cap, rfl, h2, h3, -⟩ := id hb
  unfold maxLen at h3
  obtain ⟨N, hN⟩ : ∃ N, ds.length = N := ⟨_, rfl⟩
  rw [hN] at h h2 ⊢
  have HSZ := Lib.hid (fun w => sized_no w N h)
  clear hN hE h x8 hb
  go_enter Tryd.func52, Tryd.ntmps52
  go_wp2_with (go_at_call 62; fail)
  refine (HSZ.out _).mono ?_
  rintro e w1 ⟨rfl, hf⟩
  have HF := Lib.hid hf
  have hcc := (HE.out.keep0 hf).cell 8 m8
  simp only [gOf, List.getD_eq_getElem?_getD, List.getElem?_cons_zero, List.getElem?_cons_succ, Option.getD_some] at hcc
  clear hf
  go_wp2
  go_quiet (fail)
  go_wp2
  go_ret2
  exact ⟨by rw [X8.out]; rfl, HF.out.trans (Fr.of_heap rfl rfl rfl rfl)⟩
end Go.Proofs.YtmohiblgfmdkjaaDoor
namespace Go.Proofs.YtmohiblgfmdkjaaDoor
open Go.RowKit Go.Bl
set_option linter.unusedVariables false
set_option maxRecDepth 100000 in
set_option maxHeartbeats 1000000 in
theorem texp_any (w : World) (b : Nat) (hT : At w b (.cells tabF 171)) (j : Nat) (hj : j < 255) : Calls Tryd.prog 82 #[.pointer (some ⟨b, 0, none⟩), .int .i64 j] w fun e w' => e = .returned (.int .u8 ((gexp j).toNat : Int)) ∧ Fr [] w w' := by
  have hr := hT.cell j
  rw [tabF_exp j (by omega)] at hr
  unfold u8v at hr
  obtain ⟨g, hg⟩ : ∃ g, (gexp j).toNat = g := ⟨_, rfl⟩
  rw [hg] at hr ⊢
  have hr2 : w.cell? ⟨b, j % 255, none⟩ = some (.int .u8 (g : Int)) := by rw [Nat.mod_eq_of_lt hj]; exact hr
  clear hg hr
  go_enter Tryd.func82, Tryd.ntmps82
  go_wp2
  go_ret
  exact ⟨rfl, Fr.refl _ _⟩
/-- the syndromes that are known behind j rounds, and k symbols of the next -/
def synK (w : List UInt8) (j : Nat) : List UInt8 := (List.range 32).map fun i => if i < j then hval w (gexp i) else 0
theorem synK_len (w : List UInt8) (j : Nat) : (synK w j).length = 32 := by simp [synK]
theorem synK_get (w : List UInt8) (j i : Nat) (h : i < 32) : (synK w j)[i]? = some (if i < j then hval w (gexp i) else 0) := by
  unfold synK; rw [List.getElem?_map, List.getElem?_range h]; rfl
theorem synK_end (w : List UInt8) : synK w 32 = synL w := by
  unfold synK synL
  apply List.map_congr_left
  intro i hi
  rw [if_pos (List.mem_range.1 hi)]
theorem synK_zero (w : List UInt8) : synK w 0 = List.replicate 32 0 := by
  apply List.ext_getElem?
  intro i
  by_cases h : i < 32
  · rw [synK_get _ _ _ h, List.getElem?_replicate, if_pos h]; rfl
  · rw [List.getElem?_eq_none (by rw [synK_len]; omega), List.getElem?_eq_none (by simp; omega)]
theorem synK_start (w : List UInt8) (j : Nat) (h : j < 32) : (synK w j).set j 0 = synK w j := by
  apply List.ext_getElem?
  intro i
  rw [List.getElem?_set]
  by_cases e : j = i
  · subst e; rw [if_pos rfl, if_pos (by rw [synK_len]; exact h), synK_get _ _ _ h, if_neg (by omega)]
  · rw [if_neg e]
theorem synK_step (w : List UInt8) (j : Nat) (h : j < 32) : (synK w j).set j (hval w (gexp j)) = synK w (j + 1) := by
  apply List.ext_getElem?
  intro i
  rw [List.getElem?_set]
  by_cases e : j = i
  · subst e; rw [if_pos rfl, if_pos (by rw [synK_len]; exact h), synK_get _ _ _ h, if_pos (by omega)]
  · rw [if_neg e]
    by_cases hi : i < 32
    · rw [synK_get _ _ _ hi, synK_get _ _ _ hi]
      by_cases h2 : i < j
      · rw [if_pos h2, if_pos (by omega)]
      · rw [if_neg h2, if_neg (by omega)]
    · rw [List.getElem?_eq_none (by rw [synK_len]; omega), List.getElem?_eq_none (by rw [synK_len]; omega)]
theorem res_cell_row {fn : Func} {p u : Tmp} {ty te : TypeId} {d : TypeDesc} {fz : Nat × Nat} (h : fn.results = #[.cell p ty, .tmp u]) (tmps : Array Value) (w : World) (b : Nat) (c : Array Value) (hp : tmps.getD p undef = .pointer (some ⟨b, 0, none⟩)) (hc : At w b (.cells c te fz))
    (hu : Tryd.prog.underlying ty = some d) (hd : d.isRow = true) (hi : (Tryd.prog.info? ty).map (·.size) = some c.size) : (results fn tmps).run Tryd.prog w = .ok (.tuple #[.agg c, tmps.getD u undef]) w := by
  rw [results_cell_tmp h, hp]
  simp only [asAddr, Sem.run_pure, Result.andThen_ok]
  have hr : w.rangeAt b 0 c.toList := fun j v hj => by rw [Nat.zero_add, hc.cell]; simpa using hj
  rw [run_loadVar_mid w b 0 ty c.toList d hr hu hd (by simpa using hi)]
  rfl
theorem tmul_i (w : World) (b : Nat) (hT : At w b (.cells tabF 171)) (x y : UInt8) : Calls Tryd.prog 65 #[.pointer (some ⟨b, 0, none⟩), .int .u8 (x.toNat : Int), .int .u8 (y.toNat : Int)] w fun e w' => e = .returned (.int .u8 ((gmul x y).toNat : Int)) ∧ Fr [] w w' := tmul_any w b hT x y
theorem cells_set (l : List UInt8) (j : Nat) (x : UInt8) : ((l.map u8v).toArray).setIfInBounds j (.int .u8 (x.toNat : Int)) = ((l.set j x).map u8v).toArray := by
  rw [List.map_set]; simp [u8v]
theorem cells_one (l : List UInt8) : ((l.map u8v).toArray).all (·.oneCell') = true := by
  rw [Array.all_eq_true']
  intro v hv
  have hv' : v ∈ l.map u8v := by simpa using hv
  exact u8v_one l v hv'
set_option maxRecDepth 100000 in
set_option maxHeartbeats 4000000 in
theorem of_any (w : World) (v : Value) (ws : List UInt8) (hb : Bs (fun _ => False) w v ws) (h1 : 33 ≤ ws.length) (h2 : ws.length ≤ 255) :
    Calls Tryd.prog 67 #[v] w fun e w' => e = .returned (.tuple #[.agg ((synL ws).map u8v).toArray, .nilIface]) ∧ Fr [] w w' := by
  have HB := Lib.hid hb
  obtain ⟨a, cap, rfl, b2, b3, -⟩ := id hb
  unfold maxLen at b3
  obtain ⟨N, hN⟩ : ∃ N, ws.length = N := ⟨_, rfl⟩
  have HN := Lib.hid hN
  rw [hN] at HB b2 h1 h2 ⊢
  have hwr : IntKind.i64.wrap ((N : Int) - 32) = ((N - 32 : Nat) : Int) := by rw [IntKind.wrap_i64]; omega
  have HSZ := Lib.hid (fun w => sized_ok w (N - 32) (by omega) (by omega))
  clear hN hb
  have hz : (#[.int .u8 0, .int .u8 0, .int .u8 0, .int .u8 0, .int .u8 0, .int .u8 0, .int .u8 0, .int .u8 0, .int .u8 0, .int .u8 0, .int .u8 0, .int .u8 0, .int .u8 0, .int .u8 0, .int .u8 0, .int .u8 0, .int .u8 0, .int .u8 0, .int .u8 0, .int .u8 0, .int .u8 0, .int .u8 0, .int .u8 0, .int .u8 0, .int .u8 0, .int .u8 0, .int .u8 0, .int .u8 0, .int .u8 0, .int .u8 0, .int .u8 0, .int .u8 0] : Array Value) = ((synK ws 0).map u8v).toArray := by rw [synK_zero]; rfl
  have HR0 := Lib.hid (show At ((w.alloc (.cells #[.int .u8 0, .int .u8 0, .int .u8 0, .int .u8 0, .int .u8 0, .int .u8 0, .int .u8 0, .int .u8 0, .int .u8 0, .int .u8 0, .int .u8 0, .int .u8 0, .int .u8 0, .int .u8 0, .int .u8 0, .int .u8 0, .int .u8 0, .int .u8 0, .int .u8 0, .int .u8 0, .int .u8 0, .int .u8 0, .int .u8 0, .int .u8 0, .int .u8 0, .int .u8 0, .int .u8 0, .int .u8 0, .int .u8 0, .int .u8 0, .int .u8 0, .int .u8 0] 148)).alloc (.cells #[.int .u8 0, .int .u8 0, .int .u8 0, .int .u8 0, .int .u8 0, .int .u8 0, .int .u8 0, .int .u8 0, .int .u8 0, .int .u8 0, .int .u8 0, .int .u8 0, .int .u8 0, .int .u8 0, .int .u8 0, .int .u8 0, .int .u8 0, .int .u8 0, .int .u8 0, .int .u8 0, .int .u8 0, .int .u8 0, .int .u8 0, .int .u8 0, .int .u8 0, .int .u8 0, .int .u8 0, .int .u8 0, .int .u8 0, .int .u8 0, .int .u8 0, .int .u8 0] 148)) w.heap.size (.cells ((synK ws 0).map u8v).toArray 148 (0, 0)) by rw [hz]; exact (At.new rfl).al)
  have HO0 := Lib.hid (show At ((w.alloc (.cells #[.int .u8 0, .int .u8 0, .int .u8 0, .int .u8 0, .int .u8 0, .int .u8 0, .int .u8 0, .int .u8 0, .int .u8 0, .int .u8 0, .int .u8 0, .int .u8 0, .int .u8 0, .int .u8 0, .int .u8 0, .int .u8 0, .int .u8 0, .int .u8 0, .int .u8 0, .int .u8 0, .int .u8 0, .int .u8 0, .int .u8 0, .int .u8 0, .int .u8 0, .int .u8 0, .int .u8 0, .int .u8 0, .int .u8 0, .int .u8 0, .int .u8 0, .int .u8 0] 148)).alloc (.cells #[.int .u8 0, .int .u8 0, .int .u8 0, .int .u8 0, .int .u8 0, .int .u8 0, .int .u8 0, .int .u8 0, .int .u8 0, .int .u8 0, .int .u8 0, .int .u8 0, .int .u8 0, .int .u8 0, .int .u8 0, .int .u8 0, .int .u8 0, .int .u8 0, .int .u8 0, .int .u8 0, .int .u8 0, .int .u8 0, .int .u8 0, .int .u8 0, .int .u8 0, .int .u8 0, .int .u8 0, .int .u8 0, .int .u8 0, .int .u8 0, .int .u8 0, .int .u8 0] 148)) (w.heap.size + 1) (.cells ((synK ws 0).map u8v).toArray 148 (0, 0)) by rw [hz]; exact At.new (by simp))
  have HF0 := Lib.hid (show Fr [] w ((w.alloc (.cells #[.int .u8 0, .int .u8 0, .int .u8 0, .int .u8 0, .int .u8 0, .int .u8 0, .int .u8 0, .int .u8 0, .int .u8 0, .int .u8 0, .int .u8 0, .int .u8 0, .int .u8 0, .int .u8 0, .int .u8 0, .int .u8 0, .int .u8 0, .int .u8 0, .int .u8 0, .int .u8 0, .int .u8 0, .int .u8 0, .int .u8 0, .int .u8 0, .int .u8 0, .int .u8 0, .int .u8 0, .int .u8 0, .int .u8 0, .int .u8 0, .int .u8 0, .int .u8 0] 148)).alloc (.cells #[.int .u8 0, .int .u8 0, .int .u8 0, .int .u8 0, .int .u8 0, .int .u8 0, .int .u8 0, .int .u8 0, .int .u8 0, .int .u8 0, .int .u8 0, .int .u8 0, .int .u8 0, .int .u8 0, .int .u8 0, .int .u8 0, .int .u8 0, .int .u8 0, .int .u8 0, .int .u8 0, .int .u8 0, .int .u8 0, .int .u8 0, .int .u8 0, .int .u8 0, .int .u8 0, .int .u8 0, .int .u8 0, .int .u8 0, .int .u8 0, .int .u8 0, .int .u8 0] 148)) from (Fr.alloc _ _).trans (Fr.alloc _ _))
  clear hz
  have HJ := Lib.hid (fun j => synK_len ws j)
  have HST := Lib.hid (synK_start ws)
  have HSP := Lib.hid (synK_step ws)
  have HEND := Lib.hid (synK_end ws)
  obtain ⟨SK, hSK⟩ : ∃ f, synK ws = f := ⟨_, rfl⟩
  rw [hSK] at HR0 HO0 HJ HST HSP HEND
  rw [← HEND.out]
  clear hSK
  go_enter Tryd.func67, Tryd.ntmps67
  go_wp2_with (go_at_call 62; fail)
  refine (HSZ.out _).mono ?_
  rintro e w1 ⟨rfl, hf⟩
  have HR1 := Lib.hid (HR0.out.keep0 hf)
  have HO1 := Lib.hid (HO0.out.keep0 hf)
  have HF1 := Lib.hid (HF0.out.trans hf)
  have HS1 := Lib.hid (show w.heap.size + 2 ≤ w1.heap.size by have h := hf.size; simp only [World.size_alloc] at h; omega)
  clear hf HR0 HO0 HSZ HF0
  go_wp2_with (go_at_call 63; fail)
  refine (make_any _).mono ?_
  rintro e w2 ⟨rfl, hT, hf⟩
  have HT2 := Lib.hid hT
  have HR2 := Lib.hid (HR1.out.keep0 hf)
  have HO2 := Lib.hid (HO1.out.keep0 hf)
  have HF2 := Lib.hid (HF1.out.trans hf)
  obtain ⟨tb, htb⟩ : ∃ tb, w1.heap.size = tb := ⟨_, rfl⟩
  obtain ⟨rb, hrb⟩ : ∃ rb, w.heap.size = rb := ⟨_, rfl⟩
  have HWB := Lib.hid hrb
  have HS := HS1.out
  rw [htb] at HT2 HS ⊢
  rw [hrb] at HR2 HO2 HS ⊢
  obtain ⟨ob, hob⟩ : ∃ ob, rb + 1 = ob := ⟨_, rfl⟩
  rw [hob] at HO2 ⊢
  have hor : rb ≠ ob := by omega
  have hot : tb ≠ ob := by omega
  have hwo : w.heap.size ≤ ob := by have := HWB.out; omega
  clear htb hrb hob hT hf HR1 HO1 HF1 HS1 HS
  go_wp2
  go_loopw [18] (fun i wr => ∃ j : Nat, j ≤ 32 ∧ i = .int .i64 j ∧ Hid (At wr ob (.cells ((SK j).map u8v).toArray 148)) ∧ Hid (At wr tb (.cells tabF 171)) ∧ Hid (At wr rb (.cells ((SK 0).map u8v).toArray 148)) ∧ Hid (Fr [] w wr)) (fun i _ => 32 - (intOf i).toNat)
  case atStart => exact ⟨0, by omega, rfl, HO2, HT2, HR2, HF2⟩
  case round =>
    clear HO2 HT2 HR2 HF2
    obtain ⟨j, hj, rfl, HO, HT, HR, HF⟩ := hrel
    obtain ⟨wl, rfl⟩ : ∃ wl, wl = wr := ⟨wr, rfl⟩
    by_cases hj32 : j < 32
    · have hji : (j : Int) < 32 := by omega
      go_wp2_with (go_at_call 82; fail)
      refine (texp_any wl tb HT.out j (by omega)).mono ?_
      rintro e w4 ⟨rfl, hf⟩
      have HO4 := Lib.hid (HO.out.keep0 hf)
      have HT4 := Lib.hid (HT.out.keep0 hf)
      have HR4 := Lib.hid (HR.out.keep0 hf)
      have HF4 := Lib.hid (HF.out.trans hf)
      clear hf HO HT HR HF
      have HHT := Lib.hid (fun k c => hval_take ws k c (gexp j))
      have HH0 := Lib.hid (show hval (ws.take 0) (gexp j) = 0 from rfl)
      have HSJ := Lib.hid (HSP.out j hj32)
      have HHN := Lib.hid (show hval (ws.take N) (gexp j) = hval ws (gexp j) by rw [List.take_of_length_le (by have := HN.out; omega)])
      have HSS := Lib.hid (HST.out j hj32)
      have HLJ := Lib.hid (HJ.out j)
      obtain ⟨x, hx⟩ : ∃ x, gexp j = x := ⟨_, rfl⟩
      rw [hx] at HHT HH0 HSJ HHN ⊢
      obtain ⟨SJ, hSJ⟩ : ∃ l, SK j = l := ⟨_, rfl⟩
      rw [hSJ] at HO4 HSJ HSS HLJ
      clear hx hSJ
      go_wp2
      go_loopw [26] (fun i wz => ∃ k : Nat, k ≤ N ∧ i = .int .i64 k ∧ Hid (At wz ob (.cells ((SJ.set j (hval (ws.take k) x)).map u8v).toArray 148)) ∧ Hid (At wz tb (.cells tabF 171)) ∧ Hid (At wz rb (.cells ((SK 0).map u8v).toArray 148)) ∧ Hid (Fr [] w wz)) (fun i _ => N - (intOf i).toNat)
      case atStart => exact ⟨0, by omega, rfl, by rw [HH0.out, HSS.out]; exact HO4, HT4, HR4, HF4⟩
      case round =>
        clear HO4 HT4 HR4 HF4
        obtain ⟨k, hk, rfl, HO, HT, HR, HF⟩ := hrel
        obtain ⟨wm, rfl⟩ : ∃ wm, wm = wr := ⟨wr, rfl⟩
        by_cases hkn : k < N
        · have hki : (k : Int) < N := by omega
          obtain ⟨c, hc⟩ : ∃ c, ws[k]? = some c := ⟨_, List.getElem?_eq_getElem (by have := HN.out; omega)⟩
          obtain ⟨b, off, rfl, hcc⟩ := bs_cell (HB.out.keep HF.out (by simp)) k c hc
          have HHS := Lib.hid (HHT.out k c hc)
          obtain ⟨H, hH⟩ : ∃ H, hval (ws.take k) x = H := ⟨_, rfl⟩
          rw [hH] at HO HHS
          have hlen : (SJ.set j H).length = 32 := by rw [List.length_set]; exact HLJ.out
          have hco := byte_cell HO.out (show j < (SJ.set j H).length by rw [hlen]; omega)
          have hgd : (SJ.set j H).getD j 0 = H := by
            rw [List.getD_eq_getElem?_getD, List.getElem?_set, if_pos rfl, if_pos (by rw [HLJ.out]; omega)]; rfl
          rw [hgd] at hco
          have hxx := u8_xor_u (gmul H x) c
          have HSZ := Lib.hid (show j < (((SJ.set j H).map u8v).toArray).size by simp [HLJ.out]; omega)
          clear hc hH hlen hgd
          go_wp2_with (go_at_call 65; fail)
          refine (tmul_i wm tb HT.out H x).mono ?_
          rintro e w5 ⟨rfl, hf⟩
          have HO5 := Lib.hid (HO.out.keep0 hf)
          have HT5 := Lib.hid (HT.out.keep0 hf)
          have HR5 := Lib.hid (HR.out.keep0 hf)
          have HF5 := Lib.hid (HF.out.trans hf)
          clear hf HO HT HR HF hcc hco
          go_wp2_with (refine wpl_store_one (.tmp 39) (.tmp 38) rfl rfl (.int .u8 ((gmul H x ^^^ c).toNat : Int)) rfl rfl HO5.out HSZ.out (by kernel_rfl) rfl ?_)
          intro w6 f6 a6 _
          have HO6 := Lib.hid (show At w6 ob (.cells ((SJ.set j (hval (ws.take (k + 1)) x)).map u8v).toArray 148) by rw [HHS.out, List.map_set]; simpa [u8v] using a6)
          have HT6 := Lib.hid (HT5.out.keep f6 (by simpa using hot))
          have HR6 := Lib.hid (HR5.out.keep f6 (by simpa using hor))
          have HF6 := Lib.hid (HF5.out.then f6 (by intro b hb; simp at hb; subst hb; exact .inr hwo))
          clear f6 a6 HO5 HT5 HR5 HF5 hxx
          go_wp2
          go_roundw
          case rel => exact ⟨k + 1, by omega, by go_num, HO6, HT6, HR6, HF6⟩
          case measure => simp [intOf]; omega
        · have hki : ¬ (k : Int) < N := by omega
          have HO2 := Lib.hid (show At wm ob (.cells ((SK (j + 1)).map u8v).toArray 148) by
            have h := HO.out
            rw [show k = N by omega, HHN.out, HSJ.out] at h
            exact h)
          clear HO
          go_wp2
          go_roundw
          case rel => exact ⟨j + 1, by omega, by go_num, HO2, HT, HR, HF⟩
          case measure => simp [intOf]; omega
    · have hji : ¬ (j : Int) < 32 := by omega
      have HO2 := Lib.hid (show At wl ob (.cells ((SK 32).map u8v).toArray 148) by
        have h := HO.out
        rwa [show j = 32 by omega] at h)
      have hsz1 : (((SK 32).map u8v).toArray).size = 32 := by simp [HJ.out]
      have HSZ1 := Lib.hid hsz1
      have HSZ0 := Lib.hid (show (((SK 0).map u8v).toArray).size = 32 by simp [HJ.out])
      have HONE := Lib.hid (cells_one (SK 32))
      obtain ⟨C, hC⟩ : ∃ c, ((SK 32).map u8v).toArray = c := ⟨_, rfl⟩
      rw [hC] at HO2 HSZ1 HONE
      have HC := Lib.hid hC
      obtain ⟨C0, hC0⟩ : ∃ c, ((SK 0).map u8v).toArray = c := ⟨_, rfl⟩
      rw [hC0] at HR HSZ0
      clear hC hC0 hsz1 HO
      go_wp2_with (first | (refine wpl_load_rowG (.tmp 4) rfl rfl ob C rfl HO2.out Tryd.underlying148 rfl (by rw [HSZ1.out]; kernel_rfl) ?_) | (refine wpl_store_at (.tmp 2) (.tmp 42) rfl rfl C rfl rfl (by rw [HSZ1.out]; kernel_rfl) HR.out (by rw [HSZ1.out, HSZ0.out]; omega) HONE.out ?_))
      intro w9 hf9 hr9 _
      have HF9 := Lib.hid (HF.out.then hf9 (by intro b hb; simp at hb; subst hb; exact .inr (by rw [HWB.out]; exact Nat.le_refl _)))
      have HR9 := Lib.hid (show At w9 rb (.cells C 148) by
        have h := hr9
        rw [List.drop_of_length_le (l := C0.toList) (i := C.size) (by simp [HSZ0.out, HSZ1.out]), List.append_nil] at h
        simpa using h)
      clear hf9 hr9
      go_wp2
      refine bodyPost_ret (v := .tuple #[.agg C, .nilIface]) ?_ rfl ?_
      · have h := fun tmps h => res_cell_row (fn := Tryd.f67) (p := 2) (u := 3) (ty := 148) rfl tmps w9 rb C h HR9.out Tryd.underlying148 rfl (by rw [HSZ1.out]; kernel_rfl)
        exact h _ rfl
      · exact ⟨by rw [HC.out], HF9.out⟩
end Go.Proofs.YtmohiblgfmdkjaaDoor
