/-
  The law LinesLetters, walked.
-/
import Derived.Test.YtmohiblgfmdkjaaDoorLlR
import Derived.Test.YtmohiblgfmdkjaaDoorLet
import Derived.Test.YtmohiblgfmdkjaaDoorLed
import Derived.Test.YtmohiblgfmdkjaaDoorLrd
import Derived.Test.YtmohiblgfmdkjaaDoorHC
namespace Go.Proofs.YtmohiblgfmdkjaaDoor
open Go.RowKit Go.Bl
set_option linter.unusedVariables false
set_option maxRecDepth 100000 in
set_option maxHeartbeats 8000000 in
theorem lll_any (w : World) (kd id ob fr co cd : Int) (pa sa ba : Option Addr) (PN pc SN sc BN bc : Nat) (ps : List Int) (l : List ShV) (bl : List (Value × List UInt8)) (A : List Value) (ak er n : Int)
    (hT : Tab10 w) (hW1 : WordsAt 3 lWords w) (hW2 : WordsAt 4 wWords w)
    (hps : Is (fun _ => False) w (.slice pa PN pc) ps) (hpl : ps.length = PN) (hpb : ∀ x ∈ ps, inI x)
    (hS : RdSh (fun _ => False) w (.slice sa SN sc) l) (hl : l.length = SN) (h32 : ∀ x ∈ l, ∀ d ∈ x.p.path, d.length = 32)
    (hB : RdB (fun _ => False) w (.slice ba BN bc) bl) (hbl : bl.length = BN) (hpm : PN ≤ maxLen) (hsm : SN ≤ maxLen) (hbm : BN ≤ maxLen)
    (hk : inI kd) (hi : inI id) (ho : inI ob) (hfr : inI fr) (hco : inI co) (hcd : inI cd) (hA : A.length = 16) (hA0 : A[0]? = some (.int .i64 ak)) (hak : inI ak) (her : inI er) (hn : inI n) :
    Calls Tryd.prog 4 #[.agg (letC kd id ob (.slice pa PN pc) (.slice sa SN sc) fr co (.slice ba BN bc) cd), .agg A.toArray, .agg #[.int .i64 er, .int .i64 n]] w fun e w' => e = .returned (.bool true) ∧ Fr [] w w' := by
  obtain ⟨LT, hLT⟩ : ∃ L : List Value, letC kd id ob (.slice pa PN pc) (.slice sa SN sc) fr co (.slice ba BN bc) cd = L.toArray := ⟨[_, _, _, _, _, _, _, _, _], rfl⟩
  have hLL : LT.length = 9 := by
    have := congrArg Array.size hLT
    simpa [letC] using this.symm
  have HLONG := Lib.hid (fun w' (h : Fr [] w w') => long22_any w' kd id ob fr co cd pa sa ba PN pc SN sc BN bc l bl (hS.keep0 h) hl (hB.keep h (by simp)) hbl hpm hsm hbm)
  have HLET := Lib.hid (fun w' (h : Fr [] w w') (hO : longOk PN SN BN l bl) => letter_line w' kd id ob fr co cd pa sa ba PN pc SN sc BN bc ps (hT.keep h) (hW1.keep h) (hps.keep0 h) hpl hO.1 hO.2.1 hO.2.2.1 hk hi ho hfr hco hcd hpb)
  have HDOC := Lib.hid (fun w' (h : Fr [] w w') (hO : longOk PN SN BN l bl) sa' sc' => letter_doc w' kd id ob fr co cd pa sa' ba PN pc SN sc' BN bc ps (hps.keep0 h) hpl hO.1 hO.2.1 hO.2.2.1 hk hi ho hfr hco hcd hpb)
  have HOF := Lib.hid (fun w' (h : Fr [] w w') (hO : longOk PN SN BN l bl) => of22_any w' kd id ob fr co cd pa sa ba PN pc SN sc BN bc l hO.2.1 hl (hS.keep0 h) (fun x hx => (hO.2.2.2.1 x hx).2) h32)
  have HRES := Lib.hid (fun w' (h : Fr [] w w') => result_line w' A.toArray ak er n (by rw [List.getElem?_toArray]; exact hA0) (hT.keep h) (hW2.keep h) hak her hn)
  have HRDC := Lib.hid (fun w' => result_doc w' ak er n hak her hn)
  have HAL := Lib.hid (fun w' (h : Fr [] w w') => alive35_any w' (hT.keep h))
  rw [hLT] at HLONG HLET HOF ⊢
  have HSL := Lib.hid (show (Tryd.prog.info? 40).map (·.size) = some LT.length by rw [hLL]; kernel_rfl)
  have HSA := Lib.hid (show (Tryd.prog.info? 47).map (·.size) = some A.length by rw [hA]; kernel_rfl)
  have f1 : Fr [] w (w.alloc (.cells LT.toArray 40)) := Fr.alloc _ _
  have f2 : Fr [] (w.alloc (.cells LT.toArray 40)) ((w.alloc (.cells LT.toArray 40)).alloc (.cells A.toArray 47)) := Fr.alloc _ _
  have f3 : Fr [] ((w.alloc (.cells LT.toArray 40)).alloc (.cells A.toArray 47)) (((w.alloc (.cells LT.toArray 40)).alloc (.cells A.toArray 47)).alloc (.cells #[.int .i64 er, .int .i64 n] 49)) := Fr.alloc _ _
  obtain ⟨Z, hZ⟩ : ∃ Z, w.heap.size = Z := ⟨_, rfl⟩
  have g1 : At (((w.alloc (.cells LT.toArray 40)).alloc (.cells A.toArray 47)).alloc (.cells #[.int .i64 er, .int .i64 n] 49)) Z (.cells LT.toArray 40) := (At.new hZ.symm).al.al
  have g2 : At (((w.alloc (.cells LT.toArray 40)).alloc (.cells A.toArray 47)).alloc (.cells #[.int .i64 er, .int .i64 n] 49)) (Z + 1) (.cells A.toArray 47) := (At.new (by simp [hZ])).al
  have g3 : At (((w.alloc (.cells LT.toArray 40)).alloc (.cells A.toArray 47)).alloc (.cells #[.int .i64 er, .int .i64 n] 49)) (Z + 2) (.cells #[.int .i64 er, .int .i64 n] 49) := At.new (by simp [hZ])
  have HF3 := Lib.hid (f1.trans (f2.trans f3))
  have HG1 := Lib.hid g1
  have HG2 := Lib.hid g2
  have HG3 := Lib.hid g3
  have HA0 := Lib.hid hA0
  clear f1 f2 f3 g1 g2 g3 hT hW1 hW2 hps hpl hpb hS hl h32 hB hbl hpm hsm hbm hk hi ho hfr hco hcd hA hA0 hak her hn hLT hLL
  go_enter Tryd.func4, Tryd.ntmps4
  go_wp2_with (go_at_call 10; fail)
  refine (HAL.out _ HF3.out).mono ?_
  rintro e w1 ⟨rfl, hf⟩
  have HF1 := Lib.hid (HF3.out.trans hf)
  have HL1 := Lib.hid (range_of (HG1.out.keep0 hf))
  have HA1 := Lib.hid (range_of (HG2.out.keep0 hf))
  have HR1 := Lib.hid (range_of (c := [.int .i64 er, .int .i64 n]) (HG3.out.keep0 hf))
  clear hf HAL HG1 HG2 HG3 HF3
  go_wp2_with (first | (refine wpl_load_k (.tmp 3) rfl rfl Z 0 LT rfl HL1.out Tryd.underlying40 rfl HSL.out ?_) | (go_at_call 11; fail))
  refine (HLONG.out w1 HF1.out).mono ?_
  rintro e w2 ⟨b, rfl, hOK, hf⟩
  have HF2 := Lib.hid (HF1.out.trans hf)
  have HL2 := Lib.hid (range_keep HL1.out hf)
  have HA2 := Lib.hid (range_keep HA1.out hf)
  have HR2 := Lib.hid (range_keep HR1.out hf)
  have HOK := Lib.hid hOK
  clear hf hOK HL1 HA1 HR1 HLONG
  cases b with
  | true =>
    go_wp2
    go_ret
    exact ⟨rfl, HF2.out⟩
  | false =>
    have HO := Lib.hid (HOK.out (by trivial))
    have cA : w2.cell? ⟨Z + 1, 0, none⟩ = some (.int .i64 ak) := HA2.out 0 _ HA0.out
    have cR : w2.cell? ⟨Z + 2, 0, none⟩ = some (.int .i64 er) := HR2.out 0 _ rfl
    have cN : w2.cell? ⟨Z + 2, 1, none⟩ = some (.int .i64 n) := HR2.out 1 _ rfl
    have HC := Lib.hid (And.intro cA (And.intro cR cN))
    clear cA cR cN HOK
    go_wp2_with fail
    refine lll_reg w2 _ rfl Z (Z + 1) (Z + 2) LT A ak er n (bA (letL kd id ob fr co cd ps SN BN)) (bA (resL ak er n)) (fun u => ∃ (sa' : Option Addr) (sc' : Nat), u = .agg (letC kd id ob (.slice pa PN pc) (.slice sa' SN sc') fr co (.slice ba BN bc) cd)) ?_ ?_ ?_ ?_ ?_ HSL.out HSA.out HL2.out HA2.out HR2.out HC.out.1 HC.out.2.1 HC.out.2.2 rfl rfl rfl _ ?_
    · intro p hp
      refine (HLET.out p (HF2.out.trans hp) HO.out).mono ?_
      rintro e w' ⟨rfl, h⟩
      exact ⟨rfl, h⟩
    · intro p hp
      refine (HOF.out p (HF2.out.trans hp) HO.out).mono ?_
      rintro e w' ⟨sa', sc', l1, rfl, -, -, h⟩
      exact ⟨_, rfl, ⟨sa', sc', rfl⟩, h⟩
    · rintro p hp u ⟨sa', sc', rfl⟩
      exact HDOC.out p (HF2.out.trans hp) HO.out sa' sc'
    · intro p hp
      exact HRES.out p (HF2.out.trans hp)
    · intro p hp
      exact HRDC.out p
    · intro c p k1 k2 k3 q6 hf
      have HF4 := Lib.hid (HF2.out.trans hf)
      rw [frame30 c k2 (k1.trans rfl), q6]
      clear hf k1 k2 k3 q6
      go_wp2
      go_ret
      exact ⟨rfl, HF4.out⟩
end Go.Proofs.YtmohiblgfmdkjaaDoor
