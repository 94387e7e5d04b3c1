import Derived.Test.YtmohiblgfmdkjaaGreatDoorRows
import Derived.Test.YtmohiblgfmdkjaaGreatDoorGA
import Derived.ProofKit
import Derived.WalkLawsBesides
import Derived.WalkSpells
import Derived.LaidEql
import Derived.Stop.Asserts
import Derived.RowKitTokens
import Derived.Test.YtmohiblgfmdkjaaGreatDoorGD
import Derived.Test.YtmohiblgfmdkjaaGreatDoorGC
import Derived.BigQuiet
namespace Go.Proofs.YtmohiblgfmdkjaaGreatDoor
open Go.RowKit Go.Bl Go.Extern.Stop Go.Stop Go.Extern
set_option linter.unusedVariables false
def gOf (k : Nat) : Nat := [0, 1, 2, 3, 4, 5, 6, 7, 8, 9, 10, 11, 12, 13, 14, 15, 16, 0, 17, 18, 19].getD k 0
structure Errs (L : List Nat) (E : Nat → Addr) (B : Nat) (w : World) : Prop where
  glob : ∀ k ∈ L, ∃ t fz, w.heap[gOf k]? = some (.cells #[.iface 168 (.pointer (some (E k)))] t fz)
  blk : ∀ k ∈ L, ∃ c t, w.heap[(E k).block]? = some (.cells c t (0, 0))
  inj : ∀ j ∈ L, ∀ k ∈ L, j ≠ k → E j ≠ E k
  ltg : ∀ k ∈ L, gOf k < B
  lte : ∀ k ∈ L, (E k).block < B
theorem Errs.keep {L : List Nat} {E : Nat → Addr} {B : Nat} {w w' : World} {S : List Nat} (h : Errs L E B w) (hf : Fr S w w') (hS : ∀ b ∈ S, B ≤ b) : Errs L E B w' where
  glob k hk := by
    obtain ⟨t, fz, hb⟩ := h.glob k hk
    exact ⟨t, fz, hf.keep hb fun hm => by have := h.ltg k hk; have := hS _ hm; omega⟩
  blk k hk := by
    obtain ⟨c, t, hb⟩ := h.blk k hk
    exact ⟨c, t, hf.keep hb fun hm => by have := h.lte k hk; have := hS _ hm; omega⟩
  inj := h.inj
  ltg := h.ltg
  lte := h.lte
theorem Errs.keep0 {L : List Nat} {E : Nat → Addr} {B : Nat} {w w' : World} (h : Errs L E B w) (hf : Fr [] w w') : Errs L E B w' := h.keep hf (by simp)
theorem Errs.cell {L : List Nat} {E : Nat → Addr} {B : Nat} {w : World} (h : Errs L E B w) (k : Nat) (hk : k ∈ L) : w.cell? ⟨gOf k, 0, none⟩ = some (.iface 168 (.pointer (some (E k)))) := by
  obtain ⟨t, fz, hb⟩ := h.glob k hk
  rw [cell_of hb]; rfl
def errv (E : Nat → Addr) (k : Nat) : Value := if k = 0 then .nilIface else .iface 168 (.pointer (some (E k)))
theorem errv_zero (E : Nat → Addr) : errv E 0 = .nilIface := rfl
theorem errv_pos (E : Nat → Addr) (k : Nat) (h : k ≠ 0) : errv E k = .iface 168 (.pointer (some (E k))) := by simp [errv, h]
theorem Tryz.typeOfE (p : Value) (w : World) : (callFunc 64 #[.iface 168 p]).run Tryz.prog w = .ok (.value (.iface 129 (.agg #[typeHandle Tryz.prog 168]))) w := by kernel_rfl
theorem Tryz.methodE (v : Value) (w : World) : (Go.method 305 129 v "Comparable").run Tryz.prog w = .ok (140, v) w := by kernel_rfl
theorem Tryz.comparableE (w : World) : (callFunc 140 #[.agg #[typeHandle Tryz.prog 168]]).run Tryz.prog w = .ok (.value (.bool true)) w := by kernel_rfl
theorem Tryz.compE : (Tryz.prog.info? 168).map (·.comparable) = some true := by kernel_rfl
theorem Tryz.sizeE : (Tryz.prog.info? 193).map (·.size) = some 1 := by kernel_rfl
theorem Tryz.noIsE (v : Value) (xT : TypeId) (w : World) : (Instr.typeAssert (.iface 168 v) xT 131 true).run Tryz.prog w = .ok (.tuple #[.nilIface, .bool false]) w := run_typeAssert_lacksB Tryz.underlying131 (by kernel_rfl) (by kernel_rfl) v xT w
theorem Tryz.noUnE (v : Value) (xT : TypeId) (w : World) : (Instr.typeAssert (.iface 168 v) xT 134 true).run Tryz.prog w = .ok (.tuple #[.nilIface, .bool false]) w := run_typeAssert_lacksB Tryz.underlying134 (by kernel_rfl) (by kernel_rfl) v xT w
theorem Tryz.noUnsE (v : Value) (xT : TypeId) (w : World) : (Instr.typeAssert (.iface 168 v) xT 136 true).run Tryz.prog w = .ok (.tuple #[.nilIface, .bool false]) w := run_typeAssert_lacksB Tryz.underlying136 (by kernel_rfl) (by kernel_rfl) v xT w
theorem eql_same (a : Addr) (w : World) : (binOp .eql 30 (.iface 168 (.pointer (some a))) (.iface 168 (.pointer (some a)))).run Tryz.prog w = .ok (.bool true) w := by
  obtain ⟨i, hi, hcmp⟩ := Option.map_eq_some_iff.1 Tryz.compE
  obtain ⟨j, hj, hjs⟩ := Option.map_eq_some_iff.1 Tryz.sizeE
  exact run_eql_iface_ptr_same (P := Tryz.prog) w a Tryz.underlying30 Tryz.underlying168 hi hcmp hj
theorem eql_other (a b : Addr) (ca cb : Array Value) (ta tb : TypeId) (w : World) (hne : a ≠ b) (ha : w.heap[a.block]? = some (.cells ca ta (0, 0))) (hb : w.heap[b.block]? = some (.cells cb tb (0, 0))) :
    (binOp .eql 30 (.iface 168 (.pointer (some a))) (.iface 168 (.pointer (some b)))).run Tryz.prog w = .ok (.bool false) w := by
  obtain ⟨i, hi, hcmp⟩ := Option.map_eq_some_iff.1 Tryz.compE
  obtain ⟨j, hj, hjs⟩ := Option.map_eq_some_iff.1 Tryz.sizeE
  exact run_eql_iface_ptr_other (P := Tryz.prog) w Tryz.underlying30 Tryz.underlying168 hi hcmp hj (by rw [hjs]; decide) hne ha hb
set_option maxRecDepth 100000 in
theorem is_same (a : Addr) (w : World) :
    Calls Tryz.prog 29 #[.iface 168 (.pointer (some a)), .iface 168 (.pointer (some a))] w fun e w' => e = .returned (.bool true) ∧ w = w' := by
  have tT := Tryz.typeOfE
  have cT := Tryz.comparableE
  have mR := Tryz.methodE
  have heq := eql_same a w
  go_enter Tryz.func29, Tryz.ntmps29
  go_wp2
  refine wp_loop_rounds 1 ?_
  rw [rounds_succ]
  go_wp2
  go_ret
  exact ⟨rfl, rfl⟩
set_option maxRecDepth 100000 in
theorem is_other (a b : Addr) (ca cb : Array Value) (ta tb : TypeId) (w : World) (hne : a ≠ b) (ha : w.heap[a.block]? = some (.cells ca ta (0, 0))) (hb : w.heap[b.block]? = some (.cells cb tb (0, 0))) :
    Calls Tryz.prog 29 #[.iface 168 (.pointer (some a)), .iface 168 (.pointer (some b))] w fun e w' => e = .returned (.bool false) ∧ w = w' := by
  have tT := Tryz.typeOfE
  have cT := Tryz.comparableE
  have mR := Tryz.methodE
  have nE := Tryz.noIsE
  have uE := Tryz.noUnE
  have vE := Tryz.noUnsE
  have heq := eql_other a b ca cb ta tb w hne ha hb
  clear hne ha hb
  go_enter Tryz.func29, Tryz.ntmps29
  go_wp2
  refine wp_loop_rounds 1 ?_
  rw [rounds_succ]
  go_wp2
  go_ret
  exact ⟨rfl, rfl⟩
def all20 : List Nat := [1, 2, 3, 4, 5, 6, 7, 8, 9, 10, 11, 12, 13, 14, 15, 16, 17, 18, 19, 20]
theorem mem_all20 (k : Nat) (h1 : 1 ≤ k) (h2 : k ≤ 20) : k ∈ all20 := by
  have : k = 1 ∨ k = 2 ∨ k = 3 ∨ k = 4 ∨ k = 5 ∨ k = 6 ∨ k = 7 ∨ k = 8 ∨ k = 9 ∨ k = 10 ∨ k = 11 ∨ k = 12 ∨ k = 13 ∨ k = 14 ∨ k = 15 ∨ k = 16 ∨ k = 17 ∨ k = 18 ∨ k = 19 ∨ k = 20 := by omega
  rcases this with rfl | rfl | rfl | rfl | rfl | rfl | rfl | rfl | rfl | rfl | rfl | rfl | rfl | rfl | rfl | rfl | rfl | rfl | rfl | rfl <;> decide
def errList (E : Nat → Addr) : List Value := all20.map fun k => .iface 168 (.pointer (some (E k)))
theorem errList_get (E : Nat → Addr) (n : Nat) (h : n < 20) : (errList E)[n]? = some (.iface 168 (.pointer (some (E (n + 1))))) := by
  have : all20[n]? = some (n + 1) := by
    have : n = 0 ∨ n = 1 ∨ n = 2 ∨ n = 3 ∨ n = 4 ∨ n = 5 ∨ n = 6 ∨ n = 7 ∨ n = 8 ∨ n = 9 ∨ n = 10 ∨ n = 11 ∨ n = 12 ∨ n = 13 ∨ n = 14 ∨ n = 15 ∨ n = 16 ∨ n = 17 ∨ n = 18 ∨ n = 19 := by omega
    rcases this with rfl | rfl | rfl | rfl | rfl | rfl | rfl | rfl | rfl | rfl | rfl | rfl | rfl | rfl | rfl | rfl | rfl | rfl | rfl | rfl <;> rfl
  simp [errList, this]
theorem num_nil (w : World) : Calls Tryz.prog 10 #[.nilIface] w fun e w' => e = .returned (.int .i64 0) ∧ Fr [] w w' := by
  go_enter Tryz.func10, Tryz.ntmps10
  go_wp2
  go_ret
  exact ⟨rfl, Fr.refl _ _⟩
set_option maxRecDepth 100000 in
set_option maxHeartbeats 1000000 in
theorem num_sent (E : Nat → Addr) (B k : Nat) (w : World) (hE : Errs all20 E B w) (hk : k ∈ all20) :
    Calls Tryz.prog 10 #[.iface 168 (.pointer (some (E k)))] w fun e w' => e = .returned (.int .i64 k) ∧ Fr [] w w' := by
  have c1 := hE.cell 1 (by decide)
  have c2 := hE.cell 2 (by decide)
  have c3 := hE.cell 3 (by decide)
  have c4 := hE.cell 4 (by decide)
  have c5 := hE.cell 5 (by decide)
  have c6 := hE.cell 6 (by decide)
  have c7 := hE.cell 7 (by decide)
  have c8 := hE.cell 8 (by decide)
  have c9 := hE.cell 9 (by decide)
  have c10 := hE.cell 10 (by decide)
  have c11 := hE.cell 11 (by decide)
  have c12 := hE.cell 12 (by decide)
  have c13 := hE.cell 13 (by decide)
  have c14 := hE.cell 14 (by decide)
  have c15 := hE.cell 15 (by decide)
  have c16 := hE.cell 16 (by decide)
  have c17 := hE.cell 17 (by decide)
  have c18 := hE.cell 18 (by decide)
  have c19 := hE.cell 19 (by decide)
  have c20 := hE.cell 20 (by decide)
  simp only [gOf, List.getD_eq_getElem?_getD, List.getElem?_cons_zero, List.getElem?_cons_succ, Option.getD_some] at c1 c2 c3 c4 c5 c6 c7 c8 c9 c10 c11 c12 c13 c14 c15 c16 c17 c18 c19 c20
  have HE := Lib.hid hE
  have hk1 : 1 ≤ k ∧ k ≤ 20 := by
    have : ∀ k ∈ all20, 1 ≤ k ∧ k ≤ 20 := by decide
    exact this k hk
  clear hE hk
  go_enter Tryz.func10, Tryz.ntmps10
  go_wp2
  clear c1 c2 c3 c4 c5 c6 c7 c8 c9 c10 c11 c12 c13 c14 c15 c16 c17 c18 c19 c20
  have hcell : ∀ n, n < 20 → (w.alloc (.cells (errList E).toArray 30)).cell? ⟨w.heap.size, n, none⟩ = some (.iface 168 (.pointer (some (E (n + 1))))) := fun n hn => by
    rw [World.cell?_alloc_new]
    simpa using errList_get E n hn
  have HE1 := Lib.hid (HE.out.keep0 (Fr.alloc w (.cells (errList E).toArray 30)))
  have HF := Lib.hid (Fr.alloc (S := []) w (.cells (errList E).toArray 30))
  obtain ⟨w1, hw1⟩ : ∃ w1, w1 = w.alloc (.cells (errList E).toArray 30) := ⟨_, rfl⟩
  rw [← hw1] at hcell HE1 HF
  change Code.wp _ _ _ _ (w.alloc (.cells (errList E).toArray 30))
  rw [← hw1]
  clear hw1 HE
  go_loop [31] (fun i => ∃ n : Nat, n < k ∧ i = .int .i64 n) (fun i => 20 - (intOf i).toNat)
  case atStart => exact ⟨0, by omega, rfl⟩
  case round =>
    obtain ⟨n, hn, rfl⟩ := hrel
    have hc := hcell n (by omega)
    have hn20 : n < 20 := by omega
    by_cases he : n + 1 = k
    · subst he
      go_wp2_with (go_at_call 29; refine (is_same _ _).mono ?_; rintro e w' ⟨rfl, rfl⟩)
      go_ret
      exact ⟨rfl, HF.out⟩
    · have hb1 := HE1.out.blk k (mem_all20 k hk1.1 hk1.2)
      have hb2 := HE1.out.blk (n + 1) (mem_all20 (n + 1) (by omega) (by omega))
      have hne := HE1.out.inj k (mem_all20 k hk1.1 hk1.2) (n + 1) (mem_all20 (n + 1) (by omega) (by omega)) (Ne.symm he)
      obtain ⟨ca, ta, hb1⟩ := hb1
      obtain ⟨cb, tb, hb2⟩ := hb2
      have HI := Lib.hid (is_other (E k) (E (n + 1)) ca cb ta tb w1 hne hb1 hb2)
      clear hb1 hb2 hne
      go_wp2_with (go_at_call 29; refine HI.out.mono ?_; rintro e w' ⟨rfl, rfl⟩)
      go_round
      case rel => exact ⟨n + 1, by omega, by go_num⟩
      case measure => simp [intOf]; omega
theorem num_any (E : Nat → Addr) (B k : Nat) (w : World) (hE : Errs all20 E B w) (hk : k ≤ 20) :
    Calls Tryz.prog 10 #[errv E k] w fun e w' => e = .returned (.int .i64 k) ∧ Fr [] w w' := by
  by_cases h : k = 0
  · subst h; exact num_nil w
  · rw [errv_pos E k h]; exact num_sent E B k w hE (mem_all20 k (by omega) hk)
end Go.Proofs.YtmohiblgfmdkjaaGreatDoor
namespace Go.Proofs.YtmohiblgfmdkjaaGreatDoor
open Go.RowKit Go.Bl
set_option linter.unusedVariables false
theorem double_i (w : World) (a : UInt8) : Calls Tryz.prog 70 #[.int .u8 (a.toNat : Int)] w fun e w' => e = .returned (.int .u8 ((dbl a).toNat : Int)) ∧ Fr [] w w' := double_any w a
set_option maxHeartbeats 1000000 in
theorem flog_any (w : World) (a : UInt8) (ha : a ≠ 0) : Calls Tryz.prog 103 #[.int .u8 (a.toNat : Int)] w fun e w' => e = .returned (.tuple #[.int .i64 (glog a : Int), .nilIface]) ∧ Fr [] w w' := by
  obtain ⟨h1, h2⟩ := gexp_glog a ha
  have ha0 : a.toNat ≠ 0 := fun e => ha (UInt8.toNat_inj.1 e)
  obtain ⟨K, hK⟩ : ∃ K, glog a = K := ⟨_, rfl⟩
  rw [hK] at h1 h2 ⊢
  subst h1
  clear ha hK
  have HNE := Lib.hid (show ∀ k, k < K → (gexp k).toNat ≠ (gexp K).toNat from fun k hk e => by
    have := gexp_inj (by omega) h2 (UInt8.toNat_inj.1 e)
    omega)
  have HD := Lib.hid (fun w k => (double_i w (gexp k)))
  have HDE := Lib.hid (show ∀ k, dbl (gexp k) = gexp (k + 1) from fun k => rfl)
  have b1 : (((gexp K).toNat : Int) == 0) = false := by rw [beq_eq_false_iff_ne]; omega
  have HGK := Lib.hid (show (gexp K).toNat = (gexp K).toNat from rfl)
  have HG0 := Lib.hid (show gexp 0 = 1 from rfl)
  obtain ⟨G, hG⟩ : ∃ f, gexp = f := ⟨_, rfl⟩
  rw [hG] at HNE HD HDE HG0 b1 ⊢
  obtain ⟨m, hm⟩ : ∃ m, (G K).toNat = m := ⟨_, rfl⟩
  rw [hm] at HNE b1 ⊢
  have HM := Lib.hid hm
  clear hG ha0 HGK hm
  go_enter Tryz.func103, Tryz.ntmps103
  go_wp2
  go_loopw [4, 5] (fun n x wr => ∃ k : Nat, k ≤ K ∧ n = .int .i64 k ∧ x = .int .u8 ((G k).toNat : Int) ∧ Hid (Fr [] w wr)) (fun n _ _ => K - (intOf n).toNat)
  case atStart => exact ⟨0, by omega, rfl, by rw [HG0.out]; rfl, Fr.refl _ _⟩
  case round =>
    obtain ⟨k, hk, rfl, rfl, HF⟩ := hrel
    obtain ⟨wl, rfl⟩ : ∃ wl, wl = wr := ⟨wr, rfl⟩
    by_cases hkn : k < K
    · have hne := HNE.out k hkn
      go_wp2_with (go_at_call 70; fail)
      refine (HD.out wl k).mono ?_
      rintro e w2 ⟨rfl, hf⟩
      have HF2 := Lib.hid (HF.out.trans hf)
      clear hf hne
      go_wp2
      go_roundw
      case rel => exact ⟨k + 1, by omega, by go_num, by rw [HDE.out], HF2⟩
      case measure => simp [intOf]; omega
    · obtain rfl : k = K := by omega
      rw [HM.out]
      go_wp2
      go_ret2
      exact ⟨rfl, HF.out⟩
set_option maxHeartbeats 1000000 in
theorem flog_zero (L : List Nat) (E : Nat → Addr) (B : Nat) (w : World) (hE : Errs L E B w) (m20 : 20 ∈ L) : Calls Tryz.prog 103 #[.int .u8 0] w fun e w' => e = .returned (.tuple #[.int .i64 0, errv E 20]) ∧ Fr [] w w' := by
  have x20 : errv E 20 = .iface 168 (.pointer (some (E 20))) := errv_pos E 20 (by decide)
  rw [x20]
  have hcc := hE.cell 20 m20
  simp only [gOf, List.getD_eq_getElem?_getD, List.getElem?_cons_zero, List.getElem?_cons_succ, Option.getD_some] at hcc
  clear hE x20
  go_enter Tryz.func103, Tryz.ntmps103
  go_wp2
  go_quiet (fail)
  go_wp2
  go_ret2
  exact ⟨rfl, Fr.of_heap rfl rfl rfl rfl⟩
set_option maxHeartbeats 1000000 in
theorem exp_neg (w : World) (k : Nat) (hk : k < 255) : Calls Tryz.prog 87 #[.int .i64 (-(k : Int))] w fun e w' => e = .returned (.int .u8 ((gexp ((255 - k) % 255)).toNat : Int)) ∧ Fr [] w w' := by
  obtain ⟨n, hn⟩ : ∃ n, (255 - k) % 255 = n := ⟨_, rfl⟩
  rw [hn]
  have hmod : (-((k : Int) % 255) + 255) % 255 = n := by omega
  have hn255 : n < 255 := by omega
  have HD := Lib.hid (fun w k => (double_i w (gexp k)))
  go_enter Tryz.func87, Tryz.ntmps87
  go_wp2
  rw [hmod]
  clear hmod hn
  go_loopw [3, 8] (fun x i wr => ∃ j : Nat, j ≤ n ∧ i = .int .i64 j ∧ x = .int .u8 ((gexp j).toNat : Int) ∧ Hid (Fr [] w wr)) (fun _ i _ => n - (intOf i).toNat)
  case atStart => exact ⟨0, by omega, rfl, rfl, Fr.refl _ _⟩
  case round =>
    obtain ⟨j, hj, rfl, rfl, HF⟩ := hrel
    by_cases hjn : j < n
    · go_wp2_with fail
      refine (double_i _ (gexp j)).mono ?_
      rintro e w2 ⟨rfl, hf⟩
      have HF2 := Lib.hid (HF.out.trans hf)
      clear hf
      go_wp2
      go_roundw
      case rel => exact ⟨j + 1, by omega, by go_num, rfl, HF2.out⟩
      case measure => simp [intOf]; omega
    · obtain rfl : j = n := by omega
      go_wp2
      go_ret
      exact ⟨rfl, HF.out⟩
theorem ginv_log (a : UInt8) (ha : a ≠ 0) : gexp ((255 - glog a) % 255) = ginv a := by
  unfold ginv
  rw [if_neg ha, gexp_rest]
set_option maxHeartbeats 1000000 in
theorem finv_any (w : World) (a : UInt8) (ha : a ≠ 0) : Calls Tryz.prog 99 #[.int .u8 (a.toNat : Int)] w fun e w' => e = .returned (.tuple #[.int .u8 ((ginv a).toNat : Int), .nilIface]) ∧ Fr [] w w' := by
  have HL := Lib.hid (flog_any w a ha)
  have HX := Lib.hid (fun w => exp_neg w (glog a) (gexp_glog a ha).2)
  rw [ginv_log a ha] at HX
  obtain ⟨K, hK⟩ : ∃ K, glog a = K := ⟨_, rfl⟩
  have hK2 := (gexp_glog a ha).2
  rw [hK] at HL HX hK2
  clear hK ha
  go_enter Tryz.func99, Tryz.ntmps99
  go_wp2_with (go_at_call 103; fail)
  refine HL.out.mono ?_
  rintro e w1 ⟨rfl, hf⟩
  have HF1 := Lib.hid hf
  clear hf HL
  go_wp2_with (go_at_call 87; fail)
  refine (HX.out w1).mono ?_
  rintro e w2 ⟨rfl, hf⟩
  have HF2 := Lib.hid (HF1.out.trans hf)
  clear hf HX
  go_wp2
  go_ret2
  exact ⟨rfl, HF2.out⟩
set_option maxHeartbeats 1000000 in
theorem finv_zero (L : List Nat) (E : Nat → Addr) (B : Nat) (w : World) (hE : Errs L E B w) (m20 : 20 ∈ L) : Calls Tryz.prog 99 #[.int .u8 0] w fun e w' => e = .returned (.tuple #[.int .u8 0, errv E 20]) ∧ Fr [] w w' := by
  have x20 : errv E 20 = .iface 168 (.pointer (some (E 20))) := errv_pos E 20 (by decide)
  have HL := Lib.hid (flog_zero L E B w hE m20)
  rw [x20] at HL ⊢
  clear hE x20
  go_enter Tryz.func99, Tryz.ntmps99
  go_wp2_with (go_at_call 103; fail)
  refine HL.out.mono ?_
  rintro e w1 ⟨rfl, hf⟩
  have HF1 := Lib.hid hf
  clear hf HL
  go_wp2
  go_ret2
  exact ⟨rfl, HF1.out⟩
def hlf (b : UInt8) : UInt8 := UInt8.ofNat (b.toNat / 2)
theorem hlf_nat (b : UInt8) : (hlf b).toNat = b.toNat / 2 := by
  unfold hlf
  rw [UInt8.toNat_ofNat']
  have := b.toNat_lt
  omega
theorem half_all : ((List.range 256).all fun n => UInt8.ofNat n == ((if n % 2 = 1 then 1 else 0) ^^^ dbl (UInt8.ofNat (n / 2)))) = true := by decide +kernel
theorem dbl_mul (a : UInt8) : dbl a = gmul a 2 := by
  by_cases h : a = 0
  · subst h; rw [zero_gmul]; decide
  · obtain ⟨h1, -⟩ := gexp_glog a h
    rw [← h1, show (2 : UInt8) = gexp 1 from by decide, gexp_add]; rfl
theorem half_mul (a b : UInt8) : gmul a b = (if b.toNat % 2 = 1 then a else 0) ^^^ gmul (dbl a) (hlf b) := by
  have h := List.all_eq_true.1 half_all b.toNat (List.mem_range.2 b.toNat_lt)
  simp only [beq_iff_eq, UInt8.ofNat_toNat] at h
  have e : b = (if b.toNat % 2 = 1 then 1 else 0) ^^^ gmul (hlf b) 2 := by rw [← dbl_mul]; exact h
  conv => lhs; rw [e]
  rw [gmul_xor, dbl_mul, gmul_comm (hlf b), ← gmul_assoc]
  congr 1
  split
  · exact gmul_one a
  · exact gmul_zero a
set_option maxHeartbeats 1000000 in
theorem fmul_any (w : World) (a b : UInt8) : Calls Tryz.prog 85 #[.int .u8 (a.toNat : Int), .int .u8 (b.toNat : Int)] w fun e w' => e = .returned (.int .u8 ((gmul a b).toNat : Int)) ∧ Fr [] w w' := by
  obtain ⟨R, hR⟩ : ∃ R, gmul a b = R := ⟨_, rfl⟩
  have HR := Lib.hid hR
  rw [hR]
  clear hR
  go_enter Tryz.func85, Tryz.ntmps85
  go_wp2
  go_loopw [0, 1, 5] (fun x y o wr => ∃ (p q c : UInt8), x = .int .u8 (p.toNat : Int) ∧ y = .int .u8 (q.toNat : Int) ∧ o = .int .u8 (c.toNat : Int) ∧ Hid (c ^^^ gmul p q = R) ∧ Hid (Fr [] w wr)) (fun _ y _ _ => (intOf y).toNat)
  case atStart => exact ⟨a, b, 0, rfl, rfl, rfl, Lib.hid (by rw [HR.out, UInt8.zero_xor]), Fr.refl _ _⟩
  case round =>
    obtain ⟨p, q, c, rfl, rfl, rfl, HX, HF⟩ := hrel
    obtain ⟨wl, rfl⟩ : ∃ wl, wl = wr := ⟨wr, rfl⟩
    by_cases hq : q = 0
    · have hq0 : q.toNat = 0 := by rw [hq]; rfl
      have HC := Lib.hid (show c = R by have := HX.out; rwa [hq, gmul_zero, UInt8.xor_zero] at this)
      have hqi : ¬ (0 : Int) < (q.toNat : Int) := by omega
      rw [HC.out]
      go_wp2
      go_ret
      exact ⟨rfl, HF.out⟩
    · have hq0 : q.toNat ≠ 0 := fun e => hq (UInt8.toNat_inj.1 e)
      have hqi : (0 : Int) < (q.toNat : Int) := by omega
      have hql := q.toNat_lt
      have HM := Lib.hid (half_mul p q)
      have HN := Lib.hid (hlf_nat q)
      obtain ⟨n, hn⟩ : ∃ n, q.toNat = n := ⟨_, rfl⟩
      rw [hn] at hq0 hqi hql HM HN ⊢
      have hxx := u8_xor_u c p
      clear hq hn
      have HXO := HX
      by_cases hod : n % 2 = 1
      · have hand : bits .and .u8 (n : Int) 1 = 1 := by
          have h := u8_and_nat n 1 hql (by omega)
          rw [Nat.and_one_is_mod, hod] at h
          exact h
        rw [if_pos hod] at HM
        go_wp2_with (go_at_call 70; fail)
        refine (double_i wl p).mono ?_
        rintro e w2 ⟨rfl, hf⟩
        have HF2 := Lib.hid (HF.out.trans hf)
        clear hf
        go_wp2
        go_roundw
        case rel => exact ⟨dbl p, hlf q, c ^^^ p, rfl, by rw [HN.out]; go_num, by rw [UInt8.toNat_xor], Lib.hid (by rw [← HX.out, HM.out, UInt8.xor_assoc]), HF2⟩
        case measure => simp [intOf]; omega
      · have hand : bits .and .u8 (n : Int) 1 = 0 := by
          have h := u8_and_nat n 1 hql (by omega)
          rw [Nat.and_one_is_mod, show n % 2 = 0 by omega] at h
          exact h
        rw [if_neg hod] at HM
        go_wp2_with (go_at_call 70; fail)
        refine (double_i wl p).mono ?_
        rintro e w2 ⟨rfl, hf⟩
        have HF2 := Lib.hid (HF.out.trans hf)
        clear hf
        go_wp2
        go_roundw
        case rel => exact ⟨dbl p, hlf q, c, rfl, by rw [HN.out]; go_num, rfl, Lib.hid (by rw [← HX.out, HM.out, UInt8.zero_xor]), HF2⟩
        case measure => simp [intOf]; omega
set_option maxHeartbeats 1000000 in
theorem fdiv_any (w : World) (a b : UInt8) (hb : b ≠ 0) : Calls Tryz.prog 83 #[.int .u8 (a.toNat : Int), .int .u8 (b.toNat : Int)] w fun e w' => e = .returned (.tuple #[.int .u8 ((gmul a (ginv b)).toNat : Int), .nilIface]) ∧ Fr [] w w' := by
  have HI := Lib.hid (finv_any w b hb)
  obtain ⟨i, hi⟩ : ∃ i, ginv b = i := ⟨_, rfl⟩
  rw [hi] at HI ⊢
  clear hi hb
  go_enter Tryz.func83, Tryz.ntmps83
  go_wp2_with (go_at_call 99; fail)
  refine HI.out.mono ?_
  rintro e w1 ⟨rfl, hf⟩
  have HF1 := Lib.hid hf
  clear hf HI
  go_wp2_with (go_at_call 85; fail)
  refine (fmul_any w1 a i).mono ?_
  rintro e w2 ⟨rfl, hf⟩
  have HF2 := Lib.hid (HF1.out.trans hf)
  clear hf
  go_wp2
  go_ret2
  exact ⟨rfl, HF2.out⟩
set_option maxHeartbeats 1000000 in
theorem fdiv_zero (L : List Nat) (E : Nat → Addr) (B : Nat) (w : World) (a : UInt8) (hE : Errs L E B w) (m20 : 20 ∈ L) : Calls Tryz.prog 83 #[.int .u8 (a.toNat : Int), .int .u8 0] w fun e w' => e = .returned (.tuple #[.int .u8 0, errv E 20]) ∧ Fr [] w w' := by
  have x20 : errv E 20 = .iface 168 (.pointer (some (E 20))) := errv_pos E 20 (by decide)
  have HL := Lib.hid (finv_zero L E B w hE m20)
  rw [x20] at HL ⊢
  clear hE x20
  go_enter Tryz.func83, Tryz.ntmps83
  go_wp2_with (go_at_call 99; fail)
  refine HL.out.mono ?_
  rintro e w1 ⟨rfl, hf⟩
  have HF1 := Lib.hid hf
  clear hf HL
  go_wp2
  go_ret2
  exact ⟨rfl, HF1.out⟩
end Go.Proofs.YtmohiblgfmdkjaaGreatDoor
