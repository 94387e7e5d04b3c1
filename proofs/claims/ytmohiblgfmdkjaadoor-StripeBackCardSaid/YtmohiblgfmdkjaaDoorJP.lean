/-
  The project's errors: what the listed variables hold, errors.Is between them, and the number of an error.
  Layer 1: field.Log, field.Inv, field.Mul, field.Div.
-/
import Derived.Test.YtmohiblgfmdkjaaDoorRows
import Derived.Test.YtmohiblgfmdkjaaDoorGA
import Derived.ProofKit
import Derived.WalkLawsBesides
import Derived.WalkSpells
import Derived.LaidEql
import Derived.Stop.Asserts
import Derived.RowKitTokens
import Derived.Test.YtmohiblgfmdkjaaDoorGD
import Derived.Test.YtmohiblgfmdkjaaDoorGC
import Derived.BigQuiet
namespace Go.Proofs.YtmohiblgfmdkjaaDoor
open Go.RowKit Go.Bl Go.Extern.Stop Go.Stop Go.Extern
set_option linter.unusedVariables false

/-- the variable that holds the error of a number -/
def gOf (k : Nat) : Nat := [0, 5, 0, 0, 0, 0, 0, 0, 2, 0, 6, 0, 0, 0, 0, 0, 7, 1, 0, 0, 13].getD k 0

/-- the errors of the numbers in L are at E's places, all apart, in blocks below B -/
structure Errs (L : List Nat) (E : Nat → Addr) (B : Nat) (w : World) : Prop where
  glob : ∀ k ∈ L, ∃ t fz, w.heap[gOf k]? = some (.cells #[.iface 261 (.pointer (some (E k)))] t fz)
  blk : ∀ k ∈ L, ∃ c t, w.heap[(E k).block]? = some (.cells c t (0, 0))
  inj : ∀ j ∈ L, ∀ k ∈ L, j ≠ k → E j ≠ E k
  ltg : ∀ k ∈ L, gOf k < B
  lte : ∀ k ∈ L, (E k).block < B
theorem Errs.keep {L : List Nat} {E : Nat → Addr} {B : Nat} {w w' : World} {S : List Nat} (h : Errs L E B w) (hf : Fr S w w') (hS : ∀ b ∈ S, B ≤ b) : Errs L E B w' where
  glob k hk := by
    obtain ⟨t, fz, hb⟩ := h.glob k hk
    exact ⟨t, fz, hf.keep hb fun hm => by have := h.ltg k hk; have := hS _ hm; omega⟩
  blk k hk := by
    obtain ⟨c, t, hb⟩ := h.blk k hk
    exact ⟨c, t, hf.keep hb fun hm => by have := h.lte k hk; have := hS _ hm; omega⟩
  inj := h.inj
  ltg := h.ltg
  lte := h.lte
theorem Errs.keep0 {L : List Nat} {E : Nat → Addr} {B : Nat} {w w' : World} (h : Errs L E B w) (hf : Fr [] w w') : Errs L E B w' := h.keep hf (by simp)
theorem Errs.cell {L : List Nat} {E : Nat → Addr} {B : Nat} {w : World} (h : Errs L E B w) (k : Nat) (hk : k ∈ L) : w.cell? ⟨gOf k, 0, none⟩ = some (.iface 261 (.pointer (some (E k)))) := by
  obtain ⟨t, fz, hb⟩ := h.glob k hk
  rw [cell_of hb]; rfl

/-- the error value of a number -/
def errv (E : Nat → Addr) (k : Nat) : Value := if k = 0 then .nilIface else .iface 261 (.pointer (some (E k)))
theorem errv_zero (E : Nat → Addr) : errv E 0 = .nilIface := rfl
theorem errv_pos (E : Nat → Addr) (k : Nat) (h : k ≠ 0) : errv E k = .iface 261 (.pointer (some (E k))) := by simp [errv, h]

/-! closed facts -/
theorem Tryd.isComparable (w : World) : ((Extern.ReflectliteType.method fun t => (fun a => Value.bool a.comparable) <$> typeInfo t) #[.agg #[typeHandle Tryd.prog 261]]).run Tryd.prog w = .ok (.bool true) w := by kernel_rfl
theorem Tryd.compE : (Tryd.prog.info? 261).map (·.comparable) = some true := by kernel_rfl
theorem Tryd.sizeE : (Tryd.prog.info? 278).map (·.size) = some 1 := by kernel_rfl
theorem eql_same (a : Addr) (w : World) : (binOp .eql 27 (.iface 261 (.pointer (some a))) (.iface 261 (.pointer (some a)))).run Tryd.prog w = .ok (.bool true) w := by
  obtain ⟨i, hi, hcmp⟩ := Option.map_eq_some_iff.1 Tryd.compE
  obtain ⟨j, hj, hjs⟩ := Option.map_eq_some_iff.1 Tryd.sizeE
  exact run_eql_iface_ptr_same (P := Tryd.prog) w a Tryd.underlying27 Tryd.underlying261 hi hcmp hj
theorem eql_other (a b : Addr) (ca cb : Array Value) (ta tb : TypeId) (w : World) (hne : a ≠ b) (ha : w.heap[a.block]? = some (.cells ca ta (0, 0))) (hb : w.heap[b.block]? = some (.cells cb tb (0, 0))) :
    (binOp .eql 27 (.iface 261 (.pointer (some a))) (.iface 261 (.pointer (some b)))).run Tryd.prog w = .ok (.bool false) w := by
  obtain ⟨i, hi, hcmp⟩ := Option.map_eq_some_iff.1 Tryd.compE
  obtain ⟨j, hj, hjs⟩ := Option.map_eq_some_iff.1 Tryd.sizeE
  exact run_eql_iface_ptr_other (P := Tryd.prog) w Tryd.underlying27 Tryd.underlying261 hi hcmp hj (by rw [hjs]; decide) hne ha hb

def all20 : List Nat := [1, 4, 8, 10, 16, 17, 20]
/-- the list that Num makes -/
def errList (E : Nat → Addr) : List Value := all20.map fun k => .iface 261 (.pointer (some (E k)))
end Go.Proofs.YtmohiblgfmdkjaaDoor
namespace Go.Proofs.YtmohiblgfmdkjaaDoor
open Go.RowKit Go.Bl
set_option linter.unusedVariables false
theorem double_i (w : World) (a : UInt8) : Calls Tryd.prog 79 #[.int .u8 (a.toNat : Int)] w fun e w' => e = .returned (.int .u8 ((dbl a).toNat : Int)) ∧ Fr [] w w' := double_any w a
set_option maxHeartbeats 1000000 in
theorem flog_any (w : World) (a : UInt8) (ha : a ≠ 0) : Calls Tryd.prog 148 #[.int .u8 (a.toNat : Int)] w fun e w' => e = .returned (.tuple #[.int .i64 (glog a : Int), .nilIface]) ∧ Fr [] w w' := by
  obtain ⟨h1, h2⟩ := gexp_glog a ha
  have ha0 : a.toNat ≠ 0 := fun e => ha (UInt8.toNat_inj.1 e)
  obtain ⟨K, hK⟩ : ∃ K, glog a = K := ⟨_, rfl⟩
  rw [hK] at h1 h2 ⊢
  subst h1
  clear ha hK
  have HNE := Lib.hid (show ∀ k, k < K → (gexp k).toNat ≠ (gexp K).toNat from fun k hk e => by
    have := gexp_inj (by omega) h2 (UInt8.toNat_inj.1 e)
    omega)
  have HD := Lib.hid (fun w k => (double_i w (gexp k)))
  have HDE := Lib.hid (show ∀ k, dbl (gexp k) = gexp (k + 1) from fun k => rfl)
  have b1 : (((gexp K).toNat : Int) == 0) = false := by rw [beq_eq_false_iff_ne]; omega
  have HGK := Lib.hid (show (gexp K).toNat = (gexp K).toNat from rfl)
  have HG0 := Lib.hid (show gexp 0 = 1 from rfl)
  obtain ⟨G, hG⟩ : ∃ f, gexp = f := ⟨_, rfl⟩
  rw [hG] at HNE HD HDE HG0 b1 ⊢
  obtain ⟨m, hm⟩ : ∃ m, (G K).toNat = m := ⟨_, rfl⟩
  rw [hm] at HNE b1 ⊢
  have HM := Lib.hid hm
  clear hG ha0 HGK hm
  go_enter Tryd.func148, Tryd.ntmps148
  go_wp2
  go_loopw [4, 5] (fun n x wr => ∃ k : Nat, k ≤ K ∧ n = .int .i64 k ∧ x = .int .u8 ((G k).toNat : Int) ∧ Hid (Fr [] w wr)) (fun n _ _ => K - (intOf n).toNat)
  case atStart => exact ⟨0, by omega, rfl, by rw [HG0.out]; rfl, Fr.refl _ _⟩
  case round =>
    obtain ⟨k, hk, rfl, rfl, HF⟩ := hrel
    obtain ⟨wl, rfl⟩ : ∃ wl, wl = wr := ⟨wr, rfl⟩
    by_cases hkn : k < K
    · have hne := HNE.out k hkn
      go_wp2_with (go_at_call 79; fail)
      refine (HD.out wl k).mono ?_
      rintro e w2 ⟨rfl, hf⟩
      have HF2 := Lib.hid (HF.out.trans hf)
      clear hf hne
      go_wp2
      go_roundw
      case rel => exact ⟨k + 1, by omega, by go_num, by rw [HDE.out], HF2⟩
      case measure => simp [intOf]; omega
    · obtain rfl : k = K := by omega
      rw [HM.out]
      go_wp2
      go_ret2
      exact ⟨rfl, HF.out⟩
set_option maxHeartbeats 1000000 in
theorem flog_zero (L : List Nat) (E : Nat → Addr) (B : Nat) (w : World) (hE : Errs L E B w) (m20 : 20 ∈ L) : Calls Tryd.prog 148 #[.int .u8 0] w fun e w' => e = .returned (.tuple #[.int .i64 0, errv E 20]) ∧ Fr [] w w' := by
  have x20 : errv E 20 = .iface 261 (.pointer (some (E 20))) := errv_pos E 20 (by decide)
  rw [x20]
  have hcc := hE.cell 20 m20
  simp only [gOf, List.getD_eq_getElem?_getD, List.getElem?_cons_zero, List.getElem?_cons_succ, Option.getD_some] at hcc
  clear hE x20
  go_enter Tryd.func148, Tryd.ntmps148
  go_wp2
  go_quiet (fail)
  go_wp2
  go_ret2
  exact ⟨rfl, Fr.of_heap rfl rfl rfl rfl⟩
set_option maxHeartbeats 1000000 in
theorem exp_neg (w : World) (k : Nat) (hk : k < 255) : Calls Tryd.prog 80 #[.int .i64 (-(k : Int))] w fun e w' => e = .returned (.int .u8 ((gexp ((255 - k) % 255)).toNat : Int)) ∧ Fr [] w w' := by
  obtain ⟨n, hn⟩ : ∃ n, (255 - k) % 255 = n := ⟨_, rfl⟩
  rw [hn]
  have hmod : (-((k : Int) % 255) + 255) % 255 = n := by omega
  have hn255 : n < 255 := by omega
  have HD := Lib.hid (fun w k => (double_i w (gexp k)))
  go_enter Tryd.func80, Tryd.ntmps80
  go_wp2
  rw [hmod]
  clear hmod hn
  go_loopw [3, 8] (fun x i wr => ∃ j : Nat, j ≤ n ∧ i = .int .i64 j ∧ x = .int .u8 ((gexp j).toNat : Int) ∧ Hid (Fr [] w wr)) (fun _ i _ => n - (intOf i).toNat)
  case atStart => exact ⟨0, by omega, rfl, rfl, Fr.refl _ _⟩
  case round =>
    obtain ⟨j, hj, rfl, rfl, HF⟩ := hrel
    by_cases hjn : j < n
    · go_wp2_with fail
      refine (double_i _ (gexp j)).mono ?_
      rintro e w2 ⟨rfl, hf⟩
      have HF2 := Lib.hid (HF.out.trans hf)
      clear hf
      go_wp2
      go_roundw
      case rel => exact ⟨j + 1, by omega, by go_num, rfl, HF2.out⟩
      case measure => simp [intOf]; omega
    · obtain rfl : j = n := by omega
      go_wp2
      go_ret
      exact ⟨rfl, HF.out⟩
theorem ginv_log (a : UInt8) (ha : a ≠ 0) : gexp ((255 - glog a) % 255) = ginv a := by
  unfold ginv
  rw [if_neg ha, gexp_rest]
set_option maxHeartbeats 1000000 in
theorem finv_any (w : World) (a : UInt8) (ha : a ≠ 0) : Calls Tryd.prog 136 #[.int .u8 (a.toNat : Int)] w fun e w' => e = .returned (.tuple #[.int .u8 ((ginv a).toNat : Int), .nilIface]) ∧ Fr [] w w' := by
  have HL := Lib.hid (flog_any w a ha)
  have HX := Lib.hid (fun w => exp_neg w (glog a) (gexp_glog a ha).2)
  rw [ginv_log a ha] at HX
  obtain ⟨K, hK⟩ : ∃ K, glog a = K := ⟨_, rfl⟩
  have hK2 := (gexp_glog a ha).2
  rw [hK] at HL HX hK2
  clear hK ha
  go_enter Tryd.func136, Tryd.ntmps136
  go_wp2_with (go_at_call 148; fail)
  refine HL.out.mono ?_
  rintro e w1 ⟨rfl, hf⟩
  have HF1 := Lib.hid hf
  clear hf HL
  go_wp2_with (go_at_call 80; fail)
  refine (HX.out w1).mono ?_
  rintro e w2 ⟨rfl, hf⟩
  have HF2 := Lib.hid (HF1.out.trans hf)
  clear hf HX
  go_wp2
  go_ret2
  exact ⟨rfl, HF2.out⟩
set_option maxHeartbeats 1000000 in
theorem finv_zero (L : List Nat) (E : Nat → Addr) (B : Nat) (w : World) (hE : Errs L E B w) (m20 : 20 ∈ L) : Calls Tryd.prog 136 #[.int .u8 0] w fun e w' => e = .returned (.tuple #[.int .u8 0, errv E 20]) ∧ Fr [] w w' := by
  have x20 : errv E 20 = .iface 261 (.pointer (some (E 20))) := errv_pos E 20 (by decide)
  have HL := Lib.hid (flog_zero L E B w hE m20)
  rw [x20] at HL ⊢
  clear hE x20
  go_enter Tryd.func136, Tryd.ntmps136
  go_wp2_with (go_at_call 148; fail)
  refine HL.out.mono ?_
  rintro e w1 ⟨rfl, hf⟩
  have HF1 := Lib.hid hf
  clear hf HL
  go_wp2
  go_ret2
  exact ⟨rfl, HF1.out⟩
/-- half of a number -/
def hlf (b : UInt8) : UInt8 := UInt8.ofNat (b.toNat / 2)
theorem hlf_nat (b : UInt8) : (hlf b).toNat = b.toNat / 2 := by
  unfold hlf
  rw [UInt8.toNat_ofNat']
  have := b.toNat_lt
  omega
theorem half_all : ((List.range 256).all fun n => UInt8.ofNat n == ((if n % 2 = 1 then 1 else 0) ^^^ dbl (UInt8.ofNat (n / 2)))) = true := by decide +kernel
theorem dbl_mul (a : UInt8) : dbl a = gmul a 2 := by
  by_cases h : a = 0
  · subst h; rw [zero_gmul]; decide
  · obtain ⟨h1, -⟩ := gexp_glog a h
    rw [← h1, show (2 : UInt8) = gexp 1 from by decide, gexp_add]; rfl
theorem half_mul (a b : UInt8) : gmul a b = (if b.toNat % 2 = 1 then a else 0) ^^^ gmul (dbl a) (hlf b) := by
  have h := List.all_eq_true.1 half_all b.toNat (List.mem_range.2 b.toNat_lt)
  simp only [beq_iff_eq, UInt8.ofNat_toNat] at h
  have e : b = (if b.toNat % 2 = 1 then 1 else 0) ^^^ gmul (hlf b) 2 := by rw [← dbl_mul]; exact h
  conv => lhs; rw [e]
  rw [gmul_xor, dbl_mul, gmul_comm (hlf b), ← gmul_assoc]
  congr 1
  split
  · exact gmul_one a
  · exact gmul_zero a
set_option maxHeartbeats 1000000 in
theorem fmul_any (w : World) (a b : UInt8) : Calls Tryd.prog 115 #[.int .u8 (a.toNat : Int), .int .u8 (b.toNat : Int)] w fun e w' => e = .returned (.int .u8 ((gmul a b).toNat : Int)) ∧ Fr [] w w' := by
  obtain ⟨R, hR⟩ : ∃ R, gmul a b = R := ⟨_, rfl⟩
  have HR := Lib.hid hR
  rw [hR]
  clear hR
  go_enter Tryd.func115, Tryd.ntmps115
  go_wp2
  go_loopw [0, 1, 5] (fun x y o wr => ∃ (p q c : UInt8), x = .int .u8 (p.toNat : Int) ∧ y = .int .u8 (q.toNat : Int) ∧ o = .int .u8 (c.toNat : Int) ∧ Hid (c ^^^ gmul p q = R) ∧ Hid (Fr [] w wr)) (fun _ y _ _ => (intOf y).toNat)
  case atStart => exact ⟨a, b, 0, rfl, rfl, rfl, Lib.hid (by rw [HR.out, UInt8.zero_xor]), Fr.refl _ _⟩
  case round =>
    obtain ⟨p, q, c, rfl, rfl, rfl, HX, HF⟩ := hrel
    obtain ⟨wl, rfl⟩ : ∃ wl, wl = wr := ⟨wr, rfl⟩
    by_cases hq : q = 0
    · have hq0 : q.toNat = 0 := by rw [hq]; rfl
      have HC := Lib.hid (show c = R by have := HX.out; rwa [hq, gmul_zero, UInt8.xor_zero] at this)
      have hqi : ¬ (0 : Int) < (q.toNat : Int) := by omega
      rw [HC.out]
      go_wp2
      go_ret
      exact ⟨rfl, HF.out⟩
    · have hq0 : q.toNat ≠ 0 := fun e => hq (UInt8.toNat_inj.1 e)
      have hqi : (0 : Int) < (q.toNat : Int) := by omega
      have hql := q.toNat_lt
      have HM := Lib.hid (half_mul p q)
      have HN := Lib.hid (hlf_nat q)
      obtain ⟨n, hn⟩ : ∃ n, q.toNat = n := ⟨_, rfl⟩
      rw [hn] at hq0 hqi hql HM HN ⊢
      have hxx := u8_xor_u c p
      clear hq hn
      have HXO := HX
      by_cases hod : n % 2 = 1
      · have hand : bits .and .u8 (n : Int) 1 = 1 := by
          have h := u8_and_nat n 1 hql (by omega)
          rw [Nat.and_one_is_mod, hod] at h
          exact h
        rw [if_pos hod] at HM
        go_wp2_with (go_at_call 79; fail)
        refine (double_i wl p).mono ?_
        rintro e w2 ⟨rfl, hf⟩
        have HF2 := Lib.hid (HF.out.trans hf)
        clear hf
        go_wp2
        go_roundw
        case rel => exact ⟨dbl p, hlf q, c ^^^ p, rfl, by rw [HN.out]; go_num, by rw [UInt8.toNat_xor], Lib.hid (by rw [← HX.out, HM.out, UInt8.xor_assoc]), HF2⟩
        case measure => simp [intOf]; omega
      · have hand : bits .and .u8 (n : Int) 1 = 0 := by
          have h := u8_and_nat n 1 hql (by omega)
          rw [Nat.and_one_is_mod, show n % 2 = 0 by omega] at h
          exact h
        rw [if_neg hod] at HM
        go_wp2_with (go_at_call 79; fail)
        refine (double_i wl p).mono ?_
        rintro e w2 ⟨rfl, hf⟩
        have HF2 := Lib.hid (HF.out.trans hf)
        clear hf
        go_wp2
        go_roundw
        case rel => exact ⟨dbl p, hlf q, c, rfl, by rw [HN.out]; go_num, rfl, Lib.hid (by rw [← HX.out, HM.out, UInt8.zero_xor]), HF2⟩
        case measure => simp [intOf]; omega
set_option maxHeartbeats 1000000 in
theorem fdiv_any (w : World) (a b : UInt8) (hb : b ≠ 0) : Calls Tryd.prog 113 #[.int .u8 (a.toNat : Int), .int .u8 (b.toNat : Int)] w fun e w' => e = .returned (.tuple #[.int .u8 ((gmul a (ginv b)).toNat : Int), .nilIface]) ∧ Fr [] w w' := by
  have HI := Lib.hid (finv_any w b hb)
  obtain ⟨i, hi⟩ : ∃ i, ginv b = i := ⟨_, rfl⟩
  rw [hi] at HI ⊢
  clear hi hb
  go_enter Tryd.func113, Tryd.ntmps113
  go_wp2_with (go_at_call 136; fail)
  refine HI.out.mono ?_
  rintro e w1 ⟨rfl, hf⟩
  have HF1 := Lib.hid hf
  clear hf HI
  go_wp2_with (go_at_call 115; fail)
  refine (fmul_any w1 a i).mono ?_
  rintro e w2 ⟨rfl, hf⟩
  have HF2 := Lib.hid (HF1.out.trans hf)
  clear hf
  go_wp2
  go_ret2
  exact ⟨rfl, HF2.out⟩
set_option maxHeartbeats 1000000 in
theorem fdiv_zero (L : List Nat) (E : Nat → Addr) (B : Nat) (w : World) (a : UInt8) (hE : Errs L E B w) (m20 : 20 ∈ L) : Calls Tryd.prog 113 #[.int .u8 (a.toNat : Int), .int .u8 0] w fun e w' => e = .returned (.tuple #[.int .u8 0, errv E 20]) ∧ Fr [] w w' := by
  have x20 : errv E 20 = .iface 261 (.pointer (some (E 20))) := errv_pos E 20 (by decide)
  have HL := Lib.hid (finv_zero L E B w hE m20)
  rw [x20] at HL ⊢
  clear hE x20
  go_enter Tryd.func113, Tryd.ntmps113
  go_wp2_with (go_at_call 136; fail)
  refine HL.out.mono ?_
  rintro e w1 ⟨rfl, hf⟩
  have HF1 := Lib.hid hf
  clear hf HL
  go_wp2
  go_ret2
  exact ⟨rfl, HF1.out⟩
end Go.Proofs.YtmohiblgfmdkjaaDoor
