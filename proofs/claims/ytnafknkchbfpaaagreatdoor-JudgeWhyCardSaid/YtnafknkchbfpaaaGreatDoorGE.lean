import Derived.Test.YtnafknkchbfpaaaGreatDoorRows
import Derived.Test.YtnafknkchbfpaaaGreatDoorGA
import Derived.ProofKit
import Derived.WalkLawsBesides
import Derived.WalkSpells
import Derived.Stop.Asserts
set_option linter.unusedVariables false
set_option linter.unusedSimpArgs false
set_option maxRecDepth 1000000
set_option maxHeartbeats 8000000
namespace Go.Proofs.YtnafknkchbfpaaaGreatDoor
open Go.RowKit Go.Bl Go.Extern.Stop Go.Stop Go.Extern
def gOf (k : Nat) : Nat := [0, 0, 2, 3, 4, 5, 6, 7, 1, 8, 9, 10, 11, 12, 13, 14, 15, 16, 17, 18, 19].getD k 0
structure vu (L : List Nat) (E : Nat -> Addr) (B : Nat) (w : World) : Prop where
 glob : ∀ k ∈ L, ∃ t fz, w.heap[gOf k]? = some (.cells #[.iface 317 (.pointer (some (E k)))] t fz)
 blk : ∀ k ∈ L, ∃ c t, w.heap[(E k).block]? = some (.cells c t (0, 0))
 inj : ∀ j ∈ L, ∀ k ∈ L, j ≠ k -> E j ≠ E k
 ltg : ∀ k ∈ L, gOf k < B
 lte : ∀ k ∈ L, (E k).block < B
theorem vu.keep {L : List Nat} {E : Nat -> Addr} {B : Nat} {w w' : World} {S : List Nat} (h : vu L E B w) (hf : Fr S w w') (hS : ∀ b ∈ S, B <= b) : vu L E B w' where
 glob k hk := by
  obtain ⟨t, fz, hb⟩ := h.glob k hk
  exact ⟨t, fz, hf.keep hb fun hm => by have := h.ltg k hk; have := hS _ hm; omega⟩
 blk k hk := by
  obtain ⟨c, t, hb⟩ := h.blk k hk
  exact ⟨c, t, hf.keep hb fun hm => by have := h.lte k hk; have := hS _ hm; omega⟩
 inj := h.inj
 ltg := h.ltg
 lte := h.lte
theorem vu.keep0 {L : List Nat} {E : Nat -> Addr} {B : Nat} {w w' : World} (h : vu L E B w) (hf : Fr [] w w') : vu L E B w' := h.keep hf Y77
theorem vu.cell {L : List Nat} {E : Nat -> Addr} {B : Nat} {w : World} (h : vu L E B w) (k : Nat) (hk : k ∈ L) : w.cell? ⟨gOf k, 0, none⟩ = some (.iface 317 (.pointer (some (E k)))) := by
 obtain ⟨t, fz, hb⟩ := h.glob k hk
 rw [ja hb]; rfl
def jQ (E : Nat -> Addr) (k : Nat) : Value := if k = 0 then .nilIface else .iface 317 (.pointer (some (E k)))
theorem errv_pos (E : Nat -> Addr) (k : Nat) (h : k ≠ 0) : jQ E k = .iface 317 (.pointer (some (E k))) := by simp [jQ, h]
theorem Tryz.typeOfE (p : Value) (w : World) : (callFunc 107 #[.iface 317 p]).run Tryz.prog w = .ok (.value (.iface 240 (.agg #[typeHandle Tryz.prog 317]))) w := by kernel_rfl
theorem Tryz.methodE (v : Value) (w : World) : (Go.method 455 240 v "Comparable").run Tryz.prog w = .ok (244, v) w := by kernel_rfl
theorem Tryz.comparableE (w : World) : (callFunc 244 #[.agg #[typeHandle Tryz.prog 317]]).run Tryz.prog w = .ok (.value (.bool true)) w := by kernel_rfl
theorem Tryz.compE : (Tryz.prog.info? 317).map (·.comparable) = some true := by kernel_rfl
theorem Tryz.sizeE : (Tryz.prog.info? 343).map (·.size) = some 1 := by kernel_rfl
theorem Tryz.noIsE (v : Value) (xT : TypeId) (w : World) : (Instr.typeAssert (.iface 317 v) xT 242 true).run Tryz.prog w = .ok (.tuple #[.nilIface, .bool false]) w := run_typeAssert_lacksB Tryz.underlying242 Y45 Y45 v xT w
theorem Tryz.noUnE (v : Value) (xT : TypeId) (w : World) : (Instr.typeAssert (.iface 317 v) xT 245 true).run Tryz.prog w = .ok (.tuple #[.nilIface, .bool false]) w := run_typeAssert_lacksB Tryz.underlying245 Y45 Y45 v xT w
theorem Tryz.noUnsE (v : Value) (xT : TypeId) (w : World) : (Instr.typeAssert (.iface 317 v) xT 247 true).run Tryz.prog w = .ok (.tuple #[.nilIface, .bool false]) w := run_typeAssert_lacksB Tryz.underlying247 Y45 Y45 v xT w
theorem Ub (a : Addr) (w : World) : (binOp .eql 33 (.iface 317 (.pointer (some a))) (.iface 317 (.pointer (some a)))).run Tryz.prog w = .ok (.bool true) w := by
 obtain ⟨i, hi, hcmp⟩ := Option.map_eq_some_iff.1 Tryz.compE
 obtain ⟨j, hj, hjs⟩ := Option.map_eq_some_iff.1 Tryz.sizeE
 exact run_eql_iface_ptr_same (P := Tryz.prog) w a Tryz.underlying33 Tryz.underlying317 hi hcmp hj
theorem Jn (a b : Addr) (ca cb : Array Value) (ta tb : TypeId) (w : World) (hne : a ≠ b) (ha : w.heap[a.block]? = some (.cells ca ta (0, 0))) (hb : w.heap[b.block]? = some (.cells cb tb (0, 0))) :
  (binOp .eql 33 (.iface 317 (.pointer (some a))) (.iface 317 (.pointer (some b)))).run Tryz.prog w = .ok (.bool false) w := by
 obtain ⟨i, hi, hcmp⟩ := Option.map_eq_some_iff.1 Tryz.compE
 obtain ⟨j, hj, hjs⟩ := Option.map_eq_some_iff.1 Tryz.sizeE
 exact run_eql_iface_ptr_other (P := Tryz.prog) w Tryz.underlying33 Tryz.underlying317 hi hcmp hj (by rw [hjs]; decide) hne ha hb
theorem qej (a : Addr) (w : World) :
  Calls Tryz.prog 60 #[.iface 317 (.pointer (some a)), .iface 317 (.pointer (some a))] w fun e w' => e = .returned (.bool true) /\ w = w' := by
 have tT := Tryz.typeOfE
 have cT := Tryz.comparableE
 have mR := Tryz.methodE
 have heq := Ub a w
 go_enter Tryz.func60, Tryz.ntmps60
 go_wp2
 refine wp_loop_rounds 1 ?_
 rw [rounds_succ]
 go_wp2
 go_ret
 exact ⟨rfl, rfl⟩
theorem qdf (a b : Addr) (ca cb : Array Value) (ta tb : TypeId) (w : World) (hne : a ≠ b) (ha : w.heap[a.block]? = some (.cells ca ta (0, 0))) (hb : w.heap[b.block]? = some (.cells cb tb (0, 0))) :
  Calls Tryz.prog 60 #[.iface 317 (.pointer (some a)), .iface 317 (.pointer (some b))] w fun e w' => e = .returned (.bool false) /\ w = w' := by
 have tT := Tryz.typeOfE
 have cT := Tryz.comparableE
 have mR := Tryz.methodE
 have nE := Tryz.noIsE
 have uE := Tryz.noUnE
 have vE := Tryz.noUnsE
 have heq := Jn a b ca cb ta tb w hne ha hb
 clear hne ha hb
 go_enter Tryz.func60, Tryz.ntmps60
 go_wp2
 refine wp_loop_rounds 1 ?_
 rw [rounds_succ]
 go_wp2
 go_ret
 exact ⟨rfl, rfl⟩
def all20 : List Nat := [1, 2, 3, 4, 5, 6, 7, 8, 9, 10, 11, 12, 13, 14, 15, 16, 17, 18, 19, 20]
theorem jc (k : Nat) (h1 : 1 <= k) (h2 : k <= 20) : k ∈ all20 := by
 have : k = 1 ∨ k = 2 ∨ k = 3 ∨ k = 4 ∨ k = 5 ∨ k = 6 ∨ k = 7 ∨ k = 8 ∨ k = 9 ∨ k = 10 ∨ k = 11 ∨ k = 12 ∨ k = 13 ∨ k = 14 ∨ k = 15 ∨ k = 16 ∨ k = 17 ∨ k = 18 ∨ k = 19 ∨ k = 20 := by omega
 rcases this with rfl | rfl | rfl | rfl | rfl | rfl | rfl | rfl | rfl | rfl | rfl | rfl | rfl | rfl | rfl | rfl | rfl | rfl | rfl | rfl <;> decide
def jA (E : Nat -> Addr) : List Value := all20.map fun k => .iface 317 (.pointer (some (E k)))
theorem yn (E : Nat -> Addr) (n : Nat) (h : n < 20) : (jA E)[n]? = some (.iface 317 (.pointer (some (E (n + 1))))) := by
 have : all20[n]? = some (n + 1) := by
  have : n = 0 ∨ n = 1 ∨ n = 2 ∨ n = 3 ∨ n = 4 ∨ n = 5 ∨ n = 6 ∨ n = 7 ∨ n = 8 ∨ n = 9 ∨ n = 10 ∨ n = 11 ∨ n = 12 ∨ n = 13 ∨ n = 14 ∨ n = 15 ∨ n = 16 ∨ n = 17 ∨ n = 18 ∨ n = 19 := by omega
  rcases this with rfl | rfl | rfl | rfl | rfl | rfl | rfl | rfl | rfl | rfl | rfl | rfl | rfl | rfl | rfl | rfl | rfl | rfl | rfl | rfl <;> rfl
 simp [jA, this]
theorem LA (w : World) : Calls Tryz.prog 15 #[.nilIface] w fun e w' => e = .returned (.int .i64 0) /\ Fr [] w w' := by
 go_enter Tryz.func15, Tryz.ntmps15
 go_wp2
 go_ret
 exact ⟨rfl, Fr.refl _ _⟩
theorem XZ (E : Nat -> Addr) (B k : Nat) (w : World) (hE : vu all20 E B w) (hk : k ∈ all20) :
  Calls Tryz.prog 15 #[.iface 317 (.pointer (some (E k)))] w fun e w' => e = .returned (.int .i64 k) /\ Fr [] w w' := by
 have c1 := hE.cell 1 Y76
 have c2 := hE.cell 2 Y76
 have c3 := hE.cell 3 Y76
 have c4 := hE.cell 4 Y76
 have c5 := hE.cell 5 Y76
 have c6 := hE.cell 6 Y76
 have c7 := hE.cell 7 Y76
 have c8 := hE.cell 8 Y76
 have c9 := hE.cell 9 Y76
 have c10 := hE.cell 10 Y76
 have c11 := hE.cell 11 Y76
 have c12 := hE.cell 12 Y76
 have c13 := hE.cell 13 Y76
 have c14 := hE.cell 14 Y76
 have c15 := hE.cell 15 Y76
 have c16 := hE.cell 16 Y76
 have c17 := hE.cell 17 Y76
 have c18 := hE.cell 18 Y76
 have c19 := hE.cell 19 Y76
 have c20 := hE.cell 20 Y76
 simp only [gOf, List.getD_eq_getElem?_getD, List.getElem?_cons_zero, List.getElem?_cons_succ, Option.getD_some] at c1 c2 c3 c4 c5 c6 c7 c8 c9 c10 c11 c12 c13 c14 c15 c16 c17 c18 c19 c20
 have HE := Hdq hE
 have hk1 : 1 <= k /\ k <= 20 := by
  exact Y42
 clear hE hk
 go_enter Tryz.func15, Tryz.ntmps15
 go_wp2
 clear c1 c2 c3 c4 c5 c6 c7 c8 c9 c10 c11 c12 c13 c14 c15 c16 c17 c18 c19 c20
 have hcell : ∀ n, n < 20 -> (w.alloc (.cells (jA E).toArray 33)).cell? ⟨w.heap.size, n, none⟩ = some (.iface 317 (.pointer (some (E (n + 1))))) := fun n hn => by
  rw [World.cell?_alloc_new]
  simpa using yn E n hn
 have HE1 := Hdq (HE.out.keep0 (Fr.alloc w (.cells (jA E).toArray 33)))
 have HF := Hdq (Fr.alloc (S := []) w (.cells (jA E).toArray 33))
 obtain ⟨w1, hw1⟩ : ∃ w1, w1 = w.alloc (.cells (jA E).toArray 33) := ⟨_, rfl⟩
 rw [<- hw1] at hcell HE1 HF
 change Code.wp _ _ _ _ (w.alloc (.cells (jA E).toArray 33))
 rw [<- hw1]
 clear hw1 HE
 go_loop [31] (fun i => ∃ n : Nat, n < k /\ i = .int .i64 n) (fun i => 20 - (intOf i).toNat)
 case atStart => exact ⟨0, by omega, rfl⟩
 case round =>
  obtain ⟨n, hn, rfl⟩ := hrel
  have hc := hcell n Y44
  have hn20 : n < 20 := by omega
  by_cases he : n + 1 = k
  ·subst he
   go_wp2_with (go_at_call 60; refine (qej _ _).mono ?_; rintro e w' ⟨rfl, rfl⟩)
   go_ret
   exact ⟨rfl, HF.out⟩
  ·have hb1 := HE1.out.blk k (jc k hk1.1 hk1.2)
   have hb2 := HE1.out.blk (n + 1) (jc (n + 1) Y44 Y44)
   have hne := HE1.out.inj k (jc k hk1.1 hk1.2) (n + 1) (jc (n + 1) Y44 Y44) (Ne.symm he)
   obtain ⟨ca, ta, hb1⟩ := hb1
   obtain ⟨cb, tb, hb2⟩ := hb2
   have HI := Hdq (qdf (E k) (E (n + 1)) ca cb ta tb w1 hne hb1 hb2)
   clear hb1 hb2 hne
   go_wp2_with (go_at_call 60; refine HI.out.mono ?_; rintro e w' ⟨rfl, rfl⟩)
   go_round
   case rel => exact ⟨n + 1, by omega, by go_num⟩
   case measure => simp [intOf]; omega
theorem num_any (E : Nat -> Addr) (B k : Nat) (w : World) (hE : vu all20 E B w) (hk : k <= 20) :
  Calls Tryz.prog 15 #[jQ E k] w fun e w' => e = .returned (.int .i64 k) /\ Fr [] w w' := by
 by_cases h : k = 0
 ·subst h; exact LA w
 ·rw [errv_pos E k h]; exact XZ E B k w hE (jc k Y44 hk)
theorem Tryz.noIsW (v : Value) (xT : TypeId) (w : World) : (Instr.typeAssert (.iface 204 v) xT 242 true).run Tryz.prog w = .ok (.tuple #[.nilIface, .bool false]) w := run_typeAssert_lacksB Tryz.underlying242 Y45 Y45 v xT w
theorem Tryz.hasUnW (v : Value) (xT : TypeId) (w : World) : (Instr.typeAssert (.iface 204 v) xT 245 true).run Tryz.prog w = .ok (.tuple #[.iface 204 v, .bool true]) w := run_typeAssert_hasB Tryz.underlying245 Y45 v xT w
theorem Tryz.methodUnW (v : Value) (w : World) : (Go.method 455 204 v "Unwrap").run Tryz.prog w = .ok (239, v) w := by kernel_rfl
theorem Tryz.neqTy (b : Addr) (v : Value) (w : World) : (binOp .eql 33 (.iface 204 v) (.iface 317 (.pointer (some b)))).run Tryz.prog w = .ok (.bool false) w :=
 run_eql_iface_types (P := Tryz.prog) 204 317 v (.pointer (some b)) Tryz.underlying33 Y76 w
theorem Xj (pb : Nat) (b : Addr) (w : World) (h1 : w.cell? ⟨pb, 2, none⟩ = some (.iface 317 (.pointer (some b)))) :
  Calls Tryz.prog 60 #[.iface 204 (.pointer (some ⟨pb, 0, none⟩)), .iface 317 (.pointer (some b))] w fun e w' => e = .returned (.bool true) /\ w = w' := by
 have tT := Tryz.typeOfE
 have cT := Tryz.comparableE
 have mR := Tryz.methodE
 have nW := Tryz.noIsW
 have uW := Tryz.hasUnW
 have mU := Tryz.methodUnW
 have hty := Tryz.neqTy b (.pointer (some ⟨pb, 0, none⟩)) w
 have heq := Ub b w
 exact Y6
theorem UB (pb : Nat) (b a : Addr) (ca cb : Array Value) (ta tb : TypeId) (w : World) (h1 : w.cell? ⟨pb, 2, none⟩ = some (.iface 317 (.pointer (some a)))) (hne : a ≠ b) (ha : w.heap[a.block]? = some (.cells ca ta (0, 0))) (hb : w.heap[b.block]? = some (.cells cb tb (0, 0))) :
  Calls Tryz.prog 60 #[.iface 204 (.pointer (some ⟨pb, 0, none⟩)), .iface 317 (.pointer (some b))] w fun e w' => e = .returned (.bool false) /\ w = w' := by
 have tT := Tryz.typeOfE
 have cT := Tryz.comparableE
 have mR := Tryz.methodE
 have nE := Tryz.noIsE
 have uE := Tryz.noUnE
 have vE := Tryz.noUnsE
 have nW := Tryz.noIsW
 have uW := Tryz.hasUnW
 have mU := Tryz.methodUnW
 have hty := Tryz.neqTy b (.pointer (some ⟨pb, 0, none⟩)) w
 have heq := Jn a b ca cb ta tb w hne ha hb
 clear hne ha hb
 exact Y6
inductive Zk (E : Nat -> Addr) (w : World) : Nat -> Value -> Prop
 | nil : Zk E w 0 .nilIface
 | plain (k : Nat) (h : k ≠ 0) : Zk E w k (.iface 317 (.pointer (some (E k))))
 | wrap (k : Nat) (h : k ≠ 0) (pb : Nat) (s n : Value) (hb : w.heap[pb]? = some (.cells #[s, n, .iface 317 (.pointer (some (E k)))] 206 (0, 0))) : Zk E w k (.iface 204 (.pointer (some ⟨pb, 0, none⟩)))
theorem Zk.keep0 {E : Nat -> Addr} {w w' : World} {k : Nat} {v : Value} (h : Zk E w k v) (hf : Fr [] w w') : Zk E w' k v := by
 cases h with
 | nil => exact .nil
 | plain k h => exact .plain k h
 | wrap k h pb s n hb => exact .wrap k h pb s n (hf.keep hb Y77)
theorem Zk.some_of {E : Nat -> Addr} {w : World} {k : Nat} {v : Value} (h : Zk E w k v) (hk : k ≠ 0) : ∃ t a, v = .iface t (.pointer a) := by
 cases h with
 | nil => exact absurd rfl hk
 | plain k h => exact ⟨_, _, rfl⟩
 | wrap k h => exact ⟨_, _, rfl⟩
theorem Zk.errv (E : Nat -> Addr) (w : World) (k : Nat) : Zk E w k (jQ E k) := by
 by_cases h : k = 0
 ·subst h; exact .nil
 ·rw [errv_pos E k h]; exact .plain k h
theorem qde (E : Nat -> Addr) (B k : Nat) (w : World) (hE : vu all20 E B w) (hk : k ∈ all20) (pb : Nat) (s n : Value) (hpb : w.heap[pb]? = some (.cells #[s, n, .iface 317 (.pointer (some (E k)))] 206 (0, 0))) :
  Calls Tryz.prog 15 #[.iface 204 (.pointer (some ⟨pb, 0, none⟩))] w fun e w' => e = .returned (.int .i64 k) /\ Fr [] w w' := by
 have c1 := hE.cell 1 Y76
 have c2 := hE.cell 2 Y76
 have c3 := hE.cell 3 Y76
 have c4 := hE.cell 4 Y76
 have c5 := hE.cell 5 Y76
 have c6 := hE.cell 6 Y76
 have c7 := hE.cell 7 Y76
 have c8 := hE.cell 8 Y76
 have c9 := hE.cell 9 Y76
 have c10 := hE.cell 10 Y76
 have c11 := hE.cell 11 Y76
 have c12 := hE.cell 12 Y76
 have c13 := hE.cell 13 Y76
 have c14 := hE.cell 14 Y76
 have c15 := hE.cell 15 Y76
 have c16 := hE.cell 16 Y76
 have c17 := hE.cell 17 Y76
 have c18 := hE.cell 18 Y76
 have c19 := hE.cell 19 Y76
 have c20 := hE.cell 20 Y76
 simp only [gOf, List.getD_eq_getElem?_getD, List.getElem?_cons_zero, List.getElem?_cons_succ, Option.getD_some] at c1 c2 c3 c4 c5 c6 c7 c8 c9 c10 c11 c12 c13 c14 c15 c16 c17 c18 c19 c20
 have HE := Hdq hE
 have HPB := Hdq hpb
 have hk1 : 1 <= k /\ k <= 20 := by
  exact Y42
 clear hE hk hpb
 go_enter Tryz.func15, Tryz.ntmps15
 go_wp2
 clear c1 c2 c3 c4 c5 c6 c7 c8 c9 c10 c11 c12 c13 c14 c15 c16 c17 c18 c19 c20
 have hcell : ∀ n, n < 20 -> (w.alloc (.cells (jA E).toArray 33)).cell? ⟨w.heap.size, n, none⟩ = some (.iface 317 (.pointer (some (E (n + 1))))) := fun n hn => by
  rw [World.cell?_alloc_new]
  simpa using yn E n hn
 have HE1 := Hdq (HE.out.keep0 (Fr.alloc w (.cells (jA E).toArray 33)))
 have HF := Hdq (Fr.alloc (S := []) w (.cells (jA E).toArray 33))
 obtain ⟨w1, hw1⟩ : ∃ w1, w1 = w.alloc (.cells (jA E).toArray 33) := ⟨_, rfl⟩
 rw [<- hw1] at hcell HE1 HF
 change Code.wp _ _ _ _ (w.alloc (.cells (jA E).toArray 33))
 rw [<- hw1]
 clear hw1 HE
 have hc2 : w1.cell? ⟨pb, 2, none⟩ = some (.iface 317 (.pointer (some (E k)))) := by
  rw [ja (HF.out.keep HPB.out Y77)]; rfl
 have HC2 := Hdq hc2
 clear hc2 HPB
 go_loop [31] (fun i => ∃ n : Nat, n < k /\ i = .int .i64 n) (fun i => 20 - (intOf i).toNat)
 case atStart => exact ⟨0, by omega, rfl⟩
 case round =>
  obtain ⟨n, hn, rfl⟩ := hrel
  have hc := hcell n Y44
  have hn20 : n < 20 := by omega
  by_cases he : n + 1 = k
  ·subst he
   go_wp2_with (go_at_call 60; refine (Xj _ _ _ HC2.out).mono ?_; rintro e w' ⟨rfl, rfl⟩)
   go_ret
   exact ⟨rfl, HF.out⟩
  ·have hb1 := HE1.out.blk k (jc k hk1.1 hk1.2)
   have hb2 := HE1.out.blk (n + 1) (jc (n + 1) Y44 Y44)
   have hne := HE1.out.inj k (jc k hk1.1 hk1.2) (n + 1) (jc (n + 1) Y44 Y44) (Ne.symm he)
   obtain ⟨ca, ta, hb1⟩ := hb1
   obtain ⟨cb, tb, hb2⟩ := hb2
   have HI := Hdq (UB pb (E (n + 1)) (E k) ca cb ta tb w1 HC2.out hne hb1 hb2)
   clear hb1 hb2 hne
   go_wp2_with (go_at_call 60; refine HI.out.mono ?_; rintro e w' ⟨rfl, rfl⟩)
   go_round
   case rel => exact ⟨n + 1, by omega, by go_num⟩
   case measure => simp [intOf]; omega
theorem J9 (E : Nat -> Addr) (B k : Nat) (v : Value) (w : World) (hE : vu all20 E B w) (hk : k <= 20) (h : Zk E w k v) :
  Calls Tryz.prog 15 #[v] w fun e w' => e = .returned (.int .i64 k) /\ Fr [] w w' := by
 cases h with
 | nil => exact LA w
 | plain k h => exact XZ E B k w hE (jc k Y44 hk)
 | wrap k h pb s n hb => exact qde E B k w hE (jc k Y44 hk) pb s n hb
end Go.Proofs.YtnafknkchbfpaaaGreatDoor
