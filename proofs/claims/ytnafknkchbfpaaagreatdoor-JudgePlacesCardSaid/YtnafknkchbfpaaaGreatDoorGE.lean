import Derived.Test.YtnafknkchbfpaaaGreatDoorRows
import Derived.Test.YtnafknkchbfpaaaGreatDoorGA
import Derived.ProofKit
import Derived.WalkLawsBesides
import Derived.WalkSpells
import Derived.Stop.Asserts
set_option linter.unusedVariables false
set_option linter.unusedSimpArgs false
set_option maxRecDepth 1000000
set_option maxHeartbeats 8000000
namespace Go.Proofs.YtnafknkchbfpaaaGreatDoor
open Go.RowKit Go.Bl Go.Extern.Stop Go.Stop Go.Extern
def gOf (k : Nat) : Nat := [0, 0, 2, 3, 4, 5, 6, 7, 1, 8, 9, 10, 11, 12, 13, 14, 15, 16, 17, 18, 19].getD k 0
structure zJ (L : List Nat) (E : Nat -> Addr) (B : Nat) (w : World) : Prop where
 glob : ∀ k ∈ L, ∃ t fz, w.heap[gOf k]? = some (.cells #[.iface 317 (.pointer (some (E k)))] t fz)
 blk : ∀ k ∈ L, ∃ c t, w.heap[(E k).block]? = some (.cells c t (0, 0))
 inj : ∀ j ∈ L, ∀ k ∈ L, j ≠ k -> E j ≠ E k
 ltg : ∀ k ∈ L, gOf k < B
 lte : ∀ k ∈ L, (E k).block < B
theorem zJ.keep {L : List Nat} {E : Nat -> Addr} {B : Nat} {w w' : World} {S : List Nat} (h : zJ L E B w) (hf : Fr S w w') (hS : ∀ b ∈ S, B <= b) : zJ L E B w' where
 glob k hk := by
  obtain ⟨t, fz, hb⟩ := h.glob k hk
  exact ⟨t, fz, hf.keep hb fun hm => by have := h.ltg k hk; have := hS _ hm; omega⟩
 blk k hk := by
  obtain ⟨c, t, hb⟩ := h.blk k hk
  exact ⟨c, t, hf.keep hb fun hm => by have := h.lte k hk; have := hS _ hm; omega⟩
 inj := h.inj
 ltg := h.ltg
 lte := h.lte
theorem zJ.keep0 {L : List Nat} {E : Nat -> Addr} {B : Nat} {w w' : World} (h : zJ L E B w) (hf : Fr [] w w') : zJ L E B w' := h.keep hf qc
theorem zJ.cell {L : List Nat} {E : Nat -> Addr} {B : Nat} {w : World} (h : zJ L E B w) (k : Nat) (hk : k ∈ L) : w.cell? ⟨gOf k, 0, none⟩ = some (.iface 317 (.pointer (some (E k)))) := by
 obtain ⟨t, fz, hb⟩ := h.glob k hk
 rw [qS hb]; rfl
def j7 (E : Nat -> Addr) (k : Nat) : Value := if k = 0 then .nilIface else .iface 317 (.pointer (some (E k)))
theorem UQ (E : Nat -> Addr) : j7 E 0 = .nilIface := rfl
theorem errv_pos (E : Nat -> Addr) (k : Nat) (h : k ≠ 0) : j7 E k = .iface 317 (.pointer (some (E k))) := by simp [j7, h]
theorem Tryz.typeOfE (p : Value) (w : World) : (callFunc 107 #[.iface 317 p]).run Tryz.prog w = .ok (.value (.iface 240 (.agg #[typeHandle Tryz.prog 317]))) w := by kernel_rfl
theorem Tryz.methodE (v : Value) (w : World) : (Go.method 455 240 v "Comparable").run Tryz.prog w = .ok (244, v) w := by kernel_rfl
theorem Tryz.comparableE (w : World) : (callFunc 244 #[.agg #[typeHandle Tryz.prog 317]]).run Tryz.prog w = .ok (.value (.bool true)) w := by kernel_rfl
theorem Tryz.compE : (Tryz.prog.info? 317).map (·.comparable) = some true := by kernel_rfl
theorem Tryz.sizeE : (Tryz.prog.info? 343).map (·.size) = some 1 := by kernel_rfl
theorem Tryz.noIsE (v : Value) (xT : TypeId) (w : World) : (Instr.typeAssert (.iface 317 v) xT 242 true).run Tryz.prog w = .ok (.tuple #[.nilIface, .bool false]) w := run_typeAssert_lacksB Tryz.underlying242 qb qb v xT w
theorem Tryz.noUnE (v : Value) (xT : TypeId) (w : World) : (Instr.typeAssert (.iface 317 v) xT 245 true).run Tryz.prog w = .ok (.tuple #[.nilIface, .bool false]) w := run_typeAssert_lacksB Tryz.underlying245 qb qb v xT w
theorem Tryz.noUnsE (v : Value) (xT : TypeId) (w : World) : (Instr.typeAssert (.iface 317 v) xT 247 true).run Tryz.prog w = .ok (.tuple #[.nilIface, .bool false]) w := run_typeAssert_lacksB Tryz.underlying247 qb qb v xT w
theorem Xv (a : Addr) (w : World) : (binOp .eql 33 (.iface 317 (.pointer (some a))) (.iface 317 (.pointer (some a)))).run Tryz.prog w = .ok (.bool true) w := by
 obtain ⟨i, hi, hcmp⟩ := Option.map_eq_some_iff.1 Tryz.compE
 obtain ⟨j, hj, hjs⟩ := Option.map_eq_some_iff.1 Tryz.sizeE
 exact run_eql_iface_ptr_same (P := Tryz.prog) w a Tryz.underlying33 Tryz.underlying317 hi hcmp hj
theorem Ux (a b : Addr) (ca cb : Array Value) (ta tb : TypeId) (w : World) (hne : a ≠ b) (ha : w.heap[a.block]? = some (.cells ca ta (0, 0))) (hb : w.heap[b.block]? = some (.cells cb tb (0, 0))) :
  (binOp .eql 33 (.iface 317 (.pointer (some a))) (.iface 317 (.pointer (some b)))).run Tryz.prog w = .ok (.bool false) w := by
 obtain ⟨i, hi, hcmp⟩ := Option.map_eq_some_iff.1 Tryz.compE
 obtain ⟨j, hj, hjs⟩ := Option.map_eq_some_iff.1 Tryz.sizeE
 exact run_eql_iface_ptr_other (P := Tryz.prog) w Tryz.underlying33 Tryz.underlying317 hi hcmp hj (by rw [hjs]; decide) hne ha hb
theorem qdb (a : Addr) (w : World) :
  Calls Tryz.prog 60 #[.iface 317 (.pointer (some a)), .iface 317 (.pointer (some a))] w fun e w' => e = .returned (.bool true) /\ w = w' := by
 have tT := Tryz.typeOfE
 have cT := Tryz.comparableE
 have mR := Tryz.methodE
 have heq := Xv a w
 go_enter Tryz.func60, Tryz.ntmps60
 go_wp2
 refine wp_loop_rounds 1 ?_
 rw [rounds_succ]
 go_wp2
 go_ret
 exact ⟨rfl, rfl⟩
theorem qb2 (a b : Addr) (ca cb : Array Value) (ta tb : TypeId) (w : World) (hne : a ≠ b) (ha : w.heap[a.block]? = some (.cells ca ta (0, 0))) (hb : w.heap[b.block]? = some (.cells cb tb (0, 0))) :
  Calls Tryz.prog 60 #[.iface 317 (.pointer (some a)), .iface 317 (.pointer (some b))] w fun e w' => e = .returned (.bool false) /\ w = w' := by
 have tT := Tryz.typeOfE
 have cT := Tryz.comparableE
 have mR := Tryz.methodE
 have nE := Tryz.noIsE
 have uE := Tryz.noUnE
 have vE := Tryz.noUnsE
 have heq := Ux a b ca cb ta tb w hne ha hb
 clear hne ha hb
 go_enter Tryz.func60, Tryz.ntmps60
 go_wp2
 refine wp_loop_rounds 1 ?_
 rw [rounds_succ]
 go_wp2
 go_ret
 exact ⟨rfl, rfl⟩
def all20 : List Nat := [1, 2, 3, 4, 5, 6, 7, 8, 9, 10, 11, 12, 13, 14, 15, 16, 17, 18, 19, 20]
theorem zq (k : Nat) (h1 : 1 <= k) (h2 : k <= 20) : k ∈ all20 := by
 have : k = 1 ∨ k = 2 ∨ k = 3 ∨ k = 4 ∨ k = 5 ∨ k = 6 ∨ k = 7 ∨ k = 8 ∨ k = 9 ∨ k = 10 ∨ k = 11 ∨ k = 12 ∨ k = 13 ∨ k = 14 ∨ k = 15 ∨ k = 16 ∨ k = 17 ∨ k = 18 ∨ k = 19 ∨ k = 20 := by omega
 rcases this with rfl | rfl | rfl | rfl | rfl | rfl | rfl | rfl | rfl | rfl | rfl | rfl | rfl | rfl | rfl | rfl | rfl | rfl | rfl | rfl <;> decide
def zw (E : Nat -> Addr) : List Value := all20.map fun k => .iface 317 (.pointer (some (E k)))
theorem JB (E : Nat -> Addr) (n : Nat) (h : n < 20) : (zw E)[n]? = some (.iface 317 (.pointer (some (E (n + 1))))) := by
 have : all20[n]? = some (n + 1) := by
  have : n = 0 ∨ n = 1 ∨ n = 2 ∨ n = 3 ∨ n = 4 ∨ n = 5 ∨ n = 6 ∨ n = 7 ∨ n = 8 ∨ n = 9 ∨ n = 10 ∨ n = 11 ∨ n = 12 ∨ n = 13 ∨ n = 14 ∨ n = 15 ∨ n = 16 ∨ n = 17 ∨ n = 18 ∨ n = 19 := by omega
  rcases this with rfl | rfl | rfl | rfl | rfl | rfl | rfl | rfl | rfl | rfl | rfl | rfl | rfl | rfl | rfl | rfl | rfl | rfl | rfl | rfl <;> rfl
 simp [zw, this]
theorem qcS (w : World) : Calls Tryz.prog 15 #[.nilIface] w fun e w' => e = .returned (.int .i64 0) /\ Fr [] w w' := by
 go_enter Tryz.func15, Tryz.ntmps15
 go_wp2
 go_ret
 exact ⟨rfl, Fr.refl _ _⟩
theorem qbx (E : Nat -> Addr) (B k : Nat) (w : World) (hE : zJ all20 E B w) (hk : k ∈ all20) :
  Calls Tryz.prog 15 #[.iface 317 (.pointer (some (E k)))] w fun e w' => e = .returned (.int .i64 k) /\ Fr [] w w' := by
 have c1 := hE.cell 1 qa
 have c2 := hE.cell 2 qa
 have c3 := hE.cell 3 qa
 have c4 := hE.cell 4 qa
 have c5 := hE.cell 5 qa
 have c6 := hE.cell 6 qa
 have c7 := hE.cell 7 qa
 have c8 := hE.cell 8 qa
 have c9 := hE.cell 9 qa
 have c10 := hE.cell 10 qa
 have c11 := hE.cell 11 qa
 have c12 := hE.cell 12 qa
 have c13 := hE.cell 13 qa
 have c14 := hE.cell 14 qa
 have c15 := hE.cell 15 qa
 have c16 := hE.cell 16 qa
 have c17 := hE.cell 17 qa
 have c18 := hE.cell 18 qa
 have c19 := hE.cell 19 qa
 have c20 := hE.cell 20 qa
 simp only [gOf, List.getD_eq_getElem?_getD, List.getElem?_cons_zero, List.getElem?_cons_succ, Option.getD_some] at c1 c2 c3 c4 c5 c6 c7 c8 c9 c10 c11 c12 c13 c14 c15 c16 c17 c18 c19 c20
 have HE := Hdq hE
 have hk1 : 1 <= k /\ k <= 20 := by
  have : ∀ k ∈ all20, 1 <= k /\ k <= 20 := by decide
  exact this k hk
 clear hE hk
 go_enter Tryz.func15, Tryz.ntmps15
 go_wp2
 clear c1 c2 c3 c4 c5 c6 c7 c8 c9 c10 c11 c12 c13 c14 c15 c16 c17 c18 c19 c20
 have hcell : ∀ n, n < 20 -> (w.alloc (.cells (zw E).toArray 33)).cell? ⟨w.heap.size, n, none⟩ = some (.iface 317 (.pointer (some (E (n + 1))))) := fun n hn => by
  rw [World.cell?_alloc_new]
  simpa using JB E n hn
 have HE1 := Hdq (HE.out.keep0 (Fr.alloc w (.cells (zw E).toArray 33)))
 have HF := Hdq (Fr.alloc (S := []) w (.cells (zw E).toArray 33))
 obtain ⟨w1, hw1⟩ : ∃ w1, w1 = w.alloc (.cells (zw E).toArray 33) := ⟨_, rfl⟩
 rw [<- hw1] at hcell HE1 HF
 change Code.wp _ _ _ _ (w.alloc (.cells (zw E).toArray 33))
 rw [<- hw1]
 clear hw1 HE
 go_loop [31] (fun i => ∃ n : Nat, n < k /\ i = .int .i64 n) (fun i => 20 - (intOf i).toNat)
 case atStart => exact ⟨0, by omega, rfl⟩
 case round =>
  obtain ⟨n, hn, rfl⟩ := hrel
  have hc := hcell n Y66
  have hn20 : n < 20 := by omega
  by_cases he : n + 1 = k
  ·subst he
   go_wp2_with (go_at_call 60; refine (qdb _ _).mono ?_; rintro e w' ⟨rfl, rfl⟩)
   go_ret
   exact ⟨rfl, HF.out⟩
  ·have hb1 := HE1.out.blk k (zq k hk1.1 hk1.2)
   have hb2 := HE1.out.blk (n + 1) (zq (n + 1) Y66 Y66)
   have hne := HE1.out.inj k (zq k hk1.1 hk1.2) (n + 1) (zq (n + 1) Y66 Y66) (Ne.symm he)
   obtain ⟨ca, ta, hb1⟩ := hb1
   obtain ⟨cb, tb, hb2⟩ := hb2
   have HI := Hdq (qb2 (E k) (E (n + 1)) ca cb ta tb w1 hne hb1 hb2)
   clear hb1 hb2 hne
   go_wp2_with (go_at_call 60; refine HI.out.mono ?_; rintro e w' ⟨rfl, rfl⟩)
   go_round
   case rel => exact ⟨n + 1, by omega, by go_num⟩
   case measure => simp [intOf]; omega
theorem num_any (E : Nat -> Addr) (B k : Nat) (w : World) (hE : zJ all20 E B w) (hk : k <= 20) :
  Calls Tryz.prog 15 #[j7 E k] w fun e w' => e = .returned (.int .i64 k) /\ Fr [] w w' := by
 by_cases h : k = 0
 ·subst h; exact qcS w
 ·rw [errv_pos E k h]; exact qbx E B k w hE (zq k Y66 hk)
theorem Tryz.noIsW (v : Value) (xT : TypeId) (w : World) : (Instr.typeAssert (.iface 204 v) xT 242 true).run Tryz.prog w = .ok (.tuple #[.nilIface, .bool false]) w := run_typeAssert_lacksB Tryz.underlying242 qb qb v xT w
theorem Tryz.hasUnW (v : Value) (xT : TypeId) (w : World) : (Instr.typeAssert (.iface 204 v) xT 245 true).run Tryz.prog w = .ok (.tuple #[.iface 204 v, .bool true]) w := run_typeAssert_hasB Tryz.underlying245 qb v xT w
theorem Tryz.methodUnW (v : Value) (w : World) : (Go.method 455 204 v "Unwrap").run Tryz.prog w = .ok (239, v) w := by kernel_rfl
theorem Tryz.neqTy (b : Addr) (v : Value) (w : World) : (binOp .eql 33 (.iface 204 v) (.iface 317 (.pointer (some b)))).run Tryz.prog w = .ok (.bool false) w :=
 run_eql_iface_types (P := Tryz.prog) 204 317 v (.pointer (some b)) Tryz.underlying33 qa w
inductive xL (E : Nat -> Addr) (w : World) : Nat -> Value -> Prop
 | nil : xL E w 0 .nilIface
 | plain (k : Nat) (h : k ≠ 0) : xL E w k (.iface 317 (.pointer (some (E k))))
 | wrap (k : Nat) (h : k ≠ 0) (pb : Nat) (s n : Value) (hb : w.heap[pb]? = some (.cells #[s, n, .iface 317 (.pointer (some (E k)))] 206 (0, 0))) : xL E w k (.iface 204 (.pointer (some ⟨pb, 0, none⟩)))
theorem xL.keep0 {E : Nat -> Addr} {w w' : World} {k : Nat} {v : Value} (h : xL E w k v) (hf : Fr [] w w') : xL E w' k v := by
 cases h with
 | nil => exact .nil
 | plain k h => exact .plain k h
 | wrap k h pb s n hb => exact .wrap k h pb s n (hf.keep hb qc)
theorem xL.nil_iff {E : Nat -> Addr} {w : World} {v : Value} (h : xL E w 0 v) : v = .nilIface := by
 cases h with
 | nil => rfl
 | plain k h => exact absurd rfl h
 | wrap k h => exact absurd rfl h
theorem xL.some_of {E : Nat -> Addr} {w : World} {k : Nat} {v : Value} (h : xL E w k v) (hk : k ≠ 0) : ∃ t a, v = .iface t (.pointer a) := by
 cases h with
 | nil => exact absurd rfl hk
 | plain k h => exact ⟨_, _, rfl⟩
 | wrap k h => exact ⟨_, _, rfl⟩
theorem xL.errv (E : Nat -> Addr) (w : World) (k : Nat) : xL E w k (j7 E k) := by
 by_cases h : k = 0
 ·subst h; exact .nil
 ·rw [errv_pos E k h]; exact .plain k h
end Go.Proofs.YtnafknkchbfpaaaGreatDoor
