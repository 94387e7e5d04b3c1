/-
  A wrapped error (*params.Wrong over a listed error): errors.Is at it, its number.
-/
import Derived.Test.YtbohmnblegljkaaDoorErr
namespace Go.Proofs.YtbohmnblegljkaaDoor
open Go.RowKit Go.Bl Go.Extern.Stop Go.Stop Go.Extern
set_option linter.unusedVariables false

theorem Tryd.noIsW (v : Value) (xT : TypeId) (w : World) : (Instr.typeAssert (.iface 92 v) xT 139 true).run Tryd.prog w = .ok (.tuple #[.nilIface, .bool false]) w := run_typeAssert_lacksB Tryd.underlying139 (by kernel_rfl) (by kernel_rfl) v xT w
theorem Tryd.hasUnW (v : Value) (xT : TypeId) (w : World) : (Instr.typeAssert (.iface 92 v) xT 142 true).run Tryd.prog w = .ok (.tuple #[.iface 92 v, .bool true]) w := run_typeAssert_hasB Tryd.underlying142 (by kernel_rfl) v xT w
theorem Tryd.methodUnW (v : Value) (w : World) : (Go.method 287 92 v "Unwrap").run Tryd.prog w = .ok (97, v) w := by kernel_rfl
theorem Tryd.neqTy (b : Addr) (v : Value) (w : World) : (binOp .eql 25 (.iface 92 v) (.iface 149 (.pointer (some b)))).run Tryd.prog w = .ok (.bool false) w :=
  run_eql_iface_types (P := Tryd.prog) 92 149 v (.pointer (some b)) Tryd.underlying25 (by decide) w

set_option maxRecDepth 100000 in
theorem is_wrap_same (pb : Nat) (b : Addr) (w : World) (h1 : w.cell? ⟨pb, 2, none⟩ = some (.iface 149 (.pointer (some b)))) :
    Calls Tryd.prog 39 #[.iface 92 (.pointer (some ⟨pb, 0, none⟩)), .iface 149 (.pointer (some b))] w fun e w' => e = .returned (.bool true) ∧ w = w' := by
  have tT := Tryd.typeOfE
  have cT := Tryd.comparableE
  have mR := Tryd.methodE
  have nW := Tryd.noIsW
  have uW := Tryd.hasUnW
  have mU := Tryd.methodUnW
  have hty := Tryd.neqTy b (.pointer (some ⟨pb, 0, none⟩)) w
  have heq := eql_same b w
  go_enter Tryd.func39, Tryd.ntmps39
  go_wp2
  refine wp_loop_rounds 2 ?_
  rw [rounds_succ]
  go_wp2
  rw [rounds_succ]
  go_wp2
  go_ret
  exact ⟨rfl, rfl⟩

set_option maxRecDepth 100000 in
theorem is_wrap_other (pb : Nat) (b a : Addr) (ca cb : Array Value) (ta tb : TypeId) (w : World) (h1 : w.cell? ⟨pb, 2, none⟩ = some (.iface 149 (.pointer (some a)))) (hne : a ≠ b) (ha : w.heap[a.block]? = some (.cells ca ta (0, 0))) (hb : w.heap[b.block]? = some (.cells cb tb (0, 0))) :
    Calls Tryd.prog 39 #[.iface 92 (.pointer (some ⟨pb, 0, none⟩)), .iface 149 (.pointer (some b))] w fun e w' => e = .returned (.bool false) ∧ w = w' := by
  have tT := Tryd.typeOfE
  have cT := Tryd.comparableE
  have mR := Tryd.methodE
  have nE := Tryd.noIsE
  have uE := Tryd.noUnE
  have vE := Tryd.noUnsE
  have nW := Tryd.noIsW
  have uW := Tryd.hasUnW
  have mU := Tryd.methodUnW
  have hty := Tryd.neqTy b (.pointer (some ⟨pb, 0, none⟩)) w
  have heq := eql_other a b ca cb ta tb w hne ha hb
  clear hne ha hb
  go_enter Tryd.func39, Tryd.ntmps39
  go_wp2
  refine wp_loop_rounds 2 ?_
  rw [rounds_succ]
  go_wp2
  rw [rounds_succ]
  go_wp2
  go_ret
  exact ⟨rfl, rfl⟩

/-- v is an error value of number k: nil, a listed error, or one that wraps it -/
inductive ErrV (E : Nat → Addr) (w : World) : Nat → Value → Prop
  | nil : ErrV E w 0 .nilIface
  | plain (k : Nat) (h : k ≠ 0) : ErrV E w k (.iface 149 (.pointer (some (E k))))
  | wrap (k : Nat) (h : k ≠ 0) (pb : Nat) (s n : Value) (hb : w.heap[pb]? = some (.cells #[s, n, .iface 149 (.pointer (some (E k)))] 94 (0, 0))) : ErrV E w k (.iface 92 (.pointer (some ⟨pb, 0, none⟩)))
theorem ErrV.keep0 {E : Nat → Addr} {w w' : World} {k : Nat} {v : Value} (h : ErrV E w k v) (hf : Fr [] w w') : ErrV E w' k v := by
  cases h with
  | nil => exact .nil
  | plain k h => exact .plain k h
  | wrap k h pb s n hb => exact .wrap k h pb s n (hf.keep hb (by simp))
theorem ErrV.nil_iff {E : Nat → Addr} {w : World} {v : Value} (h : ErrV E w 0 v) : v = .nilIface := by
  cases h with
  | nil => rfl
  | plain k h => exact absurd rfl h
  | wrap k h => exact absurd rfl h
theorem ErrV.some_of {E : Nat → Addr} {w : World} {k : Nat} {v : Value} (h : ErrV E w k v) (hk : k ≠ 0) : ∃ t a, v = .iface t (.pointer a) := by
  cases h with
  | nil => exact absurd rfl hk
  | plain k h => exact ⟨_, _, rfl⟩
  | wrap k h => exact ⟨_, _, rfl⟩
theorem ErrV.errv (E : Nat → Addr) (w : World) (k : Nat) : ErrV E w k (errv E k) := by
  by_cases h : k = 0
  · subst h; exact .nil
  · rw [errv_pos E k h]; exact .plain k h

set_option maxRecDepth 100000 in
set_option maxHeartbeats 1000000 in
theorem num_wrap (E : Nat → Addr) (B k : Nat) (w : World) (hE : Errs all20 E B w) (hk : k ∈ all20) (pb : Nat) (s n : Value) (hpb : w.heap[pb]? = some (.cells #[s, n, .iface 149 (.pointer (some (E k)))] 94 (0, 0))) :
    Calls Tryd.prog 13 #[.iface 92 (.pointer (some ⟨pb, 0, none⟩))] w fun e w' => e = .returned (.int .i64 k) ∧ Fr [] w w' := by
  have c1 := hE.cell 1 (by decide)
  have c2 := hE.cell 2 (by decide)
  have c3 := hE.cell 3 (by decide)
  have c4 := hE.cell 4 (by decide)
  have c5 := hE.cell 5 (by decide)
  have c6 := hE.cell 6 (by decide)
  have c7 := hE.cell 7 (by decide)
  have c8 := hE.cell 8 (by decide)
  have c9 := hE.cell 9 (by decide)
  have c10 := hE.cell 10 (by decide)
  have c11 := hE.cell 11 (by decide)
  have c12 := hE.cell 12 (by decide)
  have c13 := hE.cell 13 (by decide)
  have c14 := hE.cell 14 (by decide)
  have c15 := hE.cell 15 (by decide)
  have c16 := hE.cell 16 (by decide)
  have c17 := hE.cell 17 (by decide)
  have c18 := hE.cell 18 (by decide)
  have c19 := hE.cell 19 (by decide)
  have c20 := hE.cell 20 (by decide)
  simp only [gOf, List.getD_eq_getElem?_getD, List.getElem?_cons_zero, List.getElem?_cons_succ, Option.getD_some] at c1 c2 c3 c4 c5 c6 c7 c8 c9 c10 c11 c12 c13 c14 c15 c16 c17 c18 c19 c20
  have HE := Lib.hid hE
  have HPB := Lib.hid hpb
  have hk1 : 1 ≤ k ∧ k ≤ 20 := by
    have : ∀ k ∈ all20, 1 ≤ k ∧ k ≤ 20 := by decide
    exact this k hk
  clear hE hk hpb
  go_enter Tryd.func13, Tryd.ntmps13
  go_wp2
  clear c1 c2 c3 c4 c5 c6 c7 c8 c9 c10 c11 c12 c13 c14 c15 c16 c17 c18 c19 c20
  have hcell : ∀ n, n < 20 → (w.alloc (.cells (errList E).toArray 25)).cell? ⟨w.heap.size, n, none⟩ = some (.iface 149 (.pointer (some (E (n + 1))))) := fun n hn => by
    rw [World.cell?_alloc_new]
    simpa using errList_get E n hn
  have HE1 := Lib.hid (HE.out.keep0 (Fr.alloc w (.cells (errList E).toArray 25)))
  have HF := Lib.hid (Fr.alloc (S := []) w (.cells (errList E).toArray 25))
  obtain ⟨w1, hw1⟩ : ∃ w1, w1 = w.alloc (.cells (errList E).toArray 25) := ⟨_, rfl⟩
  rw [← hw1] at hcell HE1 HF
  change Code.wp _ _ _ _ (w.alloc (.cells (errList E).toArray 25))
  rw [← hw1]
  clear hw1 HE
  have hc2 : w1.cell? ⟨pb, 2, none⟩ = some (.iface 149 (.pointer (some (E k)))) := by
    rw [cell_of (HF.out.keep HPB.out (by simp))]; rfl
  have HC2 := Lib.hid hc2
  clear hc2 HPB
  go_loop [31] (fun i => ∃ n : Nat, n < k ∧ i = .int .i64 n) (fun i => 20 - (intOf i).toNat)
  case atStart => exact ⟨0, by omega, rfl⟩
  case round =>
    obtain ⟨n, hn, rfl⟩ := hrel
    have hc := hcell n (by omega)
    have hn20 : n < 20 := by omega
    by_cases he : n + 1 = k
    · subst he
      go_wp2_with (go_at_call 39; refine (is_wrap_same _ _ _ HC2.out).mono ?_; rintro e w' ⟨rfl, rfl⟩)
      go_ret
      exact ⟨rfl, HF.out⟩
    · have hb1 := HE1.out.blk k (mem_all20 k hk1.1 hk1.2)
      have hb2 := HE1.out.blk (n + 1) (mem_all20 (n + 1) (by omega) (by omega))
      have hne := HE1.out.inj k (mem_all20 k hk1.1 hk1.2) (n + 1) (mem_all20 (n + 1) (by omega) (by omega)) (Ne.symm he)
      obtain ⟨ca, ta, hb1⟩ := hb1
      obtain ⟨cb, tb, hb2⟩ := hb2
      have HI := Lib.hid (is_wrap_other pb (E (n + 1)) (E k) ca cb ta tb w1 HC2.out hne hb1 hb2)
      clear hb1 hb2 hne
      go_wp2_with (go_at_call 39; refine HI.out.mono ?_; rintro e w' ⟨rfl, rfl⟩)
      go_round
      case rel => exact ⟨n + 1, by omega, by go_num⟩
      case measure => simp [intOf]; omega

theorem num_err (E : Nat → Addr) (B k : Nat) (v : Value) (w : World) (hE : Errs all20 E B w) (hk : k ≤ 20) (h : ErrV E w k v) :
    Calls Tryd.prog 13 #[v] w fun e w' => e = .returned (.int .i64 k) ∧ Fr [] w w' := by
  cases h with
  | nil => exact num_nil w
  | plain k h => exact num_sent E B k w hE (mem_all20 k (by omega) hk)
  | wrap k h pb s n hb => exact num_wrap E B k w hE (mem_all20 k (by omega) hk) pb s n hb
end Go.Proofs.YtbohmnblegljkaaDoor
