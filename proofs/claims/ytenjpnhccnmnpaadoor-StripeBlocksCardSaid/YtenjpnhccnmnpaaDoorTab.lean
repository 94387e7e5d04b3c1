/-
  Layer 1: the table, products by the table.
-/
import Derived.Test.YtenjpnhccnmnpaaDoorRows
import Derived.Test.YtenjpnhccnmnpaaDoorGC
import Derived.Test.YtenjpnhccnmnpaaDoorGB
import Derived.Test.YtenjpnhccnmnpaaDoorGA
import Derived.ProofKit
import Derived.Deep.QuietTactic
import Derived.BigQuiet
import Derived.WalkLawsBesides
import Derived.WalkSpells
namespace Go.Proofs.YtenjpnhccnmnpaaDoor
open Go.RowKit Go.Bl
set_option linter.unusedVariables false

/-- an operation by its own run -/
theorem wpl_step {P : Program} {w w' : World} {ops : Array Oper} {rest : List Oper} {o : Oper} {a : Go.Act} {Q : Exit → Go.Act → World → Prop} {p : Op} (ho : o.op = p) (hgd : o.guard = none) (v : Value)
    (hr : (execOp a.eval o).run P w = .ok (.value v) w') (h : wpList P ops Q rest (a.put o.dst v) w') : wpList P ops Q (o :: rest) a w := by
  refine wpList_plain hgd fun K hK => ?_
  unfold Oper.wp
  rw [hr]
  exact hK _ _ h
/-- one cell stored into a block that is known -/
theorem wpl_store_one {P : Program} {w : World} {ops : Array Oper} {rest : List Oper} {o : Oper} {a : Go.Act} {Q : Exit → Go.Act → World → Prop} {t te : TypeId} {cur : Array Value} {g off : Nat} (p x : Operand) (hgd : o.guard = none)
    (ho : o.op = .store t p x) (u : Value) (hp : a.eval p = .pointer (some ⟨g, off, none⟩)) (hx : a.eval x = u) (hb : At w g (.cells cur te (0, 0))) (hsz : off < cur.size) (hi : (P.info? t).map (·.size) = some 1) (h1 : u.oneCell' = true)
    (h : ∀ w', Fr [g] w w' → At w' g (.cells (cur.setIfInBounds off u) te (0, 0)) → w'.heap.size = w.heap.size → wpList P ops Q rest (a.put o.dst undef) w') : wpList P ops Q (o :: rest) a w := by
  refine wpList_plain hgd fun K hK => ?_
  have hst := run_storeCells_at P g off te [u] 0 cur w hb (by simp; omega) (by intro v hv; simp at hv; subst hv; exact h1)
  simp only [Nat.add_zero] at hst
  have hcells : u.cells = #[u] := by
    cases u <;> simp_all [Value.cells, Value.oneCell']
  cases hq : P.info? t with
  | none => simp [hq] at hi
  | some i =>
    have hs : i.size = 1 := by simpa [hq] using hi
    unfold Oper.wp execOp
    simp only [ho, hp, hx, Instr.storeAt, Instr.sureAddr, Sem.run_bind, Sem.run_pure, Result.andThen_ok]
    have hset : (cur.toList.take off ++ [u] ++ cur.toList.drop (off + [u].length)).toArray = cur.setIfInBounds off u := by
      apply Array.ext'
      rw [Array.toList_setIfInBounds]
      simp only [List.toList_toArray, List.length_singleton]
      rw [List.set_eq_take_append_cons_drop, if_pos (by simpa using hsz)]
      simp
    have : (storeVar t ⟨g, off, none⟩ u).run P w = .ok () (w.setRow g (cur.setIfInBounds off u)) := by
      rw [← hset]
      cases u <;> simp_all [storeVar, sizeOf, typeInfo, Value.cells, Value.oneCell']
    rw [this]
    refine hK _ _ (h _ ⟨rfl, rfl, rfl, by simp [World.setRow], fun k hk hn => ?_⟩ (setRow_heap w g cur _ te (0, 0) hb) (by simp [World.setRow]))
    exact setRow_other w g k _ (by simpa using hn)
theorem cell_mono {w w' : World} {b i : Nat} {v : Value} (h : Fr [] w w') (hc : w.cell? ⟨b, i, none⟩ = some v) : w'.cell? ⟨b, i, none⟩ = some v := by
  unfold World.cell? at hc ⊢
  rcases Nat.lt_or_ge b w.heap.size with hb | hb
  · rw [h.block b hb (by simp)]; exact hc
  · rw [Array.getElem?_eq_none hb] at hc; simp at hc
theorem ofInt_64 (a : Nat) (ha : a < 18446744073709551616) : (BitVec.ofInt 64 (a : Int)).toNat = a := by
  rw [BitVec.ofInt_natCast, BitVec.toNat_ofNat]; exact Nat.mod_eq_of_lt (by omega)
theorem i64_xor_nat (a b : Nat) (ha : a < 65536) (hb : b < 65536) : bits .xor .i64 (a : Int) (b : Int) = ((a ^^^ b : Nat) : Int) := by
  have hx : a ^^^ b < 2 ^ 16 := Nat.xor_lt_two_pow (by omega) (by omega)
  show IntKind.i64.wrap ((BitVec.ofInt 64 (a : Int) ^^^ BitVec.ofInt 64 (b : Int)).toNat : Int) = _
  rw [BitVec.toNat_xor, ofInt_64 a (by omega), ofInt_64 b (by omega), IntKind.wrap_i64]
  omega
theorem u8_xor_u (a b : UInt8) : bits .xor .u8 (a.toNat : Int) (b.toNat : Int) = ((a ^^^ b).toNat : Int) := by
  rw [u8_xor_nat _ _ a.toNat_lt b.toNat_lt, UInt8.toNat_xor]

set_option maxRecDepth 100000 in
set_option maxHeartbeats 1000000 in
theorem double_any (w : World) (a : UInt8) : Calls Tryd.prog 38 #[u8v a] w fun e w' => e = .returned (u8v (dbl a)) ∧ Fr [] w w' := by
  have hd := dbl_nat a
  have hn := a.toNat_lt
  have hl := (dbl a).toNat_lt
  unfold u8v
  obtain ⟨m, hm⟩ : ∃ m, (dbl a).toNat = m := ⟨_, rfl⟩
  obtain ⟨n, hnn⟩ : ∃ n, a.toNat = n := ⟨_, rfl⟩
  rw [hm, hnn] at hd
  rw [hm] at hl ⊢
  rw [hnn] at hn ⊢
  clear hm hnn
  by_cases hc : 256 ≤ 2 * n
  · rw [if_pos hc] at hd
    have hx := i64_xor_nat (2 * n) 285 (by omega) (by omega)
    rw [← hd] at hx
    have HX := Lib.hid hx
    have HD := Lib.hid hd
    clear hx hd
    go_enter Tryd.func38, Tryd.ntmps38
    go_wp2
    go_ret
    refine ⟨?_, Fr.refl _ _⟩
    have hx : bits .xor .i64 ((n : Int) * 2) 285 = (m : Int) := by
      have h := HX.out
      rw [show ((2 * n : Nat) : Int) = (n : Int) * 2 by omega] at h
      exact h
    show Ending.returned (.int .u8 (bits .xor .i64 ((n : Int) * 2) 285 % 256)) = _
    rw [hx]
    refine congrArg (fun z => Ending.returned (.int .u8 z)) ?_
    omega
  · rw [if_neg hc] at hd
    have HD := Lib.hid hd
    clear hd
    go_enter Tryd.func38, Tryd.ntmps38
    go_wp2
    go_ret
    refine ⟨?_, Fr.refl _ _⟩
    have := HD.out
    refine congrArg (fun z => Ending.returned (.int .u8 z)) ?_
    omega

set_option maxHeartbeats 1000000 in
theorem exp_any (w : World) (n : Nat) (hn : n < 255) : Calls Tryd.prog 39 #[.int .i64 n] w fun e w' => e = .returned (u8v (gexp n)) ∧ Fr [] w w' := by
  have hmod : ((n : Int) % 255 + 255) % 255 = n := by omega
  go_enter Tryd.func39, Tryd.ntmps39
  go_wp2
  rw [hmod]
  clear hmod
  go_loopw [3, 8] (fun x i wr => ∃ k : Nat, k ≤ n ∧ i = .int .i64 k ∧ x = u8v (gexp k) ∧ Hid (Fr [] w wr)) (fun _ i _ => n - (intOf i).toNat)
  case atStart => exact ⟨0, by omega, rfl, rfl, Fr.refl _ _⟩
  case round =>
    obtain ⟨k, hk, rfl, rfl, HF⟩ := hrel
    by_cases hkn : k < n
    · go_wp2_with fail
      refine (double_any _ (gexp k)).mono ?_
      rintro e w2 ⟨rfl, hf⟩
      have HF2 := Lib.hid (HF.out.trans hf)
      clear hf
      go_wp2
      go_roundw
      case rel => exact ⟨k + 1, by omega, by go_num, rfl, HF2.out⟩
      case measure => simp [intOf]; omega
    · obtain rfl : k = n := by omega
      go_wp2
      go_ret
      exact ⟨rfl, HF.out⟩

set_option maxRecDepth 100000 in
set_option maxHeartbeats 2000000 in
theorem tmul_any (w : World) (b : Nat) (hT : At w b (.cells tabF 83)) (x y : UInt8) : Calls Tryd.prog 36 #[.pointer (some ⟨b, 0, none⟩), u8v x, u8v y] w fun e w' => e = .returned (u8v (gmul x y)) ∧ Fr [] w w' := by
  have hxx := x.toNat_lt
  have hyy := y.toNat_lt
  by_cases hx : x = 0
  · subst hx
    rw [show gmul 0 y = 0 by simp [gmul]]
    unfold u8v
    go_enter Tryd.func36, Tryd.ntmps36
    go_wp2
    go_ret
    exact ⟨rfl, Fr.refl _ _⟩
  · have hx0 : x.toNat ≠ 0 := fun e => hx (UInt8.toNat_inj.1 e)
    by_cases hy : y = 0
    · subst hy
      rw [show gmul x 0 = 0 by simp [gmul]]
      unfold u8v
      obtain ⟨m, hm⟩ : ∃ m, x.toNat = m := ⟨_, rfl⟩
      rw [hm] at hxx hx0 ⊢
      clear hm
      have b1 : ((m : Int) == 0) = false := by rw [beq_eq_false_iff_ne]; omega
      go_enter Tryd.func36, Tryd.ntmps36
      go_wp2
      go_ret
      exact ⟨rfl, Fr.refl _ _⟩
    · have hy0 : y.toNat ≠ 0 := fun e => hy (UInt8.toNat_inj.1 e)
      have hlx := hT.cell (510 + x.toNat)
      rw [tabF_log x hx] at hlx
      have hly := hT.cell (510 + y.toNat)
      rw [tabF_log y hy] at hly
      have h1 := (gexp_glog x hx).2
      have h2 := (gexp_glog y hy).2
      have hr := hT.cell (glog x + glog y)
      rw [tabF_exp _ (by omega)] at hr
      rw [show gmul x y = gexp (glog x + glog y) by simp [gmul, hx, hy]]
      unfold u8v at hr ⊢
      obtain ⟨g, hg⟩ : ∃ g, (gexp (glog x + glog y)).toNat = g := ⟨_, rfl⟩
      rw [hg] at hr ⊢
      obtain ⟨i, hi⟩ : ∃ i, glog x = i := ⟨_, rfl⟩
      obtain ⟨j, hj⟩ : ∃ j, glog y = j := ⟨_, rfl⟩
      rw [hi, hj] at hr
      rw [hi] at h1 hlx
      rw [hj] at h2 hly
      obtain ⟨m, hm⟩ : ∃ m, x.toNat = m := ⟨_, rfl⟩
      obtain ⟨n, hn⟩ : ∃ n, y.toNat = n := ⟨_, rfl⟩
      rw [hm] at hxx hx0 hlx ⊢
      rw [hn] at hyy hy0 hly ⊢
      clear hm hn hi hj hg hx hy
      have q1 := fun z : Kin w => cell_mono z.fr hlx
      have q2 := fun z : Kin w => cell_mono z.fr hly
      have q3 := fun z : Kin w => cell_mono z.fr hr
      have b1 : ((m : Int) == 0) = false := by rw [beq_eq_false_iff_ne]; omega
      have b2 : ((n : Int) == 0) = false := by rw [beq_eq_false_iff_ne]; omega
      clear hT hlx hly hr hx0 hy0
      go_enter Tryd.func36, Tryd.ntmps36
      go_wp2_with fail
      refine wp_region_calm w (by kernel_rfl) (by kernel_rfl) (Fr.of_heap rfl rfl rfl rfl) ?_
      repeat (go_big_quiet_step (fail))
      refine wpQuiet_nil ?_
      rintro _ ⟨wq, rfl⟩
      go_wp2
      go_ret
      exact ⟨rfl, wq.fr⟩
end Go.Proofs.YtenjpnhccnmnpaaDoor
