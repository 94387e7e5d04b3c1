import Derived.Test.YtnafknkchbfpaaaGreatDoorRows
import Derived.Test.YtnafknkchbfpaaaGreatDoorGC
import Derived.Test.YtnafknkchbfpaaaGreatDoorGB
import Derived.Test.YtnafknkchbfpaaaGreatDoorGA
import Derived.ProofKit
import Derived.Deep.QuietTactic
import Derived.BigQuiet
import Derived.WalkLawsBesides
import Derived.WalkSpells
set_option maxRecDepth 1000000
set_option maxHeartbeats 8000000
namespace Go.Proofs.YtnafknkchbfpaaaGreatDoor
open Go.RowKit Go.Bl
set_option linter.unusedVariables false
theorem wpl_step {P : Program} {w w' : World} {ops : Array Oper} {rest : List Oper} {o : Oper} {a : Go.Act} {Q : Exit -> Go.Act -> World -> Prop} {p : Op} (ho : o.op = p) (hgd : o.guard = none) (v : Value)
  (hr : (execOp a.eval o).run P w = .ok (.value v) w') (h : wpList P ops Q rest (a.put o.dst v) w') : wpList P ops Q (o :: rest) a w := by
 refine wpList_plain hgd fun K hK => ?_
 unfold Oper.wp
 rw [hr]
 exact hK _ _ h
theorem wpl_store_one {P : Program} {w : World} {ops : Array Oper} {rest : List Oper} {o : Oper} {a : Go.Act} {Q : Exit -> Go.Act -> World -> Prop} {t te : TypeId} {cur : Array Value} {g off : Nat} (p x : Operand) (hgd : o.guard = none)
  (ho : o.op = .store t p x) (u : Value) (hp : a.eval p = .pointer (some ⟨g, off, none⟩)) (hx : a.eval x = u) (hb : At w g (.cells cur te (0, 0))) (hsz : off < cur.size) (hi : (P.info? t).map (·.size) = some 1) (h1 : u.oneCell' = true)
  (h : ∀ w', Fr [g] w w' -> At w' g (.cells (cur.setIfInBounds off u) te (0, 0)) -> w'.heap.size = w.heap.size -> wpList P ops Q rest (a.put o.dst undef) w') : wpList P ops Q (o :: rest) a w := by
 refine wpList_plain hgd fun K hK => ?_
 have hst := run_storeCells_at P g off te [u] 0 cur w hb (by simp; omega) (by intro v hv; simp at hv; subst hv; exact h1)
 simp only [Nat.add_zero] at hst
 have hcells : u.cells = #[u] := by
  cases u <;> simp_all [Value.cells, Value.oneCell']
 cases hq : P.info? t with
 | none => simp [hq] at hi
 | some i =>
  have hs : i.size = 1 := by simpa [hq] using hi
  unfold Oper.wp execOp
  simp only [ho, hp, hx, Instr.storeAt, Instr.sureAddr, Sem.run_bind, Sem.run_pure, Result.andThen_ok]
  have hset : (cur.toList.take off ++ [u] ++ cur.toList.drop (off + [u].length)).toArray = cur.setIfInBounds off u := by
   apply Array.ext'
   rw [Array.toList_setIfInBounds]
   simp only [List.toList_toArray, List.length_singleton]
   rw [List.set_eq_take_append_cons_drop, if_pos (by simpa using hsz)]
   simp
  have : (storeVar t ⟨g, off, none⟩ u).run P w = .ok () (w.setRow g (cur.setIfInBounds off u)) := by
   rw [<- hset]
   cases u <;> simp_all [storeVar, sizeOf, typeInfo, Value.cells, Value.oneCell']
  rw [this]
  refine hK _ _ (h _ ⟨rfl, rfl, rfl, by simp [World.setRow], fun k hk hn => ?_⟩ (setRow_heap w g cur _ te (0, 0) hb) (by simp [World.setRow]))
  exact setRow_other w g k _ (by simpa using hn)
theorem cell_mono {w w' : World} {b i : Nat} {v : Value} (h : Fr [] w w') (hc : w.cell? ⟨b, i, none⟩ = some v) : w'.cell? ⟨b, i, none⟩ = some v := by
 unfold World.cell? at hc ⊢
 rcases Nat.lt_or_ge b w.heap.size with hb | hb
 ·rw [h.block b hb (by simp)]; exact hc
 ·rw [Array.getElem?_eq_none hb] at hc; simp at hc
theorem ofInt_64 (a : Nat) (ha : a < 18446744073709551616) : (BitVec.ofInt 64 (a : Int)).toNat = a := by
 rw [BitVec.ofInt_natCast, BitVec.toNat_ofNat]; exact Nat.mod_eq_of_lt (by omega)
theorem i64_xor_nat (a b : Nat) (ha : a < 65536) (hb : b < 65536) : bits .xor .i64 (a : Int) (b : Int) = ((a ^^^ b : Nat) : Int) := by
 have hx : a ^^^ b < 2 ^ 16 := Nat.xor_lt_two_pow (by omega) (by omega)
 show IntKind.i64.wrap ((BitVec.ofInt 64 (a : Int) ^^^ BitVec.ofInt 64 (b : Int)).toNat : Int) = _
 rw [BitVec.toNat_xor, ofInt_64 a (by omega), ofInt_64 b (by omega), IntKind.wrap_i64]
 omega
theorem u8_xor_u (a b : UInt8) : bits .xor .u8 (a.toNat : Int) (b.toNat : Int) = ((a ^^^ b).toNat : Int) := by
 rw [u8_xor_nat _ _ a.toNat_lt b.toNat_lt, UInt8.toNat_xor]
theorem double_any (w : World) (a : UInt8) : Calls Tryz.prog 199 #[u8v a] w fun e w' => e = .returned (u8v (dbl a)) /\ Fr [] w w' := by
 have hd := dbl_nat a
 have hn := a.toNat_lt
 have hl := (dbl a).toNat_lt
 unfold u8v
 obtain ⟨m, hm⟩ := exq ((dbl a).toNat)
 obtain ⟨n, hnn⟩ := exq (a.toNat)
 rw [hm, hnn] at hd
 rw [hm] at hl ⊢
 rw [hnn] at hn ⊢
 clear hm hnn
 by_cases hc : 256 <= 2 * n
 ·rw [if_pos hc] at hd
  have hx := i64_xor_nat (2 * n) 285 (by omega) (by omega)
  rw [<- hd] at hx
  have HX := Hdq hx
  have HD := Hdq hd
  clear hx hd
  go_enter Tryz.func199, Tryz.ntmps199
  go_wp2
  go_ret
  refine ⟨?_, Fr.refl _ _⟩
  have hx : bits .xor .i64 ((n : Int) * 2) 285 = (m : Int) := by
   have h := HX.out
   rw [show ((2 * n : Nat) : Int) = (n : Int) * 2 by omega] at h
   exact h
  show Ending.returned (.int .u8 (bits .xor .i64 ((n : Int) * 2) 285 % 256)) = _
  rw [hx]
  refine congrArg (fun z => Ending.returned (.int .u8 z)) ?_
  omega
 ·rw [if_neg hc] at hd
  have HD := Hdq hd
  clear hd
  go_enter Tryz.func199, Tryz.ntmps199
  go_wp2
  go_ret
  refine ⟨?_, Fr.refl _ _⟩
  have := HD.out
  refine congrArg (fun z => Ending.returned (.int .u8 z)) ?_
  omega
theorem exp_any (w : World) (n : Nat) (hn : n < 255) : Calls Tryz.prog 200 #[.int .i64 n] w fun e w' => e = .returned (u8v (gexp n)) /\ Fr [] w w' := by
 have hmod : ((n : Int) % 255 + 255) % 255 = n := by omega
 go_enter Tryz.func200, Tryz.ntmps200
 go_wp2
 rw [hmod]
 clear hmod
 go_loopw [3, 8] (fun x i wr => ∃ k : Nat, k <= n /\ i = .int .i64 k /\ x = u8v (gexp k) /\ Hid (Fr [] w wr)) (fun _ i _ => n - (intOf i).toNat)
 case atStart => exact ⟨0, by omega, rfl, rfl, Fr.refl _ _⟩
 case round =>
  obtain ⟨k, hk, rfl, rfl, HF⟩ := hrel
  by_cases hkn : k < n
  ·go_wp2_with fail
   refine (double_any _ (gexp k)).mono ?_
   rintro e w2 ⟨rfl, hf⟩
   have HF2 := Hdq (HF.out.trans hf)
   clear hf
   go_wp2
   go_roundw
   case rel => exact ⟨k + 1, by omega, by go_num, rfl, HF2.out⟩
   case measure => simp [intOf]; omega
  ·obtain rfl : k = n := by omega
   go_wp2
   go_ret
   exact ⟨rfl, HF.out⟩
theorem tmul_any (w : World) (b : Nat) (hT : At w b (.cells tabF 296)) (x y : UInt8) : Calls Tryz.prog 187 #[.pointer (some ⟨b, 0, none⟩), u8v x, u8v y] w fun e w' => e = .returned (u8v (gmul x y)) /\ Fr [] w w' := by
 have hxx := x.toNat_lt
 have hyy := y.toNat_lt
 by_cases hx : x = 0
 ·subst hx
  rw [show gmul 0 y = 0 by simp [gmul]]
  unfold u8v
  go_enter Tryz.func187, Tryz.ntmps187
  go_wp2
  go_ret
  exact ⟨rfl, Fr.refl _ _⟩
 ·have hx0 : x.toNat ≠ 0 := fun e => hx (UInt8.toNat_inj.1 e)
  by_cases hy : y = 0
  ·subst hy
   rw [show gmul x 0 = 0 by simp [gmul]]
   unfold u8v
   obtain ⟨m, hm⟩ := exq (x.toNat)
   rw [hm] at hxx hx0 ⊢
   clear hm
   have b1 : ((m : Int) == 0) = false := by rw [beq_eq_false_iff_ne]; omega
   go_enter Tryz.func187, Tryz.ntmps187
   go_wp2
   go_ret
   exact ⟨rfl, Fr.refl _ _⟩
  ·have hy0 : y.toNat ≠ 0 := fun e => hy (UInt8.toNat_inj.1 e)
   have hlx := hT.cell (510 + x.toNat)
   rw [tabF_log x hx] at hlx
   have hly := hT.cell (510 + y.toNat)
   rw [tabF_log y hy] at hly
   have h1 := (gexp_glog x hx).2
   have h2 := (gexp_glog y hy).2
   have hr := hT.cell (glog x + glog y)
   rw [tabF_exp _ (by omega)] at hr
   rw [show gmul x y = gexp (glog x + glog y) by simp [gmul, hx, hy]]
   unfold u8v at hr ⊢
   obtain ⟨g, hg⟩ := exq ((gexp (glog x + glog y)).toNat)
   rw [hg] at hr ⊢
   obtain ⟨i, hi⟩ := exq (glog x)
   obtain ⟨j, hj⟩ := exq (glog y)
   rw [hi, hj] at hr
   rw [hi] at h1 hlx
   rw [hj] at h2 hly
   obtain ⟨m, hm⟩ := exq (x.toNat)
   obtain ⟨n, hn⟩ := exq (y.toNat)
   rw [hm] at hxx hx0 hlx ⊢
   rw [hn] at hyy hy0 hly ⊢
   clear hm hn hi hj hg hx hy
   have q1 := fun z : Kin w => cell_mono z.fr hlx
   have q2 := fun z : Kin w => cell_mono z.fr hly
   have q3 := fun z : Kin w => cell_mono z.fr hr
   have b1 : ((m : Int) == 0) = false := by rw [beq_eq_false_iff_ne]; omega
   have b2 : ((n : Int) == 0) = false := by rw [beq_eq_false_iff_ne]; omega
   clear hT hlx hly hr hx0 hy0
   go_enter Tryz.func187, Tryz.ntmps187
   go_wp2_with fail
   refine wp_region_calm w (by kernel_rfl) (by kernel_rfl) (Fr.of_heap rfl rfl rfl rfl) ?_
   repeat (go_big_quiet_step (fail))
   refine wpQuiet_nil ?_
   rintro _ ⟨wq, rfl⟩
   go_wp2
   go_ret
   exact ⟨rfl, wq.fr⟩
def findRegionC (k : Nat) : Code -> Option Code
 | .region i ops d => if i = k then some (.region i ops d) else none
 | .loop c => findRegionC k c
 | .seq a b => match findRegionC k a with
  | some c => some c
  | none => findRegionC k b
 | .block _ c => findRegionC k c
 | .scope c => findRegionC k c
 | .cond _ a b => match findRegionC k a with
  | some c => some c
  | none => findRegionC k b
 | _ => none
noncomputable def make_regR : Code := ((Tryz.f185.body.bind (findRegionC 6)).getD .skip)
theorem make_reg (w : World) (a : Go.Act) (hsz : a.tmps.size = 36) (g k m : Nat) (c : Array Value) (hk : k < 255) (hcz : c.size = 766) (h1 : slot a 1 = .pointer (some ⟨g, 0, none⟩)) (h3 : slot a 3 = .int .i64 (k : Int)) (h2 : slot a 2 = .int .u8 (m : Int)) (hA : At w g (.cells c 296)) (Q : Exit -> Go.Act -> World -> Prop)
  (hQ : ∀ (b : Go.Act) (p : World), b.defers = a.defers -> b.tmps.size = a.tmps.size -> (∀ s, s ∉ ([9, 10, 11, 12, 13, 14, 15, 16, 17, 18, 19, 20, 21] : List Nat) -> slot b s = slot a s) -> Fr [g] w p -> At p g (.cells ((c.setIfInBounds k (.int .u8 (m : Int))).setIfInBounds (k + 255) (.int .u8 (m : Int))) 296) -> Q .normal b p) : Code.wp Tryz.prog make_regR Q a w := by
 conv => arg 2; whnf
 refine wp_region_chain (by kernel_rfl) (by kernel_rfl) [some 9, some 10, some 11, some 12, some 13, some 14, some 15, some 16, some 17, some 18, none, some 19, some 20, some 21, none] [10, 14] [.rd (.pointer (some ⟨g, 0, none⟩)) 2, .rd (.int .i64 (k : Int)) 2, .rd (.pointer (some ⟨g, 0, none⟩)) 2, .rd (.int .i64 (k : Int)) 2, .rd (.int .i64 ((k + 255 : Nat) : Int)) 2, .rd (.int .u8 (m : Int)) 2, .rd (.int .u8 (m : Int)) 2, .rd (.pointer (some ⟨g, 0, none⟩)) 2, .rd (.pointer (some ⟨g, 0, none⟩)) 2, .rd (.pointer (some ⟨g, k, none⟩)) 2, .st 0, .rd (.pointer (some ⟨g, 0, none⟩)) 2, .rd (.pointer (some ⟨g, 0, none⟩)) 2, .rd (.pointer (some ⟨g, k + 255, none⟩)) 2, .st 1] (fun j => undef) (fun s p => Fr [g] w p /\ At p g (.cells (([c, c.setIfInBounds k (.int .u8 (m : Int)), (c.setIfInBounds k (.int .u8 (m : Int))).setIfInBounds (k + 255) (.int .u8 (m : Int))] : List (Array Value)).getD s c) 296)) (by kernel_rfl) (by rfl) (by rw [hsz]; rfl) (by kernel_rfl) (by kernel_rfl) (by decide) ?_ ⟨?_, ?_, ?_, ?_, ?_, ?_, ?_, ?_, ?_, ?_, ?_, ?_, ?_, ?_, ?_, trivial⟩ ?_
 ·intro w1 hw1
  exact ⟨hw1.weak, hA.keep0 hw1⟩
 ·refine ⟨⟨9, rfl⟩, .inl rfl, fun b p s hs hS h => ?_⟩
  have e0 : b.eval (.tmp 1) = .pointer (some ⟨g, 0, none⟩) := (h.old 1 (by decide)).trans h1
  have ec : ∀ v, b.eval (.const v) = v := fun _ => rfl
  obtain ⟨ρ, hρ⟩ := exq (b.eval)
  rw [hρ] at e0 ec ⊢
  exact ⟨_, by rfl, rfl, by unfold execOp; simp [go_sem, e0, ec]⟩
 ·refine ⟨⟨10, rfl⟩, .inl rfl, fun b p s hs hS h => ?_⟩
  have e0 : b.eval (.tmp 3) = .int .i64 (k : Int) := (h.old 3 (by decide)).trans h3
  have ec : ∀ v, b.eval (.const v) = v := fun _ => rfl
  obtain ⟨ρ, hρ⟩ := exq (b.eval)
  rw [hρ] at e0 ec ⊢
  exact ⟨_, by rfl, rfl, by unfold execOp; simp [go_sem, e0, ec]⟩
 ·refine ⟨⟨11, rfl⟩, .inl rfl, fun b p s hs hS h => ?_⟩
  have e0 : b.eval (.tmp 1) = .pointer (some ⟨g, 0, none⟩) := (h.old 1 (by decide)).trans h1
  have ec : ∀ v, b.eval (.const v) = v := fun _ => rfl
  obtain ⟨ρ, hρ⟩ := exq (b.eval)
  rw [hρ] at e0 ec ⊢
  exact ⟨_, by rfl, rfl, by unfold execOp; simp [go_sem, e0, ec]⟩
 ·refine ⟨⟨12, rfl⟩, .inl rfl, fun b p s hs hS h => ?_⟩
  have e0 : b.eval (.tmp 3) = .int .i64 (k : Int) := (h.old 3 (by decide)).trans h3
  have ec : ∀ v, b.eval (.const v) = v := fun _ => rfl
  obtain ⟨ρ, hρ⟩ := exq (b.eval)
  rw [hρ] at e0 ec ⊢
  exact ⟨_, by rfl, rfl, by unfold execOp; simp [go_sem, e0, ec]⟩
 ·refine ⟨⟨13, rfl⟩, .inl rfl, fun b p s hs hS h => ?_⟩
  have e0 := h.er 3 12 (by kernel_rfl) rfl rfl
  have ec : ∀ v, b.eval (.const v) = v := fun _ => rfl
  obtain ⟨ρ, hρ⟩ := exq (b.eval)
  rw [hρ] at e0 ec ⊢
  exact ⟨_, by rfl, rfl, by unfold execOp; simp [go_sem, e0, ec, show IntKind.i64.wrap ((k : Int) + 255) = (k : Int) + 255 by rw [IntKind.wrap_i64]; omega]⟩
 ·refine ⟨⟨14, rfl⟩, .inl rfl, fun b p s hs hS h => ?_⟩
  have e0 : b.eval (.tmp 2) = .int .u8 (m : Int) := (h.old 2 (by decide)).trans h2
  have ec : ∀ v, b.eval (.const v) = v := fun _ => rfl
  obtain ⟨ρ, hρ⟩ := exq (b.eval)
  rw [hρ] at e0 ec ⊢
  exact ⟨_, by rfl, rfl, by unfold execOp; simp [go_sem, e0, ec]⟩
 ·refine ⟨⟨15, rfl⟩, .inl rfl, fun b p s hs hS h => ?_⟩
  have e0 : b.eval (.tmp 2) = .int .u8 (m : Int) := (h.old 2 (by decide)).trans h2
  have ec : ∀ v, b.eval (.const v) = v := fun _ => rfl
  obtain ⟨ρ, hρ⟩ := exq (b.eval)
  rw [hρ] at e0 ec ⊢
  exact ⟨_, by rfl, rfl, by unfold execOp; simp [go_sem, e0, ec]⟩
 ·refine ⟨⟨16, rfl⟩, .inl rfl, fun b p s hs hS h => ?_⟩
  have e0 := h.er 0 9 (by kernel_rfl) rfl rfl
  have ec : ∀ v, b.eval (.const v) = v := fun _ => rfl
  obtain ⟨ρ, hρ⟩ := exq (b.eval)
  rw [hρ] at e0 ec ⊢
  exact ⟨_, by rfl, rfl, by unfold execOp; simp [go_sem, e0, ec]⟩
 ·refine ⟨⟨17, rfl⟩, .inl rfl, fun b p s hs hS h => ?_⟩
  have e0 := h.er 7 16 (by kernel_rfl) rfl rfl
  have ec : ∀ v, b.eval (.const v) = v := fun _ => rfl
  obtain ⟨ρ, hρ⟩ := exq (b.eval)
  rw [hρ] at e0 ec ⊢
  exact ⟨_, by rfl, rfl, by unfold execOp; simp [go_sem, e0, ec]⟩
 ·refine ⟨⟨18, rfl⟩, .inl rfl, fun b p s hs hS h => ?_⟩
  have e0 := h.er 8 17 (by kernel_rfl) rfl rfl
  have e1 := h.er 1 10 (by kernel_rfl) rfl rfl
  have ec : ∀ v, b.eval (.const v) = v := fun _ => rfl
  obtain ⟨ρ, hρ⟩ := exq (b.eval)
  rw [hρ] at e0 e1 ec ⊢
  exact ⟨_, by rfl, rfl, by unfold execOp; simp [go_sem, e0, e1, ec, show ¬ (510 : Int) <= (k : Int) by omega]⟩
 ·refine ⟨rfl, .inl rfl, fun b p hS h => ?_⟩
  have e0 := h.er 9 18 (by kernel_rfl) rfl rfl
  have e1 := h.er 5 14 (by kernel_rfl) rfl rfl
  obtain ⟨hf, hA⟩ := hS
  refine opV_mono (K := fun _ p' => Fr [g] w p' /\ At p' g (.cells (([c, c.setIfInBounds k (.int .u8 (m : Int)), (c.setIfInBounds k (.int .u8 (m : Int))).setIfInBounds (k + 255) (.int .u8 (m : Int))] : List (Array Value)).getD (0 + 1) c) 296)) (fun v p' hv => ⟨hv, .inl rfl⟩) ?_
  refine opV_of_wpl (K := fun _ p' => Fr [g] w p' /\ At p' g (.cells (([c, c.setIfInBounds k (.int .u8 (m : Int)), (c.setIfInBounds k (.int .u8 (m : Int))).setIfInBounds (k + 255) (.int .u8 (m : Int))] : List (Array Value)).getD (0 + 1) c) 296)) _ (by rfl) ?_
  refine wpl_store_one (.tmp 18) (.tmp 14) rfl rfl (.int .u8 (m : Int)) e0 e1 hA (by show k < c.size; omega) (by kernel_rfl) rfl ?_
  intro p1 f1 a1 _
  exact ⟨rfl, rfl, hf.trans f1, a1⟩
 ·refine ⟨⟨19, rfl⟩, .inl rfl, fun b p s hs hS h => ?_⟩
  have e0 := h.er 2 11 (by kernel_rfl) rfl rfl
  have ec : ∀ v, b.eval (.const v) = v := fun _ => rfl
  obtain ⟨ρ, hρ⟩ := exq (b.eval)
  rw [hρ] at e0 ec ⊢
  exact ⟨_, by rfl, rfl, by unfold execOp; simp [go_sem, e0, ec]⟩
 ·refine ⟨⟨20, rfl⟩, .inl rfl, fun b p s hs hS h => ?_⟩
  have e0 := h.er 11 19 (by kernel_rfl) rfl rfl
  have ec : ∀ v, b.eval (.const v) = v := fun _ => rfl
  obtain ⟨ρ, hρ⟩ := exq (b.eval)
  rw [hρ] at e0 ec ⊢
  exact ⟨_, by rfl, rfl, by unfold execOp; simp [go_sem, e0, ec]⟩
 ·refine ⟨⟨21, rfl⟩, .inl rfl, fun b p s hs hS h => ?_⟩
  have e0 := h.er 12 20 (by kernel_rfl) rfl rfl
  have e1 := h.er 4 13 (by kernel_rfl) rfl rfl
  have ec : ∀ v, b.eval (.const v) = v := fun _ => rfl
  obtain ⟨ρ, hρ⟩ := exq (b.eval)
  rw [hρ] at e0 e1 ec ⊢
  exact ⟨_, by rfl, rfl, by unfold execOp; simp [go_sem, e0, e1, ec, show 0 <= (k : Int) + 255 /\ (k : Int) + 255 < 510 by omega, show ((k : Int) + 255).toNat = k + 255 by omega]⟩
 ·refine ⟨rfl, .inr ⟨10, rfl, by kernel_rfl⟩, fun b p hS h => ?_⟩
  have e0 := h.er 13 21 (by kernel_rfl) rfl rfl
  have e1 := h.er 6 15 (by kernel_rfl) rfl rfl
  obtain ⟨hf, hA⟩ := hS
  refine opV_mono (K := fun _ p' => Fr [g] w p' /\ At p' g (.cells (([c, c.setIfInBounds k (.int .u8 (m : Int)), (c.setIfInBounds k (.int .u8 (m : Int))).setIfInBounds (k + 255) (.int .u8 (m : Int))] : List (Array Value)).getD (1 + 1) c) 296)) (fun v p' hv => ⟨hv, .inl rfl⟩) ?_
  refine opV_of_wpl (K := fun _ p' => Fr [g] w p' /\ At p' g (.cells (([c, c.setIfInBounds k (.int .u8 (m : Int)), (c.setIfInBounds k (.int .u8 (m : Int))).setIfInBounds (k + 255) (.int .u8 (m : Int))] : List (Array Value)).getD (1 + 1) c) 296)) _ (by rfl) ?_
  refine wpl_store_one (.tmp 21) (.tmp 15) rfl rfl (.int .u8 (m : Int)) e0 e1 hA (by show k + 255 < (c.setIfInBounds k _).size; rw [Array.size_setIfInBounds]; omega) (by kernel_rfl) rfl ?_
  intro p1 f1 a1 _
  exact ⟨rfl, rfl, hf.trans f1, a1⟩
 ·intro b p h1 h2 h3 h4 h5
  exact hQ b p h1 h2 (fun s hs => h3 s (fun hm => hs (by simpa using hm))) h4.1 h4.2
theorem own_blk {w : World} {base g n cp : Nat} {xs : List UInt8} (h : OwnB 5 base w (.slice (some ⟨g, 0, none⟩) n cp) xs) :
  ∃ cur, At w g (.cells cur 5) /\ xs.length <= cur.size /\ (∀ i, i < xs.length -> cur[i]? = some (.int .u8 ((xs.getD i 0).toNat : Int))) /\
   ∀ (w' : World) (i : Nat) (c : UInt8), At w' g (.cells (cur.setIfInBounds i (u8v c)) 5) -> OwnB 5 base w' (.slice (some ⟨g, 0, none⟩) n cp) (xs.set i c) := by
 obtain ⟨h1, h2⟩ := h
 rcases h2 with ⟨h2, -⟩ | ⟨g', cap', cur, he, hg, hh, hn, hm, hs, ht⟩
 ·cases h2
 ·cases he
  rw [Nat.mul_one] at ht hs
  refine ⟨cur, hh, by omega, fun i hi => ?_, fun w' i c hA => ⟨by simp, .inr ⟨g, cp, cur.setIfInBounds i (u8v c), by rw [List.length_set], hg, hA, by rw [List.length_set]; exact hn, hm, by simpa using hs, ?_⟩⟩⟩
  ·have e : (cur.toList.take xs.length)[i]? = (xs.map u8v)[i]? := by rw [ht]
   rw [List.getElem?_take, if_pos hi, Array.getElem?_toList] at e
   rw [e]
   simp [List.getD_eq_getElem?_getD, hi, u8v]
  ·rw [Array.toList_setIfInBounds, List.length_set, Nat.mul_one, List.take_set, ht, List.map_set]
theorem cell_keep {w w' : World} {S : List Nat} {b i : Nat} {v : Value} (h : Fr S w w') (hb : b ∉ S) (hc : w.cell? ⟨b, i, none⟩ = some v) : w'.cell? ⟨b, i, none⟩ = some v := by
 unfold World.cell? at hc ⊢
 rcases Nat.lt_or_ge b w.heap.size with hl | hl
 ·rw [h.block b hl hb]; exact hc
 ·rw [Array.getElem?_eq_none hl] at hc; simp at hc
theorem make_any (w : World) : Calls Tryz.prog 185 #[] w fun e w' => e = .returned (.pointer (some ⟨w.heap.size, 0, none⟩)) /\ At w' w.heap.size (.cells tabF 296) /\ Fr [] w w' := by
 have HA := Hdq (show At (w.alloc (.cells (tabN 0) 296)) w.heap.size (.cells (tabN 0) 296) from At.new rfl)
 go_enter Tryz.func185, Tryz.ntmps185
 go_wp2_with (first | (refine wpl_step (p := .build 296 #[]) rfl rfl (.agg (tabN 0)) (w' := w) (by kernel_rfl) ?_) | (refine wpl_step (p := .box 296 (.tmp 4)) rfl rfl (.pointer (some ⟨w.heap.size, 0, none⟩)) (w' := w.alloc (.cells (tabN 0) 296)) (by kernel_rfl) ?_))
 go_loopw [2, 6] (fun x i wr => ∃ k : Nat, k <= 255 /\ i = .int .i64 k /\ x = u8v (gexp k) /\ Hid (At wr w.heap.size (.cells (tabN k) 296)) /\ Hid (Fr [] w wr)) (fun _ i _ => 255 - (intOf i).toNat)
 case atStart => exact ⟨0, by omega, rfl, rfl, HA.out, Fr.alloc _ _⟩
 case round =>
  clear HA
  obtain ⟨k, hk, rfl, rfl, HA, HF⟩ := hrel
  by_cases hkn : k < 255
  ·have hmm := (gexp k).toNat_lt
   have hsz := tabN_size k
   have HD := Hdq (fun w => double_any w (gexp k))
   have HN := Hdq (show tabN (k + 1) = (((tabN k).setIfInBounds k (.int .u8 ((gexp k).toNat : Int))).setIfInBounds (k + 255) (.int .u8 ((gexp k).toNat : Int))).setIfInBounds (510 + (gexp k).toNat) (.int .i64 k) from rfl)
   obtain ⟨c, hc⟩ := exq (tabN k)
   rw [hc] at hsz HN HA
   unfold u8v at HD ⊢
   obtain ⟨m, hm⟩ := exq ((gexp k).toNat)
   rw [hm] at hmm HD HN ⊢
   clear hm hc
   go_wp2_with fail
   refine make_reg _ _ rfl w.heap.size k m c hkn hsz rfl rfl rfl HA.out _ ?_
   intro b p h1 h2 h3 hf ha
   obtain ⟨f, hb⟩ := putsX b _ _ h1 h2 h3
   replace HA := Hdq ha
   replace HF := Hdq (HF.out.then hf (by intro b hb; simp at hb; omega))
   clear h1 h2 h3 hf ha
   subst hb
   simp only [List.foldl_cons, List.foldl_nil, Go.Act.put, List.setIfInBounds_toArray, List.set_cons_succ, List.set_cons_zero]
   go_wp2_with (refine wpl_store_one (.tmp 27) (.tmp 24) rfl rfl (.int .i64 (k : Int)) rfl rfl HA.out (by rw [Array.size_setIfInBounds, Array.size_setIfInBounds, hsz]; omega) (by kernel_rfl) rfl ?_)
   intro p1 f1 a1 _
   replace HF := Hdq (HF.out.then f1 (by intro b hb; simp at hb; omega))
   replace HA := Hdq a1
   clear f1 a1
   go_wp2_with fail
   refine (HD.out _).mono ?_
   rintro e w2 ⟨rfl, hf⟩
   replace HA := Hdq (HA.out.keep0 hf)
   replace HF := Hdq (HF.out.trans hf)
   clear hf
   go_wp2
   go_roundw
   case rel => exact ⟨k + 1, by omega, by go_num, rfl, by rw [HN.out]; exact HA.out, HF.out⟩
   case measure => simp [intOf]; omega
  ·obtain rfl : k = 255 := by omega
   have hsz := tabN_size 255
   have HN := Hdq (show tabF = (tabN 255).setIfInBounds 510 (.int .i64 (-1)) from rfl)
   obtain ⟨c, hc⟩ := exq (tabN 255)
   rw [hc] at hsz HN HA
   unfold u8v
   obtain ⟨m, hm⟩ := exq ((gexp 255).toNat)
   rw [hm]
   clear hm hc
   go_wp2_with (refine wpl_store_one (.tmp 34) (.const (.int .i64 (-1))) rfl rfl (.int .i64 (-1)) rfl rfl HA.out (by rw [hsz]; omega) (by kernel_rfl) rfl ?_)
   intro p1 f1 a1 _
   replace HF := Hdq (HF.out.then f1 (by intro b hb; simp at hb; omega))
   replace HA := Hdq a1
   clear f1 a1
   go_wp2
   go_ret
   exact ⟨rfl, by rw [HN.out]; exact HA.out, HF.out⟩
end Go.Proofs.YtnafknkchbfpaaaGreatDoor
