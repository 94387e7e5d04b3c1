import Derived.Test.YtnafknkchbfpaaaGreatDoorRows
import Derived.Test.YtnafknkchbfpaaaGreatDoorGC
import Derived.Test.YtnafknkchbfpaaaGreatDoorGB
import Derived.ProofKit
import Derived.WalkLawsBesides
import Derived.WalkSpells
set_option maxRecDepth 1000000
set_option maxHeartbeats 8000000
namespace Go.Proofs.YtnafknkchbfpaaaGreatDoor
open Go.RowKit Go.Bl
set_option linter.unusedVariables false
theorem Xo {P : Program} {w w' : World} {ops : Array Oper} {rest : List Oper} {o : Oper} {a : Go.Act} {Q : Exit -> Go.Act -> World -> Prop} {p : Op} (ho : o.op = p) (hgd : o.guard = none) (v : Value)
  (hr : (execOp a.eval o).run P w = .ok (.value v) w') (h : wpList P ops Q rest (a.put o.dst v) w') : wpList P ops Q (o :: rest) a w := by
 refine wpList_plain hgd fun K hK => ?_
 unfold Oper.wp
 rw [hr]
 exact hK _ _ h
theorem qk {P : Program} {w : World} {ops : Array Oper} {rest : List Oper} {o : Oper} {a : Go.Act} {Q : Exit -> Go.Act -> World -> Prop} {t te : TypeId} {cur : Array Value} {g off : Nat} (p x : Operand) (hgd : o.guard = none)
  (ho : o.op = .store t p x) (u : Value) (hp : a.eval p = .pointer (some ⟨g, off, none⟩)) (hx : a.eval x = u) (hb : At w g (.cells cur te (0, 0))) (hsz : off < cur.size) (hi : (P.info? t).map (·.size) = some 1) (h1 : u.oneCell' = true)
  (h : ∀ w', Fr [g] w w' -> At w' g (.cells (cur.setIfInBounds off u) te (0, 0)) -> w'.heap.size = w.heap.size -> wpList P ops Q rest (a.put o.dst undef) w') : wpList P ops Q (o :: rest) a w := by
 refine wpList_plain hgd fun K hK => ?_
 have hst := run_storeCells_at P g off te [u] 0 cur w hb Y65 (by intro v hv; simp at hv; subst hv; exact h1)
 simp only [Nat.add_zero] at hst
 have hcells : u.cells = #[u] := by
  cases u <;> simp_all [Value.cells, Value.oneCell']
 cases hq : P.info? t with
 | none => simp [hq] at hi
 | some i =>
  have hs : i.size = 1 := by simpa [hq] using hi
  unfold Oper.wp execOp
  simp only [ho, hp, hx, Instr.storeAt, Instr.sureAddr, Sem.run_bind, Sem.run_pure, Result.andThen_ok]
  have hset : (cur.toList.take off ++ [u] ++ cur.toList.drop (off + [u].length)).toArray = cur.setIfInBounds off u := by
   apply Array.ext'
   rw [Array.toList_setIfInBounds]
   simp only [List.toList_toArray, List.length_singleton]
   rw [List.set_eq_take_append_cons_drop, if_pos (by simpa using hsz)]
   simp
  have : (storeVar t ⟨g, off, none⟩ u).run P w = .ok () (w.setRow g (cur.setIfInBounds off u)) := by
   rw [<- hset]
   cases u <;> simp_all [storeVar, sizeOf, typeInfo, Value.cells, Value.oneCell']
  exact Y41
theorem zf {w w' : World} {b i : Nat} {v : Value} (h : Fr [] w w') (hc : w.cell? ⟨b, i, none⟩ = some v) : w'.cell? ⟨b, i, none⟩ = some v := by
 unfold World.cell? at hc ⊢
 rcases Nat.lt_or_ge b w.heap.size with hb | hb
 ·rw [h.block b hb qf]; exact hc
 ·rw [Array.getElem?_eq_none hb] at hc; simp at hc
theorem vB (a : Nat) (ha : a < 18446744073709551616) : (BitVec.ofInt 64 (a : Int)).toNat = a := by
 exact Y55
theorem JI (a b : Nat) (ha : a < 65536) (hb : b < 65536) : bits .xor .i64 (a : Int) (b : Int) = ((a ^^^ b : Nat) : Int) := by
 have hx : a ^^^ b < 2 ^ 16 := Nat.xor_lt_two_pow Y62 Y62
 show IntKind.i64.wrap ((BitVec.ofInt 64 (a : Int) ^^^ BitVec.ofInt 64 (b : Int)).toNat : Int) = _
 rw [BitVec.toNat_xor, vB a Y62, vB b Y62, IntKind.wrap_i64]
 omega
theorem u8_xor_u (a b : UInt8) : bits .xor .u8 (a.toNat : Int) (b.toNat : Int) = ((a ^^^ b).toNat : Int) := by
 rw [u8_xor_nat _ _ a.toNat_lt b.toNat_lt, UInt8.toNat_xor]
theorem Zk (w : World) (a : UInt8) : Calls Tryz.prog 199 #[u8v a] w fun e w' => e = .returned (u8v (dbl a)) /\ Fr [] w w' := by
 have hd := qen a
 have hn := a.toNat_lt
 have hl := (dbl a).toNat_lt
 unfold u8v
 obtain ⟨m, hm⟩ := exq ((dbl a).toNat)
 obtain ⟨n, hnn⟩ := exq (a.toNat)
 rw [hm, hnn] at hd
 rw [hm] at hl ⊢
 rw [hnn] at hn ⊢
 clear hm hnn
 by_cases hc : 256 <= 2 * n
 ·rw [if_pos hc] at hd
  have hx := JI (2 * n) 285 Y62 Y62
  rw [<- hd] at hx
  have HX := Hdq hx
  have HD := Hdq hd
  clear hx hd
  go_enter Tryz.func199, Tryz.ntmps199
  go_wp2
  go_ret
  refine ⟨?_, Fr.refl _ _⟩
  have hx : bits .xor .i64 ((n : Int) * 2) 285 = (m : Int) := by
   have h := HX.out
   rw [show ((2 * n : Nat) : Int) = (n : Int) * 2 by omega] at h
   exact h
  show Ending.returned (.int .u8 (bits .xor .i64 ((n : Int) * 2) 285 % 256)) = _
  rw [hx]
  refine congrArg (fun z => Ending.returned (.int .u8 z)) ?_
  omega
 ·rw [if_neg hc] at hd
  have HD := Hdq hd
  clear hd
  go_enter Tryz.func199, Tryz.ntmps199
  go_wp2
  go_ret
  refine ⟨?_, Fr.refl _ _⟩
  have := HD.out
  refine congrArg (fun z => Ending.returned (.int .u8 z)) ?_
  omega
theorem qdg (w : World) (n : Nat) (hn : n < 255) : Calls Tryz.prog 200 #[.int .i64 n] w fun e w' => e = .returned (u8v (jv n)) /\ Fr [] w w' := by
 have hmod : ((n : Int) % 255 + 255) % 255 = n := by omega
 go_enter Tryz.func200, Tryz.ntmps200
 go_wp2
 rw [hmod]
 clear hmod
 go_loopw [3, 8] (fun x i wr => ∃ k : Nat, k <= n /\ i = .int .i64 k /\ x = u8v (jv k) /\ Hid (Fr [] w wr)) (fun _ i _ => n - (intOf i).toNat)
 case atStart => exact ⟨0, by omega, rfl, rfl, Fr.refl _ _⟩
 case round =>
  obtain ⟨k, hk, rfl, rfl, HF⟩ := hrel
  by_cases hkn : k < n
  ·go_wp2_with fail
   refine (Zk _ (jv k)).mono ?_
   rintro e w2 ⟨rfl, hf⟩
   have HF2 := Hdq (HF.out.trans hf)
   clear hf
   go_wp2
   go_roundw
   case rel => exact ⟨k + 1, by omega, by go_num, rfl, HF2.out⟩
   case measure => simp [intOf]; omega
  ·obtain rfl : k = n := by omega
   go_wp2
   go_ret
   exact ⟨rfl, HF.out⟩
theorem qb7 (w : World) (b : Nat) (hT : At w b (.cells ut 296)) (x y : UInt8) : Calls Tryz.prog 187 #[.pointer (some ⟨b, 0, none⟩), u8v x, u8v y] w fun e w' => e = .returned (u8v (zd x y)) /\ Fr [] w w' := by
 have hxx := x.toNat_lt
 have hyy := y.toNat_lt
 by_cases hx : x = 0
 ·subst hx
  rw [show zd 0 y = 0 by simp [zd]]
  unfold u8v
  go_enter Tryz.func187, Tryz.ntmps187
  go_wp2
  go_ret
  exact ⟨rfl, Fr.refl _ _⟩
 ·have hx0 : x.toNat ≠ 0 := fun e => hx (UInt8.toNat_inj.1 e)
  by_cases hy : y = 0
  ·subst hy
   rw [show zd x 0 = 0 by simp [zd]]
   unfold u8v
   obtain ⟨m, hm⟩ := exq (x.toNat)
   rw [hm] at hxx hx0 ⊢
   clear hm
   have b1 : ((m : Int) == 0) = false := by rw [beq_eq_false_iff_ne]; omega
   go_enter Tryz.func187, Tryz.ntmps187
   go_wp2
   go_ret
   exact ⟨rfl, Fr.refl _ _⟩
  ·have hy0 : y.toNat ≠ 0 := fun e => hy (UInt8.toNat_inj.1 e)
   have hlx := hT.cell (510 + x.toNat)
   rw [YZ x hx] at hlx
   have hly := hT.cell (510 + y.toNat)
   rw [YZ y hy] at hly
   have h1 := (Ji x hx).2
   have h2 := (Ji y hy).2
   have hr := hT.cell (Qs x + Qs y)
   rw [qcd _ Y62] at hr
   rw [show zd x y = jv (Qs x + Qs y) by simp [zd, hx, hy]]
   unfold u8v at hr ⊢
   obtain ⟨g, hg⟩ := exq ((jv (Qs x + Qs y)).toNat)
   rw [hg] at hr ⊢
   obtain ⟨i, hi⟩ := exq (Qs x)
   obtain ⟨j, hj⟩ := exq (Qs y)
   rw [hi, hj] at hr
   rw [hi] at h1 hlx
   rw [hj] at h2 hly
   obtain ⟨m, hm⟩ := exq (x.toNat)
   obtain ⟨n, hn⟩ := exq (y.toNat)
   rw [hm] at hxx hx0 hlx ⊢
   rw [hn] at hyy hy0 hly ⊢
   clear hm hn hi hj hg hx hy
   have q1 := fun z : Kin w => zf z.fr hlx
   have q2 := fun z : Kin w => zf z.fr hly
   have q3 := fun z : Kin w => zf z.fr hr
   have b1 : ((m : Int) == 0) = false := by rw [beq_eq_false_iff_ne]; omega
   have b2 : ((n : Int) == 0) = false := by rw [beq_eq_false_iff_ne]; omega
   clear hT hlx hly hr hx0 hy0
   go_enter Tryz.func187, Tryz.ntmps187
   go_wp2_with fail
   refine ZE w qe qe (Fr.of_heap rfl rfl rfl rfl) ?_
   repeat (go_big_quiet_step (fail))
   refine wpQuiet_nil ?_
   rintro _ ⟨wq, rfl⟩
   go_wp2
   go_ret
   exact ⟨rfl, wq.fr⟩
theorem qdJ {w : World} {base g n cp : Nat} {xs : List UInt8} (h : qh 5 base w (.slice (some ⟨g, 0, none⟩) n cp) xs) :
  ∃ cur, At w g (.cells cur 5) /\ xs.length <= cur.size /\ (∀ i, i < xs.length -> cur[i]? = some (.int .u8 ((xs.getD i 0).toNat : Int))) /\
   ∀ (w' : World) (i : Nat) (c : UInt8), At w' g (.cells (cur.setIfInBounds i (u8v c)) 5) -> qh 5 base w' (.slice (some ⟨g, 0, none⟩) n cp) (xs.set i c) := by
 obtain ⟨h1, h2⟩ := h
 rcases h2 with ⟨h2, -⟩ | ⟨g', cap', cur, he, hg, hh, hn, hm, hs, ht⟩
 ·cases h2
 ·cases he
  rw [Nat.mul_one] at ht hs
  refine ⟨cur, hh, by omega, fun i hi => ?_, fun w' i c hA => ⟨by simp, .inr ⟨g, cp, cur.setIfInBounds i (u8v c), by rw [List.length_set], hg, hA, by rw [List.length_set]; exact hn, hm, by simpa using hs, ?_⟩⟩⟩
  ·have e : (cur.toList.take xs.length)[i]? = (xs.map u8v)[i]? := by rw [ht]
   rw [List.getElem?_take, if_pos hi, Array.getElem?_toList] at e
   rw [e]
   simp [List.getD_eq_getElem?_getD, hi, u8v]
  ·rw [Array.toList_setIfInBounds, List.length_set, Nat.mul_one, List.take_set, ht, List.map_set]
theorem qG {w w' : World} {S : List Nat} {b i : Nat} {v : Value} (h : Fr S w w') (hb : b ∉ S) (hc : w.cell? ⟨b, i, none⟩ = some v) : w'.cell? ⟨b, i, none⟩ = some v := by
 unfold World.cell? at hc ⊢
 rcases Nat.lt_or_ge b w.heap.size with hl | hl
 ·rw [h.block b hl hb]; exact hc
 ·rw [Array.getElem?_eq_none hl] at hc; simp at hc
def qq (k : Nat) : Code -> Option Code
 | .region i ops d => if i = k then some (.region i ops d) else none
 | .loop c => qq k c
 | .seq a b => match qq k a with
  | some c => some c
  | none => qq k b
 | .block _ c => qq k c
 | .scope c => qq k c
 | .cond _ a b => match qq k a with
  | some c => some c
  | none => qq k b
 | _ => none
noncomputable def qaq : Code := ((Tryz.f185.body.bind (qq 6)).getD .skip)
theorem qc2 (w : World) (a : Go.Act) (hsz : a.tmps.size = 36) (g k m : Nat) (c : Array Value) (hk : k < 255) (hcz : c.size = 766) (h1 : slot a 1 = .pointer (some ⟨g, 0, none⟩)) (h3 : slot a 3 = .int .i64 (k : Int)) (h2 : slot a 2 = .int .u8 (m : Int)) (hA : At w g (.cells c 296)) (Q : Exit -> Go.Act -> World -> Prop)
  (hQ : ∀ (b : Go.Act) (p : World), b.defers = a.defers -> b.tmps.size = a.tmps.size -> (∀ s, s ∉ ([9, 10, 11, 12, 13, 14, 15, 16, 17, 18, 19, 20, 21] : List Nat) -> slot b s = slot a s) -> Fr [g] w p -> At p g (.cells ((c.setIfInBounds k (.int .u8 (m : Int))).setIfInBounds (k + 255) (.int .u8 (m : Int))) 296) -> Q .normal b p) : Code.wp Tryz.prog qaq Q a w := by
 conv => arg 2; whnf
 refine uj qe qe [some 9, some 10, some 11, some 12, some 13, some 14, some 15, some 16, some 17, some 18, none, some 19, some 20, some 21, none] [10, 14] [.rd (.pointer (some ⟨g, 0, none⟩)) 2, .rd (.int .i64 (k : Int)) 2, .rd (.pointer (some ⟨g, 0, none⟩)) 2, .rd (.int .i64 (k : Int)) 2, .rd (.int .i64 ((k + 255 : Nat) : Int)) 2, .rd (.int .u8 (m : Int)) 2, .rd (.int .u8 (m : Int)) 2, .rd (.pointer (some ⟨g, 0, none⟩)) 2, .rd (.pointer (some ⟨g, 0, none⟩)) 2, .rd (.pointer (some ⟨g, k, none⟩)) 2, .st 0, .rd (.pointer (some ⟨g, 0, none⟩)) 2, .rd (.pointer (some ⟨g, 0, none⟩)) 2, .rd (.pointer (some ⟨g, k + 255, none⟩)) 2, .st 1] (fun j => undef) (fun s p => Fr [g] w p /\ At p g (.cells (([c, c.setIfInBounds k (.int .u8 (m : Int)), (c.setIfInBounds k (.int .u8 (m : Int))).setIfInBounds (k + 255) (.int .u8 (m : Int))] : List (Array Value)).getD s c) 296)) qe Y69 W8 qe qe qd ?_ ⟨?_, ?_, ?_, ?_, ?_, ?_, ?_, ?_, ?_, ?_, ?_, ?_, ?_, ?_, ?_, trivial⟩ ?_
 ·intro w1 hw1
  exact ⟨hw1.weak, hA.keep0 hw1⟩
 ·refine ⟨⟨9, rfl⟩, .inl rfl, fun b p s hs hS h => ?_⟩
  have e0 : b.eval (.tmp 1) = .pointer (some ⟨g, 0, none⟩) := (h.old 1 qd).trans h1
  exact Y1
 ·refine ⟨⟨10, rfl⟩, .inl rfl, fun b p s hs hS h => ?_⟩
  have e0 : b.eval (.tmp 3) = .int .i64 (k : Int) := (h.old 3 qd).trans h3
  exact Y1
 ·refine ⟨⟨11, rfl⟩, .inl rfl, fun b p s hs hS h => ?_⟩
  have e0 : b.eval (.tmp 1) = .pointer (some ⟨g, 0, none⟩) := (h.old 1 qd).trans h1
  exact Y1
 ·refine ⟨⟨12, rfl⟩, .inl rfl, fun b p s hs hS h => ?_⟩
  have e0 : b.eval (.tmp 3) = .int .i64 (k : Int) := (h.old 3 qd).trans h3
  exact Y1
 ·refine ⟨⟨13, rfl⟩, .inl rfl, fun b p s hs hS h => ?_⟩
  have e0 := h.er 3 12 qe rfl rfl
  have ec : ∀ v, b.eval (.const v) = v := fun _ => rfl
  obtain ⟨ρ, hρ⟩ := exq (b.eval)
  rw [hρ] at e0 ec ⊢
  exact ⟨_, by rfl, rfl, by unfold execOp; simp [go_sem, e0, ec, show IntKind.i64.wrap ((k : Int) + 255) = (k : Int) + 255 by rw [IntKind.wrap_i64]; omega]⟩
 ·refine ⟨⟨14, rfl⟩, .inl rfl, fun b p s hs hS h => ?_⟩
  have e0 : b.eval (.tmp 2) = .int .u8 (m : Int) := (h.old 2 qd).trans h2
  exact Y1
 ·refine ⟨⟨15, rfl⟩, .inl rfl, fun b p s hs hS h => ?_⟩
  have e0 : b.eval (.tmp 2) = .int .u8 (m : Int) := (h.old 2 qd).trans h2
  exact Y1
 ·refine ⟨⟨16, rfl⟩, .inl rfl, fun b p s hs hS h => ?_⟩
  have e0 := h.er 0 9 qe rfl rfl
  exact Y1
 ·refine ⟨⟨17, rfl⟩, .inl rfl, fun b p s hs hS h => ?_⟩
  have e0 := h.er 7 16 qe rfl rfl
  exact Y1
 ·refine ⟨⟨18, rfl⟩, .inl rfl, fun b p s hs hS h => ?_⟩
  have e0 := h.er 8 17 qe rfl rfl
  have e1 := h.er 1 10 qe rfl rfl
  have ec : ∀ v, b.eval (.const v) = v := fun _ => rfl
  obtain ⟨ρ, hρ⟩ := exq (b.eval)
  rw [hρ] at e0 e1 ec ⊢
  exact ⟨_, by rfl, rfl, by unfold execOp; simp [go_sem, e0, e1, ec, show ¬ (510 : Int) <= (k : Int) by omega]⟩
 ·refine ⟨rfl, .inl rfl, fun b p hS h => ?_⟩
  have e0 := h.er 9 18 qe rfl rfl
  have e1 := h.er 5 14 qe rfl rfl
  obtain ⟨hf, hA⟩ := hS
  refine jA (K := fun _ p' => Fr [g] w p' /\ At p' g (.cells (([c, c.setIfInBounds k (.int .u8 (m : Int)), (c.setIfInBounds k (.int .u8 (m : Int))).setIfInBounds (k + 255) (.int .u8 (m : Int))] : List (Array Value)).getD (0 + 1) c) 296)) (fun v p' hv => ⟨hv, .inl rfl⟩) ?_
  refine jj (K := fun _ p' => Fr [g] w p' /\ At p' g (.cells (([c, c.setIfInBounds k (.int .u8 (m : Int)), (c.setIfInBounds k (.int .u8 (m : Int))).setIfInBounds (k + 255) (.int .u8 (m : Int))] : List (Array Value)).getD (0 + 1) c) 296)) _ Y69 ?_
  refine qk (.tmp 18) (.tmp 14) rfl rfl (.int .u8 (m : Int)) e0 e1 hA (by show k < c.size; omega) qe rfl ?_
  intro p1 f1 a1 _
  exact ⟨rfl, rfl, hf.trans f1, a1⟩
 ·refine ⟨⟨19, rfl⟩, .inl rfl, fun b p s hs hS h => ?_⟩
  have e0 := h.er 2 11 qe rfl rfl
  exact Y1
 ·refine ⟨⟨20, rfl⟩, .inl rfl, fun b p s hs hS h => ?_⟩
  have e0 := h.er 11 19 qe rfl rfl
  exact Y1
 ·refine ⟨⟨21, rfl⟩, .inl rfl, fun b p s hs hS h => ?_⟩
  have e0 := h.er 12 20 qe rfl rfl
  have e1 := h.er 4 13 qe rfl rfl
  have ec : ∀ v, b.eval (.const v) = v := fun _ => rfl
  obtain ⟨ρ, hρ⟩ := exq (b.eval)
  rw [hρ] at e0 e1 ec ⊢
  exact ⟨_, by rfl, rfl, by unfold execOp; simp [go_sem, e0, e1, ec, show 0 <= (k : Int) + 255 /\ (k : Int) + 255 < 510 by omega, show ((k : Int) + 255).toNat = k + 255 by omega]⟩
 ·refine ⟨rfl, .inr ⟨10, rfl, by kernel_rfl⟩, fun b p hS h => ?_⟩
  have e0 := h.er 13 21 qe rfl rfl
  have e1 := h.er 6 15 qe rfl rfl
  obtain ⟨hf, hA⟩ := hS
  refine jA (K := fun _ p' => Fr [g] w p' /\ At p' g (.cells (([c, c.setIfInBounds k (.int .u8 (m : Int)), (c.setIfInBounds k (.int .u8 (m : Int))).setIfInBounds (k + 255) (.int .u8 (m : Int))] : List (Array Value)).getD (1 + 1) c) 296)) (fun v p' hv => ⟨hv, .inl rfl⟩) ?_
  refine jj (K := fun _ p' => Fr [g] w p' /\ At p' g (.cells (([c, c.setIfInBounds k (.int .u8 (m : Int)), (c.setIfInBounds k (.int .u8 (m : Int))).setIfInBounds (k + 255) (.int .u8 (m : Int))] : List (Array Value)).getD (1 + 1) c) 296)) _ Y69 ?_
  refine qk (.tmp 21) (.tmp 15) rfl rfl (.int .u8 (m : Int)) e0 e1 hA (by show k + 255 < (c.setIfInBounds k _).size; rw [Array.size_setIfInBounds]; omega) qe rfl ?_
  intro p1 f1 a1 _
  exact ⟨rfl, rfl, hf.trans f1, a1⟩
 ·intro b p h1 h2 h3 h4 h5
  exact hQ b p h1 h2 (fun s hs => h3 s (fun hm => hs Y87)) h4.1 h4.2
theorem Yb (w : World) : Calls Tryz.prog 185 #[] w fun e w' => e = .returned (.pointer (some ⟨w.heap.size, 0, none⟩)) /\ At w' w.heap.size (.cells ut 296) /\ Fr [] w w' := by
 have HA := Hdq (show At (w.alloc (.cells (vV 0) 296)) w.heap.size (.cells (vV 0) 296) from At.new rfl)
 go_enter Tryz.func185, Tryz.ntmps185
 go_wp2_with (first | (refine Xo (p := .build 296 #[]) rfl rfl (.agg (vV 0)) (w' := w) qe ?_) | (refine Xo (p := .box 296 (.tmp 4)) rfl rfl (.pointer (some ⟨w.heap.size, 0, none⟩)) (w' := w.alloc (.cells (vV 0) 296)) qe ?_))
 go_loopw [2, 6] (fun x i wr => ∃ k : Nat, k <= 255 /\ i = .int .i64 k /\ x = u8v (jv k) /\ Hid (At wr w.heap.size (.cells (vV k) 296)) /\ Hid (Fr [] w wr)) (fun _ i _ => 255 - (intOf i).toNat)
 case atStart => exact ⟨0, by omega, rfl, rfl, HA.out, Fr.alloc _ _⟩
 case round =>
  clear HA
  obtain ⟨k, hk, rfl, rfl, HA, HF⟩ := hrel
  by_cases hkn : k < 255
  ·have hmm := (jv k).toNat_lt
   have hsz := yH k
   have HD := Hdq (fun w => Zk w (jv k))
   have HN := Hdq (show vV (k + 1) = (((vV k).setIfInBounds k (.int .u8 ((jv k).toNat : Int))).setIfInBounds (k + 255) (.int .u8 ((jv k).toNat : Int))).setIfInBounds (510 + (jv k).toNat) (.int .i64 k) from rfl)
   obtain ⟨c, hc⟩ := exq (vV k)
   rw [hc] at hsz HN HA
   unfold u8v at HD ⊢
   obtain ⟨m, hm⟩ := exq ((jv k).toNat)
   rw [hm] at hmm HD HN ⊢
   clear hm hc
   go_wp2_with fail
   refine qc2 _ _ rfl w.heap.size k m c hkn hsz rfl rfl rfl HA.out _ ?_
   intro b p h1 h2 h3 hf ha
   obtain ⟨f, hb⟩ := qcF b _ _ h1 h2 h3
   replace HA := Hdq ha
   replace HF := Hdq (HF.out.then hf Y79)
   clear h1 h2 h3 hf ha
   subst hb
   simp only [List.foldl_cons, List.foldl_nil, Go.Act.put, List.setIfInBounds_toArray, List.set_cons_succ, List.set_cons_zero]
   go_wp2_with (refine qk (.tmp 27) (.tmp 24) rfl rfl (.int .i64 (k : Int)) rfl rfl HA.out (by rw [Array.size_setIfInBounds, Array.size_setIfInBounds, hsz]; omega) qe rfl ?_)
   intro p1 f1 a1 _
   replace HF := Hdq (HF.out.then f1 Y79)
   replace HA := Hdq a1
   clear f1 a1
   go_wp2_with fail
   refine (HD.out _).mono ?_
   rintro e w2 ⟨rfl, hf⟩
   replace HA := Hdq (HA.out.keep0 hf)
   replace HF := Hdq (HF.out.trans hf)
   clear hf
   go_wp2
   go_roundw
   case rel => exact ⟨k + 1, by omega, by go_num, rfl, by rw [HN.out]; exact HA.out, HF.out⟩
   case measure => simp [intOf]; omega
  ·obtain rfl : k = 255 := by omega
   have hsz := yH 255
   have HN := Hdq (show ut = (vV 255).setIfInBounds 510 (.int .i64 (-1)) from rfl)
   obtain ⟨c, hc⟩ := exq (vV 255)
   rw [hc] at hsz HN HA
   unfold u8v
   obtain ⟨m, hm⟩ := exq ((jv 255).toNat)
   rw [hm]
   clear hm hc
   go_wp2_with (refine qk (.tmp 34) (.const (.int .i64 (-1))) rfl rfl (.int .i64 (-1)) rfl rfl HA.out Y76 qe rfl ?_)
   intro p1 f1 a1 _
   replace HF := Hdq (HF.out.then f1 Y79)
   replace HA := Hdq a1
   clear f1 a1
   go_wp2
   go_ret
   exact ⟨rfl, by rw [HN.out]; exact HA.out, HF.out⟩
end Go.Proofs.YtnafknkchbfpaaaGreatDoor
