/-
  Layer 3: code.Quiet, code.Right; when two arrays of bytes are equal.
-/
import Derived.Test.YtmohiblgfmdkjaaDoorGQ
import Derived.Laws.StructEq
import Derived.Laws.Tables
import Derived.Laws.Cover2
import Derived.ChangeKeysEq
namespace Go.Proofs.YtmohiblgfmdkjaaDoor
open Go.RowKit Go.Bl
set_option linter.unusedVariables false
set_option maxRecDepth 100000 in
theorem eq_loop (w : World) (xs ys : List UInt8) : ∀ m s, s + m ≤ xs.length → s + m ≤ ys.length →
    (forIn (m := Sem) (List.range' s m) ((none : Option Bool), ()) fun i _ => do
      let a ← part 5 (xs.map u8v).toArray (i * 1)
      let b ← part 5 (ys.map u8v).toArray (i * 1)
      let r ← Op.equalIn 9999 5 a b
      if (!r) = true then pure (ForInStep.done (some false, ())) else pure (ForInStep.yield (none, ()))).run Tryd.prog w = .ok (if (xs.drop s).take m = (ys.drop s).take m then (none, ()) else (some false, ())) w
  | 0, s, _, _ => by simp
  | m + 1, s, h1, h2 => by
    have hpk : Tryd.prog.plainKey 5 = true := by kernel_rfl
    obtain ⟨x, hx⟩ : ∃ x, xs[s]? = some x := ⟨_, List.getElem?_eq_getElem (by omega)⟩
    obtain ⟨y, hy⟩ : ∃ y, ys[s]? = some y := ⟨_, List.getElem?_eq_getElem (by omega)⟩
    have p1 : (part 5 (xs.map u8v).toArray (s * 1)).run Tryd.prog w = .ok (u8v x) w := run_part_plain w hpk (by simp [hx])
    have p2 : (part 5 (ys.map u8v).toArray (s * 1)).run Tryd.prog w = .ok (u8v y) w := run_part_plain w hpk (by simp [hy])
    have p3 : (Op.equalIn 9999 5 (u8v x) (u8v y)).run Tryd.prog w = .ok ((x.toNat : Int) == (y.toNat : Int)) w := run_equalIn_int w 9998 5 .u8 .u8 _ _ Tryd.underlying5
    have d1 : (xs.drop s).take (m + 1) = x :: (xs.drop (s + 1)).take m := by
      rw [List.drop_eq_getElem_cons (by omega), List.take_succ_cons]
      congr 1
      exact (List.getElem?_eq_some_iff.1 hx).2
    have d2 : (ys.drop s).take (m + 1) = y :: (ys.drop (s + 1)).take m := by
      rw [List.drop_eq_getElem_cons (by omega), List.take_succ_cons]
      congr 1
      exact (List.getElem?_eq_some_iff.1 hy).2
    rw [List.range'_succ, List.forIn_cons]
    simp only [Sem.run_bind, p1, p2, p3, Result.andThen_ok]
    by_cases hxy : x = y
    · subst hxy
      simp only [beq_self_eq_true, Bool.not_true, Bool.false_eq_true, if_false, Sem.run_pure, Result.andThen_ok]
      rw [eq_loop w xs ys m (s + 1) (by omega) (by omega), d1, d2]
      simp
    · have hne : ((x.toNat : Int) == (y.toNat : Int)) = false := by
        rw [beq_eq_false_iff_ne]
        intro e
        exact hxy (UInt8.toNat_inj.1 (by omega))
      rw [hne, d1, d2]
      simp [hxy]
theorem eq_arr8 (w : World) (t : TypeId) (xs ys : List UInt8) (n : Nat) (ht : Tryd.prog.underlying t = some (.array n 5)) (h1 : xs.length = n) (h2 : ys.length = n) :
    (Op.equalIn 10000 t (.agg (xs.map u8v).toArray) (.agg (ys.map u8v).toArray)).run Tryd.prog w = .ok (decide (xs = ys)) w := by
  obtain ⟨i, hi, -, hs, -⟩ := info_bytes Tryd.infoByte
  have hso : (sizeOf 5).run Tryd.prog w = .ok 1 w := by rw [run_sizeOf w hi, show Tryd.prog.cellsOf 5 = 1 by kernel_rfl]
  rw [show (10000 : Nat) = 9999 + 1 from rfl, Op.equalIn]
  simp only [Sem.run_bind, run_underlying ht, Result.andThen_ok]
  simp only [Std.Legacy.Range.forIn_eq_forIn_range', Std.Legacy.Range.size, Nat.sub_zero, Nat.add_sub_cancel, Nat.div_one, hso, Result.andThen_ok]
  have h := eq_loop w xs ys n 0 (by omega) (by omega)
  rw [h]
  rw [List.drop_zero, List.drop_zero, List.take_of_length_le (by omega), List.take_of_length_le (by omega)]
  by_cases e : xs = ys
  · simp [e]
  · simp [e]
theorem wpl_load_rowW {P : Program} {w : World} {ops : Array Oper} {rest : List Oper} {o : Oper} {a : Go.Act} {Q : Exit → Go.Act → World → Prop} {ty te : TypeId} {d : TypeDesc} {fz : Nat × Nat} (x : Operand) (ho : o.op = .load ty x) (hw : Region.wanted o (yielded ops a.tmps) = true)
    (b : Nat) (c : Array Value) (hx : a.eval x = .pointer (some ⟨b, 0, none⟩)) (hc : At w b (.cells c te fz)) (hu : P.underlying ty = some d) (hd : d.isRow = true) (hi : (P.info? ty).map (·.size) = some c.size)
    (h : wpList P ops Q rest (a.put o.dst (.agg c)) w) : wpList P ops Q (o :: rest) a w := by
  have hr : w.rangeAt b 0 c.toList := fun j v hj => by rw [Nat.zero_add, hc.cell]; simpa using hj
  have h2 := run_loadAt_mid (P := P) w b 0 ty c.toList d hr hu hd (by simpa using hi)
  have h3 : (execOp a.eval o).run P w = .ok (.value (.agg c)) w := by
    unfold execOp
    simp only [ho, hx, Sem.run_bind, h2, Result.andThen_ok, Sem.run_pure]
  unfold wpList
  rw [if_pos hw]
  refine .inl ?_
  unfold Oper.wp
  rw [h3]
  exact h
def zero32 : List UInt8 := List.replicate 32 0
set_option maxRecDepth 100000 in
set_option maxHeartbeats 1000000 in
theorem quiet_any (w : World) (s : List UInt8) (hs : s.length = 32) : Calls Tryd.prog 116 #[.agg (s.map u8v).toArray] w fun e w' => e = .returned (.bool (decide (s = zero32))) ∧ Fr [] w w' := by
  have HEQ := Lib.hid (fun w => eq_arr8 w 148 s zero32 32 Tryd.underlying148 hs (by simp [zero32]))
  have hsz : (s.map u8v).toArray.size = 32 := by simp [hs]
  obtain ⟨SC, hSC⟩ : ∃ c, (s.map u8v).toArray = c := ⟨_, rfl⟩
  rw [hSC] at HEQ hsz ⊢
  obtain ⟨b, hb⟩ : ∃ b, decide (s = zero32) = b := ⟨_, rfl⟩
  rw [hb] at HEQ ⊢
  have HSZ := Lib.hid hsz
  have heq : ∀ w, (Op.equalIn 10000 148 (.agg SC) (.agg #[.int .u8 0, .int .u8 0, .int .u8 0, .int .u8 0, .int .u8 0, .int .u8 0, .int .u8 0, .int .u8 0, .int .u8 0, .int .u8 0, .int .u8 0, .int .u8 0, .int .u8 0, .int .u8 0, .int .u8 0, .int .u8 0, .int .u8 0, .int .u8 0, .int .u8 0, .int .u8 0, .int .u8 0, .int .u8 0, .int .u8 0, .int .u8 0, .int .u8 0, .int .u8 0, .int .u8 0, .int .u8 0, .int .u8 0, .int .u8 0, .int .u8 0, .int .u8 0])).run Tryd.prog w = .ok b w := fun w => HEQ.out w
  clear hSC hb hs hsz
  go_enter Tryd.func116, Tryd.ntmps116
  go_wp2_with (refine wpl_load_rowG (.tmp 1) rfl rfl w.heap.size SC rfl (At.new rfl) Tryd.underlying148 rfl (by rw [HSZ.out]; kernel_rfl) ?_)
  go_ret
  exact ⟨rfl, Fr.alloc _ _⟩
set_option maxRecDepth 100000 in
set_option maxHeartbeats 1000000 in
theorem right_any (w : World) (v : Value) (ws : List UInt8) (hb : Bs (fun _ => False) w v ws) (h1 : 33 ≤ ws.length) (h2 : ws.length ≤ 255) : Calls Tryd.prog 92 #[v] w fun e w' => e = .returned (.bool (decide (synL ws = zero32))) ∧ Fr [] w w' := by
  have HOF := Lib.hid (of_any w v ws hb h1 h2)
  have HQ := Lib.hid (fun w => quiet_any w (synL ws) (synL_len ws))
  have hsz : ((synL ws).map u8v).toArray.size = 32 := by simp [synL_len]
  have HONE := Lib.hid (cells_one (synL ws))
  obtain ⟨SC, hSC⟩ : ∃ c, ((synL ws).map u8v).toArray = c := ⟨_, rfl⟩
  rw [hSC] at HOF HQ hsz HONE
  obtain ⟨b, hbb⟩ : ∃ b, decide (synL ws = zero32) = b := ⟨_, rfl⟩
  rw [hbb] at HQ ⊢
  have HSZ := Lib.hid hsz
  clear hSC hbb hb h1 h2 hsz
  go_enter Tryd.func92, Tryd.ntmps92
  go_wp2_with (go_at_call 67; fail)
  refine HOF.out.mono ?_
  rintro e w1 ⟨rfl, hf⟩
  have HF1 := Lib.hid hf
  clear hf HOF
  go_wp2_with (first | (refine wpl_store_new (.tmp 3) (.tmp 8) rfl rfl SC rfl rfl (by rw [HSZ.out]; kernel_rfl) (by rw [HSZ.out]; rfl) HONE.out ?_) | (refine wpl_load_rowW (.tmp 3) rfl rfl w1.heap.size SC rfl (At.new rfl) Tryd.underlying148 rfl (by rw [HSZ.out]; kernel_rfl) ?_) | (go_at_call 116; fail))
  have HF2 := Lib.hid (HF1.out.trans (Fr.alloc (S := []) w1 (.cells SC 148)))
  refine (HQ.out _).mono ?_
  rintro e w2 ⟨rfl, hf⟩
  have HF3 := Lib.hid (HF2.out.trans hf)
  clear hf
  go_wp2
  go_ret
  exact ⟨rfl, HF3.out⟩
end Go.Proofs.YtmohiblgfmdkjaaDoor
