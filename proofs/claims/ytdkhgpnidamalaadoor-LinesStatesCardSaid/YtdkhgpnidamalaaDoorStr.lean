/-
  Bytes to strings; quiet steps by a run (for seats without chapter 31).
-/
import Derived.Test.YtdkhgpnidamalaaDoorGB
import Derived.Laws.IdiomStrings
import Derived.Lib.BufferRead
import Derived.ProofKit
namespace Go.Bl
open Go.RowKit
set_option linter.unusedVariables false

theorem run_strS {P : Program} {A : Nat → Prop} {w : World} {src dst e : TypeId} {v : Value} {xs : List UInt8} (hs : P.underlying src = some (.slice e)) (he : P.underlying e = some (.int .u8)) (hd : P.underlying dst = some .string) (hb : Bs A w v xs) :
    (convert src dst v).run P w = .ok (.string ⟨xs.toArray⟩) w := by
  obtain ⟨a, cap, rfl, h2, h3, h4⟩ := hb
  cases a with
  | none =>
    have hx : xs = [] := by
      rcases h4 with h | ⟨b, off, c, e, fz, h, _⟩
      · simpa using h
      · cases h
    subst hx
    exact Lib.run_convert_nil_bytes w src dst e cap hs he hd
  | some ad =>
    refine run_convert_bytes_back w src dst e ad cap xs hs he hd fun j hj => ?_
    rw [h4.cell j (by simpa using hj)]
    simp [u8v, hj]
theorem run_strO {P : Program} {A : Nat → Prop} {ρ : Operand → Value} {o : Oper} {w : World} {src dst e : TypeId} {v : Value} {xs : List UInt8} (hs : P.underlying src = some (.slice e)) (he : P.underlying e = some (.int .u8)) (hd : P.underlying dst = some .string)
    (x : Operand) (ho : o.op = .convert src dst x) (hx : ρ x = v) (hb : Bs A w v xs) (S : ByteArray) (hS : (⟨xs.toArray⟩ : ByteArray) = S) : (execOp ρ o).run P w = .ok (.value (.string S)) w := by
  unfold execOp
  simp only [ho, hx, Sem.run_bind, run_strS hs he hd hb, hS, Result.andThen_ok, Sem.run_pure]
theorem quietRun {P : Program} {o : Oper} {a : Act} {C : World → Prop} {K : Act → Prop} (v : Value) (hr : ∀ w, C w → (execOp a.eval o).run P w = .ok (.value v) w) (hk : K (a.put o.dst v)) : o.quiet P a C K :=
  ⟨v, fun w hw => by
    unfold Oper.quietAt
    rw [hr w hw]
    first | exact ⟨rfl, rfl⟩ | exact ⟨rfl, hw⟩ | trivial, hk⟩
theorem wpl_strH {P : Program} {A : Nat → Prop} {w : World} {ops : Array Oper} {rest : List Oper} {o : Oper} {a : Go.Act} {Q : Exit → Go.Act → World → Prop} {src dst e : TypeId} {v : Value} {xs : List UInt8} (hs : P.underlying src = some (.slice e)) (he : P.underlying e = some (.int .u8)) (hd : P.underlying dst = some .string)
    (x : Operand) (ho : o.op = .convert src dst x) (hw : Region.wanted o (yielded ops a.tmps) = true) (hx : a.eval x = v) (hb : Bs A w v xs) (S : ByteArray) (hS : (⟨xs.toArray⟩ : ByteArray) = S) (h : wpList P ops Q rest (a.put o.dst (.string S)) w) : wpList P ops Q (o :: rest) a w := by
  refine wpList_step fun K hK => ?_
  rw [if_pos hw]
  unfold Oper.wp execOp
  simp only [ho, hx, Sem.run_bind, run_strS hs he hd hb, hS, Result.andThen_ok, Sem.run_pure]
  exact hK _ _ h

/-! reads with 'len' among them -/
def isLen : Op → Bool
  | .call c => match c.callee with
    | .builtin .len => true
    | _ => false
  | _ => false
theorem noEnter_len {P : Program} {ρ : Operand → Value} {o : Oper} (h : isLen o.op = true) (w : World) : NoEnter ((execOp ρ o).run P w) := by
  cases ho : o.op <;> simp only [ho, isLen, Bool.false_eq_true] at h
  rename_i c
  obtain ⟨callee, args, ats⟩ := c
  cases callee <;> simp only [Bool.false_eq_true] at h
  rename_i b
  cases b <;> simp only [Bool.false_eq_true] at h
  unfold execOp
  simp only [ho, resolve, Sem.run_bind, Sem.run_pure, Result.andThen_ok, invoke, builtin]
  cases (Builtin.len_ ats o.type (args.map ρ)).run P w <;> simp [Result.andThen, NoEnter]
def valsOkL (ops : Array Oper) (π : List (Kind × Nat)) : Bool := π.all fun s => decide (s.1 = .val) && match ops[s.2]? with | some o => isVal o.op || isLen o.op | none => false
theorem poF_valsL {P : Program} {ops : Array Oper} {Q : Exit → Act → World → Prop} {w0 : World} : ∀ (n : Nat) (π : List (Kind × Nat)) (a : Act) (w : World), valsOkL ops (π.take n) = true →
    wpQuiet P ops (fun w' => ∃ x : Kin w0, w' = x.w) (fun a' => poF P ops Q w0 (π.drop n) a' w) (opersOf ops (π.take n)) a → poF P ops Q w0 π a w
  | 0, π, a, w, _, h => by simpa [opersOf, wpQuiet] using h
  | n + 1, [], a, w, _, h => by simpa [opersOf, wpQuiet] using h
  | n + 1, (k, i) :: π, a, w, hv, h => by
    simp only [List.take_succ_cons, valsOkL, List.all_cons, Bool.and_eq_true, decide_eq_true_eq] at hv
    obtain ⟨⟨hk, hi⟩, hv⟩ := hv
    subst hk
    cases ho : ops[i]? with
    | none => simp [ho] at hi
    | some o =>
      simp only [ho] at hi
      have hop : opersOf ops (((Kind.val, i) :: π).take (n + 1)) = o :: opersOf ops (π.take n) := by simp [opersOf, ho]
      rw [hop] at h
      have hd : dstOf ops i = o.dst := by simp [dstOf, ho]
      unfold poF poW
      unfold wpQuiet at h
      by_cases hw : Region.wanted o (yielded ops a.tmps) = true
      · rw [if_pos hw] at h
        obtain ⟨v, h1, h2⟩ := h
        refine ⟨v, fun u hu => runV_of_quiet ho hw ?_ (h1 u ⟨⟨u, hu⟩, rfl⟩), ?_⟩
        · rcases (show isVal o.op = true ∨ isLen o.op = true by simpa using hi) with hi | hi
          · exact noEnter_of hi u
          · exact noEnter_len hi u
        rw [hd]
        exact poF_valsL n π _ w hv h2
      · rw [if_neg hw] at h
        refine ⟨undef, fun u hu => ?_, ?_⟩
        · unfold runV
          simp [ho, hw]
        · rw [hd]
          exact poF_valsL n π _ w hv h
end Go.Bl
