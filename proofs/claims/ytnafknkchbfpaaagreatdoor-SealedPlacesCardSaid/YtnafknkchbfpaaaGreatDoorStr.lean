import Derived.Test.YtnafknkchbfpaaaGreatDoorGB
import Derived.Laws.IdiomStrings
import Derived.Lib.BufferRead
import Derived.ProofKit
namespace Go.Bl
open Go.RowKit
set_option linter.unusedVariables false
theorem run_strS {P : Program} {A : Nat -> Prop} {w : World} {src dst e : TypeId} {v : Value} {xs : List UInt8} (hs : P.underlying src = some (.slice e)) (he : P.underlying e = some (.int .u8)) (hd : P.underlying dst = some .string) (hb : Bs A w v xs) :
  (convert src dst v).run P w = .ok (.string ⟨xs.toArray⟩) w := by
 obtain ⟨a, cap, rfl, h2, h3, h4⟩ := hb
 cases a with
 | none =>
  have hx : xs = [] := by
   rcases h4 with h | ⟨b, off, c, e, fz, h, _⟩
   ·simpa using h
   ·cases h
  subst hx
  exact Lib.run_convert_nil_bytes w src dst e cap hs he hd
 | some ad =>
  refine run_convert_bytes_back w src dst e ad cap xs hs he hd fun j hj => ?_
  rw [h4.cell j (by simpa using hj)]
  simp [u8v, hj]
theorem run_strO {P : Program} {A : Nat -> Prop} {ρ : Operand -> Value} {o : Oper} {w : World} {src dst e : TypeId} {v : Value} {xs : List UInt8} (hs : P.underlying src = some (.slice e)) (he : P.underlying e = some (.int .u8)) (hd : P.underlying dst = some .string)
  (x : Operand) (ho : o.op = .convert src dst x) (hx : ρ x = v) (hb : Bs A w v xs) (S : ByteArray) (hS : (⟨xs.toArray⟩ : ByteArray) = S) : (execOp ρ o).run P w = .ok (.value (.string S)) w := by
 unfold execOp
 simp only [ho, hx, Sem.run_bind, run_strS hs he hd hb, hS, Result.andThen_ok, Sem.run_pure]
end Go.Bl
