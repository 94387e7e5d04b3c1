/-
  The law ScriptSame: its lists of acts.
-/
import Derived.Test.YtbohmnblegljkaaOf
namespace Go.Proofs.Ytbohmnblegljkaa
open Go.RowKit Go.Bl
set_option linter.unusedVariables false

theorem avC_lit (x : ActP) (v : Value) : avC (x, v) = [.int .i64 x.kind, .int .i64 x.n, .int .i64 x.i, .int .i64 x.at_, .int .i64 x.by_, .string x.name, v, .int .i64 x.p0, .int .i64 x.p1, .int .i64 x.p2, .int .i64 x.p3, .int .i64 x.p4, .int .i64 x.p5, .int .i64 x.kept, .int .i64 x.torn, .int .u64 x.scat] := by
  simp only [avC, actC]
theorem rd_two (A : Nat → Prop) (w w' : World) (b : Nat) (x y : ActP) (ao eo : Option Addr) (an ac en ec : Nat) (hb : At w b (.cells #[.int .i64 x.kind, .int .i64 x.n, .int .i64 x.i, .int .i64 x.at_, .int .i64 x.by_, .string x.name, .slice ao an ac, .int .i64 x.p0, .int .i64 x.p1, .int .i64 x.p2, .int .i64 x.p3, .int .i64 x.p4, .int .i64 x.p5, .int .i64 x.kept, .int .i64 x.torn, .int .u64 x.scat, .int .i64 y.kind, .int .i64 y.n, .int .i64 y.i, .int .i64 y.at_, .int .i64 y.by_, .string y.name, .slice eo en ec, .int .i64 y.p0, .int .i64 y.p1, .int .i64 y.p2, .int .i64 y.p3, .int .i64 y.p4, .int .i64 y.p5, .int .i64 y.kept, .int .i64 y.torn, .int .u64 y.scat] 39)) (hA : ¬ A b) (hx : Bs A w (.slice ao an ac) x.bytes) (hy : Bs A w (.slice eo en ec) y.bytes) :
    RdA A w (.slice (some ⟨b, 0, none⟩) 2 2) [(x, .slice ao an ac), (y, .slice eo en ec)] := by
  refine ⟨⟨_, 2, rfl, by simp, by simp [maxLen], ?_⟩, fun z hz => ?_⟩
  · have := Row.of_block hb hA
    simp only [List.flatMap_cons, List.flatMap_nil, avC_lit, List.append_nil, List.cons_append, List.nil_append]
    exact this
  · simp only [List.mem_cons, List.not_mem_nil, or_false] at hz
    rcases hz with rfl | rfl
    · exact hx
    · exact hy
theorem rd_one (A : Nat → Prop) (w : World) (b : Nat) (x : ActP) (ao : Option Addr) (an ac : Nat) (hb : At w b (.cells #[.int .i64 x.kind, .int .i64 x.n, .int .i64 x.i, .int .i64 x.at_, .int .i64 x.by_, .string x.name, .slice ao an ac, .int .i64 x.p0, .int .i64 x.p1, .int .i64 x.p2, .int .i64 x.p3, .int .i64 x.p4, .int .i64 x.p5, .int .i64 x.kept, .int .i64 x.torn, .int .u64 x.scat] 39)) (hA : ¬ A b) (hx : Bs A w (.slice ao an ac) x.bytes) :
    RdA A w (.slice (some ⟨b, 0, none⟩) 1 1) [(x, .slice ao an ac)] := by
  refine ⟨⟨_, 1, rfl, by simp, by simp [maxLen], ?_⟩, fun z hz => ?_⟩
  · have := Row.of_block hb hA
    simp only [List.flatMap_cons, List.flatMap_nil, avC_lit, List.append_nil]
    exact this
  · simp only [List.mem_cons, List.not_mem_nil, or_false] at hz
    subst hz
    exact hx
theorem build_one (u : World) (x : ActP) (ao : Option Addr) (an ac : Nat) (ρ : Operand → Value) (k : Nat) (hx : ρ (.tmp k) = .agg #[.int .i64 x.kind, .int .i64 x.n, .int .i64 x.i, .int .i64 x.at_, .int .i64 x.by_, .string x.name, .slice ao an ac, .int .i64 x.p0, .int .i64 x.p1, .int .i64 x.p2, .int .i64 x.p3, .int .i64 x.p4, .int .i64 x.p5, .int .i64 x.kept, .int .i64 x.torn, .int .u64 x.scat]) (o : Oper) (ho : o.op = .buildSlice 28 1 #[(0, .tmp k)]) :
    (execOp ρ o).run Try.prog u = .ok (.value (.slice (some ⟨u.heap.size, 0, none⟩) 1 1)) (u.alloc (.cells #[.int .i64 x.kind, .int .i64 x.n, .int .i64 x.i, .int .i64 x.at_, .int .i64 x.by_, .string x.name, .slice ao an ac, .int .i64 x.p0, .int .i64 x.p1, .int .i64 x.p2, .int .i64 x.p3, .int .i64 x.p4, .int .i64 x.p5, .int .i64 x.kept, .int .i64 x.torn, .int .u64 x.scat] 39)) := by
  unfold execOp
  simp only [ho]
  simp only [List.map_toArray, List.map_cons, List.map_nil, hx]
  kernel_rfl
end Go.Proofs.Ytbohmnblegljkaa
