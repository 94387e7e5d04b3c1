import Derived.Test.YtnafknkchbfpaaaGreatDoorRows
import Derived.Test.YtnafknkchbfpaaaGreatDoorGB
import Derived.ProofKit
import Derived.WalkLawsBesides
import Derived.WalkSpells
set_option linter.unusedVariables false
set_option linter.unusedSimpArgs false
namespace Go.Bl
open Go.RowKit
end Go.Bl
namespace Go.Bl
open Go.RowKit
end Go.Bl
namespace Go.Proofs.YtnafknkchbfpaaaGreatDoor
open Go.RowKit Go.Bl
theorem qh {P : Program} {w : World} {ops : Array Oper} {rest : List Oper} {o : Oper} {a : Go.Act} {Q : Exit -> Go.Act -> World -> Prop} {t te : TypeId} {cur : Array Value} {g off : Nat} (p x : Operand) (hgd : o.guard = none)
  (ho : o.op = .store t p x) (u : Value) (hp : a.eval p = .pointer (some ⟨g, off, none⟩)) (hx : a.eval x = u) (hb : At w g (.cells cur te (0, 0))) (hsz : off < cur.size) (hi : (P.info? t).map (·.size) = some 1) (h1 : u.oneCell' = true)
  (h : ∀ w', Fr [g] w w' -> At w' g (.cells (cur.setIfInBounds off u) te (0, 0)) -> w'.heap.size = w.heap.size -> wpList P ops Q rest (a.put o.dst undef) w') : wpList P ops Q (o :: rest) a w := by
 refine wpList_plain hgd fun K hK => ?_
 have hst := run_storeCells_at P g off te [u] 0 cur w hb Y69 (by intro v hv; simp at hv; subst hv; exact h1)
 simp only [Nat.add_zero] at hst
 have hcells : u.cells = #[u] := by
  cases u <;> simp_all [Value.cells, Value.oneCell']
 cases hq : P.info? t with
 | none => simp [hq] at hi
 | some i =>
  have hs : i.size = 1 := by simpa [hq] using hi
  unfold Oper.wp execOp
  simp only [ho, hp, hx, Instr.storeAt, Instr.sureAddr, Sem.run_bind, Sem.run_pure, Result.andThen_ok]
  have hset : (cur.toList.take off ++ [u] ++ cur.toList.drop (off + [u].length)).toArray = cur.setIfInBounds off u := by
   apply Array.ext'
   rw [Array.toList_setIfInBounds]
   simp only [List.toList_toArray, List.length_singleton]
   rw [List.set_eq_take_append_cons_drop, if_pos (by simpa using hsz)]
   simp
  have : (storeVar t ⟨g, off, none⟩ u).run P w = .ok () (w.setRow g (cur.setIfInBounds off u)) := by
   rw [<- hset]
   cases u <;> simp_all [storeVar, sizeOf, typeInfo, Value.cells, Value.oneCell']
  exact Y39
theorem Ll {w w' : World} {b i : Nat} {v : Value} (h : Fr [] w w') (hc : w.cell? ⟨b, i, none⟩ = some v) : w'.cell? ⟨b, i, none⟩ = some v := by
 unfold World.cell? at hc ⊢
 rcases Nat.lt_or_ge b w.heap.size with hb | hb
 ·rw [h.block b hb qc]; exact hc
 ·rw [Array.getElem?_eq_none hb] at hc; simp at hc
theorem vO (a : Nat) (ha : a < 18446744073709551616) : (BitVec.ofInt 64 (a : Int)).toNat = a := by
 exact Y55
theorem VT (a b : Nat) (ha : a < 65536) (hb : b < 65536) : bits .xor .i64 (a : Int) (b : Int) = ((a ^^^ b : Nat) : Int) := by
 have hx : a ^^^ b < 2 ^ 16 := Nat.xor_lt_two_pow Y66 Y66
 show IntKind.i64.wrap ((BitVec.ofInt 64 (a : Int) ^^^ BitVec.ofInt 64 (b : Int)).toNat : Int) = _
 rw [BitVec.toNat_xor, vO a Y66, vO b Y66, IntKind.wrap_i64]
 omega
theorem qay (a b : UInt8) : bits .xor .u8 (a.toNat : Int) (b.toNat : Int) = ((a ^^^ b).toNat : Int) := by
 rw [u8_xor_nat _ _ a.toNat_lt b.toNat_lt, UInt8.toNat_xor]
theorem qs {w w' : World} {S : List Nat} {b i : Nat} {v : Value} (h : Fr S w w') (hb : b ∉ S) (hc : w.cell? ⟨b, i, none⟩ = some v) : w'.cell? ⟨b, i, none⟩ = some v := by
 unfold World.cell? at hc ⊢
 rcases Nat.lt_or_ge b w.heap.size with hl | hl
 ·rw [h.block b hl hb]; exact hc
 ·rw [Array.getElem?_eq_none hl] at hc; simp at hc
def qr (k : Nat) : Code -> Option Code
 | .region i ops d => if i = k then some (.region i ops d) else none
 | .loop c => qr k c
 | .seq a b => match qr k a with
  | some c => some c
  | none => qr k b
 | .block _ c => qr k c
 | .scope c => qr k c
 | .cond _ a b => match qr k a with
  | some c => some c
  | none => qr k b
 | _ => none
end Go.Proofs.YtnafknkchbfpaaaGreatDoor
