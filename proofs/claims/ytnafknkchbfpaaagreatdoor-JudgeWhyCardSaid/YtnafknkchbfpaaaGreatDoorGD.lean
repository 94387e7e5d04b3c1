import Derived.Test.YtnafknkchbfpaaaGreatDoorRows
import Derived.Test.YtnafknkchbfpaaaGreatDoorGB
import Derived.ProofKit
import Derived.WalkLawsBesides
import Derived.WalkSpells
set_option linter.unusedVariables false
set_option linter.unusedSimpArgs false
namespace Go.Bl
open Go.RowKit
def dbl (a : UInt8) : UInt8 := UInt8.ofNat (if 256 <= 2 * a.toNat then (2 * a.toNat) ^^^ 285 else 2 * a.toNat)
def gls : Nat -> UInt8 -> List UInt8
 | 0, _ => []
 | n + 1, x => x :: gls n (dbl x)
def gl : List UInt8 := gls 255 1
end Go.Bl
namespace Go.Bl
open Go.RowKit
end Go.Bl
namespace Go.Proofs.YtnafknkchbfpaaaGreatDoor
open Go.RowKit Go.Bl
theorem qM {P : Program} {w : World} {ops : Array Oper} {rest : List Oper} {o : Oper} {a : Go.Act} {Q : Exit -> Go.Act -> World -> Prop} {t te : TypeId} {cur : Array Value} {g off : Nat} (p x : Operand) (hgd : o.guard = none)
  (ho : o.op = .store t p x) (u : Value) (hp : a.eval p = .pointer (some ⟨g, off, none⟩)) (hx : a.eval x = u) (hb : At w g (.cells cur te (0, 0))) (hsz : off < cur.size) (hi : (P.info? t).map (·.size) = some 1) (h1 : u.oneCell' = true)
  (h : ∀ w', Fr [g] w w' -> At w' g (.cells (cur.setIfInBounds off u) te (0, 0)) -> w'.heap.size = w.heap.size -> wpList P ops Q rest (a.put o.dst undef) w') : wpList P ops Q (o :: rest) a w := by
 refine wpList_plain hgd fun K hK => ?_
 have hst := run_storeCells_at P g off te [u] 0 cur w hb Y46 (by intro v hv; simp at hv; subst hv; exact h1)
 simp only [Nat.add_zero] at hst
 have hcells : u.cells = #[u] := by
  cases u <;> simp_all [Value.cells, Value.oneCell']
 cases hq : P.info? t with
 | none => simp [hq] at hi
 | some i =>
  have hs : i.size = 1 := by simpa [hq] using hi
  unfold Oper.wp execOp
  simp only [ho, hp, hx, Instr.storeAt, Instr.sureAddr, Sem.run_bind, Sem.run_pure, Result.andThen_ok]
  have hset : (cur.toList.take off ++ [u] ++ cur.toList.drop (off + [u].length)).toArray = cur.setIfInBounds off u := by
   apply Array.ext'
   rw [Array.toList_setIfInBounds]
   simp only [List.toList_toArray, List.length_singleton]
   rw [List.set_eq_take_append_cons_drop, if_pos (by simpa using hsz)]
   simp
  have : (storeVar t ⟨g, off, none⟩ u).run P w = .ok () (w.setRow g (cur.setIfInBounds off u)) := by
   rw [<- hset]
   cases u <;> simp_all [storeVar, sizeOf, typeInfo, Value.cells, Value.oneCell']
  exact Y23
theorem qaR {w w' : World} {b i : Nat} {v : Value} (h : Fr [] w w') (hc : w.cell? ⟨b, i, none⟩ = some v) : w'.cell? ⟨b, i, none⟩ = some v := by
 unfold World.cell? at hc ⊢
 rcases Nat.lt_or_ge b w.heap.size with hb | hb
 ·rw [h.block b hb Y77]; exact hc
 ·rw [Array.getElem?_eq_none hb] at hc; simp at hc
theorem qdb (a b : UInt8) : bits .xor .u8 (a.toNat : Int) (b.toNat : Int) = ((a ^^^ b).toNat : Int) := by
 rw [u8_xor_nat _ _ a.toNat_lt b.toNat_lt, UInt8.toNat_xor]
theorem zS {w w' : World} {S : List Nat} {b i : Nat} {v : Value} (h : Fr S w w') (hb : b ∉ S) (hc : w.cell? ⟨b, i, none⟩ = some v) : w'.cell? ⟨b, i, none⟩ = some v := by
 unfold World.cell? at hc ⊢
 rcases Nat.lt_or_ge b w.heap.size with hl | hl
 ·rw [h.block b hl hb]; exact hc
 ·rw [Array.getElem?_eq_none hl] at hc; simp at hc
def qN (k : Nat) : Code -> Option Code
 | .region i ops d => if i = k then some (.region i ops d) else none
 | .loop c => qN k c
 | .seq a b => match qN k a with
  | some c => some c
  | none => qN k b
 | .block _ c => qN k c
 | .scope c => qN k c
 | .cond _ a b => match qN k a with
  | some c => some c
  | none => qN k b
 | _ => none
end Go.Proofs.YtnafknkchbfpaaaGreatDoor
