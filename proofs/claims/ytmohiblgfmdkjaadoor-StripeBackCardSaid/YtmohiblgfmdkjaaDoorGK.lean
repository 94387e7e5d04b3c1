/-
  Layer 2: the drawn region of the document's Mul of polynomials. (printed by gendmu.py)
  Layer 2: the document's Trim and Mul of polynomials.
-/
import Derived.Test.YtmohiblgfmdkjaaDoorGB
import Derived.Test.YtmohiblgfmdkjaaDoorHG
import Derived.Test.YtmohiblgfmdkjaaDoorJM
import Derived.Test.YtmohiblgfmdkjaaDoorGF
namespace Go.Proofs.YtmohiblgfmdkjaaDoor
open Go.RowKit Go.Bl
set_option linter.unusedVariables false

set_option maxRecDepth 100000 in
theorem frame55 (a : Go.Act) (hs : a.tmps.size = 55) (hd : a.defers = []) : a = ⟨(slot a 0 :: slot a 1 :: slot a 2 :: slot a 3 :: slot a 4 :: slot a 5 :: slot a 6 :: slot a 7 :: slot a 8 :: slot a 9 :: slot a 10 :: slot a 11 :: slot a 12 :: slot a 13 :: slot a 14 :: slot a 15 :: slot a 16 :: slot a 17 :: slot a 18 :: slot a 19 :: slot a 20 :: slot a 21 :: slot a 22 :: slot a 23 :: slot a 24 :: slot a 25 :: slot a 26 :: slot a 27 :: slot a 28 :: slot a 29 :: slot a 30 :: slot a 31 :: slot a 32 :: slot a 33 :: slot a 34 :: slot a 35 :: slot a 36 :: slot a 37 :: slot a 38 :: slot a 39 :: slot a 40 :: slot a 41 :: slot a 42 :: slot a 43 :: slot a 44 :: slot a 45 :: slot a 46 :: slot a 47 :: slot a 48 :: slot a 49 :: slot a 50 :: slot a 51 :: slot a 52 :: slot a 53 :: slot a 54 :: []).toArray, []⟩ := frameX a 55 hs hd

end Go.Proofs.YtmohiblgfmdkjaaDoor
namespace Go.Proofs.YtmohiblgfmdkjaaDoor
open Go.RowKit Go.Bl
set_option linter.unusedVariables false
theorem wpl_append_b {P : Program} {w : World} {ops : Array Oper} {rest : List Oper} {o : Oper} {a : Go.Act} {Q : Exit → Go.Act → World → Prop} {t e : TypeId}
    (ht : P.underlying t = some (.slice e)) (hinfo : (P.info? e).map (fun i => (i.zero, i.size, i.bytes)) = some (some (.int .u8 0), 1, 1)) (hgd : o.guard = none) (s x : Operand)
    (ho : o.op = .call { callee := .builtin .append, args := #[s, x], argTypes := #[t, t] })
    {base b : Nat} {v : Value} {c : UInt8} {xs : List UInt8} (hs : a.eval s = v) (hx : a.eval x = .slice (some ⟨b, 0, none⟩) 1 1) (hb : At w b (.cells #[.int .u8 (c.toNat : Int)] e (0, 0))) (hown : OwnB e base w v xs)
    (hlen : xs.length ≤ 140737488355000) (hbase : base ≤ w.heap.size)
    (h : ∀ v' w', OwnB e base w' v' (xs ++ [c]) → w.grownBy w' v.ownBlock → wpList P ops Q rest (a.put o.dst v') w') : wpList P ops Q (o :: rest) a w :=
  wpl_append_bs (A := fun _ => False) ht hinfo hgd s x ho hs hx hown (ys := [c]) ⟨_, 1, rfl, by simp, by simp [maxLen], Row.of_block hb (by simp)⟩ (by simp; omega) hbase h
def dconv (ps qs : List UInt8) (k : Nat) : UInt8 := conv (cf ps) (cf qs) k
theorem dconv_end (ps qs : List UInt8) : ptrim ((List.range (ps.length + qs.length)).map (dconv ps qs)) = pmul ps qs := by
  have h : ptrim ((List.range (ps.length + qs.length)).map (dconv ps qs)) = ptrim (pmul ps qs) := ptrim_ext fun j => by
    rw [cf_map_range, cf_mul]
    split
    · rfl
    · rename_i hj
      have := cf_mul ps qs j
      rw [cf_ge (by have := pmul_len ps qs; omega)] at this
      exact this
  rw [h]
  unfold pmul
  exact ptrim_trim _
def dacc (ps qs : List UInt8) (k m : Nat) : UInt8 := xsum m fun i => gmul (cf ps i) (cf qs (k - i))
end Go.Proofs.YtmohiblgfmdkjaaDoor
