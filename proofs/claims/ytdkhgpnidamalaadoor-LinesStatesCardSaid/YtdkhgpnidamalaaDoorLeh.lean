/-
  Layer 35: what the line of a letter is. (printed by genlin.py)
-/
import Derived.Test.YtdkhgpnidamalaaDoorHB
namespace Go.Proofs.YtdkhgpnidamalaaDoor
open Go.RowKit Go.Bl
set_option linter.unusedVariables false
def letC (kd id ob : Int) (pv sv : Value) (fr co : Int) (bv : Value) (cd : Int) : Array Value := #[.int .i64 kd, .int .i64 id, .int .i64 ob, pv, sv, .int .i64 fr, .int .i64 co, bv, .int .i64 cd]
def letH (kd id ob : Int) : List LP := [.txt (atL lWords kd), .num id, .txt [111, 98, 106, 101, 99, 116], .num ob]
def letX (kd fr co cd : Int) (ps : List Int) (sn bn : Nat) : List LP := if kd = 1 ∨ kd = 6 then [.num bn] else if kd = 3 then ps.map .num else if kd = 4 then [.num sn] else if kd = 5 then [.num fr, .num co] else if kd = 7 then [.num cd] else []
def letL (kd id ob fr co cd : Int) (ps : List Int) (sn bn : Nat) : List UInt8 := lineL (letH kd id ob ++ letX kd fr co cd ps sn bn)
theorem letH_ok {kd id ob : Int} (hi : inI id) (ho : inI ob) : ∀ p ∈ letH kd id ob, lpOk p := by
  have k := lWords_len kd
  intro p hp
  simp only [letH, List.mem_cons, List.not_mem_nil, or_false] at hp
  rcases hp with rfl | rfl | rfl | rfl
  · simp only [lpOk]; omega
  · exact hi
  · decide
  · exact ho
theorem own_at {u : World} {e : TypeId} {base b k : Nat} {c : Array Value} (h : At u b (.cells c e)) (hb : base ≤ b) (hs : c.size = k) (hk : k ≤ 1000) : OwnV e base u (.slice (some ⟨b, 0, none⟩) k k) c.toList := by
  unfold OwnV
  refine ⟨by simp, .inr ⟨b, k, c, by simp [hs], hb, h, by simp [hs], by unfold maxLen; omega, by simp [hs], by rw [Nat.mul_one]; exact List.take_of_length_le (by simp)⟩⟩
theorem Tryd.infoAny : (Tryd.prog.info? 20).map (fun i => (i.zero, i.size, i.bytes)) = some (some .nilIface, 1, 16) := by kernel_rfl
end Go.Proofs.YtdkhgpnidamalaaDoor
