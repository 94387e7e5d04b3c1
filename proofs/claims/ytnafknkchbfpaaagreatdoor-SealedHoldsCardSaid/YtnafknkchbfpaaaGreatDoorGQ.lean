import Derived.Test.YtnafknkchbfpaaaGreatDoorGM
import Derived.Test.YtnafknkchbfpaaaGreatDoorGP
namespace Go.Proofs.YtnafknkchbfpaaaGreatDoor
open Go.RowKit Go.Bl
set_option linter.unusedVariables false
def qfC (v : Value) : Nat := match v with
 | .slice _ n _ => n
 | _ => 0
theorem Qk (n : Nat) : jh n <= 63 := by unfold jh; omega
theorem qbQ (n r j : Nat) (hr : r = n % 64) (hj : j < jh n) : ¬ (r + 1 + j) % 64 = 56 := by unfold jh at hj; omega
theorem qap (n r : Nat) (hr : r = n % 64) : (r + 1 + jh n) % 64 = 56 := by unfold jh; omega
theorem qcH (A : Nat -> Prop) (w : World) (c : UInt8) (hA : ¬ A w.heap.size) : Bs A (w.alloc (.cells #[.int .u8 (c.toNat : Int)] 5)) (.slice (some ⟨w.heap.size, 0, none⟩) 1 1) [c] :=
 ⟨_, 1, rfl, by simp, by simp [maxLen], Row.of_block (A := A) (zU (w := w) (o := .cells #[.int .u8 (c.toNat : Int)] 5) rfl) hA⟩
theorem Yc (n : Nat) : (xK n).length = 8 := rfl
theorem qdE (n j : Nat) (hj : j < 8) : (xK n).getD j 0 = UInt8.ofNat (n * 8 / 2 ^ (56 - 8 * j) % 256) := by
 match j, hj with
 | 0, _ => rfl
 | 1, _ => rfl
 | 2, _ => rfl
 | 3, _ => rfl
 | 4, _ => rfl
 | 5, _ => rfl
 | 6, _ => rfl
 | 7, _ => rfl
theorem qbK (n j : Nat) (hj : j < 8) : ((n * 8 / 2 ^ (56 - 8 * j) : Nat) : Int) % 256 = (((xK n).getD j 0).toNat : Int) := by
 rw [qdE n j hj, UInt8.toNat_ofNat']
 omega
theorem qdF (n j : Nat) (hj : j < 8) : (xK n).take (j + 1) = (xK n).take j ++ [(xK n).getD j 0] := by
 rw [List.take_succ_eq_append_getElem (by rw [Yc]; exact hj), List.getD_eq_getElem?_getD, List.getElem?_eq_getElem (by rw [Yc]; exact hj)]
 rfl
theorem zC (ws : List UInt8) : (ws.map u8v).toArray.all (·.oneCell') = true := by
 rw [List.all_toArray, List.all_map]
 exact List.all_eq_true.2 fun _ _ => rfl
theorem fr_below {w w' : World} (h : Below w.heap.size w w') : Fr [] w w' := ⟨h.os, h.tape, h.output, h.size, fun k hk _ => h.block k hk⟩
def xq (X : List UInt8) (x : Nat) : List UInt8 := (X.drop (64 * x)).take 64
def WG {M : Nat} (X : List UInt8) (s0 : St8) (pre : List {x : Nat // x < M}) : St8 := pre.foldl (fun s x => jq s (xq X x.1)) s0
theorem Vi {M : Nat} (X : List UInt8) (s0 : St8) (pre : List {x : Nat // x < M}) (x : {x : Nat // x < M}) : WG X s0 (pre ++ [x]) = jq (WG X s0 pre) (xq X x.1) := by simp [WG, List.foldl_append]
theorem K7 {M : Nat} (X : List UInt8) (s0 : St8) : ∀ k, k <= M -> WG X s0 (upF M k) = jH k s0 X
 | 0, _ => rfl
 | k + 1, h => by
  rw [x7 M k Y62, Vi, K7 X s0 k Y62, xp k 1]
  rfl
theorem W9 (X : List UInt8) (x M : Nat) (hl : X.length = 64 * M) (hx : x < M) : (xq X x).length = 64 := by
 rw [xq, List.length_take, List.length_drop]
 omega
def dW (S : St8) (n : Nat) : Array Value := (((xG S).take n ++ List.replicate (32 - n) 0).map u8v).toArray
theorem qfi (S : St8) (n : Nat) (h : n < 32) : (dW S n).setIfInBounds n (.int .u8 (((xG S).getD n 0).toNat : Int)) = dW S (n + 1) := by
 unfold dW
 rw [List.setIfInBounds_toArray]
 congr 1
 rw [show (Value.int .u8 (((xG S).getD n 0).toNat : Int)) = u8v ((xG S).getD n 0) from rfl, <- List.map_set]
 congr 1
 rw [List.set_append_right _ _ Y78, List.length_take, vQ, Nat.min_eq_left Y62, Nat.sub_self, show 32 - n = (32 - (n + 1)) + 1 by omega, List.replicate_succ, List.set_cons_zero, List.take_succ_eq_append_getElem (by rw [vQ]; exact h), List.append_assoc, List.getD_eq_getElem?_getD, List.getElem?_eq_getElem (by rw [vQ]; exact h)]
 rfl
theorem qej (S : St8) (n : Nat) (h : n <= 32) : (dW S n).size = 32 := by
 unfold dW
 rw [List.size_toArray, List.length_map, List.length_append, List.length_take, vQ, List.length_replicate]
 omega
theorem qeW (S : St8) : dW S 32 = ((xG S).map u8v).toArray := by
 unfold dW
 rw [List.take_of_length_le (by rw [vQ]; omega), Nat.sub_self, List.replicate_zero, List.append_nil]
theorem qge (S : St8) (k j : Nat) (hk : k < 8) (hj : j < 4) : (xG S).getD (4 * k + j) 0 = (qeC (S.l.getD k 0)).getD j 0 := by
 match k, hk, j, hj with
 | 0, _, 0, _ => rfl
 | 0, _, 1, _ => rfl
 | 0, _, 2, _ => rfl
 | 0, _, 3, _ => rfl
 | 1, _, 0, _ => rfl
 | 1, _, 1, _ => rfl
 | 1, _, 2, _ => rfl
 | 1, _, 3, _ => rfl
 | 2, _, 0, _ => rfl
 | 2, _, 1, _ => rfl
 | 2, _, 2, _ => rfl
 | 2, _, 3, _ => rfl
 | 3, _, 0, _ => rfl
 | 3, _, 1, _ => rfl
 | 3, _, 2, _ => rfl
 | 3, _, 3, _ => rfl
 | 4, _, 0, _ => rfl
 | 4, _, 1, _ => rfl
 | 4, _, 2, _ => rfl
 | 4, _, 3, _ => rfl
 | 5, _, 0, _ => rfl
 | 5, _, 1, _ => rfl
 | 5, _, 2, _ => rfl
 | 5, _, 3, _ => rfl
 | 6, _, 0, _ => rfl
 | 6, _, 1, _ => rfl
 | 6, _, 2, _ => rfl
 | 6, _, 3, _ => rfl
 | 7, _, 0, _ => rfl
 | 7, _, 1, _ => rfl
 | 7, _, 2, _ => rfl
 | 7, _, 3, _ => rfl
theorem qeo (x : UInt32) (j : Nat) (hj : j < 4) : ((((qeC x).getD j 0).toNat : Nat) : Int) = IntKind.u8.wrap (wN x / 2 ^ (24 - 8 * j)) := by
 match j, hj with
 | 0, _ => rw [YB x 24 qd, yI]; rfl
 | 1, _ => rw [YB x 16 qd, yI]; rfl
 | 2, _ => rw [YB x 8 qd, yI]; rfl
 | 3, _ => rw [show 24 - 8 * 3 = 0 from rfl, Int.pow_zero, Int.ediv_one, yI]; rfl
theorem qfp (S : St8) (k j : Nat) (hk : k < 8) (hj : j < 4) : IntKind.u8.wrap (wN (S.l.getD k 0) / 2 ^ (24 - 8 * j)) = (((xG S).getD (4 * k + j) 0).toNat : Int) := by rw [qge S k j hk hj, qeo _ j hj]
end Go.Proofs.YtnafknkchbfpaaaGreatDoor
