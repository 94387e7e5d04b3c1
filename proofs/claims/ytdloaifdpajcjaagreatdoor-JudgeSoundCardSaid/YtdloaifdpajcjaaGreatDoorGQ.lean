import Derived.Test.YtdloaifdpajcjaaGreatDoorGM
import Derived.Test.YtdloaifdpajcjaaGreatDoorGP
set_option linter.unusedVariables false
set_option linter.unusedSimpArgs false
namespace Go.Proofs.YtdloaifdpajcjaaGreatDoor
open Go.RowKit Go.Bl
def qhM (v : Value) : Nat := match v with
 | .slice _ n _ => n
 | _ => 0
theorem xN (n : Nat) : jg n <= 63 := by unfold jg; omega
theorem qcY (n r j : Nat) (hr : r = n % 64) (hj : j < jg n) : ¬ (r + 1 + j) % 64 = 56 := by unfold jg at hj; omega
theorem qcs (n r : Nat) (hr : r = n % 64) : (r + 1 + jg n) % 64 = 56 := by unfold jg; omega
theorem qeN (A : Nat -> Prop) (w : World) (c : UInt8) (hA : ¬ A w.heap.size) : Bs A (w.alloc (.cells #[.int .u8 (c.toNat : Int)] 5)) (.slice (some ⟨w.heap.size, 0, none⟩) 1 1) [c] :=
 ⟨_, 1, rfl, by simp, by simp [maxLen], Row.of_block (A := A) (vW (w := w) (o := .cells #[.int .u8 (c.toNat : Int)] 5) rfl) hA⟩
theorem Uv (n : Nat) : (xI n).length = 8 := rfl
theorem qfI (n j : Nat) (hj : j < 8) : (xI n).getD j 0 = UInt8.ofNat (n * 8 / 2 ^ (56 - 8 * j) % 256) := by
 match j, hj with
 | 0, _ => rfl
 | 1, _ => rfl
 | 2, _ => rfl
 | 3, _ => rfl
 | 4, _ => rfl
 | 5, _ => rfl
 | 6, _ => rfl
 | 7, _ => rfl
theorem YG (n j : Nat) (hj : j < 8) : ((n * 8 / 2 ^ (56 - 8 * j) : Nat) : Int) % 256 = (((xI n).getD j 0).toNat : Int) := by
 rw [qfI n j hj, UInt8.toNat_ofNat']
 omega
theorem qbg (n j : Nat) (hj : j < 8) : (xI n).take (j + 1) = (xI n).take j ++ [(xI n).getD j 0] := by
 rw [List.take_succ_eq_append_getElem (by rw [Uv]; exact hj), List.getD_eq_getElem?_getD, List.getElem?_eq_getElem (by rw [Uv]; exact hj)]
 rfl
theorem L1 (ws : List UInt8) : (ws.map u8v).toArray.all (·.oneCell') = true := by
 rw [List.all_toArray, List.all_map]
 exact List.all_eq_true.2 fun _ _ => rfl
theorem fr_below {w w' : World} (h : Below w.heap.size w w') : Fr [] w w' := ⟨h.os, h.tape, h.output, h.size, fun k hk _ => h.block k hk⟩
def xP (X : List UInt8) (x : Nat) : List UInt8 := (X.drop (64 * x)).take 64
def Lj {M : Nat} (X : List UInt8) (s0 : St8) (pre : List {x : Nat // x < M}) : St8 := pre.foldl (fun s x => ji s (xP X x.1)) s0
theorem VT {M : Nat} (X : List UInt8) (s0 : St8) (pre : List {x : Nat // x < M}) (x : {x : Nat // x < M}) : Lj X s0 (pre ++ [x]) = ji (Lj X s0 pre) (xP X x.1) := by simp [Lj, List.foldl_append]
theorem qaw {M : Nat} (X : List UInt8) (s0 : St8) : ∀ k, k <= M -> Lj X s0 (upF M k) = jJ k s0 X
 | 0, _ => rfl
 | k + 1, h => by
  rw [VD M k Y54, VT, qaw X s0 k Y54, xR k 1]
  rfl
theorem qas (X : List UInt8) (x M : Nat) (hl : X.length = 64 * M) (hx : x < M) : (xP X x).length = 64 := by
 rw [xP, List.length_take, List.length_drop]
 omega
def dW (S : St8) (n : Nat) : Array Value := (((x7 S).take n ++ List.replicate (32 - n) 0).map u8v).toArray
theorem qgX (S : St8) (n : Nat) (h : n < 32) : (dW S n).setIfInBounds n (.int .u8 (((x7 S).getD n 0).toNat : Int)) = dW S (n + 1) := by
 unfold dW
 rw [List.setIfInBounds_toArray]
 congr 1
 rw [show (Value.int .u8 (((x7 S).getD n 0).toNat : Int)) = u8v ((x7 S).getD n 0) from rfl, <- List.map_set]
 congr 1
 rw [List.set_append_right _ _ Y84, List.length_take, xi, Nat.min_eq_left Y54, Nat.sub_self, show 32 - n = (32 - (n + 1)) + 1 by omega, List.replicate_succ, List.set_cons_zero, List.take_succ_eq_append_getElem (by rw [xi]; exact h), List.append_assoc, List.getD_eq_getElem?_getD, List.getElem?_eq_getElem (by rw [xi]; exact h)]
 rfl
theorem qfx (S : St8) (n : Nat) (h : n <= 32) : (dW S n).size = 32 := by
 unfold dW
 rw [List.size_toArray, List.length_map, List.length_append, List.length_take, xi, List.length_replicate]
 omega
theorem qgP (S : St8) : dW S 32 = ((x7 S).map u8v).toArray := by
 unfold dW
 rw [List.take_of_length_le (by rw [xi]; omega), Nat.sub_self, List.replicate_zero, List.append_nil]
theorem qiq (S : St8) (k j : Nat) (hk : k < 8) (hj : j < 4) : (x7 S).getD (4 * k + j) 0 = (qg6 (S.l.getD k 0)).getD j 0 := by
 match k, hk, j, hj with
 | 0, _, 0, _ => rfl
 | 0, _, 1, _ => rfl
 | 0, _, 2, _ => rfl
 | 0, _, 3, _ => rfl
 | 1, _, 0, _ => rfl
 | 1, _, 1, _ => rfl
 | 1, _, 2, _ => rfl
 | 1, _, 3, _ => rfl
 | 2, _, 0, _ => rfl
 | 2, _, 1, _ => rfl
 | 2, _, 2, _ => rfl
 | 2, _, 3, _ => rfl
 | 3, _, 0, _ => rfl
 | 3, _, 1, _ => rfl
 | 3, _, 2, _ => rfl
 | 3, _, 3, _ => rfl
 | 4, _, 0, _ => rfl
 | 4, _, 1, _ => rfl
 | 4, _, 2, _ => rfl
 | 4, _, 3, _ => rfl
 | 5, _, 0, _ => rfl
 | 5, _, 1, _ => rfl
 | 5, _, 2, _ => rfl
 | 5, _, 3, _ => rfl
 | 6, _, 0, _ => rfl
 | 6, _, 1, _ => rfl
 | 6, _, 2, _ => rfl
 | 6, _, 3, _ => rfl
 | 7, _, 0, _ => rfl
 | 7, _, 1, _ => rfl
 | 7, _, 2, _ => rfl
 | 7, _, 3, _ => rfl
theorem qfe (x : UInt32) (j : Nat) (hj : j < 4) : ((((qg6 x).getD j 0).toNat : Nat) : Int) = IntKind.u8.wrap (wN x / 2 ^ (24 - 8 * j)) := by
 match j, hj with
 | 0, _ => rw [YL x 24 Y86, yL]; rfl
 | 1, _ => rw [YL x 16 Y86, yL]; rfl
 | 2, _ => rw [YL x 8 Y86, yL]; rfl
 | 3, _ => rw [show 24 - 8 * 3 = 0 from rfl, Int.pow_zero, Int.ediv_one, yL]; rfl
theorem qdm (S : St8) (k j : Nat) (hk : k < 8) (hj : j < 4) : IntKind.u8.wrap (wN (S.l.getD k 0) / 2 ^ (24 - 8 * j)) = (((x7 S).getD (4 * k + j) 0).toNat : Int) := by rw [qiq S k j hk hj, qfe _ j hj]
end Go.Proofs.YtdloaifdpajcjaaGreatDoor
