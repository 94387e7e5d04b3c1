import Derived.Test.YtnafknkchbfpaaaGreatDoorGM
import Derived.Test.YtnafknkchbfpaaaGreatDoorGP
set_option linter.unusedVariables false
set_option linter.unusedSimpArgs false
namespace Go.Proofs.YtnafknkchbfpaaaGreatDoor
open Go.RowKit Go.Bl
def qfL (v : Value) : Nat := match v with
 | .slice _ n _ => n
 | _ => 0
theorem vd (n : Nat) : qJ n <= 63 := by unfold qJ; omega
theorem qcg (n r j : Nat) (hr : r = n % 64) (hj : j < qJ n) : ¬ (r + 1 + j) % 64 = 56 := by unfold qJ at hj; omega
theorem qbd (n r : Nat) (hr : r = n % 64) : (r + 1 + qJ n) % 64 = 56 := by unfold qJ; omega
theorem qbt (A : Nat -> Prop) (w : World) (c : UInt8) (hA : ¬ A w.heap.size) : Bs A (w.alloc (.cells #[.int .u8 (c.toNat : Int)] 5)) (.slice (some ⟨w.heap.size, 0, none⟩) 1 1) [c] :=
 ⟨_, 1, rfl, by simp, by simp [maxLen], Row.of_block (A := A) (uh (w := w) (o := .cells #[.int .u8 (c.toNat : Int)] 5) rfl) hA⟩
theorem xX (n : Nat) : (zK n).length = 8 := rfl
theorem qdI (n j : Nat) (hj : j < 8) : (zK n).getD j 0 = UInt8.ofNat (n * 8 / 2 ^ (56 - 8 * j) % 256) := by
 match j, hj with
 | 0, _ => rfl
 | 1, _ => rfl
 | 2, _ => rfl
 | 3, _ => rfl
 | 4, _ => rfl
 | 5, _ => rfl
 | 6, _ => rfl
 | 7, _ => rfl
theorem Uu (n j : Nat) (hj : j < 8) : ((n * 8 / 2 ^ (56 - 8 * j) : Nat) : Int) % 256 = (((zK n).getD j 0).toNat : Int) := by
 rw [qdI n j hj, UInt8.toNat_ofNat']
 omega
theorem VB (n j : Nat) (hj : j < 8) : (zK n).take (j + 1) = (zK n).take j ++ [(zK n).getD j 0] := by
 rw [List.take_succ_eq_append_getElem (by rw [xX]; exact hj), List.getD_eq_getElem?_getD, List.getElem?_eq_getElem (by rw [xX]; exact hj)]
 rfl
theorem Qu (ws : List UInt8) : (ws.map u8v).toArray.all (·.oneCell') = true := by
 rw [List.all_toArray, List.all_map]
 exact List.all_eq_true.2 fun _ _ => rfl
theorem fr_below {w w' : World} (h : Below w.heap.size w w') : Fr [] w w' := ⟨h.os, h.tape, h.output, h.size, fun k hk _ => h.block k hk⟩
def xi (X : List UInt8) (x : Nat) : List UInt8 := (X.drop (64 * x)).take 64
def Kb {M : Nat} (X : List UInt8) (s0 : St8) (pre : List {x : Nat // x < M}) : St8 := pre.foldl (fun s x => qU s (xi X x.1)) s0
theorem Vw {M : Nat} (X : List UInt8) (s0 : St8) (pre : List {x : Nat // x < M}) (x : {x : Nat // x < M}) : Kb X s0 (pre ++ [x]) = qU (Kb X s0 pre) (xi X x.1) := by simp [Kb, List.foldl_append]
theorem Lt {M : Nat} (X : List UInt8) (s0 : St8) : ∀ k, k <= M -> Kb X s0 (upF M k) = qZ k s0 X
 | 0, _ => rfl
 | k + 1, h => by
  rw [Uj M k Y44, Vw, Lt X s0 k Y44, vf k 1]
  rfl
theorem KX (X : List UInt8) (x M : Nat) (hl : X.length = 64 * M) (hx : x < M) : (xi X x).length = 64 := by
 rw [xi, List.length_take, List.length_drop]
 omega
def dW (S : St8) (n : Nat) : Array Value := (((uI S).take n ++ List.replicate (32 - n) 0).map u8v).toArray
theorem qff (S : St8) (n : Nat) (h : n < 32) : (dW S n).setIfInBounds n (.int .u8 (((uI S).getD n 0).toNat : Int)) = dW S (n + 1) := by
 unfold dW
 rw [List.setIfInBounds_toArray]
 congr 1
 rw [show (Value.int .u8 (((uI S).getD n 0).toNat : Int)) = u8v ((uI S).getD n 0) from rfl, <- List.map_set]
 congr 1
 rw [List.set_append_right _ _ (by rw [List.length_take]; omega), List.length_take, xe, Nat.min_eq_left Y44, Nat.sub_self, show 32 - n = (32 - (n + 1)) + 1 by omega, List.replicate_succ, List.set_cons_zero, List.take_succ_eq_append_getElem (by rw [xe]; exact h), List.append_assoc, List.getD_eq_getElem?_getD, List.getElem?_eq_getElem (by rw [xe]; exact h)]
 rfl
theorem qeh (S : St8) (n : Nat) (h : n <= 32) : (dW S n).size = 32 := by
 unfold dW
 rw [List.size_toArray, List.length_map, List.length_append, List.length_take, xe, List.length_replicate]
 omega
theorem qe9 (S : St8) : dW S 32 = ((uI S).map u8v).toArray := by
 unfold dW
 rw [List.take_of_length_le (by rw [xe]; omega), Nat.sub_self, List.replicate_zero, List.append_nil]
theorem qf1 (S : St8) (k j : Nat) (hk : k < 8) (hj : j < 4) : (uI S).getD (4 * k + j) 0 = (qfb (S.l.getD k 0)).getD j 0 := by
 match k, hk, j, hj with
 | 0, _, 0, _ => rfl
 | 0, _, 1, _ => rfl
 | 0, _, 2, _ => rfl
 | 0, _, 3, _ => rfl
 | 1, _, 0, _ => rfl
 | 1, _, 1, _ => rfl
 | 1, _, 2, _ => rfl
 | 1, _, 3, _ => rfl
 | 2, _, 0, _ => rfl
 | 2, _, 1, _ => rfl
 | 2, _, 2, _ => rfl
 | 2, _, 3, _ => rfl
 | 3, _, 0, _ => rfl
 | 3, _, 1, _ => rfl
 | 3, _, 2, _ => rfl
 | 3, _, 3, _ => rfl
 | 4, _, 0, _ => rfl
 | 4, _, 1, _ => rfl
 | 4, _, 2, _ => rfl
 | 4, _, 3, _ => rfl
 | 5, _, 0, _ => rfl
 | 5, _, 1, _ => rfl
 | 5, _, 2, _ => rfl
 | 5, _, 3, _ => rfl
 | 6, _, 0, _ => rfl
 | 6, _, 1, _ => rfl
 | 6, _, 2, _ => rfl
 | 6, _, 3, _ => rfl
 | 7, _, 0, _ => rfl
 | 7, _, 1, _ => rfl
 | 7, _, 2, _ => rfl
 | 7, _, 3, _ => rfl
theorem qd7 (x : UInt32) (j : Nat) (hj : j < 4) : ((((qfb x).getD j 0).toNat : Nat) : Int) = IntKind.u8.wrap (wN x / 2 ^ (24 - 8 * j)) := by
 match j, hj with
 | 0, _ => rw [UM x 24 Y76, yv]; rfl
 | 1, _ => rw [UM x 16 Y76, yv]; rfl
 | 2, _ => rw [UM x 8 Y76, yv]; rfl
 | 3, _ => rw [show 24 - 8 * 3 = 0 from rfl, Int.pow_zero, Int.ediv_one, yv]; rfl
theorem V8 (S : St8) (k j : Nat) (hk : k < 8) (hj : j < 4) : IntKind.u8.wrap (wN (S.l.getD k 0) / 2 ^ (24 - 8 * j)) = (((uI S).getD (4 * k + j) 0).toNat : Int) := by rw [qf1 S k j hk hj, qd7 _ j hj]
end Go.Proofs.YtnafknkchbfpaaaGreatDoor
