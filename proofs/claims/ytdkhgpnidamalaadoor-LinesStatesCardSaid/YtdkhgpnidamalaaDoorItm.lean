/-
  Layer 35: what the line of an item is. (printed by genlst.py)
-/
import Derived.Test.YtdkhgpnidamalaaDoorHB
import Derived.Test.YtdkhgpnidamalaaDoorLtr
import Derived.Test.YtdkhgpnidamalaaDoorBld
namespace Go.Proofs.YtdkhgpnidamalaaDoor
open Go.RowKit Go.Bl
set_option linter.unusedVariables false
structure ItP where
  num : Int
  name : List UInt8
  sz : Int
  se : Int
  sp : Int
  pe : Int
  pa : Int
  re : Int
  root : List UInt8
  file : List UInt8
  tick : Int
  kept : Bool
  used : Int
  rnds : Int
def itH (x : ItP) : List Value := [.int .i64 x.num, .string (bA x.name)]
def itR (x : ItP) : List Value := [.int .i64 x.sz, .int .i64 x.se, .int .i64 x.sp, .int .i64 x.pe, .int .i64 x.pa, .int .i64 x.re]
def itT (x : ItP) : List Value := [.int .i64 x.tick, .bool x.kept, .int .i64 x.used, .int .i64 x.rnds]
def itC (x : ItP) : List Value := itH x ++ (itR x ++ (digC x.root ++ (digC x.file ++ itT x)))
structure ItP.wf (x : ItP) : Prop where
  num : inI x.num
  sz : inI x.sz
  se : inI x.se
  used : inI x.used
  rnds : inI x.rnds
  root : x.root.length = 32
  file : x.file.length = 32
theorem digC_len' {d : List UInt8} (h : d.length = 32) : (digC d).length = 32 := by simp [digC, h]
theorem itC_len {x : ItP} (h : x.wf) : (itC x).length = 76 := by
  simp [itC, itH, itR, itT, digC_len' h.root, digC_len' h.file]
theorem itC_one (x : ItP) : ∀ u ∈ itC x, u.oneCell' = true := by
  intro u hu
  simp only [itC, itH, itR, itT, List.mem_append, List.mem_cons, List.not_mem_nil, or_false] at hu
  rcases hu with (rfl | rfl) | (rfl | rfl | rfl | rfl | rfl | rfl) | hu | hu | rfl | rfl | rfl | rfl
  all_goals first | rfl | exact u8v_one _ _ hu
theorem itC_all (x : ItP) : (itC x).toArray.all (·.oneCell') = true := by
  rw [List.all_toArray]
  exact List.all_eq_true.2 (itC_one x)
theorem itC_0 (x : ItP) : (itC x).toArray[0]? = some (.int .i64 x.num) := by rw [List.getElem?_toArray]; rfl
theorem itC_1 (x : ItP) : (itC x).toArray[1]? = some (.string (bA x.name)) := by rw [List.getElem?_toArray]; rfl
theorem itC_2 (x : ItP) : (itC x).toArray[2]? = some (.int .i64 x.sz) := by rw [List.getElem?_toArray]; rfl
theorem itC_3 (x : ItP) : (itC x).toArray[3]? = some (.int .i64 x.se) := by rw [List.getElem?_toArray]; rfl
theorem itC_t {x : ItP} (h : x.wf) (k : Nat) : (itC x).toArray[72 + k]? = (itT x)[k]? := by
  rw [List.getElem?_toArray]
  have e : itC x = (itH x ++ (itR x ++ (digC x.root ++ digC x.file))) ++ itT x := by simp [itC]
  have hl : (itH x ++ (itR x ++ (digC x.root ++ digC x.file))).length = 72 := by simp [itH, itR, digC_len' h.root, digC_len' h.file]
  rw [e, List.getElem?_append_right (by omega), hl, Nat.add_sub_cancel_left]
theorem itC_72 {x : ItP} (h : x.wf) : (itC x).toArray[72]? = some (.int .i64 x.tick) := itC_t h 0
theorem itC_73 {x : ItP} (h : x.wf) : (itC x).toArray[73]? = some (.bool x.kept) := itC_t h 1
theorem itC_74 {x : ItP} (h : x.wf) : (itC x).toArray[74]? = some (.int .i64 x.used) := itC_t h 2
theorem itC_75 {x : ItP} (h : x.wf) : (itC x).toArray[75]? = some (.int .i64 x.rnds) := itC_t h 3
def keptL (k : Bool) : List UInt8 := if k then [107, 101, 112, 116] else [119, 97, 105, 116, 105, 110, 103]
theorem keptL_len (k : Bool) : (keptL k).length ≤ 10 := by cases k <;> decide
def itL (x : ItP) : List LP := [.txt [105, 116, 101, 109], .num x.num, .txt x.name, .txt [115, 105, 122, 101], .num x.sz, .txt (keptL x.kept), .txt [117, 115, 101, 100], .num x.used, .txt [111, 102], .num x.se, .txt [114, 111, 117, 110, 100, 115], .num x.rnds]
def itemL (x : ItP) : List UInt8 := lineL (itL x)
theorem itL_ok {x : ItP} (h : x.wf) (hn : x.name.length ≤ 100) : ∀ p ∈ itL x, lpOk p := by
  intro p hp
  have hk := keptL_len x.kept
  simp only [itL, List.mem_cons, List.not_mem_nil, or_false] at hp
  rcases hp with rfl | rfl | rfl | rfl | rfl | rfl | rfl | rfl | rfl | rfl | rfl | rfl
  · decide
  · exact h.num
  · simp only [lpOk]; omega
  · decide
  · exact h.sz
  · simp only [lpOk]; omega
  · decide
  · exact h.used
  · decide
  · exact h.se
  · decide
  · exact h.rnds
set_option maxRecDepth 100000 in
set_option maxHeartbeats 8000000 in
theorem either_any (k : Bool) (x y : ByteArray) (w : World) : Calls Tryd.prog 17 #[.bool k, .string x, .string y] w fun e w' => e = .returned (.string (if k then x else y)) ∧ w = w' := by
  cases k
  · go_enter Tryd.func17, Tryd.ntmps17
    go_wp2
    go_ret
    exact ⟨rfl, rfl⟩
  · go_enter Tryd.func17, Tryd.ntmps17
    go_wp2
    go_ret
    exact ⟨rfl, rfl⟩
theorem keptA (k : Bool) : (if k = true then (⟨#[107, 101, 112, 116]⟩ : ByteArray) else ⟨#[119, 97, 105, 116, 105, 110, 103]⟩) = bA (keptL k) := by cases k <;> rfl
end Go.Proofs.YtdkhgpnidamalaaDoor
