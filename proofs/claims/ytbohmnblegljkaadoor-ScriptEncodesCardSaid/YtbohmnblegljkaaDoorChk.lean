/-
  params.Check: what it answers.
-/
import Derived.Test.YtbohmnblegljkaaDoorStp
import Derived.Test.YtbohmnblegljkaaDoorWr
import Derived.Test.YtbohmnblegljkaaDoorGA
import Derived.BigQuiet
namespace Go.Proofs.YtbohmnblegljkaaDoor
open Go.RowKit Go.Bl
set_option linter.unusedVariables false

/-- parameters -/
structure Par where
  size : Int
  sent : Int
  spots : Int
  per : Int
  pat : Int
  ret : Int
def Par.cells (p : Par) : Array Value := #[iv p.size, iv p.sent, iv p.spots, iv p.per, iv p.pat, iv p.ret]
def Par.val (p : Par) : Value := .agg p.cells

def boundsV (E : Nat → Addr) (p : Par) (m : Int) : Array Value := #[
  .string ⟨#[115, 105, 122, 101]⟩, .int .i64 p.size, .int .i64 0, .int .i64 2000, .iface 149 (.pointer (some (E 8))),
  .string ⟨#[115, 101, 110, 116, 105, 110, 101, 108, 115]⟩, .int .i64 p.sent, .int .i64 0, .int .i64 8, .iface 149 (.pointer (some (E 18))),
  .string ⟨#[115, 112, 111, 116, 115]⟩, .int .i64 p.spots, .int .i64 1, .int .i64 m, .iface 149 (.pointer (some (E 1))),
  .string ⟨#[112, 101, 114, 105, 111, 100]⟩, .int .i64 p.per, .int .i64 1, .int .i64 10000, .iface 149 (.pointer (some (E 1))),
  .string ⟨#[112, 97, 116, 105, 101, 110, 99, 101]⟩, .int .i64 p.pat, .int .i64 1, .int .i64 p.per, .iface 149 (.pointer (some (E 1))),
  .string ⟨#[114, 101, 116, 114, 105, 101, 115]⟩, .int .i64 p.ret, .int .i64 0, .int .i64 5, .iface 149 (.pointer (some (E 1)))]

theorem Tryd.laid30 {w : World} {o o' : Obj} : ((w.alloc o).alloc o').heap[w.heap.size + 1]? = some o' := by
  have := heap_alloc_new (w.alloc o) o'
  rwa [show (w.alloc o).heap.size = w.heap.size + 1 from Array.size_push _] at this
set_option maxHeartbeats 4000000 in
set_option maxRecDepth 10000 in
theorem bounds_any (L : List Nat) (E : Nat → Addr) (B : Nat) (w : World) (hE : Errs L E B w) (h1 : 1 ∈ L) (h8 : 8 ∈ L) (h18 : 18 ∈ L) (p : Par) (blocks : Int) :
    Calls Tryd.prog 46 #[.agg #[.int .i64 p.size, .int .i64 p.sent, .int .i64 p.spots, .int .i64 p.per, .int .i64 p.pat, .int .i64 p.ret], .int .i64 blocks] w fun e w' => e = .returned (.agg (boundsV E p (min 12 blocks))) ∧ Fr [] w w' := by
  have c1 := hE.cell 1 h1
  have c8 := hE.cell 8 h8
  have c18 := hE.cell 18 h18
  have s1 : gOf 1 < w.heap.size := by obtain ⟨_, _, h⟩ := hE.glob 1 h1; exact lt_of_heap h
  have s8 : gOf 8 < w.heap.size := by obtain ⟨_, _, h⟩ := hE.glob 8 h8; exact lt_of_heap h
  have s18 : gOf 18 < w.heap.size := by obtain ⟨_, _, h⟩ := hE.glob 18 h18; exact lt_of_heap h
  simp only [gOf, List.getD_eq_getElem?_getD, List.getElem?_cons_zero, List.getElem?_cons_succ, Option.getD_some] at c1 c8 c18 s1 s8 s18
  clear hE h1 h8 h18
  have hm : (12 ≤ blocks ∧ min 12 blocks = 12) ∨ (blocks < 12 ∧ min 12 blocks = blocks) := by omega
  rcases hm with ⟨h, e⟩ | ⟨h, e⟩
  · rw [e]
    clear e
    go_enter Tryd.func46, Tryd.ntmps46
    go_wp2_with (refine wpl_store_new (w := w.alloc _) (.tmp 4) (.tmp 33) rfl rfl (boundsV E p 12) (by first | rfl | simp [go_sem]) (by kernel_rfl) (by kernel_rfl) (by kernel_rfl) (by kernel_rfl) ?_)
    exact bodyPost_ret (v := .agg (boundsV E p 12)) (results_cell_row rfl _ _ (w.heap.size + 1) 90 _ (0, 0) _ rfl Tryd.laid30 Tryd.underlying90 rfl (by kernel_rfl)) rfl ⟨rfl, (Fr.alloc _ _).trans (Fr.alloc _ _)⟩
  · rw [e]
    clear e
    go_enter Tryd.func46, Tryd.ntmps46
    go_wp2_with (refine wpl_store_new (w := w.alloc _) (.tmp 4) (.tmp 33) rfl rfl (boundsV E p blocks) (by first | rfl | simp [go_sem]) (by kernel_rfl) (by kernel_rfl) (by kernel_rfl) (by kernel_rfl) ?_)
    exact bodyPost_ret (v := .agg (boundsV E p blocks)) (results_cell_row rfl _ _ (w.heap.size + 1) 90 _ (0, 0) _ rfl Tryd.laid30 Tryd.underlying90 rfl (by kernel_rfl)) rfl ⟨rfl, (Fr.alloc _ _).trans (Fr.alloc _ _)⟩

/-- how many blocks a file of a size has, of a right size -/
def blk (size : Int) : Int := sumT (shapeOf (nblk size))
/-- is a field right? -/
def okAt (p : Par) : Nat → Prop
  | 0 => 0 ≤ p.size ∧ p.size ≤ 2000
  | 1 => 0 ≤ p.sent ∧ p.sent ≤ 8
  | 2 => 1 ≤ p.spots ∧ p.spots ≤ min 12 (blk p.size + p.sent)
  | 3 => 1 ≤ p.per ∧ p.per ≤ 10000
  | 4 => 1 ≤ p.pat ∧ p.pat ≤ p.per
  | _ => 0 ≤ p.ret ∧ p.ret ≤ 5
instance (p : Par) : (j : Nat) → Decidable (okAt p j)
  | 0 => inferInstanceAs (Decidable (_ ∧ _))
  | 1 => inferInstanceAs (Decidable (_ ∧ _))
  | 2 => inferInstanceAs (Decidable (_ ∧ _))
  | 3 => inferInstanceAs (Decidable (_ ∧ _))
  | 4 => inferInstanceAs (Decidable (_ ∧ _))
  | _ + 5 => inferInstanceAs (Decidable (_ ∧ _))
/-- the number of params.Check's error -/
def chk (p : Par) : Nat := if ¬ okAt p 0 then 8 else if ¬ okAt p 1 then 18 else if ¬ okAt p 2 ∨ ¬ okAt p 3 ∨ ¬ okAt p 4 ∨ ¬ okAt p 5 then 1 else 0
def ePar (j : Nat) : Nat := if j = 0 then 8 else if j = 1 then 18 else 1
theorem chk_bad (p : Par) (j : Nat) (hj : j < 6) (h : ∀ i, i < j → okAt p i) (hb : ¬ okAt p j) : chk p = ePar j := by
  have : j = 0 ∨ j = 1 ∨ j = 2 ∨ j = 3 ∨ j = 4 ∨ j = 5 := by omega
  rcases this with rfl | rfl | rfl | rfl | rfl | rfl
  · simp [chk, ePar, hb]
  · simp [chk, ePar, hb, h 0]
  · simp [chk, ePar, hb, h 0, h 1]
  · simp [chk, ePar, hb, h 0, h 1]
  · simp [chk, ePar, hb, h 0, h 1]
  · simp [chk, ePar, hb, h 0, h 1]
theorem chk_ok (p : Par) (h : ∀ i, i < 6 → okAt p i) : chk p = 0 := by
  simp [chk, h 0, h 1, h 2, h 3, h 4, h 5]

theorem total_bad (L : List Nat) (E : Nat → Addr) (B : Nat) (w : World) (hE : Errs L E B w) (h8 : 8 ∈ L) (size : Int) (h : size < 0 ∨ 2000 < size) :
    Calls Tryd.prog 38 #[.int .i64 size] w fun e w' => e = .returned (.tuple #[.int .i64 0, errv E 8]) ∧ Fr [] w w' := by
  have hs := Lib.hid (shape_bad L E B w hE h8 size h)
  clear hE
  go_enter Tryd.func38, Tryd.ntmps38
  go_wp2_with fail
  refine hs.out.mono ?_; rintro e w1 ⟨rfl, hf⟩
  go_wp2
  go_loop [6, 16] (fun n i => n = .int .i64 0 ∧ i = .int .i64 0) (fun _ _ => 0)
  case atStart => exact ⟨rfl, rfl⟩
  case round =>
    obtain ⟨rfl, rfl⟩ := hrel
    go_wp2
    go_ret2
    exact ⟨rfl, hf⟩
theorem total_any (L : List Nat) (E : Nat → Addr) (B : Nat) (w : World) (hE : Errs L E B w) (h8 : 8 ∈ L) (size : Int) :
    Calls Tryd.prog 38 #[.int .i64 size] w fun e w' => ∃ n ev, e = .returned (.tuple #[.int .i64 n, ev]) ∧ 0 ≤ n ∧ n ≤ 510 ∧ (okAt ⟨size, 0, 0, 0, 0, 0⟩ 0 → n = blk size) ∧ Fr [] w w' := by
  by_cases h : size < 0 ∨ 2000 < size
  · refine (total_bad L E B w hE h8 size h).mono ?_
    rintro e w' ⟨rfl, hf⟩
    exact ⟨0, _, rfl, by omega, by omega, fun h' => by simp [okAt] at h'; omega, hf⟩
  · refine (total_ok w size (by omega) (by omega)).mono ?_
    rintro e w' ⟨rfl, hf⟩
    have hn := nblk_le size (by omega)
    have hs := sumT_bd _ (sh_shapeOf _ hn.1 hn.2) (shapeOf (nblk size)).length (Nat.le_refl _)
    rw [List.take_length] at hs
    exact ⟨_, _, rfl, hs.1, hs.2, fun _ => rfl, hf⟩
end Go.Proofs.YtbohmnblegljkaaDoor
