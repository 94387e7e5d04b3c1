import Derived.Test.YtdloaifdpajcjaaGreatDoorRows
import Derived.Test.YtdloaifdpajcjaaGreatDoorGA
import Derived.ProofKit
import Derived.WalkLawsBesides
import Derived.WalkSpells
import Derived.Stop.Asserts
set_option linter.unusedVariables false
set_option linter.unusedSimpArgs false
namespace Go.Proofs.YtdloaifdpajcjaaGreatDoor
open Go.RowKit Go.Bl Go.Extern.Stop Go.Stop Go.Extern
def gOf (k : Nat) : Nat := [0, 2, 5, 4, 3, 6, 7, 1, 0, 8, 9, 10, 11, 12, 13, 14, 15, 16, 17, 18, 19].getD k 0
structure ya (L : List Nat) (E : Nat -> Addr) (B : Nat) (w : World) : Prop where
 glob : ∀ k ∈ L, ∃ t fz, w.heap[gOf k]? = some (.cells #[.iface 393 (.pointer (some (E k)))] t fz)
 blk : ∀ k ∈ L, ∃ c t, w.heap[(E k).block]? = some (.cells c t (0, 0))
 inj : ∀ j ∈ L, ∀ k ∈ L, j ≠ k -> E j ≠ E k
 ltg : ∀ k ∈ L, gOf k < B
 lte : ∀ k ∈ L, (E k).block < B
theorem ya.keep {L : List Nat} {E : Nat -> Addr} {B : Nat} {w w' : World} {S : List Nat} (h : ya L E B w) (hf : Fr S w w') (hS : ∀ b ∈ S, B <= b) : ya L E B w' where
 glob k hk := by
  obtain ⟨t, fz, hb⟩ := h.glob k hk
  exact ⟨t, fz, hf.keep hb fun hm => by have := h.ltg k hk; have := hS _ hm; omega⟩
 blk k hk := by
  obtain ⟨c, t, hb⟩ := h.blk k hk
  exact ⟨c, t, hf.keep hb fun hm => by have := h.lte k hk; have := hS _ hm; omega⟩
 inj := h.inj
 ltg := h.ltg
 lte := h.lte
theorem ya.keep0 {L : List Nat} {E : Nat -> Addr} {B : Nat} {w w' : World} (h : ya L E B w) (hf : Fr [] w w') : ya L E B w' := h.keep hf Y85
theorem ya.cell {L : List Nat} {E : Nat -> Addr} {B : Nat} {w : World} (h : ya L E B w) (k : Nat) (hk : k ∈ L) : w.cell? ⟨gOf k, 0, none⟩ = some (.iface 393 (.pointer (some (E k)))) := by
 obtain ⟨t, fz, hb⟩ := h.glob k hk
 rw [qM hb]; rfl
def zK (E : Nat -> Addr) (k : Nat) : Value := if k = 0 then .nilIface else .iface 393 (.pointer (some (E k)))
theorem KG (E : Nat -> Addr) (k : Nat) (h : k ≠ 0) : zK E k = .iface 393 (.pointer (some (E k))) := by simp [zK, h]
def all20 : List Nat := [1, 4, 6, 7, 8, 9, 15, 18]
inductive QI (E : Nat -> Addr) (w : World) : Nat -> Value -> Prop
 | nil : QI E w 0 .nilIface
 | plain (k : Nat) (h : k ≠ 0) : QI E w k (.iface 393 (.pointer (some (E k))))
 | wrap (k : Nat) (h : k ≠ 0) (pb : Nat) (s n : Value) (hb : w.heap[pb]? = some (.cells #[s, n, .iface 393 (.pointer (some (E k)))] 173 (0, 0))) : QI E w k (.iface 171 (.pointer (some ⟨pb, 0, none⟩)))
theorem QI.keep0 {E : Nat -> Addr} {w w' : World} {k : Nat} {v : Value} (h : QI E w k v) (hf : Fr [] w w') : QI E w' k v := by
 cases h with
 | nil => exact .nil
 | plain k h => exact .plain k h
 | wrap k h pb s n hb => exact .wrap k h pb s n (hf.keep hb Y85)
theorem QI.nil_iff {E : Nat -> Addr} {w : World} {v : Value} (h : QI E w 0 v) : v = .nilIface := by
 cases h with
 | nil => rfl
 | plain k h => exact absurd rfl h
 | wrap k h => exact absurd rfl h
theorem QI.some_of {E : Nat -> Addr} {w : World} {k : Nat} {v : Value} (h : QI E w k v) (hk : k ≠ 0) : ∃ t a, v = .iface t (.pointer a) := by
 cases h with
 | nil => exact absurd rfl hk
 | plain k h => exact ⟨_, _, rfl⟩
 | wrap k h => exact ⟨_, _, rfl⟩
theorem QI.errv (E : Nat -> Addr) (w : World) (k : Nat) : QI E w k (zK E k) := by
 by_cases h : k = 0
 ·subst h; exact .nil
 ·rw [KG E k h]; exact .plain k h
end Go.Proofs.YtdloaifdpajcjaaGreatDoor
