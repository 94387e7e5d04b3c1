import Derived.Test.YtnafknkchbfpaaaGreatDoorRows
import Derived.Test.YtnafknkchbfpaaaGreatDoorGA
import Derived.ProofKit
import Derived.WalkLawsBesides
import Derived.WalkSpells
import Derived.Stop.Asserts
namespace Go.Proofs.YtnafknkchbfpaaaGreatDoor
open Go.RowKit Go.Bl Go.Extern.Stop Go.Stop Go.Extern
set_option linter.unusedVariables false
def gOf (k : Nat) : Nat := [0, 0, 2, 3, 4, 5, 6, 7, 1, 8, 9, 10, 11, 12, 13, 14, 15, 16, 17, 18, 19].getD k 0
structure j7 (L : List Nat) (E : Nat -> Addr) (B : Nat) (w : World) : Prop where
 glob : ∀ k ∈ L, ∃ t fz, w.heap[gOf k]? = some (.cells #[.iface 317 (.pointer (some (E k)))] t fz)
 blk : ∀ k ∈ L, ∃ c t, w.heap[(E k).block]? = some (.cells c t (0, 0))
 inj : ∀ j ∈ L, ∀ k ∈ L, j ≠ k -> E j ≠ E k
 ltg : ∀ k ∈ L, gOf k < B
 lte : ∀ k ∈ L, (E k).block < B
theorem j7.keep {L : List Nat} {E : Nat -> Addr} {B : Nat} {w w' : World} {S : List Nat} (h : j7 L E B w) (hf : Fr S w w') (hS : ∀ b ∈ S, B <= b) : j7 L E B w' where
 glob k hk := by
  obtain ⟨t, fz, hb⟩ := h.glob k hk
  exact ⟨t, fz, hf.keep hb fun hm => by have := h.ltg k hk; have := hS _ hm; omega⟩
 blk k hk := by
  obtain ⟨c, t, hb⟩ := h.blk k hk
  exact ⟨c, t, hf.keep hb fun hm => by have := h.lte k hk; have := hS _ hm; omega⟩
 inj := h.inj
 ltg := h.ltg
 lte := h.lte
theorem j7.keep0 {L : List Nat} {E : Nat -> Addr} {B : Nat} {w w' : World} (h : j7 L E B w) (hf : Fr [] w w') : j7 L E B w' := h.keep hf qf
theorem j7.cell {L : List Nat} {E : Nat -> Addr} {B : Nat} {w : World} (h : j7 L E B w) (k : Nat) (hk : k ∈ L) : w.cell? ⟨gOf k, 0, none⟩ = some (.iface 317 (.pointer (some (E k)))) := by
 obtain ⟨t, fz, hb⟩ := h.glob k hk
 rw [qK hb]; rfl
def ue (E : Nat -> Addr) (k : Nat) : Value := if k = 0 then .nilIface else .iface 317 (.pointer (some (E k)))
theorem uz (E : Nat -> Addr) : ue E 0 = .nilIface := rfl
theorem errv_pos (E : Nat -> Addr) (k : Nat) (h : k ≠ 0) : ue E k = .iface 317 (.pointer (some (E k))) := by simp [ue, h]
def all20 : List Nat := [1, 6, 8, 9, 15, 18]
inductive yd (E : Nat -> Addr) (w : World) : Nat -> Value -> Prop
 | nil : yd E w 0 .nilIface
 | plain (k : Nat) (h : k ≠ 0) : yd E w k (.iface 317 (.pointer (some (E k))))
 | wrap (k : Nat) (h : k ≠ 0) (pb : Nat) (s n : Value) (hb : w.heap[pb]? = some (.cells #[s, n, .iface 317 (.pointer (some (E k)))] 206 (0, 0))) : yd E w k (.iface 204 (.pointer (some ⟨pb, 0, none⟩)))
theorem yd.keep0 {E : Nat -> Addr} {w w' : World} {k : Nat} {v : Value} (h : yd E w k v) (hf : Fr [] w w') : yd E w' k v := by
 cases h with
 | nil => exact .nil
 | plain k h => exact .plain k h
 | wrap k h pb s n hb => exact .wrap k h pb s n (hf.keep hb qf)
theorem yd.nil_iff {E : Nat -> Addr} {w : World} {v : Value} (h : yd E w 0 v) : v = .nilIface := by
 cases h with
 | nil => rfl
 | plain k h => exact absurd rfl h
 | wrap k h => exact absurd rfl h
theorem yd.some_of {E : Nat -> Addr} {w : World} {k : Nat} {v : Value} (h : yd E w k v) (hk : k ≠ 0) : ∃ t a, v = .iface t (.pointer a) := by
 cases h with
 | nil => exact absurd rfl hk
 | plain k h => exact ⟨_, _, rfl⟩
 | wrap k h => exact ⟨_, _, rfl⟩
theorem yd.errv (E : Nat -> Addr) (w : World) (k : Nat) : yd E w k (ue E k) := by
 by_cases h : k = 0
 ·subst h; exact .nil
 ·rw [errv_pos E k h]; exact .plain k h
end Go.Proofs.YtnafknkchbfpaaaGreatDoor
