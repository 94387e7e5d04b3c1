/-
  The law RepairParts, for all arguments.
-/
import Derived.Test.YtfblhdomjnffcaaGreatDoorRpt
namespace Go.Proofs.YtfblhdomjnffcaaGreatDoor
open Go.RowKit Go.Bl
set_option linter.unusedVariables false
theorem rpt_any (E : Nat → Addr) (B : Nat) (w : World) (lg n pl e t : Int) (U V : Value) (loc ev : List UInt8) (hE : Errs all20 E B w) (hU : Bs (fun _ => False) w U loc) (iU : BwI w.heap.size w U loc) (hV : Bs (fun _ => False) w V ev) (iV : BwI w.heap.size w V ev) :
    Calls Tryz.prog 3 #[.agg #[.int .i64 lg, U, V], .agg #[.int .i64 n, .int .i64 pl], .agg #[.int .i64 e, .int .i64 t]] w fun r w' => r = .returned (.bool true) ∧ Fr [] w w' := by
  by_cases hs : 33 ≤ n ∧ n ≤ 255
  · obtain ⟨N, rfl⟩ : ∃ N : Nat, n = (N : Int) := ⟨n.toNat, by omega⟩
    have h33 : 33 ≤ N := by omega
    have h255 : N ≤ 255 := by omega
    have hse : loc.length ≤ 60 → ev.length ≤ 60 → ∀ p, Fr [] w p → Calls Tryz.prog 7 #[U, .int .i64 (N : Int)] p fun r w' => ∃ u, r = .returned u ∧ OwnI 3 p.heap.size w' u (intL (srch loc N)) ∧ Fr [] p w' :=
      fun k1 k2 p hp => search_any p U loc N h33 h255 (iU.fr hp) (by omega)
    by_cases hb : pl < 0 ∨ (N : Int) ≤ pl
    · refine rpt_core E B w lg N pl e t U V (errv E 1) loc ev (srch loc N) 0 1 hE hU hV hse (fun k1 k2 p hp => ?_) (fun p hp => num_any E B 1 p (hE.keep0 hp) (by decide)) (fun h => absurd hs h) (fun _ => by rw [Int.toNat_natCast]) (fun _ _ => ⟨rfl, rfl⟩) (fun _ h1 h2 => by omega)
      obtain ⟨ua, uc, rfl, -⟩ := id hU
      obtain ⟨va, vc, rfl, -⟩ := id hV
      have h := amount_bad all20 E B p lg ua va loc.length uc ev.length vc N pl (hE.keep0 hp) (by decide) (by decide) (.inr hb)
      rw [if_pos hs] at h
      exact h
    · obtain ⟨P, rfl⟩ : ∃ P : Nat, pl = (P : Int) := ⟨pl.toNat, by omega⟩
      have hPN : P < N := by omega
      have hA := fun (k1 : loc.length ≤ 60) (k2 : ev.length ≤ 60) p hp => amount_any all20 E B p lg U V loc ev N P (hE.keep0 hp) (by decide) h33 h255 hPN (iU.fr hp) (hU.keep hp (by simp)) (iV.fr hp) (by omega) (by omega)
      by_cases hz : slpV loc N P = 0
      · simp only [if_pos hz] at hA
        exact rpt_core E B w lg N P e t U V (errv E 20) loc ev (srch loc N) 0 20 hE hU hV hse hA (fun p hp => num_any E B 20 p (hE.keep0 hp) (by decide)) (fun h => absurd hs h) (fun _ => by rw [Int.toNat_natCast]) (fun _ h => absurd h hb) (fun _ _ _ => .inl ⟨by rw [Int.toNat_natCast, Int.toNat_natCast]; exact hz, rfl, rfl⟩)
      · simp only [if_neg hz] at hA
        have hn : ∀ p, Fr [] w p → Calls Tryz.prog 11 #[.nilIface] p fun r w' => r = .returned (.int .i64 ((0 : Nat) : Int)) ∧ Fr [] p w' := fun p hp => by
          have h := num_any E B 0 p (hE.keep0 hp) (by decide)
          rwa [errv_zero] at h
        exact rpt_core E B w lg N P e t U V .nilIface loc ev (srch loc N) (amtV loc ev N P) 0 hE hU hV hse hA hn (fun h => absurd hs h) (fun _ => by rw [Int.toNat_natCast]) (fun _ h => absurd h hb) (fun _ _ _ => .inr ⟨by rw [Int.toNat_natCast, Int.toNat_natCast]; exact hz, by rw [Int.toNat_natCast, Int.toNat_natCast], rfl⟩)
  · refine rpt_core E B w lg n pl e t U V (errv E 8) loc ev [] 0 8 hE hU hV (fun k1 k2 p hp => ?_) (fun k1 k2 p hp => ?_) (fun p hp => num_any E B 8 p (hE.keep0 hp) (by decide)) (fun _ => ⟨rfl, rfl, rfl⟩) (fun h => absurd h hs) (fun h => absurd h hs) (fun h => absurd h hs)
    · obtain ⟨ua, uc, rfl, -⟩ := id hU
      refine (search_bad p ua _ uc n hs).mono ?_
      rintro r w' ⟨rfl, hf⟩
      exact ⟨_, rfl, OwnI.nil _ _ _, hf⟩
    · obtain ⟨ua, uc, rfl, -⟩ := id hU
      obtain ⟨va, vc, rfl, -⟩ := id hV
      have h := amount_bad all20 E B p lg ua va loc.length uc ev.length vc n pl (hE.keep0 hp) (by decide) (by decide) (.inl hs)
      rw [if_neg hs] at h
      exact h
end Go.Proofs.YtfblhdomjnffcaaGreatDoor
