import Derived.Test.YtnafknkchbfpaaaGreatDoorGF
set_option linter.unusedVariables false
set_option linter.unusedSimpArgs false
namespace Go.Proofs.YtnafknkchbfpaaaGreatDoor
open Go.RowKit Go.Bl
structure Par where
 size : Int
 sent : Int
 spots : Int
 per : Int
 pat : Int
 ret : Int
def Par.cells (p : Par) : Array Value := #[iv p.size, iv p.sent, iv p.spots, iv p.per, iv p.pat, iv p.ret]
def Par.val (p : Par) : Value := .agg p.cells
def blk (size : Int) : Int := xE (qO (yZ size))
def jj (p : Par) : Nat -> Prop
 | 0 => 0 <= p.size /\ p.size <= 2000
 | 1 => 0 <= p.sent /\ p.sent <= 8
 | 2 => 1 <= p.spots /\ p.spots <= min 12 (blk p.size + p.sent)
 | 3 => 1 <= p.per /\ p.per <= 10000
 | 4 => 1 <= p.pat /\ p.pat <= p.per
 | _ => 0 <= p.ret /\ p.ret <= 5
instance (p : Par) : (j : Nat) -> Decidable (jj p j)
 | 0 => inferInstanceAs (Decidable (_ /\ _))
 | 1 => inferInstanceAs (Decidable (_ /\ _))
 | 2 => inferInstanceAs (Decidable (_ /\ _))
 | 3 => inferInstanceAs (Decidable (_ /\ _))
 | 4 => inferInstanceAs (Decidable (_ /\ _))
 | _ + 5 => inferInstanceAs (Decidable (_ /\ _))
def chk (p : Par) : Nat := if ¬ jj p 0 then 8 else if ¬ jj p 1 then 18 else if ¬ jj p 2 ∨ ¬ jj p 3 ∨ ¬ jj p 4 ∨ ¬ jj p 5 then 1 else 0
def jG (j : Nat) : Nat := if j = 0 then 8 else if j = 1 then 18 else 1
theorem QP (p : Par) (j : Nat) (hj : j < 6) (h : ∀ i, i < j -> jj p i) (hb : ¬ jj p j) : chk p = jG j := by
 have : j = 0 ∨ j = 1 ∨ j = 2 ∨ j = 3 ∨ j = 4 ∨ j = 5 := by omega
 rcases this with rfl | rfl | rfl | rfl | rfl | rfl
 ·simp [chk, jG, hb]
 ·simp [chk, jG, hb, h 0]
 ·simp [chk, jG, hb, h 0, h 1]
 ·simp [chk, jG, hb, h 0, h 1]
 ·simp [chk, jG, hb, h 0, h 1]
 ·simp [chk, jG, hb, h 0, h 1]
theorem WN (p : Par) (h : ∀ i, i < 6 -> jj p i) : chk p = 0 := by
 simp [chk, h 0, h 1, h 2, h 3, h 4, h 5]
theorem total_bad (L : List Nat) (E : Nat -> Addr) (B : Nat) (w : World) (hE : vu L E B w) (h8 : 8 ∈ L) (size : Int) (h : size < 0 ∨ 2000 < size) :
  Calls Tryz.prog 118 #[.int .i64 size] w fun e w' => e = .returned (.tuple #[.int .i64 0, jQ E 8]) /\ Fr [] w w' := by
 have hs := Hdq (qaL L E B w hE h8 size h)
 clear hE
 go_enter Tryz.func118, Tryz.ntmps118
 go_wp2_with fail
 refine hs.out.mono ?_; rintro e w1 ⟨rfl, hf⟩
 go_wp2
 go_loop [6, 16] (fun n i => n = .int .i64 0 /\ i = .int .i64 0) (fun _ _ => 0)
 case atStart => exact ⟨rfl, rfl⟩
 case round =>
  obtain ⟨rfl, rfl⟩ := hrel
  go_wp2
  go_ret2
  exact ⟨rfl, hf⟩
end Go.Proofs.YtnafknkchbfpaaaGreatDoor
