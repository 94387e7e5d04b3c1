import Derived.Test.YtdloaifdpajcjaaGreatDoorGG
import Derived.Test.YtdloaifdpajcjaaGreatDoorHE
set_option linter.unusedVariables false
set_option linter.unusedSimpArgs false
set_option maxRecDepth 1000000
set_option maxHeartbeats 8000000
namespace Go.Proofs.YtdloaifdpajcjaaGreatDoor
open Go.RowKit Go.Bl
theorem blk_le {p : Par} (h : qU p 0) : 0 <= blk p.size /\ blk p.size <= 510 := by
 have h1 : 0 <= p.size /\ p.size <= 2000 := h
 have hn := yM p.size h1.2
 have hs := Z1 _ (xQ _ hn.1 hn.2) (qR (yH p.size)).length (Nat.le_refl _)
 rw [List.take_length] at hs
 exact hs
theorem j7 {p : Par} (h : chk p = 0) : qU p 0 /\ qU p 1 := by
 unfold chk at h
 by_cases h0 : qU p 0
 ·by_cases h1 : qU p 1
  ·exact ⟨h0, h1⟩
  ·simp [h0, h1] at h
 ·simp [h0] at h
theorem qcB (E : Nat -> Addr) (B : Nat) (w0 : World) (p : Par) (hE : ya all20 E B w0) :
  Calls Tryz.prog 88 #[.agg #[.int .i64 p.size, .int .i64 p.sent, .int .i64 p.spots, .int .i64 p.per, .int .i64 p.pat, .int .i64 p.ret]] w0 fun e w' => ∃ n ev, e = .returned (.tuple #[.int .i64 n, ev]) /\ QI E w' (chk p) ev /\ (chk p = 0 -> n = blk p.size) /\ (chk p ≠ 0 -> n = 0) /\ Fr [] w0 w' := by
 have F1 : Fr [] w0 (w0.alloc (.cells #[.int .i64 p.size, .int .i64 p.sent, .int .i64 p.spots, .int .i64 p.per, .int .i64 p.pat, .int .i64 p.ret] 24)) := Fr.alloc _ _
 have HA := Hdq (show At (w0.alloc (.cells #[.int .i64 p.size, .int .i64 p.sent, .int .i64 p.spots, .int .i64 p.per, .int .i64 p.pat, .int .i64 p.ret] 24)) w0.heap.size (.cells #[.int .i64 p.size, .int .i64 p.sent, .int .i64 p.spots, .int .i64 p.per, .int .i64 p.pat, .int .i64 p.ret] 24) from At.new rfl)
 have HC := Hdq (qbQ all20 E B (w0.alloc (.cells #[.int .i64 p.size, .int .i64 p.sent, .int .i64 p.spots, .int .i64 p.per, .int .i64 p.pat, .int .i64 p.ret] 24)) (hE.keep0 F1) Y86 Y86 Y86 p)
 have HF1 := Hdq F1
 clear hE F1
 go_enter Tryz.func88, Tryz.ntmps88
 go_wp2_with (go_at_call 31; fail)
 refine HC.out.mono ?_
 rintro e w2 ⟨v, rfl, hv, hf⟩
 have HF2 := Hdq (HF1.out.trans hf)
 have c0 : w2.cell? ⟨w0.heap.size, 0, none⟩ = some (.int .i64 p.size) := (HA.out.keep0 hf).cell 0
 by_cases h0 : chk p = 0
 ·rw [h0] at hv
  have := hv.nil_iff
  subst this
  have ho := (j7 h0).1
  have HC2 := Hdq (total_ok w2 p.size ho.1 ho.2)
  clear hv hf HF1 HC
  go_wp2_with (go_at_call 79; fail)
  refine HC2.out.mono ?_
  rintro e w3 ⟨rfl, hf⟩
  have HF3 := Hdq (HF2.out.trans hf)
  obtain ⟨t, ht⟩ := exq (Qj (qR (yH p.size)))
  rw [ht]
  clear hf
  go_wp2
  go_ret2
  exact ⟨_, _, rfl, by rw [h0]; exact .nil, fun _ => by rw [<- ht]; rfl, fun h => absurd h0 h, HF3.out⟩
 ·have HV := Hdq hv
  obtain ⟨t, a, rfl⟩ := hv.some_of h0
  clear hv hf HF1 HC
  go_wp2
  go_ret2
  exact ⟨_, _, rfl, HV.out, fun h => absurd h h0, fun _ => rfl, HF2.out⟩
theorem L8 (E : Nat -> Addr) (B : Nat) (w0 : World) (p : Par) (hE : ya all20 E B w0) :
  Calls Tryz.prog 36 #[.agg #[.int .i64 p.size, .int .i64 p.sent, .int .i64 p.spots, .int .i64 p.per, .int .i64 p.pat, .int .i64 p.ret]] w0 fun e w' => ∃ n ev, e = .returned (.tuple #[.int .i64 n, ev]) /\ QI E w' (chk p) ev /\ (chk p = 0 -> n = blk p.size + p.sent) /\ (chk p ≠ 0 -> n = 0) /\ Fr [] w0 w' := by
 have F1 : Fr [] w0 (w0.alloc (.cells #[.int .i64 p.size, .int .i64 p.sent, .int .i64 p.spots, .int .i64 p.per, .int .i64 p.pat, .int .i64 p.ret] 24)) := Fr.alloc _ _
 have HA := Hdq (show At (w0.alloc (.cells #[.int .i64 p.size, .int .i64 p.sent, .int .i64 p.spots, .int .i64 p.per, .int .i64 p.pat, .int .i64 p.ret] 24)) w0.heap.size (.cells #[.int .i64 p.size, .int .i64 p.sent, .int .i64 p.spots, .int .i64 p.per, .int .i64 p.pat, .int .i64 p.ret] 24) from At.new rfl)
 have HC := Hdq (qcB E B (w0.alloc (.cells #[.int .i64 p.size, .int .i64 p.sent, .int .i64 p.spots, .int .i64 p.per, .int .i64 p.pat, .int .i64 p.ret] 24)) p (hE.keep0 F1))
 have HF1 := Hdq F1
 clear hE F1
 go_enter Tryz.func36, Tryz.ntmps36
 go_wp2_with (go_at_call 88; fail)
 refine HC.out.mono ?_
 rintro e w2 ⟨n, v, rfl, hv, hn0, hn1, hf⟩
 have HF2 := Hdq (HF1.out.trans hf)
 have c0 : w2.cell? ⟨w0.heap.size, 1, none⟩ = some (.int .i64 p.sent) := (HA.out.keep0 hf).cell 1
 by_cases h0 : chk p = 0
 ·rw [h0] at hv
  have := hv.nil_iff
  subst this
  have hn := hn0 h0
  have ho := j7 h0
  have hb := blk_le ho.1
  have hw : IntKind.i64.wrap (n + p.sent) = n + p.sent := by
   have := ho.2
   simp only [qU] at this
   rw [IntKind.wrap_i64]; omega
  have HW := Hdq hw
  clear hv hf HF1 HC hn0 hn1 hw
  go_wp2
  go_ret2
  refine ⟨_, _, rfl, by rw [h0]; exact .nil, fun _ => by have h1 := hb; have h2 : 0 <= p.sent /\ p.sent <= 8 := ho.2; unfold wrap64; omega, fun h => absurd h0 h, HF2.out⟩
 ·have HV := Hdq hv
  obtain ⟨t, a, rfl⟩ := hv.some_of h0
  clear hv hf HF1 HC hn0 hn1
  go_wp2
  go_ret2
  exact ⟨_, _, rfl, HV.out, fun h => absurd h h0, fun _ => rfl, HF2.out⟩
def K3 (w : World) (mb : Nat) (N D : Nat) (m : List UInt8) (n : Int) : Prop := ∃ (u0 u1 u2 u3 u4 : Value) (ob kb okb : Nat), At w mb (.cells #[u0, u1, u2, u3, u4, .pointer (some ⟨ob, 0, none⟩), .pointer (some ⟨kb, 0, none⟩), .int .i64 (D : Int), .int .i64 (N : Int)] 180) /\ YU w ob okb N (jl N) /\ yB w okb (qg m ql n) /\ yB w kb (qg m jd n) /\ Bs (fun _ => False) w u0 (qg m qS n) /\ Bs (fun _ => False) w u2 (qg m qG n)
theorem K3.keep {w w' : World} {mb N D : Nat} {m : List UInt8} {n : Int} (h : K3 w mb N D m n) (hf : Fr [] w w') : K3 w' mb N D m n := by
 obtain ⟨u0, u1, u2, u3, u4, ob, kb, okb, a1, a2, a3, a4, a5, a6⟩ := h
 exact ⟨u0, u1, u2, u3, u4, ob, kb, okb, a1.keep0 hf, a2.keep hf, a3.keep hf, a4.keep hf, a5.keep hf Y85, a6.keep hf Y85⟩
def sdE (p : Par) (m : List UInt8) (n : Int) : Nat := if chk p ≠ 0 then chk p else qj m n
theorem blk_ge {p : Par} (h : qU p 0) : 1 <= blk p.size := by
 have h1 : 0 <= p.size /\ p.size <= 2000 := h
 have hn := yM p.size h1.2
 unfold blk qR
 split <;> simp only [Qj, List.foldl_cons, List.foldl_nil] <;> omega
theorem K3.sent {w : World} {mb N D : Nat} {m : List UInt8} {n : Int} (h : K3 w mb N D m n) : ∃ (c : Array Value) (u : Value), At w mb (.cells c 180) /\ c[2]? = some u /\ c[7]? = some (.int .i64 (D : Int)) /\ c[8]? = some (.int .i64 (N : Int)) /\ Bs (fun _ => False) w u (qg m qG n) := by
 obtain ⟨u0, u1, u2, u3, u4, ob, kb, okb, a1, -, -, -, -, a6⟩ := h
 exact ⟨_, u2, a1, rfl, rfl, rfl, a6⟩
theorem K3.laid {w : World} {mb N D : Nat} {m : List UInt8} {n : Int} (h : K3 w mb N D m n) : ∃ (c : Array Value) (ob okb : Nat), At w mb (.cells c 180) /\ c[5]? = some (.pointer (some ⟨ob, 0, none⟩)) /\ YU w ob okb N (jl N) /\ yB w okb (qg m ql n) := by
 obtain ⟨u0, u1, u2, u3, u4, ob, kb, okb, a1, a2, a3, -, -, -⟩ := h
 exact ⟨_, ob, okb, a1, rfl, a2, a3⟩
end Go.Proofs.YtdloaifdpajcjaaGreatDoor
