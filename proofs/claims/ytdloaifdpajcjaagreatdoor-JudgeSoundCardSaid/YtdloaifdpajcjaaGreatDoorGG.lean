import Derived.Test.YtdloaifdpajcjaaGreatDoorGF
set_option linter.unusedVariables false
set_option linter.unusedSimpArgs false
set_option maxRecDepth 1000000
set_option maxHeartbeats 8000000
namespace Go.Proofs.YtdloaifdpajcjaaGreatDoor
open Go.RowKit Go.Bl
structure Par where
 size : Int
 sent : Int
 spots : Int
 per : Int
 pat : Int
 ret : Int
def Par.cells (p : Par) : Array Value := #[iv p.size, iv p.sent, iv p.spots, iv p.per, iv p.pat, iv p.ret]
def Par.val (p : Par) : Value := .agg p.cells
def Qg (E : Nat -> Addr) (p : Par) (m : Int) : Array Value := #[
 .string ⟨#[115, 105, 122, 101]⟩, .int .i64 p.size, .int .i64 0, .int .i64 2000, .iface 393 (.pointer (some (E 8))),
 .string ⟨#[115, 101, 110, 116, 105, 110, 101, 108, 115]⟩, .int .i64 p.sent, .int .i64 0, .int .i64 8, .iface 393 (.pointer (some (E 18))),
 .string ⟨#[115, 112, 111, 116, 115]⟩, .int .i64 p.spots, .int .i64 1, .int .i64 m, .iface 393 (.pointer (some (E 1))),
 .string ⟨#[112, 101, 114, 105, 111, 100]⟩, .int .i64 p.per, .int .i64 1, .int .i64 10000, .iface 393 (.pointer (some (E 1))),
 .string ⟨#[112, 97, 116, 105, 101, 110, 99, 101]⟩, .int .i64 p.pat, .int .i64 1, .int .i64 p.per, .iface 393 (.pointer (some (E 1))),
 .string ⟨#[114, 101, 116, 114, 105, 101, 115]⟩, .int .i64 p.ret, .int .i64 0, .int .i64 5, .iface 393 (.pointer (some (E 1)))]
theorem Tryz.laid30 {w : World} {o o' : Obj} : ((w.alloc o).alloc o').heap[w.heap.size + 1]? = some o' := by
 have := heap_alloc_new (w.alloc o) o'
 rwa [show (w.alloc o).heap.size = w.heap.size + 1 from Array.size_push _] at this
theorem LI (L : List Nat) (E : Nat -> Addr) (B : Nat) (w : World) (hE : ya L E B w) (h1 : 1 ∈ L) (h8 : 8 ∈ L) (h18 : 18 ∈ L) (p : Par) (blocks : Int) :
  Calls Tryz.prog 80 #[.agg #[.int .i64 p.size, .int .i64 p.sent, .int .i64 p.spots, .int .i64 p.per, .int .i64 p.pat, .int .i64 p.ret], .int .i64 blocks] w fun e w' => e = .returned (.agg (Qg E p (min 12 blocks))) /\ Fr [] w w' := by
 have c1 := hE.cell 1 h1
 have c8 := hE.cell 8 h8
 have c18 := hE.cell 18 h18
 have s1 : gOf 1 < w.heap.size := by obtain ⟨_, _, h⟩ := hE.glob 1 h1; exact qk h
 have s8 : gOf 8 < w.heap.size := by obtain ⟨_, _, h⟩ := hE.glob 8 h8; exact qk h
 have s18 : gOf 18 < w.heap.size := by obtain ⟨_, _, h⟩ := hE.glob 18 h18; exact qk h
 simp only [gOf, List.getD_eq_getElem?_getD, List.getElem?_cons_zero, List.getElem?_cons_succ, Option.getD_some] at c1 c8 c18 s1 s8 s18
 clear hE h1 h8 h18
 have hm : (12 <= blocks /\ min 12 blocks = 12) ∨ (blocks < 12 /\ min 12 blocks = blocks) := by omega
 rcases hm with ⟨h, e⟩ | ⟨h, e⟩
 ·rw [e]
  clear e
  go_enter Tryz.func80, Tryz.ntmps80
  go_wp2_with (refine zI (w := w.alloc _) (.tmp 4) (.tmp 33) rfl rfl (Qg E p 12) (by first | rfl | simp [go_sem]) Y55 Y55 Y55 Y55 ?_)
  exact bodyPost_ret (v := .agg (Qg E p 12)) (results_cell_row rfl _ _ (w.heap.size + 1) 169 _ (0, 0) _ rfl Tryz.laid30 Tryz.underlying169 rfl Y55) rfl ⟨rfl, (Fr.alloc _ _).trans (Fr.alloc _ _)⟩
 ·rw [e]
  clear e
  go_enter Tryz.func80, Tryz.ntmps80
  go_wp2_with (refine zI (w := w.alloc _) (.tmp 4) (.tmp 33) rfl rfl (Qg E p blocks) (by first | rfl | simp [go_sem]) Y55 Y55 Y55 Y55 ?_)
  exact bodyPost_ret (v := .agg (Qg E p blocks)) (results_cell_row rfl _ _ (w.heap.size + 1) 169 _ (0, 0) _ rfl Tryz.laid30 Tryz.underlying169 rfl Y55) rfl ⟨rfl, (Fr.alloc _ _).trans (Fr.alloc _ _)⟩
def blk (size : Int) : Int := Qj (qR (yH size))
def qU (p : Par) : Nat -> Prop
 | 0 => 0 <= p.size /\ p.size <= 2000
 | 1 => 0 <= p.sent /\ p.sent <= 8
 | 2 => 1 <= p.spots /\ p.spots <= min 12 (blk p.size + p.sent)
 | 3 => 1 <= p.per /\ p.per <= 10000
 | 4 => 1 <= p.pat /\ p.pat <= p.per
 | _ => 0 <= p.ret /\ p.ret <= 5
instance (p : Par) : (j : Nat) -> Decidable (qU p j)
 | 0 => inferInstanceAs (Decidable (_ /\ _))
 | 1 => inferInstanceAs (Decidable (_ /\ _))
 | 2 => inferInstanceAs (Decidable (_ /\ _))
 | 3 => inferInstanceAs (Decidable (_ /\ _))
 | 4 => inferInstanceAs (Decidable (_ /\ _))
 | _ + 5 => inferInstanceAs (Decidable (_ /\ _))
def chk (p : Par) : Nat := if ¬ qU p 0 then 8 else if ¬ qU p 1 then 18 else if ¬ qU p 2 ∨ ¬ qU p 3 ∨ ¬ qU p 4 ∨ ¬ qU p 5 then 1 else 0
def jU (j : Nat) : Nat := if j = 0 then 8 else if j = 1 then 18 else 1
theorem jD (p : Par) (j : Nat) (hj : j < 6) (h : ∀ i, i < j -> qU p i) (hb : ¬ qU p j) : chk p = jU j := by
 have : j = 0 ∨ j = 1 ∨ j = 2 ∨ j = 3 ∨ j = 4 ∨ j = 5 := by omega
 rcases this with rfl | rfl | rfl | rfl | rfl | rfl
 ·simp [chk, jU, hb]
 ·simp [chk, jU, hb, h 0]
 ·simp [chk, jU, hb, h 0, h 1]
 ·simp [chk, jU, hb, h 0, h 1]
 ·simp [chk, jU, hb, h 0, h 1]
 ·simp [chk, jU, hb, h 0, h 1]
theorem Yk (p : Par) (h : ∀ i, i < 6 -> qU p i) : chk p = 0 := by
 simp [chk, h 0, h 1, h 2, h 3, h 4, h 5]
theorem total_bad (L : List Nat) (E : Nat -> Addr) (B : Nat) (w : World) (hE : ya L E B w) (h8 : 8 ∈ L) (size : Int) (h : size < 0 ∨ 2000 < size) :
  Calls Tryz.prog 79 #[.int .i64 size] w fun e w' => e = .returned (.tuple #[.int .i64 0, zK E 8]) /\ Fr [] w w' := by
 have hs := Hdq (qbX L E B w hE h8 size h)
 clear hE
 go_enter Tryz.func79, Tryz.ntmps79
 go_wp2_with fail
 refine hs.out.mono ?_; rintro e w1 ⟨rfl, hf⟩
 go_wp2
 go_loop [6, 16] (fun n i => n = .int .i64 0 /\ i = .int .i64 0) (fun _ _ => 0)
 case atStart => exact ⟨rfl, rfl⟩
 case round =>
  obtain ⟨rfl, rfl⟩ := hrel
  go_wp2
  go_ret2
  exact ⟨rfl, hf⟩
theorem qca (L : List Nat) (E : Nat -> Addr) (B : Nat) (w : World) (hE : ya L E B w) (h8 : 8 ∈ L) (size : Int) :
  Calls Tryz.prog 79 #[.int .i64 size] w fun e w' => ∃ n ev, e = .returned (.tuple #[.int .i64 n, ev]) /\ 0 <= n /\ n <= 510 /\ (qU ⟨size, 0, 0, 0, 0, 0⟩ 0 -> n = blk size) /\ Fr [] w w' := by
 by_cases h : size < 0 ∨ 2000 < size
 ·refine (total_bad L E B w hE h8 size h).mono ?_
  rintro e w' ⟨rfl, hf⟩
  exact ⟨0, _, rfl, by omega, by omega, fun h' => by simp [qU] at h'; omega, hf⟩
 ·refine (total_ok w size Y54 Y54).mono ?_
  rintro e w' ⟨rfl, hf⟩
  have hn := yM size Y54
  have hs := Z1 _ (xQ _ hn.1 hn.2) (qR (yH size)).length (Nat.le_refl _)
  rw [List.take_length] at hs
  exact ⟨_, _, rfl, hs.1, hs.2, fun _ => rfl, hf⟩
theorem vg (p : Par) (j : Nat) (h : ∀ i, i < j -> qU p i) (hj : qU p j) : ∀ i, i < j + 1 -> qU p i := by
 intro i hi
 rcases Nat.lt_or_ge i j with h' | h'
 ·exact h i h'
 ·have : i = j := by omega
  subst this; exact hj
theorem qbQ (L : List Nat) (E : Nat -> Addr) (B : Nat) (w : World) (hE : ya L E B w) (h1 : 1 ∈ L) (h8 : 8 ∈ L) (h18 : 18 ∈ L) (p : Par) :
  Calls Tryz.prog 31 #[.agg #[.int .i64 p.size, .int .i64 p.sent, .int .i64 p.spots, .int .i64 p.per, .int .i64 p.pat, .int .i64 p.ret]] w fun e w' => ∃ v, e = .returned v /\ QI E w' (chk p) v /\ Fr [] w w' := by
 have HE := Hdq hE
 clear hE
 go_enter Tryz.func31, Tryz.ntmps31
 go_wp2_with fail
 have hE1 := HE.out.keep0 (Fr.alloc w (.cells #[.int .i64 p.size, .int .i64 p.sent, .int .i64 p.spots, .int .i64 p.per, .int .i64 p.pat, .int .i64 p.ret] 24))
 refine (qca L E B _ hE1 h8 p.size).mono ?_
 rintro e w1 ⟨n, ev, rfl, hn0, hn1, hn, hf1⟩
 have HN := Hdq hn
 have hb1 : w1.heap[w.heap.size]? = some (.cells #[.int .i64 p.size, .int .i64 p.sent, .int .i64 p.spots, .int .i64 p.per, .int .i64 p.pat, .int .i64 p.ret] 24 (0, 0)) := hf1.keep (heap_alloc_new w _) Y85
 have HF1 := Hdq ((Fr.alloc (S := []) w (.cells #[.int .i64 p.size, .int .i64 p.sent, .int .i64 p.spots, .int .i64 p.per, .int .i64 p.pat, .int .i64 p.ret] 24)).trans hf1)
 clear hE1 hf1 hn
 have k0 := qM hb1 0
 have k1 := qM hb1 1
 have k2 := qM hb1 2
 have k3 := qM hb1 3
 have k4 := qM hb1 4
 have k5 := qM hb1 5
 simp only [List.getElem?_toArray, List.getElem?_cons_zero, List.getElem?_cons_succ] at k0 k1 k2 k3 k4 k5
 clear hb1
 go_wp2_with fail
 refine (LI L E B _ (HE.out.keep0 HF1.out) h1 h8 h18 p _).mono ?_
 rintro e w2 ⟨rfl, hf2⟩
 have HF2 := Hdq (HF1.out.trans hf2)
 obtain ⟨m, hm⟩ := exq (min 12 (wrap64 (n + p.sent)))
 have hM : qU p 0 -> qU p 1 -> m = min 12 (blk p.size + p.sent) := by
  intro g0 g1
  have e1 : n = blk p.size := HN.out g0
  have g1' : 0 <= p.sent /\ p.sent <= 8 := g1
  rw [<- hm, <- e1]
  have : wrap64 (n + p.sent) = n + p.sent := by unfold wrap64; omega
  rw [this]
 rw [hm]
 have HM := Hdq hM
 clear hf2 HF1 HN hm hM k0 k1 k2 k3 k4 k5 HE
 unfold Qg
 go_wp2
 go_loopw [19] (fun i wr => ∃ j : Nat, j <= 6 /\ i = .int .i64 j /\ Hid (∀ i, i < j -> qU p i) /\ Fr [] w wr) (fun i _ => 6 - (intOf i).toNat)
 case atStart => exact ⟨0, Nat.zero_le _, rfl, fun i hi => by omega, HF2.out⟩
 case round =>
  obtain ⟨j, hj, rfl, hall, hf⟩ := hrel
  have HF := Hdq hf
  clear hf
  have hjc : j = 6 ∨ j < 6 := by omega
  rcases hjc with rfl | hjc
  ·go_wp2
   go_ret
   exact ⟨_, rfl, by rw [Yk p hall]; exact .nil, HF.out⟩
  ·have h6 : j = 0 ∨ j = 1 ∨ j = 2 ∨ j = 3 ∨ j = 4 ∨ j = 5 := by omega
   clear hjc hj
   rcases h6 with rfl | rfl | rfl | rfl | rfl | rfl
   ·have hi : qU p 0 ↔ (0 <= p.size /\ p.size <= 2000) := Iff.rfl
    have HI := Hdq hi
    clear hi
    have h3 : (p.size < 0) ∨ (0 <= p.size /\ 2000 < p.size) ∨ (0 <= p.size /\ p.size <= 2000) := by omega
    rcases h3 with h | h | h
    ·have HB := Hdq (jD p 0 Y86 hall Y65)
     clear hall
     go_wp2_with (refine jf (.index 169 (.tmp 18) (.tmp 19)) rfl rfl (.agg #[.string ⟨#[115, 105, 122, 101]⟩, .int .i64 p.size, .int .i64 0, .int .i64 2000, .iface 393 (.pointer (some (E 8)))]) Y55 ?_)
     exact Y2
    ·have HB := Hdq (jD p 0 Y86 hall Y65)
     clear hall
     go_wp2_with (refine jf (.index 169 (.tmp 18) (.tmp 19)) rfl rfl (.agg #[.string ⟨#[115, 105, 122, 101]⟩, .int .i64 p.size, .int .i64 0, .int .i64 2000, .iface 393 (.pointer (some (E 8)))]) Y55 ?_)
     exact Y2
    ·have HB := Hdq (vg p 0 hall (HI.out.2 h))
     clear hall
     go_wp2_with (refine jf (.index 169 (.tmp 18) (.tmp 19)) rfl rfl (.agg #[.string ⟨#[115, 105, 122, 101]⟩, .int .i64 p.size, .int .i64 0, .int .i64 2000, .iface 393 (.pointer (some (E 8)))]) Y55 ?_)
     go_roundw
     case rel => exact ⟨1, by decide, rfl, HB, HF.out.trans (Fr.alloc _ _)⟩
     case measure => simp [intOf]
   ·have hi : qU p 1 ↔ (0 <= p.sent /\ p.sent <= 8) := Iff.rfl
    have HI := Hdq hi
    clear hi
    have h3 : (p.sent < 0) ∨ (0 <= p.sent /\ 8 < p.sent) ∨ (0 <= p.sent /\ p.sent <= 8) := by omega
    rcases h3 with h | h | h
    ·have HB := Hdq (jD p 1 Y86 hall Y65)
     clear hall
     go_wp2_with (refine jf (.index 169 (.tmp 18) (.tmp 19)) rfl rfl (.agg #[.string ⟨#[115, 101, 110, 116, 105, 110, 101, 108, 115]⟩, .int .i64 p.sent, .int .i64 0, .int .i64 8, .iface 393 (.pointer (some (E 18)))]) Y55 ?_)
     exact Y2
    ·have HB := Hdq (jD p 1 Y86 hall Y65)
     clear hall
     go_wp2_with (refine jf (.index 169 (.tmp 18) (.tmp 19)) rfl rfl (.agg #[.string ⟨#[115, 101, 110, 116, 105, 110, 101, 108, 115]⟩, .int .i64 p.sent, .int .i64 0, .int .i64 8, .iface 393 (.pointer (some (E 18)))]) Y55 ?_)
     exact Y2
    ·have HB := Hdq (vg p 1 hall (HI.out.2 h))
     clear hall
     go_wp2_with (refine jf (.index 169 (.tmp 18) (.tmp 19)) rfl rfl (.agg #[.string ⟨#[115, 101, 110, 116, 105, 110, 101, 108, 115]⟩, .int .i64 p.sent, .int .i64 0, .int .i64 8, .iface 393 (.pointer (some (E 18)))]) Y55 ?_)
     go_roundw
     case rel => exact ⟨2, by decide, rfl, HB, HF.out.trans (Fr.alloc _ _)⟩
     case measure => simp [intOf]
   ·have hi : qU p 2 ↔ (1 <= p.spots /\ p.spots <= m) := by
     rw [HM.out (hall 0 Y54) (hall 1 Y54)]; exact Iff.rfl
    have HI := Hdq hi
    clear hi
    have h3 : (p.spots < 1) ∨ (1 <= p.spots /\ m < p.spots) ∨ (1 <= p.spots /\ p.spots <= m) := by omega
    rcases h3 with h | h | h
    ·have HB := Hdq (jD p 2 Y86 hall Y65)
     clear hall
     go_wp2_with (refine jf (.index 169 (.tmp 18) (.tmp 19)) rfl rfl (.agg #[.string ⟨#[115, 112, 111, 116, 115]⟩, .int .i64 p.spots, .int .i64 1, .int .i64 m, .iface 393 (.pointer (some (E 1)))]) Y55 ?_)
     exact Y2
    ·have HB := Hdq (jD p 2 Y86 hall Y65)
     clear hall
     go_wp2_with (refine jf (.index 169 (.tmp 18) (.tmp 19)) rfl rfl (.agg #[.string ⟨#[115, 112, 111, 116, 115]⟩, .int .i64 p.spots, .int .i64 1, .int .i64 m, .iface 393 (.pointer (some (E 1)))]) Y55 ?_)
     exact Y2
    ·have HB := Hdq (vg p 2 hall (HI.out.2 h))
     clear hall
     go_wp2_with (refine jf (.index 169 (.tmp 18) (.tmp 19)) rfl rfl (.agg #[.string ⟨#[115, 112, 111, 116, 115]⟩, .int .i64 p.spots, .int .i64 1, .int .i64 m, .iface 393 (.pointer (some (E 1)))]) Y55 ?_)
     go_roundw
     case rel => exact ⟨3, by decide, rfl, HB, HF.out.trans (Fr.alloc _ _)⟩
     case measure => simp [intOf]
   ·have hi : qU p 3 ↔ (1 <= p.per /\ p.per <= 10000) := Iff.rfl
    have HI := Hdq hi
    clear hi
    have h3 : (p.per < 1) ∨ (1 <= p.per /\ 10000 < p.per) ∨ (1 <= p.per /\ p.per <= 10000) := by omega
    rcases h3 with h | h | h
    ·have HB := Hdq (jD p 3 Y86 hall Y65)
     clear hall
     go_wp2_with (refine jf (.index 169 (.tmp 18) (.tmp 19)) rfl rfl (.agg #[.string ⟨#[112, 101, 114, 105, 111, 100]⟩, .int .i64 p.per, .int .i64 1, .int .i64 10000, .iface 393 (.pointer (some (E 1)))]) Y55 ?_)
     exact Y2
    ·have HB := Hdq (jD p 3 Y86 hall Y65)
     clear hall
     go_wp2_with (refine jf (.index 169 (.tmp 18) (.tmp 19)) rfl rfl (.agg #[.string ⟨#[112, 101, 114, 105, 111, 100]⟩, .int .i64 p.per, .int .i64 1, .int .i64 10000, .iface 393 (.pointer (some (E 1)))]) Y55 ?_)
     exact Y2
    ·have HB := Hdq (vg p 3 hall (HI.out.2 h))
     clear hall
     go_wp2_with (refine jf (.index 169 (.tmp 18) (.tmp 19)) rfl rfl (.agg #[.string ⟨#[112, 101, 114, 105, 111, 100]⟩, .int .i64 p.per, .int .i64 1, .int .i64 10000, .iface 393 (.pointer (some (E 1)))]) Y55 ?_)
     go_roundw
     case rel => exact ⟨4, by decide, rfl, HB, HF.out.trans (Fr.alloc _ _)⟩
     case measure => simp [intOf]
   ·have hi : qU p 4 ↔ (1 <= p.pat /\ p.pat <= p.per) := Iff.rfl
    have HI := Hdq hi
    clear hi
    have h3 : (p.pat < 1) ∨ (1 <= p.pat /\ p.per < p.pat) ∨ (1 <= p.pat /\ p.pat <= p.per) := by omega
    rcases h3 with h | h | h
    ·have HB := Hdq (jD p 4 Y86 hall Y65)
     clear hall
     go_wp2_with (refine jf (.index 169 (.tmp 18) (.tmp 19)) rfl rfl (.agg #[.string ⟨#[112, 97, 116, 105, 101, 110, 99, 101]⟩, .int .i64 p.pat, .int .i64 1, .int .i64 p.per, .iface 393 (.pointer (some (E 1)))]) Y55 ?_)
     exact Y2
    ·have HB := Hdq (jD p 4 Y86 hall Y65)
     clear hall
     go_wp2_with (refine jf (.index 169 (.tmp 18) (.tmp 19)) rfl rfl (.agg #[.string ⟨#[112, 97, 116, 105, 101, 110, 99, 101]⟩, .int .i64 p.pat, .int .i64 1, .int .i64 p.per, .iface 393 (.pointer (some (E 1)))]) Y55 ?_)
     exact Y2
    ·have HB := Hdq (vg p 4 hall (HI.out.2 h))
     clear hall
     go_wp2_with (refine jf (.index 169 (.tmp 18) (.tmp 19)) rfl rfl (.agg #[.string ⟨#[112, 97, 116, 105, 101, 110, 99, 101]⟩, .int .i64 p.pat, .int .i64 1, .int .i64 p.per, .iface 393 (.pointer (some (E 1)))]) Y55 ?_)
     go_roundw
     case rel => exact ⟨5, by decide, rfl, HB, HF.out.trans (Fr.alloc _ _)⟩
     case measure => simp [intOf]
   ·have hi : qU p 5 ↔ (0 <= p.ret /\ p.ret <= 5) := Iff.rfl
    have HI := Hdq hi
    clear hi
    have h3 : (p.ret < 0) ∨ (0 <= p.ret /\ 5 < p.ret) ∨ (0 <= p.ret /\ p.ret <= 5) := by omega
    rcases h3 with h | h | h
    ·have HB := Hdq (jD p 5 Y86 hall Y65)
     clear hall
     go_wp2_with (refine jf (.index 169 (.tmp 18) (.tmp 19)) rfl rfl (.agg #[.string ⟨#[114, 101, 116, 114, 105, 101, 115]⟩, .int .i64 p.ret, .int .i64 0, .int .i64 5, .iface 393 (.pointer (some (E 1)))]) Y55 ?_)
     exact Y2
    ·have HB := Hdq (jD p 5 Y86 hall Y65)
     clear hall
     go_wp2_with (refine jf (.index 169 (.tmp 18) (.tmp 19)) rfl rfl (.agg #[.string ⟨#[114, 101, 116, 114, 105, 101, 115]⟩, .int .i64 p.ret, .int .i64 0, .int .i64 5, .iface 393 (.pointer (some (E 1)))]) Y55 ?_)
     exact Y2
    ·have HB := Hdq (vg p 5 hall (HI.out.2 h))
     clear hall
     go_wp2_with (refine jf (.index 169 (.tmp 18) (.tmp 19)) rfl rfl (.agg #[.string ⟨#[114, 101, 116, 114, 105, 101, 115]⟩, .int .i64 p.ret, .int .i64 0, .int .i64 5, .iface 393 (.pointer (some (E 1)))]) Y55 ?_)
     go_roundw
     case rel => exact ⟨6, by decide, rfl, HB, HF.out.trans (Fr.alloc _ _)⟩
     case measure => simp [intOf]
end Go.Proofs.YtdloaifdpajcjaaGreatDoor
