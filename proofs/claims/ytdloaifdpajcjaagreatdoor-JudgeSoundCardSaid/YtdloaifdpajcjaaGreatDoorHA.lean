import Derived.Test.YtdloaifdpajcjaaGreatDoorGZ
set_option linter.unusedVariables false
set_option linter.unusedSimpArgs false
set_option maxRecDepth 1000000
set_option maxHeartbeats 8000000
namespace Go.Proofs.YtdloaifdpajcjaaGreatDoor
open Go.RowKit Go.Bl
theorem qef {e : TypeId} {base : Nat} {w : World} {a : Option Addr} {n cap : Nat} {xs : List UInt8} (h : qt e base w (.slice a n cap) xs) (k : Nat) (hk : k <= xs.length) : qt e base w (.slice a k cap) (xs.take k) := by
 obtain ⟨h1, h2⟩ := h
 unfold qt
 rw [List.length_take, Nat.min_eq_left hk]
 refine ⟨by simp [hk], ?_⟩
 rcases h2 with ⟨h2, h3⟩ | ⟨g, cap', cur, h2, h3, h4, h5, h6, h7, h8⟩
 ·cases h2
  have : k = 0 := by omega
  subst this
  exact .inl ⟨rfl, rfl⟩
 ·cases h2
  refine .inr ⟨g, cap, cur, rfl, h3, h4, by omega, h6, h7, ?_⟩
  rw [List.map_take, <- h8, List.take_take]
  congr 1
  omega
theorem qdD (w : World) (n : Nat) (hn : n <= 10000000) :
  Calls Tryz.prog 172 #[.slice none 0 0, .int .i64 n] w fun e w' => ∃ u, e = .returned u /\ qt 5 w.heap.size w' u [] /\ Fr [] w w' := by
 by_cases h0 : n = 0
 ·subst h0
  go_enter Tryz.func172, Tryz.ntmps172
  go_wp2
  go_ret
  exact ⟨_, rfl, qt.nil _ _ _, Fr.refl _ _⟩
 ·go_enter Tryz.func172, Tryz.ntmps172
  go_wp2_with (refine Qp (kn := .i64) Tryz.underlying22 Tryz.underlying3 Tryz.infoByte rfl (.tmp 20) (.tmp 21) rfl rfl rfl rfl (qt.nil _ w.heap.size _) ?hl ?hb ?_)
  case hl => simp; omega
  case hb => exact Nat.le_refl _
  intro v' w1 ho hg
  have HF := Hdq (show Fr [] w w1 from qt.fr (qt.nil 5 w.heap.size w) (Fr.refl [] w) hg (Nat.le_refl _))
  obtain ⟨a, cap, rfl, hc, hm, -⟩ := ho.bs (A := fun _ => False) Y85
  rw [List.length_replicate] at ho hc ⊢
  have HO := Hdq (qef ho 0 (Nat.zero_le _))
  unfold maxLen at hm
  clear ho hg
  exact Y7
def RdL (A : Nat -> Prop) (w : World) (v : Value) (ls : List (Value × List UInt8)) : Prop := Vs A w v (ls.map (·.1)) /\ ∀ x ∈ ls, Bs A w x.1 x.2
def cat (ls : List (Value × List UInt8)) : List UInt8 := ls.flatMap (·.2)
theorem Ws (ls : List (Value × List UInt8)) (j : Nat) (x : Value × List UInt8) (h : ls[j]? = some x) : cat (ls.take (j + 1)) = cat (ls.take j) ++ x.2 := by
 unfold cat
 rw [List.take_add_one, h]
 simp
theorem qht (ls : List (Value × List UInt8)) (j : Nat) : (cat (ls.take j)).length <= (cat ls).length := by
 have : cat ls = cat (ls.take j) ++ cat (ls.drop j) := by
  unfold cat
  rw [<- List.flatMap_append, List.take_append_drop]
 rw [this]
 simp
theorem LA (A : Nat -> Prop) (w : World) (v : Value) (ls : List (Value × List UInt8)) (hr : RdL A w v ls) (hl : ls.length <= 1000) (hn : (cat ls).length <= 4000000) :
  Calls Tryz.prog 120 #[v] w fun e w' => ∃ u, e = .returned u /\ qt 5 w.heap.size w' u (cat ls) /\ Fr [] w w' := by
 have HR := Hdq hr
 obtain ⟨a, cap, rfl, h2, h3, h4⟩ := id hr.1
 simp only [List.length_map] at h2 HR ⊢
 obtain ⟨N, hN⟩ := exq (ls.length)
 rw [hN] at h2 hl HR ⊢
 have HN := Hdq hN
 have H4 := Hdq h4
 have HL := Hdq (qht ls)
 obtain ⟨S, hS⟩ := exq ((cat ls).length)
 have HS := Hdq hS
 rw [hS] at hn
 clear hr hN h4 hS
 unfold maxLen at h3
 have HX := Hdq (show ∀ j, j < N -> ∃ x b off, ls[j]? = some x /\ a = some ⟨b, off, none⟩ /\ w.cell? ⟨b, off + j, none⟩ = some x.1 /\ Bs A w x.1 x.2 from fun j hj => by
  obtain ⟨x, hx⟩ : ∃ x, ls[j]? = some x := ⟨_, List.getElem?_eq_getElem Y59⟩
  obtain ⟨b, off, rfl, -, hc⟩ := H4.out.some_of Y56
  refine ⟨x, b, off, hx, rfl, ?_, HR.out.2 x (List.mem_of_getElem? hx)⟩
  rw [hc j Y56]
  simp [hx])
 clear H4
 go_enter Tryz.func120, Tryz.ntmps120
 go_wp2
 go_loopw [3, 11] (fun s i wr => ∃ j : Nat, j <= N /\ i = .int .i64 j /\ s = .int .i64 ((cat (ls.take j)).length : Nat) /\ Hid (wr = w)) (fun _ i _ => N - (intOf i).toNat)
 case atStart => exact ⟨0, by omega, rfl, by simp [cat], rfl⟩
 case round =>
  obtain ⟨j, hj, rfl, rfl, hw⟩ := hrel
  by_cases hjn : j < N
  ·obtain ⟨x, b, off, hx, rfl, hc, hb⟩ := HX.out j hjn
   have hct := Ws ls j x hx
   have hle := HL.out (j + 1)
   rw [hct, List.length_append, HS.out] at hle
   have HCT := Hdq hct
   obtain ⟨ba, bc, hxe, -⟩ := id hb
   obtain ⟨xv, xs⟩ := x
   simp only at hxe hb hle hc
   subst hxe
   obtain ⟨L, hL⟩ := exq ((cat (ls.take j)).length)
   obtain ⟨M, hM⟩ := exq (xs.length)
   rw [hL, hM] at hle
   rw [hL]
   rw [hM] at hc
   have HLM := Hdq (And.intro hL hM)
   have hw' := hw.out.symm
   subst hw'
   clear hct hx hb hL hM hw
   go_wp2
   go_roundw
   case rel => exact ⟨j + 1, by omega, by go_num, by rw [HCT.out, List.length_append, HLM.out.1, HLM.out.2]; go_num, by first | exact rfl | exact trivial⟩
   case measure => simp [intOf]; omega
  ·obtain rfl : N = j := by omega
   have hta : ls.take N = ls := List.take_of_length_le Y59
   rw [hta, HS.out]
   have hw' := hw.out.symm
   subst hw'
   clear hta hw
   go_wp2_with fail
   refine (qdD _ S Y54).mono ?_
   rintro e w1 ⟨u, rfl, ho, hf⟩
   have HO := Hdq ho
   have HF := Hdq hf
   clear ho hf
   go_wp2
   go_loopw [6, 27] (fun o i wr => ∃ j : Nat, j <= N /\ i = .int .i64 j /\ Hid (qt 5 w.heap.size wr o (cat (ls.take j))) /\ Hid (Fr [] w wr)) (fun _ i _ => N - (intOf i).toNat)
   case atStart => exact ⟨0, by omega, rfl, by simp only [cat, List.take_zero, List.flatMap_nil]; exact HO, HF⟩
   case round =>
    obtain ⟨j, hj, rfl, HO, HF⟩ := hrel
    by_cases hjn : j < N
    ·obtain ⟨x, b, off, hx, rfl, hc, hb⟩ := HX.out j hjn
     have hct := Ws ls j x hx
     have hle := HL.out (j + 1)
     rw [hct, List.length_append, HS.out] at hle
     have HCT := Hdq hct
     obtain ⟨ba, bc, hxe, -⟩ := id hb
     obtain ⟨xv, xs⟩ := x
     simp only at hxe hb hle hc
     subst hxe
     have BX := Hdq (hb.keep HF.out Y85)
     have hsz := HF.out.size
     obtain ⟨M, hM⟩ := exq (xs.length)
     have hc2 : wr.cell? ⟨b, off + j, none⟩ = some (.slice ba M bc) := by rw [<- hM]; exact zy HF.out hc
     rw [hM] at BX
     have HM := Hdq hM
     clear hct hx hb hM hc
     go_wp2_with (at_builtin; refine qd (ys := xs) (base := w.heap.size) Tryz.underlying22 Tryz.infoByte rfl (.tmp 31) (.tmp 32) rfl rfl rfl HO.out BX.out Y54 hsz ?_)
     intro v' w2 h5 h6
     have HO3 := Hdq (show qt 5 w.heap.size w2 v' (cat (ls.take (j + 1))) by rw [HCT.out]; exact h5)
     have HF3 := Hdq (show Fr [] w w2 from qt.fr HO.out HF.out h6 (Nat.le_refl _))
     clear h5 h6 HO HF
     go_wp2
     go_roundw
     case rel => exact ⟨j + 1, by omega, by go_num, HO3.out, HF3.out⟩
     case measure => simp [intOf]; omega
    ·obtain rfl : j = N := by omega
     have hta : ls.take j = ls := List.take_of_length_le Y59
     rw [hta] at HO
     clear hta
     exact Y7
end Go.Proofs.YtdloaifdpajcjaaGreatDoor
namespace Go.Proofs.YtdloaifdpajcjaaGreatDoor
open Go.Bl
theorem levelL_32 : ∀ (ds : List Dg), (∀ d ∈ ds, d.length = 32) -> ∀ d ∈ qH ds, d.length = 32
 | [], h, d, hd => by simp [qH] at hd
 | [a], h, d, hd => by simp [qH] at hd; subst hd; exact h _ Y85
 | a :: b :: r, h, d, hd => by
  simp only [qH, List.mem_cons] at hd
  rcases hd with rfl | hd
  ·rfl
  ·exact levelL_32 r (fun x hx => h x (by simp [hx])) d hd
theorem YK : ∀ (n : Nat) (l : List Dg), (∀ d ∈ l, d.length = 32) -> 1 <= l.length -> l.length <= n -> (x8 n l).length = 32
 | 0, l, h, h1, h2 => by omega
 | n + 1, l, h, h1, h2 => by
  unfold x8
  split
  ·match l, h1 with
   | d :: r, _ => exact h d Y85
  ·exact YK n (qH l) (levelL_32 l h) (by rw [ze]; omega) (by rw [ze]; omega)
theorem overL_32 (l : List Dg) (h : ∀ d ∈ l, d.length = 32) (h1 : 1 <= l.length) : (jA l).length = 32 := YK _ l h h1 (Nat.le_refl _)
end Go.Proofs.YtdloaifdpajcjaaGreatDoor
namespace Go.Proofs.YtdloaifdpajcjaaGreatDoor
open Go.RowKit Go.Bl
end Go.Proofs.YtdloaifdpajcjaaGreatDoor
