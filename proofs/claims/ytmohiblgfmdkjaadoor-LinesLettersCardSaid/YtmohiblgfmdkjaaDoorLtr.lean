/-
  Layer 22: letters as they come in; the law's Long.
-/
import Derived.Test.YtmohiblgfmdkjaaDoorRec
import Derived.Test.YtmohiblgfmdkjaaDoorCol
import Derived.Test.YtmohiblgfmdkjaaDoorLeh
namespace Go.Proofs.YtmohiblgfmdkjaaDoor
open Go.RowKit Go.Bl
set_option linter.unusedVariables false
/-- a stored block that is shown -/
structure ShP where
  place : Int
  stored : List UInt8
  path : List (List UInt8)
structure ShV where
  p : ShP
  sv : Value
  pv : Value
def shC (x : ShV) : List Value := [.int .i64 x.p.place, x.sv, x.pv]
def digC (d : List UInt8) : List Value := d.map u8v
/-- what is shown can be read -/
def RdSh (A : Nat → Prop) (w : World) (v : Value) (l : List ShV) : Prop := RdK A 3 w v (l.map shC) ∧ ∀ x ∈ l, Bs A w x.sv x.p.stored ∧ RdK A 32 w x.pv (x.p.path.map digC)
theorem RdSh.keep0 {A : Nat → Prop} {w w' : World} {v : Value} {l : List ShV} (h : RdSh A w v l) (hf : Fr [] w w') : RdSh A w' v l :=
  ⟨h.1.keep0 hf, fun x hx => ⟨(h.2 x hx).1.keep hf (by simp), (h.2 x hx).2.keep0 hf⟩⟩
def longOk (PN SN BN : Nat) (l : List ShV) (bl : List (Value × List UInt8)) : Prop := PN ≤ 100 ∧ SN ≤ 30 ∧ BN ≤ 600 ∧ (∀ x ∈ l, x.p.stored.length ≤ 100 ∧ x.p.path.length ≤ 40) ∧ ∀ b ∈ bl, b.2.length ≤ 100
def longP (w : World) (PN SN BN : Nat) (l : List ShV) (bl : List (Value × List UInt8)) (e : Ending) (w' : World) : Prop := ∃ b, e = .returned (.bool b) ∧ (b = false → longOk PN SN BN l bl) ∧ Fr [] w w'
set_option maxRecDepth 100000 in
set_option maxHeartbeats 8000000 in
theorem long22_any (w : World) (kd id ob fr co cd : Int) (pa sa ba : Option Addr) (PN pc SN sc BN bc : Nat) (l : List ShV) (bl : List (Value × List UInt8)) (hS : RdSh (fun _ => False) w (.slice sa SN sc) l) (hl : l.length = SN) (hB : RdB (fun _ => False) w (.slice ba BN bc) bl) (hbl : bl.length = BN) (hpm : PN ≤ maxLen) (hsm : SN ≤ maxLen) (hbm : BN ≤ maxLen) :
    Calls Tryd.prog 11 #[.agg (letC kd id ob (.slice pa PN pc) (.slice sa SN sc) fr co (.slice ba BN bc) cd)] w (longP w PN SN BN l bl) := by
  suffices H : ∀ Q : Ending → World → Prop, (∀ e w', longP w PN SN BN l bl e w' → Q e w') → Calls Tryd.prog 11 #[.agg (letC kd id ob (.slice pa PN pc) (.slice sa SN sc) fr co (.slice ba BN bc) cd)] w Q from H _ fun _ _ h => h
  intro Q hQ
  have HQ := Lib.hid hQ
  have HS := Lib.hid hS
  have HL := Lib.hid hl
  have HB := Lib.hid hB
  have HBL := Lib.hid hbl
  unfold maxLen at hpm hsm hbm
  have f1 : Fr [] w (w.alloc (.cells (letC kd id ob (.slice pa PN pc) (.slice sa SN sc) fr co (.slice ba BN bc) cd) 40)) := Fr.alloc _ _
  have HF := Lib.hid f1
  have HA := Lib.hid (show At (w.alloc (.cells (letC kd id ob (.slice pa PN pc) (.slice sa SN sc) fr co (.slice ba BN bc) cd) 40)) w.heap.size (.cells (letC kd id ob (.slice pa PN pc) (.slice sa SN sc) fr co (.slice ba BN bc) cd) 40) from At.new rfl)
  obtain ⟨w1, hw1⟩ : ∃ w1, w.alloc (.cells (letC kd id ob (.slice pa PN pc) (.slice sa SN sc) fr co (.slice ba BN bc) cd) 40) = w1 := ⟨_, rfl⟩
  have c3 : w1.cell? ⟨w.heap.size, 3, none⟩ = some (.slice pa PN pc) := by rw [← hw1]; exact HA.out.cell 3
  have c4 : w1.cell? ⟨w.heap.size, 4, none⟩ = some (.slice sa SN sc) := by rw [← hw1]; exact HA.out.cell 4
  have c7 : w1.cell? ⟨w.heap.size, 7, none⟩ = some (.slice ba BN bc) := by rw [← hw1]; exact HA.out.cell 7
  rw [hw1] at HF HA
  clear hQ hS hl hB hbl f1
  by_cases hp : 100 < PN ∨ 30 < SN ∨ 600 < BN
  · have HTR := Lib.hid (show longP w PN SN BN l bl (.returned (.bool true)) w1 from ⟨true, rfl, (fun h => by cases h), HF.out⟩)
    by_cases h1 : 100 < PN
    · have k1 : (100 : Int) < PN := by omega
      go_enter Tryd.func11, Tryd.ntmps11
      go_wp2
      exact HQ.out _ _ HTR.out
    · have k1 : ¬ (100 : Int) < PN := by omega
      by_cases h2 : 30 < SN
      · have k2 : (30 : Int) < SN := by omega
        go_enter Tryd.func11, Tryd.ntmps11
        go_wp2
        exact HQ.out _ _ HTR.out
      · have k2 : ¬ (30 : Int) < SN := by omega
        have k3 : (600 : Int) < BN := by omega
        go_enter Tryd.func11, Tryd.ntmps11
        go_wp2
        exact HQ.out _ _ HTR.out
  · have k1 : ¬ (100 : Int) < PN := by omega
    have k2 : ¬ (30 : Int) < SN := by omega
    have k3 : ¬ (600 : Int) < BN := by omega
    have HP := Lib.hid (show PN ≤ 100 ∧ SN ≤ 30 ∧ BN ≤ 600 by omega)
    clear hp
    go_enter Tryd.func11, Tryd.ntmps11
    go_wp2
    clear hw1
    go_loopw [26] (fun i wr => ∃ k : Nat, k ≤ SN ∧ i = .int .i64 k ∧ Hid (∀ (j : Nat) x, j < k → l[j]? = some x → x.p.stored.length ≤ 100 ∧ x.p.path.length ≤ 40) ∧ Hid (Fr [] w1 wr)) (fun i _ => SN - (intOf i).toNat)
    case atStart => exact ⟨0, by omega, rfl, Lib.hid (fun j x hj => absurd hj (by omega)), Fr.refl _ _⟩
    case round =>
      clear c3 c4 c7
      obtain ⟨k, hk, rfl, HALL, HR⟩ := hrel
      by_cases hkN : k < SN
      · obtain ⟨x, hx⟩ : ∃ x, l[k]? = some x := ⟨_, List.getElem?_eq_getElem (by have := HL.out; omega)⟩
        have hfw := HF.out.trans HR.out
        have hSr := HS.out.keep0 hfw
        obtain ⟨xb, xo, e, -, hrg⟩ := hSr.1.range (by decide) k (shC x) (by rw [List.getElem?_map, hx]; rfl)
        subst e
        obtain ⟨hs1, hs2⟩ := hSr.2 x (List.mem_of_getElem? hx)
        obtain ⟨ta, tc, e1, -, hm1, -⟩ := hs1
        obtain ⟨ua, uc, e2, -, hm2⟩ := hs2.shape
        rw [List.length_map] at e2
        have HRG := Lib.hid hrg
        unfold shC at HRG
        rw [e1, e2] at HRG
        obtain ⟨XN, hXN⟩ : ∃ n, x.p.stored.length = n := ⟨_, rfl⟩
        obtain ⟨YN, hYN⟩ : ∃ n, x.p.path.length = n := ⟨_, rfl⟩
        obtain ⟨XP, hXP⟩ : ∃ n, x.p.place = n := ⟨_, rfl⟩
        have HXY := Lib.hid (And.intro hXN hYN)
        rw [hXN, hYN, hXP] at HRG
        have HXX := Lib.hid hx
        have hki : (k : Int) < SN := by omega
        clear hx hfw hSr hrg hs2 e1 e2 hXN hYN hXP hm1 hm2
        have HF2 := Lib.hid (HR.out.trans (show Fr [] wr (wr.alloc (.cells #[.int .i64 XP, .slice ta XN tc, .slice ua YN uc] 114)) from Fr.alloc _ _))
        by_cases h1 : 100 < XN
        · have q1 : (100 : Int) < XN := by omega
          go_wp2_with (first | (refine wpl_load_k (.tmp 28) rfl rfl xb (xo + k * 3) [.int .i64 XP, .slice ta XN tc, .slice ua YN uc] rfl HRG.out Tryd.underlying114 rfl (by kernel_rfl) ?_) | (refine wpl_store_new (.tmp 4) (.tmp 29) rfl rfl #[.int .i64 XP, .slice ta XN tc, .slice ua YN uc] rfl rfl (by kernel_rfl) rfl (by rfl) ?_))
          exact HQ.out _ _ ⟨true, rfl, (fun h => by cases h), HF.out.trans HF2.out⟩
        · have q1 : ¬ (100 : Int) < XN := by omega
          by_cases h2 : 40 < YN
          · have q2 : (40 : Int) < YN := by omega
            go_wp2_with (first | (refine wpl_load_k (.tmp 28) rfl rfl xb (xo + k * 3) [.int .i64 XP, .slice ta XN tc, .slice ua YN uc] rfl HRG.out Tryd.underlying114 rfl (by kernel_rfl) ?_) | (refine wpl_store_new (.tmp 4) (.tmp 29) rfl rfl #[.int .i64 XP, .slice ta XN tc, .slice ua YN uc] rfl rfl (by kernel_rfl) rfl (by rfl) ?_))
            exact HQ.out _ _ ⟨true, rfl, (fun h => by cases h), HF.out.trans HF2.out⟩
          · have q2 : ¬ (40 : Int) < YN := by omega
            have HALL2 := Lib.hid (show ∀ (j : Nat) y, j < k + 1 → l[j]? = some y → y.p.stored.length ≤ 100 ∧ y.p.path.length ≤ 40 from fun j y hj hy => by
              rcases Nat.lt_or_ge j k with h | h
              · exact HALL.out j y h hy
              · obtain rfl : j = k := by omega
                rw [HXX.out] at hy
                cases hy
                have := HXY.out
                omega)
            clear HALL
            go_wp2_with (first | (refine wpl_load_k (.tmp 28) rfl rfl xb (xo + k * 3) [.int .i64 XP, .slice ta XN tc, .slice ua YN uc] rfl HRG.out Tryd.underlying114 rfl (by kernel_rfl) ?_) | (refine wpl_store_new (.tmp 4) (.tmp 29) rfl rfl #[.int .i64 XP, .slice ta XN tc, .slice ua YN uc] rfl rfl (by kernel_rfl) rfl (by rfl) ?_))
            go_roundw
            case rel => exact ⟨k + 1, by omega, by go_num, HALL2, HF2⟩
            case measure => simp [intOf]; omega
      · obtain rfl : k = SN := by omega
        have hki : ¬ (k : Int) < k := by omega
        have HSH := Lib.hid (show ∀ x ∈ l, x.p.stored.length ≤ 100 ∧ x.p.path.length ≤ 40 from fun x hx => by
          obtain ⟨j, hj⟩ := List.mem_iff_getElem?.1 hx
          exact HALL.out j x (by have := (List.getElem?_eq_some_iff.1 hj).1; have := HL.out; omega) hj)
        have c7 : wr.cell? ⟨w.heap.size, 7, none⟩ = some (.slice ba BN bc) := (HA.out.keep0 HR.out).cell 7
        obtain ⟨w2, rfl⟩ : ∃ w2, w2 = wr := ⟨wr, rfl⟩
        clear HALL
        go_wp2
        go_loopw [44] (fun i wz => ∃ k : Nat, k ≤ BN ∧ i = .int .i64 k ∧ Hid (∀ (j : Nat) x, j < k → bl[j]? = some x → x.2.length ≤ 100) ∧ w2 = wz) (fun i _ => BN - (intOf i).toNat)
        case atStart => exact ⟨0, by omega, rfl, Lib.hid (fun j x hj => absurd hj (by omega)), rfl⟩
        case round =>
          obtain ⟨q, hq, rfl, HAB, rfl⟩ := hrel
          by_cases hqN : q < BN
          · obtain ⟨x, hx⟩ : ∃ x, bl[q]? = some x := ⟨_, List.getElem?_eq_getElem (by have := HBL.out; omega)⟩
            obtain ⟨xb, xo, e, hc1, hc2⟩ := rdb_cell (HB.out.keep (HF.out.trans HR.out) (by simp)) q x hx
            subst e
            obtain ⟨ta, tc, e1, -, -, -⟩ := hc2
            rw [e1] at hc1
            obtain ⟨XN, hXN⟩ : ∃ n, x.2.length = n := ⟨_, rfl⟩
            have HXN := Lib.hid hXN
            rw [hXN] at hc1
            have HXX := Lib.hid hx
            have hqi : (q : Int) < BN := by omega
            clear hx e1 hXN c7
            by_cases h1 : 100 < XN
            · have q1 : (100 : Int) < XN := by omega
              go_wp2
              exact HQ.out _ _ ⟨true, rfl, (fun h => by cases h), HF.out.trans HR.out⟩
            · have q1 : ¬ (100 : Int) < XN := by omega
              have HAB2 := Lib.hid (show ∀ (j : Nat) y, j < q + 1 → bl[j]? = some y → y.2.length ≤ 100 from fun j y hj hy => by
                rcases Nat.lt_or_ge j q with h | h
                · exact HAB.out j y h hy
                · obtain rfl : j = q := by omega
                  rw [HXX.out] at hy
                  cases hy
                  have := HXN.out
                  omega)
              clear HAB
              go_wp2
              go_roundw
              case rel => exact ⟨q + 1, by omega, by go_num, HAB2, trivial⟩
              case measure => simp [intOf]; omega
          · obtain rfl : q = BN := by omega
            have hqi : ¬ (q : Int) < q := by omega
            have HSB := Lib.hid (show ∀ x ∈ bl, x.2.length ≤ 100 from fun x hx => by
              obtain ⟨j, hj⟩ := List.mem_iff_getElem?.1 hx
              exact HAB.out j x (by have := (List.getElem?_eq_some_iff.1 hj).1; have := HBL.out; omega) hj)
            clear HAB
            go_wp2
            exact HQ.out _ _ ⟨false, rfl, fun _ => ⟨HP.out.1, HP.out.2.1, HP.out.2.2, HSH.out, HSB.out⟩, HF.out.trans HR.out⟩
end Go.Proofs.YtmohiblgfmdkjaaDoor
