import Derived.Test.YtmohiblgfmdkjaaGreatDoorGK
import Derived.Test.YtmohiblgfmdkjaaGreatDoorPwr
import Derived.Test.YtmohiblgfmdkjaaGreatDoorJN
namespace Go.Proofs.YtmohiblgfmdkjaaGreatDoor
open Go.RowKit Go.Bl
set_option linter.unusedVariables false
def eraBad (n : Int) (l : List Int) : Nat := if 33 ≤ n ∧ n ≤ 255 then (if ∀ p ∈ l, 0 ≤ p ∧ p < n then (if l.Nodup then (if l.length ≤ 32 then 0 else 16) else 10) else 1) else 8
def eraV (n : Int) (l : List Int) : List UInt8 := l.map fun p => plX n.toNat p.toNat
theorem era_8 {n : Int} {l : List Int} (h : ¬ (33 ≤ n ∧ n ≤ 255)) : eraBad n l = 8 := by unfold eraBad; rw [if_neg h]
theorem era_1 {n : Int} {l : List Int} {i : Nat} {p : Int} (h : 33 ≤ n ∧ n ≤ 255) (hi : l[i]? = some p) (hp : ¬ (0 ≤ p ∧ p < n)) : eraBad n l = 1 := by
  unfold eraBad
  rw [if_pos h, if_neg (fun h => hp (h p (List.mem_of_getElem? hi)))]
theorem era_ok {n : Int} {l : List Int} (h : ∀ j, j < l.length → ∀ p, l[j]? = some p → 0 ≤ p ∧ p < n) : ∀ p ∈ l, 0 ≤ p ∧ p < n := fun p hp => by
  obtain ⟨j, hj, e⟩ := List.mem_iff_getElem.1 hp
  exact h j hj p (by rw [List.getElem?_eq_getElem hj, e])
theorem era_10 {n : Int} {l : List Int} (h : 33 ≤ n ∧ n ≤ 255) (hok : ∀ p ∈ l, 0 ≤ p ∧ p < n) (hd : ¬ l.Nodup) : eraBad n l = 10 := by unfold eraBad; rw [if_pos h, if_pos hok, if_neg hd]
theorem era_16 {n : Int} {l : List Int} (h : 33 ≤ n ∧ n ≤ 255) (hok : ∀ p ∈ l, 0 ≤ p ∧ p < n) (hd : l.Nodup) (hl : ¬ l.length ≤ 32) : eraBad n l = 16 := by unfold eraBad; rw [if_pos h, if_pos hok, if_pos hd, if_neg hl]
theorem era_0 {n : Int} {l : List Int} (h : 33 ≤ n ∧ n ≤ 255) (hok : ∀ p ∈ l, 0 ≤ p ∧ p < n) (hd : l.Nodup) (hl : l.length ≤ 32) : eraBad n l = 0 := by unfold eraBad; rw [if_pos h, if_pos hok, if_pos hd, if_pos hl]
theorem nodup_two {l : List Int} {i j : Nat} {p : Int} (hij : j < i) (hi : l[i]? = some p) (hj : l[j]? = some p) : ¬ l.Nodup := fun hd => by
  obtain ⟨h1, e1⟩ := List.getElem?_eq_some_iff.1 hi
  obtain ⟨h2, e2⟩ := List.getElem?_eq_some_iff.1 hj
  exact (List.pairwise_iff_getElem.1 hd j i h2 h1 hij) (by rw [e1, e2])
theorem nodup_up {l : List Int} {i : Nat} {p : Int} (hd : (l.take i).Nodup) (hi : l[i]? = some p) (hn : ∀ j, j < i → l[j]? ≠ some p) : (l.take (i + 1)).Nodup := by
  rw [List.take_add_one, hi]
  refine List.nodup_append.2 ⟨hd, by simp, ?_⟩
  intro x hx y hy
  simp at hy
  subst hy
  intro e
  subst e
  obtain ⟨j, hj, e⟩ := List.mem_iff_getElem.1 hx
  rw [List.length_take] at hj
  refine hn j (by omega) ?_
  rw [← e, List.getElem_take]
  exact List.getElem?_eq_getElem (by omega)
theorem eraV_take (n : Int) (l : List Int) (i : Nat) (p : Int) (h : l[i]? = some p) : eraV n (l.take (i + 1)) = eraV n (l.take i) ++ [plX n.toNat p.toNat] := by
  unfold eraV
  rw [List.take_add_one, h]
  simp
theorem is_cell {A : Nat → Prop} {w : World} {a : Option Addr} {n cap : Nat} {l : List Int} (h : Is A w (.slice a n cap) l) (j : Nat) (x : Int) (hx : l[j]? = some x) :
    ∃ b off, a = some ⟨b, off, none⟩ ∧ w.cell? ⟨b, off + j, none⟩ = some (.int .i64 x) := by
  obtain ⟨a', cap', e, -, -, hh⟩ := h.shape
  cases e
  obtain ⟨hj, e⟩ := List.getElem?_eq_some_iff.1 hx
  obtain ⟨b, off, rfl, -, hc⟩ := hh (by omega)
  exact ⟨b, off, rfl, by rw [hc j hj, List.getD_eq_getElem?_getD, hx]; rfl⟩
theorem r3power_i (w : World) (n p : Int) (h1 : 0 ≤ n) (h2 : n ≤ 255) (h0 : 0 ≤ p) (hp : p < n) : Calls Tryz.prog 56 #[.int .i64 n, .int .i64 p] w fun e w' => e = .returned (.int .u8 ((plX n.toNat p.toNat).toNat : Int)) ∧ Fr [] w w' := by
  have h := r3power_any w n.toNat p.toNat (by omega) (by omega)
  rwa [Int.toNat_of_nonneg h1, Int.toNat_of_nonneg h0] at h
set_option maxRecDepth 100000 in
set_option maxHeartbeats 4000000 in
theorem rera_any (w : World) (v : Value) (n : Int) (l : List Int) (hv : Is (fun _ => False) w v l) (hl : l.length ≤ 1000) :
    Calls Tryz.prog 24 #[.int .i64 n, v] w fun e w' => ∃ (u : Value) (k : Nat), e = .returned (.tuple #[u, .int .i64 (k : Int)]) ∧ k = eraBad n l ∧ OwnB 5 w.heap.size w' u (if k = 0 then pinvs (eraV n l) else []) ∧ Fr [] w w' := by
  have HV := Lib.hid hv
  obtain ⟨a, cap, rfl, h2, h3, -⟩ := hv.shape
  unfold maxLen at h3
  obtain ⟨N, hN⟩ : ∃ N, l.length = N := ⟨_, rfl⟩
  have HN := Lib.hid hN
  have HE1 := Lib.hid (fun i p => @era_1 n l i p)
  have HE10 := Lib.hid (@era_10 n l)
  have HE16 := Lib.hid (@era_16 n l)
  have HE0 := Lib.hid (@era_0 n l)
  have HOK := Lib.hid (@era_ok n l)
  rw [hN] at HV h2 hl HE16 HE0 HOK ⊢
  clear hN hv
  have HNIL := Lib.hid (OwnB.nil 5 w.heap.size w)
  by_cases hsz : 33 ≤ n ∧ n ≤ 255
  · obtain ⟨hn1, hn2⟩ := hsz
    have hd : decide (33 ≤ n ∧ n ≤ 255) = true := decide_eq_true ⟨hn1, hn2⟩
    have HSZ := Lib.hid (r3sized_any w n)
    rw [hd] at HSZ
    have HNN := Lib.hid (show 33 ≤ n ∧ n ≤ 255 from ⟨hn1, hn2⟩)
    clear hd
    obtain ⟨K, hK⟩ : ∃ K, eraBad n l = K := ⟨_, rfl⟩
    rw [hK] at HE1 HE10 HE16 HE0 ⊢
    clear hK
    go_enter Tryz.func24, Tryz.ntmps24
    go_wp2_with (go_at_call 54; fail)
    refine HSZ.out.mono ?_
    rintro e w1 ⟨rfl, rfl⟩
    go_wp2
    go_loopw [20] (fun x wr => ∃ i : Nat, i ≤ N ∧ x = .int .i64 i ∧ Hid (∀ j, j < i → ∀ p, l[j]? = some p → 0 ≤ p ∧ p < n) ∧ wr = w1) (fun x _ => N - (intOf x).toNat)
    case atStart => exact ⟨0, Nat.zero_le _, rfl, Lib.hid (by intro j hj; omega), rfl⟩
    case round =>
      obtain ⟨i, hi, rfl, HI, rfl⟩ := hrel
      by_cases hin : i < N
      · have hini : (i : Int) < N := by omega
        obtain ⟨p, hp⟩ : ∃ p, l[i]? = some p := ⟨_, List.getElem?_eq_getElem (by have := HN.out; omega)⟩
        obtain ⟨b, off, rfl, hc⟩ := is_cell HV.out i p hp
        have HPI := Lib.hid hp
        clear hp
        by_cases hp0 : p < 0
        · have HK := Lib.hid (HE1.out _ _ HNN.out HPI.out (by omega))
          go_wp2
          go_ret2
          exact ⟨_, 1, rfl, HK.out.symm, HNIL.out, Fr.refl _ _⟩
        · by_cases hpn : n ≤ p
          · have HK := Lib.hid (HE1.out _ _ HNN.out HPI.out (by omega))
            go_wp2
            go_ret2
            exact ⟨_, 1, rfl, HK.out.symm, HNIL.out, Fr.refl _ _⟩
          · go_wp2
            go_roundw
            case rel => exact ⟨i + 1, by omega, by go_num, Lib.hid (fun j hj q hq => by
              rcases Nat.lt_or_ge j i with h | h
              · exact HI.out j h q hq
              · obtain rfl : j = i := by omega
                rw [HPI.out] at hq
                cases hq
                omega), by first | rfl | trivial⟩
            case measure => simp [intOf]; omega
      · have hini : ¬ (i : Int) < N := by omega
        have HALL := Lib.hid (HOK.out (fun j hj => HI.out j (by omega)))
        clear HI HE1 HOK
        go_wp2
        go_loopw [34] (fun x wz => ∃ i : Nat, i ≤ N ∧ x = .int .i64 i ∧ Hid ((l.take i).Nodup) ∧ wz = wr) (fun x _ => N - (intOf x).toNat)
        case atStart => exact ⟨0, Nat.zero_le _, rfl, Lib.hid (by simp), rfl⟩
        case round =>
          obtain ⟨i2, hi2, rfl, HD, rfl⟩ := hrel
          clear hini hi
          by_cases hin : i2 < N
          · have hini : (i2 : Int) < N := by omega
            obtain ⟨p, hp⟩ : ∃ p, l[i2]? = some p := ⟨_, List.getElem?_eq_getElem (by have := HN.out; omega)⟩
            obtain ⟨b, off, rfl, hc⟩ := is_cell HV.out i2 p hp
            have HPI := Lib.hid hp
            have hic : i2 ≤ cap := by omega
            clear hp
            go_wp2
            go_loopw [43] (fun x wz => ∃ j : Nat, j ≤ i2 ∧ x = .int .i64 j ∧ Hid (∀ k, k < j → l[k]? ≠ some p) ∧ wz = wr) (fun x _ => i2 - (intOf x).toNat)
            case atStart => exact ⟨0, Nat.zero_le _, rfl, Lib.hid (by intro k hk; omega), rfl⟩
            case round =>
              obtain ⟨j, hj, rfl, HJ, rfl⟩ := hrel
              clear hc
              by_cases hji : j < i2
              · have hjii : (j : Int) < i2 := by omega
                obtain ⟨q, hq⟩ : ∃ q, l[j]? = some q := ⟨_, List.getElem?_eq_getElem (by have := HN.out; omega)⟩
                obtain ⟨b', off', e, hc⟩ := is_cell HV.out j q hq
                cases e
                have HQI := Lib.hid hq
                clear hq
                by_cases hpq : p = q
                · have hpb : (p == q) = true := by simpa using hpq
                  have HK := Lib.hid (HE10.out HNN.out HALL.out (nodup_two hji HPI.out (by rw [hpq]; exact HQI.out)))
                  clear hpq
                  go_wp2
                  go_ret2
                  exact ⟨_, 10, rfl, HK.out.symm, HNIL.out, Fr.refl _ _⟩
                · have hpb : (p == q) = false := by simpa using hpq
                  have HNE := Lib.hid hpq
                  clear hpq
                  go_wp2
                  go_roundw
                  case rel => exact ⟨j + 1, by omega, by go_num, Lib.hid (fun k hk => by
                    rcases Nat.lt_or_ge k j with h | h
                    · exact HJ.out k h
                    · obtain rfl : k = j := by omega
                      rw [HQI.out]
                      intro e
                      cases e
                      exact HNE.out rfl), by first | rfl | trivial⟩
                  case measure => simp [intOf]; omega
              · have hjii : ¬ (j : Int) < i2 := by omega
                have HD2 := Lib.hid (nodup_up HD.out HPI.out (fun k hk => HJ.out k (by omega)))
                clear HD HJ
                go_wp2
                go_roundw
                case rel => exact ⟨i2 + 1, by omega, by go_num, HD2, by first | rfl | trivial⟩
                case measure => simp [intOf]; omega
          · have hini : ¬ (i2 : Int) < N := by omega
            have HND := Lib.hid (show l.Nodup by have h := HD.out; rwa [List.take_of_length_le (by have := HN.out; omega)] at h)
            clear HD HE10
            by_cases hl32 : N ≤ 32
            · have hli : ¬ (32 : Int) < N := by omega
              have HK := Lib.hid (HE0.out HNN.out HALL.out HND.out hl32)
              have hb1 := Fr.alloc (S := []) wr (.cells #[.int .u8 1] 5)
              have HO1 := Lib.hid (show OwnB 5 wr.heap.size (wr.alloc (.cells #[.int .u8 1] 5)) (.slice (some ⟨wr.heap.size, 0, none⟩) 1 1) (pinvs (eraV n (l.take 0))) from World.ownsRow_lit (size := 1) wr #[.int .u8 1] 1 (Nat.le_refl _) (by decide) rfl)
              have HF1 := Lib.hid hb1
              obtain ⟨B, hB⟩ : ∃ B, wr.heap.size = B := ⟨_, rfl⟩
              have HB := Lib.hid hB
              clear hb1 HE0 HE16
              go_wp2
              go_loopw [12, 58] (fun o x wz => ∃ i : Nat, i ≤ N ∧ x = .int .i64 i ∧ Hid (OwnB 5 B wz o (pinvs (eraV n (l.take i)))) ∧ Hid (Fr [] wr wz)) (fun _ x _ => N - (intOf x).toNat)
              case atStart => exact ⟨0, Nat.zero_le _, rfl, by rw [← HB.out]; exact HO1, HF1⟩
              case round =>
                obtain ⟨i3, hi3, rfl, HO, HF⟩ := hrel
                obtain ⟨wl, rfl⟩ : ∃ wl, wl = wr := ⟨wr, rfl⟩
                clear HO1 HF1
                by_cases hin : i3 < N
                · have hini : (i3 : Int) < N := by omega
                  obtain ⟨p, hp⟩ : ∃ p, l[i3]? = some p := ⟨_, List.getElem?_eq_getElem (by have := HN.out; omega)⟩
                  obtain ⟨b, off, rfl, hc⟩ := is_cell (HV.out.keep HF.out (by simp)) i3 p hp
                  have hpp := HALL.out p (List.mem_of_getElem? hp)
                  have HPW := Lib.hid (fun w => r3power_i w n p (by omega) hn2 hpp.1 hpp.2)
                  have HTK := Lib.hid (show pmul (pinvs (eraV n (l.take i3))) [1, plX n.toNat p.toNat] = pinvs (eraV n (l.take (i3 + 1))) by rw [eraV_take n l i3 p hp, pinvs_snoc])
                  have HLN := Lib.hid (show (pinvs (eraV n (l.take i3))).length ≤ 100 by
                    have h := pinvs_len (eraV n l) i3
                    have e : (eraV n l).take i3 = eraV n (l.take i3) := by unfold eraV; rw [List.map_take]
                    rw [e] at h
                    omega)
                  obtain ⟨c, hc2⟩ : ∃ c, plX n.toNat p.toNat = c := ⟨_, rfl⟩
                  rw [hc2] at HPW HTK
                  clear hp hpp hc2
                  go_wp2_with (go_at_call 56; fail)
                  refine (HPW.out wl).mono ?_
                  rintro e w3 ⟨rfl, hf3⟩
                  have HF3 := Lib.hid (HF.out.trans hf3)
                  have HO3 := Lib.hid (HO.out.keep hf3 (by simp))
                  have HB3 := Lib.hid (show B ≤ w3.heap.size by rw [← HB.out]; exact HF3.out.size)
                  have hb2 : Bs (fun _ => False) (w3.alloc (.cells #[.int .u8 1, .int .u8 (c.toNat : Int)] 5)) (.slice (some ⟨w3.heap.size, 0, none⟩) 2 2) [1, c] := ⟨_, 2, rfl, by simp, by simp [maxLen], Row.of_block (heap_alloc_at rfl) (by simp)⟩
                  have HMU := Lib.hid (rdmul_any (w3.alloc (.cells #[.int .u8 1, .int .u8 (c.toNat : Int)] 5)) _ _ _ [1, c] ((HO3.out.keep (Fr.alloc (S := []) w3 (.cells #[.int .u8 1, .int .u8 (c.toNat : Int)] 5)) (by simp)).bs (by simp)) hb2 (by have := HLN.out; omega) (by simp))
                  rw [HTK.out] at HMU
                  clear hf3 hc HPW HF HO hb2 HTK HLN
                  go_wp2_with (go_at_call 55; fail)
                  refine HMU.out.mono ?_
                  rintro e w4 ⟨u, rfl, ho4, hf4⟩
                  have HO4 := Lib.hid (ho4.base (base' := B) (by have := HB3.out; simp; omega))
                  have HF4 := Lib.hid ((HF3.out.trans (Fr.alloc _ _)).trans hf4)
                  clear ho4 hf4 HF3 HO3 HMU HB3
                  go_wp2
                  go_roundw
                  case rel => exact ⟨i3 + 1, by omega, by go_num, HO4, HF4⟩
                  case measure => simp [intOf]; omega
                · have hini : ¬ (i3 : Int) < N := by omega
                  have HOE := Lib.hid (show OwnB 5 B wl _ (pinvs (eraV n l)) by have h := HO.out; rwa [List.take_of_length_le (by have := HN.out; omega)] at h)
                  clear HO
                  go_wp2
                  go_ret2
                  exact ⟨_, 0, rfl, HK.out.symm, by rw [if_pos rfl]; exact HOE.out, HF.out⟩
            · have hli : (32 : Int) < N := by omega
              have HK := Lib.hid (HE16.out HNN.out HALL.out HND.out hl32)
              go_wp2
              go_ret2
              exact ⟨_, 16, rfl, HK.out.symm, HNIL.out, Fr.refl _ _⟩
  · have hd : decide (33 ≤ n ∧ n ≤ 255) = false := decide_eq_false hsz
    have HSZ := Lib.hid (r3sized_any w n)
    rw [hd] at HSZ
    rw [era_8 hsz]
    clear hd hsz
    go_enter Tryz.func24, Tryz.ntmps24
    go_wp2_with (go_at_call 54; fail)
    refine HSZ.out.mono ?_
    rintro e w1 ⟨rfl, rfl⟩
    go_wp2
    go_ret2
    exact ⟨_, 8, rfl, rfl, HNIL.out, Fr.refl _ _⟩
end Go.Proofs.YtmohiblgfmdkjaaGreatDoor
