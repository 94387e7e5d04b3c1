/-
  Layer 2: poly.Eval and poly.Slope.
  Layer 2: slices.Backward over bytes, for a loop whose body writes what lay ahead of it.
  Layer 2: poly.Eval: a polynomial's value.
  Layer 5: repair.inverse, Search, Amount; code.Quiet, Right.
-/
import Derived.Test.YtmohiblgfmdkjaaDoorJN
import Derived.Test.YtmohiblgfmdkjaaDoorGF
import Derived.Test.YtmohiblgfmdkjaaDoorGQ
import Derived.Test.YtmohiblgfmdkjaaDoorGK
import Derived.Test.YtmohiblgfmdkjaaDoorGO
import Derived.RangeFuncCalls
import Derived.RangeFuncWrites
import Derived.Test.YtmohiblgfmdkjaaDoorJP
import Derived.Test.YtmohiblgfmdkjaaDoorPwr
import Derived.Test.YtmohiblgfmdkjaaDoorHF
import Derived.Test.YtmohiblgfmdkjaaDoorGM
import Derived.Test.YtmohiblgfmdkjaaDoorGB
namespace Go.Proofs.YtmohiblgfmdkjaaDoor
open Go.RowKit Go.Bl Go.Shelf
set_option linter.unusedVariables false
attribute [local go_sem] Oper.semAt_some
/-- the value behind k rounds from the end -/
def hornK (zs : List UInt8) (x : UInt8) (k : Nat) : UInt8 := pev (zs.drop (zs.length - k)) x
theorem hornK_zero (zs : List UInt8) (x : UInt8) : hornK zs x 0 = 0 := by
  unfold hornK
  rw [Nat.sub_zero, List.drop_length]; rfl
theorem hornK_end (zs : List UInt8) (x : UInt8) : hornK zs x zs.length = pev zs x := by
  unfold hornK
  rw [Nat.sub_self, List.drop_zero]
theorem hornK_step (zs : List UInt8) (x : UInt8) (k : Nat) (h : k < zs.length) : hornK zs x (k + 1) = gmul (hornK zs x k) x ^^^ zs.getD (zs.length - 1 - k) 0 := by
  unfold hornK
  have hi : zs.length - (k + 1) < zs.length := by omega
  have e : zs[zs.length - (k + 1)]? = some (zs.getD (zs.length - 1 - k) 0) := by
    rw [show zs.length - 1 - k = zs.length - (k + 1) by omega, List.getD_eq_getElem?_getD, List.getElem?_eq_getElem hi]; rfl
  rw [pev_drop zs x _ _ e, show zs.length - (k + 1) + 1 = zs.length - k by omega, UInt8.xor_comm, gmul_comm]
set_option maxRecDepth 100000 in
set_option maxHeartbeats 2000000 in
theorem slope_any (A : Nat → Prop) (w : World) (v : Value) (ps : List UInt8) (hb : Bs A w v ps) (hl : ps.length ≤ 1000) : Calls Tryd.prog 114 #[v] w fun e w' => ∃ u, e = .returned u ∧ OwnB 5 w.heap.size w' u (ptrim (slp ps)) ∧ Fr [] w w' := by
  have HB := Lib.hid hb
  obtain ⟨a, cap, rfl, h2, h3, -⟩ := id hb
  unfold maxLen at h3
  obtain ⟨N, hN⟩ : ∃ N, ps.length = N := ⟨_, rfl⟩
  have HN := Lib.hid hN
  rw [hN] at HB h2 hl ⊢
  have HT := Lib.hid (show ∀ k, N ≤ k + 1 → ptrim ((slp ps).take k) = ptrim (slp ps) from fun k hk => ptrim_ext fun j => by
    rw [cf_take]
    by_cases h : j < k
    · rw [if_pos h]
    · rw [if_neg h, slp_cf, cf_ge (p := ps) (by omega)]; simp)
  have HL := Lib.hid (show (slp ps).length = N by unfold slp; simp [hN])
  have HST := Lib.hid (show ∀ k c, ps[k + 1]? = some c → (slp ps).take (k + 1) = (slp ps).take k ++ [if k % 2 = 0 then c else 0] from fun k c hc => by
    have hk := (List.getElem?_eq_some_iff.1 hc).1
    rw [List.take_add_one]
    congr 1
    have e : (slp ps)[k]? = some (cf (slp ps) k) := get_cf (by unfold slp; simp; omega)
    rw [e, slp_cf, cf_get hc]; rfl)
  obtain ⟨S, hS⟩ : ∃ S, slp ps = S := ⟨_, rfl⟩
  rw [hS] at HT HL HST ⊢
  clear hN hb hS
  go_enter Tryd.func114, Tryd.ntmps114
  go_wp2
  go_loopw [3, 4] (fun o i wr => ∃ k : Nat, (k = 0 ∨ k + 1 ≤ N) ∧ i = .int .i64 ((k + 1 : Nat) : Int) ∧ Hid (OwnB 5 w.heap.size wr o (S.take k)) ∧ Hid (Fr [] w wr)) (fun _ i _ => N - (intOf i).toNat)
  case atStart => exact ⟨0, .inl rfl, rfl, by rw [List.take_zero]; exact OwnB.nil _ _ _, Fr.refl _ _⟩
  case round =>
    obtain ⟨k, hk, rfl, HO, HF⟩ := hrel
    obtain ⟨wl, rfl⟩ : ∃ wl, wl = wr := ⟨wr, rfl⟩
    by_cases hkn : k + 1 < N
    · have hki : ((k + 1 : Nat) : Int) < N := by omega
      obtain ⟨c, hc⟩ : ∃ c, ps[k + 1]? = some c := ⟨_, List.getElem?_eq_getElem (by have := HN.out; omega)⟩
      obtain ⟨b, off, rfl, hcd⟩ := bs_cell HB.out (k + 1) c hc
      have hcx := cell_mono HF.out hcd
      have HS := Lib.hid (HST.out k c hc)
      have HTL := Lib.hid (show (S.take k).length ≤ 1000 by rw [List.length_take]; omega)
      have HSZ := Lib.hid HF.out.size
      obtain ⟨K, hK⟩ : ∃ K, k + 1 = K := ⟨_, rfl⟩
      have HK := Lib.hid hK
      rw [hK] at hki hcx ⊢
      clear hc hcd
      by_cases hod : k % 2 = 0
      · rw [if_pos hod] at HS
        have hmod : ¬ (K : Int) % 2 = 0 := by omega
        have hmod2 : ¬ K % 2 = 0 := by omega
        have fa : Fr [] wl (wl.alloc (.cells #[.int .u8 (c.toNat : Int)] 5)) := Fr.alloc _ _
        have HO2 := Lib.hid (HO.out.keep fa (by simp))
        have HF2 := Lib.hid (HF.out.trans fa)
        have HSZ2 := Lib.hid (show w.heap.size ≤ (wl.alloc (.cells #[.int .u8 (c.toNat : Int)] 5)).heap.size by have := HSZ.out; simp; omega)
        clear fa HO HF hod hK hk hkn
        go_wp2_with (at_builtin; refine wpl_append_b (c := c) Tryd.underlying22 Tryd.infoByte rfl (.tmp 19) (.tmp 21) rfl rfl rfl (At.new rfl) HO2.out (by have := HTL.out; omega) HSZ2.out ?_)
        intro v5 w5 h5 g5
        rw [← HS.out] at h5
        have HO5 := Lib.hid h5
        have HF5 := Lib.hid (OwnB.fr HO2.out HF2.out g5 (Nat.le_refl _))
        clear h5 g5 HO2 HF2 HSZ2
        go_wp2
        go_roundw
        case rel => exact ⟨k + 1, .inr (by have := HK.out; omega), by rw [HK.out]; go_num, HO5, HF5⟩
        case measure => simp [intOf]; omega
      · rw [if_neg hod] at HS
        have hmod : (K : Int) % 2 = 0 := by omega
        have hmod2 : K % 2 = 0 := by omega
        have fa : Fr [] wl (wl.alloc (.cells #[.int .u8 0] 5)) := Fr.alloc _ _
        have HO2 := Lib.hid (HO.out.keep fa (by simp))
        have HF2 := Lib.hid (HF.out.trans fa)
        have HSZ2 := Lib.hid (show w.heap.size ≤ (wl.alloc (.cells #[.int .u8 0] 5)).heap.size by have := HSZ.out; simp; omega)
        clear fa HO HF hod hK hk hkn
        go_wp2_with (at_builtin; refine wpl_append_b (c := 0) Tryd.underlying22 Tryd.infoByte rfl (.tmp 19) (.tmp 21) rfl rfl rfl (At.new rfl) HO2.out (by have := HTL.out; omega) HSZ2.out ?_)
        intro v5 w5 h5 g5
        rw [← HS.out] at h5
        have HO5 := Lib.hid h5
        have HF5 := Lib.hid (OwnB.fr HO2.out HF2.out g5 (Nat.le_refl _))
        clear h5 g5 HO2 HF2 HSZ2
        go_wp2
        go_roundw
        case rel => exact ⟨k + 1, .inr (by have := HK.out; omega), by rw [HK.out]; go_num, HO5, HF5⟩
        case measure => simp [intOf]; omega
    · have hki : ¬ ((k + 1 : Nat) : Int) < N := by omega
      have HTR := Lib.hid (trim_own wl w.heap.size _ (S.take k) HO.out (by rw [List.length_take]; omega))
      have hts := HT.out k (by omega)
      rw [hts] at HTR
      have HSZ := Lib.hid HF.out.size
      clear hts HO
      go_wp2_with (go_at_call 108; fail)
      refine HTR.out.mono ?_
      rintro e w5 ⟨u, rfl, ho, hf⟩
      have HO5 := Lib.hid (ho.base HSZ.out)
      have HF5 := Lib.hid (HF.out.trans hf)
      clear ho hf HTR
      go_wp2
      go_ret
      exact ⟨_, rfl, HO5.out, HF5.out⟩
end Go.Proofs.YtmohiblgfmdkjaaDoor
namespace Go.Proofs.YtmohiblgfmdkjaaDoor
open Go.RowKit Go.Bl Go.Shelf
set_option linter.unusedVariables false
attribute [local go_sem] Oper.semAt_some
/-- the blocks of K stay -/
def KeepK (K : List Nat) (A B : World) : Prop := ∀ g ∈ K, ∀ o, A.heap[g]? = some o → B.heap[g]? = some o
theorem KeepK.refl (K : List Nat) (A : World) : KeepK K A A := fun _ _ _ h => h
theorem KeepK.trans {K : List Nat} {A B C : World} (h : KeepK K A B) (k : KeepK K B C) : KeepK K A C := fun g hg o ho => k g hg o (h g hg o ho)
theorem KeepK.cell {K : List Nat} {A B : World} (h : KeepK K A B) {g i : Nat} (hg : g ∈ K) {v : Value} (hc : A.cell? ⟨g, i, none⟩ = some v) : B.cell? ⟨g, i, none⟩ = some v := by
  unfold World.cell? at hc ⊢
  cases ho : A.heap[g]? with
  | none => rw [ho] at hc; exact absurd hc (by simp)
  | some o =>
    rw [ho] at hc
    rw [h g hg o ho]
    exact hc
theorem KeepK.of_fr {K S : List Nat} {A B : World} (h : Fr S A B) (hd : ∀ g ∈ K, g ∉ S) : KeepK K A B := fun g hg o ho => h.keep ho (hd g hg)
/-- what comes in round j, from the end on -/
def bwG (zs : List UInt8) (j : Nat) : Nat × UInt8 := (zs.length - 1 - j, zs.getD (zs.length - 1 - j) 0)
set_option maxRecDepth 100000 in
set_option maxHeartbeats 2000000 in
theorem bwd1_in8 (Fe : Fence) (n : Nat) (hF1 : Fe.fn 135) (hro : Fe.round = none) (hn : 1 ≤ n) (l Bs b off len cap : Nat) (K : List Nat) (zs : List UInt8) (hlen : zs.length = len) (hreach : len ≤ 1000000) (hb : b ∈ K) (hBn : Bs ∈ K) (J Jx : List (Nat × UInt8) → World → Prop)
    (hY : ∀ pre x W, J pre W → pre.length < len → YieldAt Fe (n - 1) Tryd.prog l #[.int .i64 (x.1 : Int), .int .u8 (x.2.toNat : Int)] W fun e W' =>
      (e = .returned (.bool true) ∧ J (pre ++ [x]) W' ∧ KeepK K W W') ∨ (e = .returned (.bool false) ∧ Jx (pre ++ [x]) W'))
    (W : World) (hBs : W.cell? ⟨Bs, 0, none⟩ = some (.slice (some ⟨b, off, none⟩) len cap)) (hc : ∀ j, j < len → W.cell? ⟨b, off + j, none⟩ = some (.int .u8 ((zs.getD j 0).toNat : Int))) (h0 : J [] W) :
    CallsIn Fe n Tryd.prog 135 #[.func (.yield l) #[] #[], .pointer (some ⟨Bs, 0, none⟩)] W fun e W' => (∃ v, e = .returned v) ∧
      ((∃ ys, ys = bupto (bwG zs) len ∧ J ys W') ∨ (∃ pre, (∃ k, k ≤ len ∧ pre = bupto (bwG zs) k) ∧ Jx pre W')) := by
  refine callsIn_of_wp Tryd.func135 rfl hF1 ?_ hro
  simp only [Tryd.ntmps135, List.size_toArray, List.length_cons, List.length_nil, Nat.reduceAdd, Nat.reduceSub, Array.replicate_succ, Array.replicate_zero, List.push_toArray, List.append_toArray, List.nil_append, List.cons_append]
  gi_wp2
  gi_loopw [3] (fun i wr => ∃ k : Nat, k ≤ len ∧ i = .int .i64 ((k : Int) - 1) ∧ J (bupto (bwG zs) (len - k)) wr ∧ KeepK K W wr)
    (fun i _ => (intOf i + 1).toNat)
  case atStart => exact ⟨len, Nat.le_refl _, by go_num, by rw [Nat.sub_self]; exact h0, KeepK.refl _ _⟩
  case round =>
    obtain ⟨k, hk, rfl, hJs, hnx⟩ := hrel
    have hBs' := hnx.cell hBn hBs
    cases k with
    | zero =>
      rw [Nat.sub_zero] at hJs
      gi_wp2
      go_end0
      exact ⟨⟨_, rfl⟩, .inl ⟨_, rfl, hJs⟩⟩
    | succ k =>
      have hx : bwG zs (len - (k + 1)) = (k, zs.getD k 0) := by
        unfold bwG
        rw [hlen, show len - 1 - (len - (k + 1)) = k by omega]
      have hcx : wr.cell? ⟨b, off + k, none⟩ = some (.int .u8 ((zs.getD k 0).toNat : Int)) := hnx.cell hb (hc k (by omega))
      have hji : ((k + 1 : Nat) : Int) - 1 = k := by omega
      rw [hji]
      obtain ⟨z, hz⟩ : ∃ z, zs.getD k 0 = z := ⟨_, rfl⟩
      rw [hz] at hx hcx
      obtain ⟨fn, tmps, assign, body, hy, hR⟩ := hY _ (k, z) wr hJs (by rw [bupto_length]; omega)
      dsimp only at hy
      have hst := bupto_succ (bwG zs) (len - (k + 1))
      rw [hx, show len - (k + 1) + 1 = len - k by omega] at hst
      gi_wp2
      refine hR.mono ?_
      rintro e W3 (⟨rfl, hJ3, hk3⟩ | ⟨rfl, hJx3⟩)
      · gi_wp2
        go_roundw
        case rel => exact ⟨k, by omega, rfl, by rw [hst]; exact hJ3, hnx.trans hk3⟩
        case measure => simp [intOf]
      · gi_wp2
        refine bodyPost_ret (results_none rfl _ _ _) rfl ?_
        exact ⟨⟨_, rfl⟩, .inr ⟨_, ⟨len - k, by omega, hst.symm⟩, hJx3⟩⟩
set_option maxRecDepth 100000 in
set_option maxHeartbeats 1000000 in
theorem bwd1_nil_in8 (Fe : Fence) (n : Nat) (hF1 : Fe.fn 135) (hro : Fe.round = none) (l Bs : Nat) (J : List (Nat × UInt8) → World → Prop) (W : World) (hBs : W.cell? ⟨Bs, 0, none⟩ = some (.slice none 0 0)) (h0 : J [] W) :
    CallsIn Fe n Tryd.prog 135 #[.func (.yield l) #[] #[], .pointer (some ⟨Bs, 0, none⟩)] W fun e W' => (∃ v, e = .returned v) ∧ J [] W' := by
  refine callsIn_of_wp Tryd.func135 rfl hF1 ?_ hro
  simp only [Tryd.ntmps135, List.size_toArray, List.length_cons, List.length_nil, Nat.reduceAdd, Nat.reduceSub, Array.replicate_succ, Array.replicate_zero, List.push_toArray, List.append_toArray, List.nil_append, List.cons_append]
  gi_wp2
  gi_loopw [3] (fun i wr => i = .int .i64 (-1) ∧ J [] wr) (fun _ _ => 0)
  case atStart => exact ⟨rfl, h0⟩
  case round =>
    obtain ⟨rfl, hJs⟩ := hrel
    gi_wp2
    go_end0
    exact ⟨⟨_, rfl⟩, hJs⟩
/-- the slice value sv holds the bytes zs in a block of K, or it is nil -/
def BwK (K : List Nat) (W : World) (sv : Value) (zs : List UInt8) : Prop :=
  (sv = .slice none 0 0 ∧ zs = []) ∨ ∃ b off cap, sv = .slice (some ⟨b, off, none⟩) zs.length cap ∧ b ∈ K ∧ b < W.heap.size ∧ ∀ j, j < zs.length → W.cell? ⟨b, off + j, none⟩ = some (.int .u8 ((zs.getD j 0).toNat : Int))
theorem bwd_stops8 (Fe : Fence) (n : Nat) (hF1 : Fe.fn 135) (hro : Fe.round = none) (hn : 1 ≤ n) (Bs : Nat) (K : List Nat) (sv : Value) (zs : List UInt8) (hreach : zs.length ≤ 1000000) (w : World) (hBs : Bs < w.heap.size) (hB0 : Bs ∈ K)
    (hc : w.cell? ⟨Bs, 0, none⟩ = some sv) (hI : BwK K w sv zs) :
    SeqStopsK Fe n Tryd.prog 135 #[.pointer (some ⟨Bs, 0, none⟩)] (fun x : Nat × UInt8 => #[Value.int .i64 (x.1 : Int), Value.int .u8 (x.2.toNat : Int)]) (KeepK K) (fun ys => ys = bupto (bwG zs) zs.length)
      (fun pre => ∃ k, k ≤ zs.length ∧ pre = bupto (bwG zs) k) zs.length w := fun l J Jx W hW _ _ hY h0 => by
  have hc' := (hW.cell (p := ⟨Bs, 0, none⟩) hBs).trans hc
  rcases hI with ⟨rfl, rfl⟩ | ⟨b, off, cap, rfl, hb, hbl, hcs⟩
  · exact (bwd1_nil_in8 Fe n hF1 hro l Bs J W hc' h0).mono fun e W' ⟨he, hj⟩ => ⟨he, .inl ⟨_, rfl, hj⟩⟩
  · exact bwd1_in8 Fe n hF1 hro hn l Bs b off zs.length cap K zs rfl hreach hb hB0 J Jx hY W hc' (fun j hj => (hW.cell (p := ⟨b, off + j, none⟩) hbl).trans (hcs j hj)) h0
end Go.Proofs.YtmohiblgfmdkjaaDoor
namespace Go.Proofs.YtmohiblgfmdkjaaDoor
open Go.RowKit Go.Bl Go.Shelf
set_option linter.unusedVariables false
attribute [local go_sem] Oper.semAt_some
/-- the value behind so many rounds, from the end -/
def hfold (x : UInt8) (pre : List (Nat × UInt8)) : UInt8 := pre.foldl (fun acc p => gmul acc x ^^^ p.2) 0
theorem hfold_snoc (x : UInt8) (pre : List (Nat × UInt8)) (p : Nat × UInt8) : hfold x (pre ++ [p]) = gmul (hfold x pre) x ^^^ p.2 := by simp [hfold, List.foldl_append]
theorem hfold_up (x : UInt8) (zs : List UInt8) : ∀ k, k ≤ zs.length → hfold x (bupto (bwG zs) k) = pev (zs.drop (zs.length - k)) x
  | 0, _ => by
    rw [Nat.sub_zero, List.drop_length]; rfl
  | k + 1, h => by
    have hi : zs.length - (k + 1) < zs.length := by omega
    have e : zs[zs.length - (k + 1)]? = some (zs.getD (zs.length - 1 - k) 0) := by
      rw [show zs.length - 1 - k = zs.length - (k + 1) by omega, List.getD_eq_getElem?_getD, List.getElem?_eq_getElem hi]; rfl
    rw [bupto_succ, hfold_snoc, hfold_up x zs k (by omega), pev_drop zs x _ _ e, show zs.length - (k + 1) + 1 = zs.length - k by omega, UInt8.xor_comm, gmul_comm]
    rfl
set_option maxRecDepth 100000 in
set_option maxHeartbeats 4000000 in
theorem eval_in (w : World) (a : Option Addr) (len cap : Nat) (zs : List UInt8) (x : UInt8) (hreach : zs.length ≤ 1000000) (hI : BwI w.heap.size w (.slice a len cap) zs) :
    CallsIn Fence.wide 3 Tryd.prog 111 #[.slice a len cap, .int .u8 (x.toNat : Int)] w fun e W' => e = .returned (.int .u8 ((pev zs x).toNat : Int)) ∧ Below w.heap.size w W' := by
  refine callsIn_of_wp_marks Tryd.func111 rfl trivial ?_ rfl
  simp only [Tryd.ntmps111, List.size_toArray, List.length_cons, List.length_nil, Nat.reduceAdd, Nat.reduceSub, Array.replicate_succ, Array.replicate_zero, List.push_toArray, List.append_toArray, List.nil_append, List.cons_append]
  gi_wp2
  refine ⟨trivial, (callsIn_wide.2 (make_any _)).mono ?_⟩
  rintro e w1 ⟨rfl, hT, hf⟩
  gi_wp2
  refine ⟨trivial, (bwd_in Fence.wide 2 trivial rfl _ _ _ _).mono ?_⟩
  rintro e w' ⟨rfl, rfl⟩
  have hs1 := hf.size
  simp only [World.size_alloc] at hs1
  have ax : At w1 w.heap.size (.cells #[.int .u8 (x.toNat : Int)] 5) := (show At (w.alloc (.cells #[.int .u8 (x.toNat : Int)] 5)) w.heap.size _ from At.new rfl).keep0 hf
  have at_ : At w1 (w.heap.size + 1) (.cells tabF 171) := by have := hT; rwa [World.size_alloc] at this
  have hB0 : Below w.heap.size w (((w1.alloc (.cells #[.pointer (some ⟨w.heap.size + 1, 0, none⟩)] 142)).alloc (.cells #[.int .u8 0] 5)).alloc (.cells #[.slice a len cap] 22)) := ((((Fr.alloc w _).trans hf).below.alloc (by omega) _).alloc (by simp; omega) _).alloc (by simp; omega) _
  have aO : At (((w1.alloc (.cells #[.pointer (some ⟨w.heap.size + 1, 0, none⟩)] 142)).alloc (.cells #[.int .u8 0] 5)).alloc (.cells #[.slice a len cap] 22)) (w1.heap.size + 1) (.cells #[.int .u8 0] 5) := (show At (((w1.alloc (.cells #[.pointer (some ⟨w.heap.size + 1, 0, none⟩)] 142)).alloc (.cells #[.int .u8 0] 5))) (w1.heap.size + 1) _ from At.new (by simp)).al
  have aP : At (((w1.alloc (.cells #[.pointer (some ⟨w.heap.size + 1, 0, none⟩)] 142)).alloc (.cells #[.int .u8 0] 5)).alloc (.cells #[.slice a len cap] 22)) w1.heap.size (.cells #[.pointer (some ⟨w.heap.size + 1, 0, none⟩)] 142) := ((show At (w1.alloc (.cells #[.pointer (some ⟨w.heap.size + 1, 0, none⟩)] 142)) w1.heap.size _ from At.new rfl).al).al
  have aX : At (((w1.alloc (.cells #[.pointer (some ⟨w.heap.size + 1, 0, none⟩)] 142)).alloc (.cells #[.int .u8 0] 5)).alloc (.cells #[.slice a len cap] 22)) w.heap.size (.cells #[.int .u8 (x.toNat : Int)] 5) := ((ax.al).al).al
  have aT : At (((w1.alloc (.cells #[.pointer (some ⟨w.heap.size + 1, 0, none⟩)] 142)).alloc (.cells #[.int .u8 0] 5)).alloc (.cells #[.slice a len cap] 22)) (w.heap.size + 1) (.cells tabF 171) := ((at_.al).al).al
  have aS : At (((w1.alloc (.cells #[.pointer (some ⟨w.heap.size + 1, 0, none⟩)] 142)).alloc (.cells #[.int .u8 0] 5)).alloc (.cells #[.slice a len cap] 22)) (w1.heap.size + 2) (.cells #[.slice a len cap] 22) := At.new (by simp)
  obtain ⟨K, hK, hsK, hoK⟩ : ∃ K : List Nat, BwK K (((w1.alloc (.cells #[.pointer (some ⟨w.heap.size + 1, 0, none⟩)] 142)).alloc (.cells #[.int .u8 0] 5)).alloc (.cells #[.slice a len cap] 22)) (.slice a len cap) zs ∧ (w1.heap.size + 2) ∈ K ∧ ∀ g ∈ K, g < w1.heap.size + 3 ∧ g ≠ w1.heap.size + 1 := by
    rcases hI with ⟨e, rfl⟩ | ⟨b, off, cap', e, hb, hc⟩
    · exact ⟨[w1.heap.size + 2], .inl ⟨e, rfl⟩, by simp, by simp⟩
    · refine ⟨[w1.heap.size + 2, b], .inr ⟨b, off, cap', e, by simp, by simp; omega, fun j hj => (hB0.cell (p := ⟨b, off + j, none⟩) hb).trans (hc j hj)⟩, by simp, ?_⟩
      intro g hg
      simp at hg
      omega
  clear hI ax at_ hT hf
  gi_wp2
  refine wpIn_rangeFunc_ownG rfl (by decide) (gf := 135) (lb := #[.pointer (some ⟨w1.heap.size + 2, 0, none⟩)]) rfl trivial (enters_of Tryd.func135 (by kernel_rfl) rfl)
    (bwd_stops8 Fence.wide 2 trivial rfl (by omega) (w1.heap.size + 2) K _ zs hreach _ (by simp) hsK (aS.cell 0) hK) KeepK.trans ?kb (Below.refl _ _) (fun _ => rfl)
    (fun pre W => (At W (w1.heap.size + 1) (.cells #[.int .u8 ((hfold x pre).toNat : Int)] 5) ∧ At W w1.heap.size (.cells #[.pointer (some ⟨w.heap.size + 1, 0, none⟩)] 142) ∧ At W w.heap.size (.cells #[.int .u8 (x.toNat : Int)] 5) ∧ At W (w.heap.size + 1) (.cells tabF 171)) ∧ Below w.heap.size w W)
    (fun c pre W => False ∧ Below w.heap.size w W)
    (OwnFrom.and (Own.from (fun s A B row hs hg hr => ⟨(grownBy_keeps_cells hg hr hs.1 rfl).trans hs.1, (grownBy_keeps_cells hg hr hs.2.1 rfl).trans hs.2.1, (grownBy_keeps_cells hg hr hs.2.2.1 rfl).trans hs.2.2.1, (grownBy_keeps_cells hg hr hs.2.2.2 rfl).trans hs.2.2.2⟩) _) (ownFrom_below (Nat.le_refl _) (by simp; omega)))
    (fun c => OwnFrom.and (Own.from (fun s A B row hs hg hr => hs) _) (ownFrom_below (Nat.le_refl _) (by simp; omega)))
    ⟨⟨aO, aP, aX, aT⟩, hB0⟩
    (fun y => { tmps := #[.slice a len cap, .int .u8 (x.toNat : Int), undef, .pointer (some ⟨w.heap.size, 0, none⟩), .int .u8 0, .pointer (some ⟨w1.heap.size, 0, none⟩), .pointer (some ⟨w1.heap.size + 1, 0, none⟩), undef, .int .u8 (y.2.toNat : Int), .pointer (some ⟨w.heap.size + 1, 0, none⟩), .slice a len cap, .func (.func 135) #[] #[.pointer (some ⟨w1.heap.size + 2, 0, none⟩)], .int .i64 (y.1 : Int), .int .u8 (y.2.toNat : Int), undef, undef, undef, undef, undef, undef, undef], defers := [] }) ?assign ?body ?done ?stop
  case kb =>
    intro W l o o' hl ho _ _ g hg og hog
    have h1 := (hoK g hg).1
    simp at hl
    exact (Fr.grown (S := [l]) (grownBy_putObj' W l o') (by intro k e; cases e; simp)).keep hog (by simp; omega)
  case assign =>
    intro l y W K hK
    gi_wp2
    exact hK
  case body =>
    rintro l pre y W ⟨⟨hO, hP, hX, hT⟩, hB⟩ _
    have c1 := hO.cell 0
    have c2 := hP.cell 0
    have c3 := hX.cell 0
    simp only [List.getElem?_toArray, List.getElem?_cons_zero] at c1 c2 c3
    gi_wp2
    refine ⟨trivial, (CallsIn.inRound l (callsIn_wide.2 (tmul_i W (w.heap.size + 1) hT (hfold x pre) x))).mono ?_⟩
    rintro e W2 ⟨rfl, hf2⟩
    have O2 := hO.keep0 hf2
    have d1 := O2.cell 0
    have d2 := O2.free 0
    simp only [List.getElem?_toArray, List.getElem?_cons_zero] at d1
    have hxx := u8_xor_u (gmul (hfold x pre) x) y.2
    have hsn := hfold_snoc x pre y
    have hwW := hB.size
    gi_wp2
    have hfs : Fr [w1.heap.size + 1] W2 (W2.setCell ⟨w1.heap.size + 1, 0, none⟩ (.int .u8 ((hfold x (pre ++ [y])).toNat : Int))) := Fr.setCell _ _ _ (by simp)
    have hee : W2.setCell ⟨w1.heap.size + 1, 0, none⟩ (.int .u8 (((gmul (hfold x pre) x).toNat ^^^ y.2.toNat : Nat) : Int)) = W2.setCell ⟨w1.heap.size + 1, 0, none⟩ (.int .u8 ((hfold x (pre ++ [y])).toNat : Int)) := by rw [hsn, UInt8.toNat_xor]
    refine ⟨?_, ?_, ?_⟩
    · exact KeepsFrom.trans ⟨hf2.size, fun k o _ hk _ => hf2.keep hk (by simp)⟩ ((KeepsOthers.setCell _ _ _).from _)
    · exact (KeepK.of_fr hf2 (by simp)).trans (KeepK.of_fr (Fr.setCell (S := [w1.heap.size + 1]) W2 _ _ (by simp)) (by intro g hg; simp; exact (hoK g hg).2))
    · refine ⟨⟨?_, (hP.keep0 hf2).other (by simp), (hX.keep0 hf2).other (by simp; omega), (hT.keep0 hf2).other (by simp; omega)⟩, ?_⟩
      · have h := O2.set 0 (.int .u8 ((hfold x (pre ++ [y])).toNat : Int))
        first
        | (rw [← hee] at h; simpa using h)
        | (simp only [hsn, UInt8.toNat_xor] at h ⊢; simpa using h)
      · exact (hB.trans (hf2.below.mono (by omega))).setCell (p := ⟨w1.heap.size + 1, 0, none⟩) (by show w.heap.size ≤ w1.heap.size + 1; omega) _
  case done =>
    rintro D ys W hD rfl ⟨⟨hO, hP, hX, hT⟩, hB⟩ hK
    have c1 := hO.cell 0
    simp only [List.getElem?_toArray, List.getElem?_cons_zero] at c1
    rw [hfold_up x zs zs.length (Nat.le_refl _), Nat.sub_self, List.drop_zero] at c1
    gi_wp2
    refine ⟨by simp, .inl ⟨_, _, rfl, run_takeDeferred hK, ?_⟩⟩
    refine ⟨.int .u8 ((pev zs x).toNat : Int), ?_, rfl, hB.trans (belowK_b (w := w) (Nat.le_refl _) W D _ _ (by simp at hD; omega) hK rfl rfl)⟩
    simp [results, Tryd.f111, go_sem]
  case stop =>
    rintro D c pre W hD _ ⟨⟨hx, -⟩, -⟩ hK
theorem eval_z (w : World) (v : Value) (zs : List UInt8) (x : UInt8) (hI : BwI w.heap.size w v zs) (hl : zs.length ≤ 1000000) :
    Calls Tryd.prog 111 #[v, .int .u8 (x.toNat : Int)] w fun e w' => e = .returned (.int .u8 ((pev zs x).toNat : Int)) ∧ Fr [] w w' := by
  obtain ⟨a, cap, rfl⟩ := hI.bs
  refine (callsIn_wide.1 (eval_in w a zs.length cap zs x hl hI)).mono ?_
  rintro e w' ⟨rfl, h⟩
  exact ⟨rfl, Fr.of_below h⟩
end Go.Proofs.YtmohiblgfmdkjaaDoor
namespace Go.Proofs.YtmohiblgfmdkjaaDoor
open Go.RowKit Go.Bl
set_option linter.unusedVariables false
theorem Tryd.infoIntR : (Tryd.prog.info? 3).map (fun i => (i.zero, i.size, i.bytes)) = some (some (.int .i64 0), 1, 8) := by kernel_rfl
set_option maxHeartbeats 1000000 in
theorem psized_any (w : World) (n : Int) : Calls Tryd.prog 110 #[.int .i64 n] w fun e w' => e = .returned (.bool (decide (33 ≤ n ∧ n ≤ 255))) ∧ w' = w := by
  go_enter Tryd.func110, Tryd.ntmps110
  by_cases h1 : 33 ≤ n
  · have h1' : (32 : Int) < n := by omega
    by_cases h2 : n ≤ 255
    · go_wp2
      go_ret
      exact ⟨by simp [h1, h2], rfl⟩
    · go_wp2
      go_ret
      exact ⟨by simp [h1, h2], rfl⟩
  · have h1' : ¬ (32 : Int) < n := by omega
    go_wp2
    go_ret
    exact ⟨by simp; omega, rfl⟩
set_option maxHeartbeats 1000000 in
theorem inverse_any (w : World) (n p : Nat) (h1 : 33 ≤ n) (h2 : n ≤ 255) (hp : p < n) : Calls Tryd.prog 112 #[.int .i64 n, .int .i64 p] w fun e w' => e = .returned (.int .u8 ((ginv (plX n p)).toNat : Int)) ∧ Fr [] w w' := by
  have HPW := Lib.hid (cpower_any w n p h1 h2 hp)
  have hx := plX_ne n p
  obtain ⟨x, hxx⟩ : ∃ x, plX n p = x := ⟨_, rfl⟩
  rw [hxx] at HPW hx ⊢
  have HI := Lib.hid (fun w => finv_any w x hx)
  obtain ⟨y, hy⟩ : ∃ y, ginv x = y := ⟨_, rfl⟩
  rw [hy] at HI ⊢
  clear hxx hx hy
  go_enter Tryd.func112, Tryd.ntmps112
  go_wp2_with (go_at_call 105; fail)
  refine HPW.out.mono ?_
  rintro e w1 ⟨rfl, hf⟩
  have HF1 := Lib.hid hf
  clear hf HPW
  go_wp2_with (go_at_call 136; fail)
  refine (HI.out w1).mono ?_
  rintro e w2 ⟨rfl, hf⟩
  have HF2 := Lib.hid (HF1.out.trans hf)
  clear hf HI
  go_wp2
  go_ret
  exact ⟨rfl, HF2.out⟩
/-- the places of a locator's roots -/
def srch (loc : List UInt8) (n : Nat) : List Nat := (List.range n).filter fun p => decide (pev loc (ginv (plX n p)) = 0)
theorem srch_up (loc : List UInt8) (n k : Nat) : ((List.range (k + 1)).filter fun p => decide (pev loc (ginv (plX n p)) = 0)) = ((List.range k).filter fun p => decide (pev loc (ginv (plX n p)) = 0)) ++ (if pev loc (ginv (plX n k)) = 0 then [k] else []) := by
  rw [List.range_succ, List.filter_append]
  congr 1
  by_cases h : pev loc (ginv (plX n k)) = 0
  · simp [h]
  · simp [h]
theorem srch_le (loc : List UInt8) (n k : Nat) : ((List.range k).filter fun p => decide (pev loc (ginv (plX n p)) = 0)).length ≤ k := by
  have := List.length_filter_le (fun p => decide (pev loc (ginv (plX n p)) = 0)) (List.range k)
  rwa [List.length_range] at this
set_option maxRecDepth 100000 in
set_option maxHeartbeats 2000000 in
theorem search_any (w : World) (v : Value) (loc : List UInt8) (n : Nat) (h1 : 33 ≤ n) (h2 : n ≤ 255) (hI : BwI w.heap.size w v loc) (hl : loc.length ≤ 1000000) :
    Calls Tryd.prog 90 #[v, .int .i64 n] w fun e w' => ∃ u, e = .returned u ∧ OwnI 3 w.heap.size w' u (intL (srch loc n)) ∧ Fr [] w w' := by
  have HEV := Lib.hid (fun w' (h : Fr [] w w') y => eval_z w' v loc y (hI.fr h) hl)
  have HUP := Lib.hid (srch_up loc n)
  have HLE := Lib.hid (srch_le loc n)
  have HIN := Lib.hid (fun w' p hp => inverse_any w' n p h1 h2 hp)
  have HSR := Lib.hid (show ((List.range n).filter fun p => decide (pev loc (ginv (plX n p)) = 0)) = srch loc n from rfl)
  have HPS := Lib.hid (psized_any w n)
  rw [decide_eq_true (show 33 ≤ (n : Int) ∧ (n : Int) ≤ 255 by omega)] at HPS
  obtain ⟨S, hS⟩ : ∃ S : Nat → List Nat, (fun k => (List.range k).filter fun p => decide (pev loc (ginv (plX n p)) = 0)) = S := ⟨_, rfl⟩
  have HS0 := Lib.hid (show S 0 = [] by rw [← hS]; rfl)
  have HUP2 := Lib.hid (show ∀ k, S (k + 1) = S k ++ (if pev loc (ginv (plX n k)) = 0 then [k] else []) from fun k => by rw [← hS]; exact HUP.out k)
  have HLE2 := Lib.hid (show ∀ k, (S k).length ≤ k from fun k => by rw [← hS]; exact HLE.out k)
  have HSN := Lib.hid (show S n = srch loc n by rw [← hS]; rfl)
  clear HUP HLE HSR hS hI
  go_enter Tryd.func90, Tryd.ntmps90
  go_wp2_with (go_at_call 110; fail)
  refine HPS.out.mono ?_
  rintro e w1 ⟨rfl, rfl⟩
  go_wp2
  go_loopw [5, 11] (fun o i wr => ∃ k : Nat, k ≤ n ∧ i = .int .i64 k ∧ Hid (OwnI 3 w1.heap.size wr o (intL (S k))) ∧ Hid (Fr [] w1 wr)) (fun _ i _ => n - (intOf i).toNat)
  case atStart => exact ⟨0, by omega, rfl, by rw [HS0.out]; exact OwnI.nil _ _ _, Fr.refl _ _⟩
  case round =>
    obtain ⟨k, hk, rfl, HO, HF⟩ := hrel
    obtain ⟨wl, rfl⟩ : ∃ wl, wl = wr := ⟨wr, rfl⟩
    by_cases hkn : k < n
    · have hki : (k : Int) < n := by omega
      have HSK := Lib.hid (HUP2.out k)
      have HI2 := Lib.hid (HIN.out wl k hkn)
      have HE2 := Lib.hid (fun w' (h : Fr [] w1 w') => HEV.out w' h (ginv (plX n k)))
      have hlk := HLE2.out k
      obtain ⟨y, hy⟩ : ∃ y, ginv (plX n k) = y := ⟨_, rfl⟩
      rw [hy] at HSK HI2 HE2
      obtain ⟨r, hr⟩ : ∃ r, pev loc y = r := ⟨_, rfl⟩
      rw [hr] at HSK HE2
      clear hy hr
      go_wp2_with (go_at_call 112; fail)
      refine HI2.out.mono ?_
      rintro e w2 ⟨rfl, hf⟩
      have HF2 := Lib.hid (HF.out.trans hf)
      have HO2 := Lib.hid (HO.out.keep0 hf)
      clear hf HI2 HF HO
      go_wp2_with (go_at_call 111; fail)
      refine (HE2.out w2 HF2.out).mono ?_
      rintro e w3 ⟨rfl, hf⟩
      have HF3 := Lib.hid (HF2.out.trans hf)
      have HO3 := Lib.hid (HO2.out.keep0 hf)
      clear hf HE2 HF2 HO2
      by_cases hr0 : r = 0
      · rw [if_pos hr0] at HSK
        subst hr0
        have fa : Fr [] w3 (w3.alloc (.cells #[.int .i64 (k : Int)] 3)) := Fr.alloc _ _
        have HO4 := Lib.hid (HO3.out.keep0 fa)
        have HF4 := Lib.hid (HF3.out.trans fa)
        have hil : (intL (S k)).length ≤ 17592186044414 := by rw [intL_len]; omega
        have HIL := Lib.hid hil
        have HSB := Lib.hid HF4.out.size
        clear fa HO3 HF3 hil hlk
        go_wp2_with (at_builtin; refine wpl_append_n Tryd.underlying32 Tryd.infoIntR rfl (.tmp 20) (.tmp 22) rfl rfl rfl (At.new rfl) HO4.out HIL.out HSB.out ?_)
        intro v5 w5 h5 g5
        have HO5 := Lib.hid (show OwnI 3 w1.heap.size w5 v5 (intL (S (k + 1))) by
          rw [HSK.out]
          unfold intL at h5 ⊢
          rw [List.map_append]
          exact h5)
        have HF5 := Lib.hid (OwnI.fr HO4.out HF4.out g5 (Nat.le_refl _))
        clear h5 g5 HO4 HF4 HSB HIL
        go_wp2
        go_roundw
        case rel => exact ⟨k + 1, by omega, by go_num, HO5, HF5⟩
        case measure => simp [intOf]; omega
      · rw [if_neg hr0, List.append_nil] at HSK
        have hrn : r.toNat ≠ 0 := fun e => hr0 (UInt8.toNat_inj.1 e)
        clear hr0
        go_wp2
        go_roundw
        case rel => exact ⟨k + 1, by omega, by go_num, by rw [HSK.out]; exact HO3, HF3⟩
        case measure => simp [intOf]; omega
    · have hki : ¬ (k : Int) < n := by omega
      have HOE := Lib.hid (show OwnI 3 w1.heap.size wl _ (intL (srch loc n)) by have h := HO.out; rwa [show k = n by omega, HSN.out] at h)
      clear HO
      go_wp2
      go_ret
      exact ⟨_, rfl, HOE.out, HF.out⟩
end Go.Proofs.YtmohiblgfmdkjaaDoor
