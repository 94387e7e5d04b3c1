import Derived.Test.YtmohiblgfmdkjaaGreatDoorGB
import Derived.Test.YtmohiblgfmdkjaaGreatDoorHW
import Derived.Test.YtmohiblgfmdkjaaGreatDoorHP
import Derived.Test.YtmohiblgfmdkjaaGreatDoorIn
import Derived.Test.YtmohiblgfmdkjaaGreatDoorGN
import Derived.Test.YtmohiblgfmdkjaaGreatDoorGQ
import Derived.Test.YtmohiblgfmdkjaaGreatDoorPwr
import Derived.Test.YtmohiblgfmdkjaaGreatDoorRer
import Derived.Test.YtmohiblgfmdkjaaGreatDoorHY
import Derived.Test.YtmohiblgfmdkjaaGreatDoorGK
import Derived.Test.YtmohiblgfmdkjaaGreatDoorHG
namespace Go.Proofs.YtmohiblgfmdkjaaGreatDoor
open Go.RowKit Go.Bl
set_option linter.unusedVariables false
def fndK (n : Nat) (reg : List UInt8) (ps : List Nat) (p : Nat) : List Nat := (List.range p).filter fun p => decide (p ∉ ps) && decide (pev reg (ginv (plX n p)) = 0)
theorem fndK_up (n : Nat) (reg : List UInt8) (ps : List Nat) (p : Nat) : fndK n reg ps (p + 1) = fndK n reg ps p ++ (if p ∉ ps ∧ pev reg (ginv (plX n p)) = 0 then [p] else []) := by
  unfold fndK
  rw [List.range_succ, List.filter_append]
  congr 1
  rw [List.filter_cons, List.filter_nil]
  by_cases h1 : p ∈ ps <;> by_cases h2 : pev reg (ginv (plX n p)) = 0 <;> simp [h1, h2]
theorem fndK_le (n : Nat) (reg : List UInt8) (ps : List Nat) (p : Nat) : (fndK n reg ps p).length ≤ p := by
  unfold fndK
  exact Nat.le_trans (List.length_filter_le _ _) (by simp)
theorem Tryz.infoBytesT : (Tryz.prog.info? 22).map (fun i => (i.zero, i.size, i.bytes)) = some (some (.slice none 0 0), 1, 24) := by kernel_rfl
theorem Tryz.infoIntT : (Tryz.prog.info? 3).map (fun i => (i.zero, i.size, i.bytes)) = some (some (.int .i64 0), 1, 8) := by kernel_rfl
set_option maxRecDepth 100000 in
theorem frame172 (a : Go.Act) (hs : a.tmps.size = 172) (hd : a.defers = []) : a = ⟨(slot a 0 :: slot a 1 :: slot a 2 :: slot a 3 :: slot a 4 :: slot a 5 :: slot a 6 :: slot a 7 :: slot a 8 :: slot a 9 :: slot a 10 :: slot a 11 :: slot a 12 :: slot a 13 :: slot a 14 :: slot a 15 :: slot a 16 :: slot a 17 :: slot a 18 :: slot a 19 :: slot a 20 :: slot a 21 :: slot a 22 :: slot a 23 :: slot a 24 :: slot a 25 :: slot a 26 :: slot a 27 :: slot a 28 :: slot a 29 :: slot a 30 :: slot a 31 :: slot a 32 :: slot a 33 :: slot a 34 :: slot a 35 :: slot a 36 :: slot a 37 :: slot a 38 :: slot a 39 :: slot a 40 :: slot a 41 :: slot a 42 :: slot a 43 :: slot a 44 :: slot a 45 :: slot a 46 :: slot a 47 :: slot a 48 :: slot a 49 :: slot a 50 :: slot a 51 :: slot a 52 :: slot a 53 :: slot a 54 :: slot a 55 :: slot a 56 :: slot a 57 :: slot a 58 :: slot a 59 :: slot a 60 :: slot a 61 :: slot a 62 :: slot a 63 :: slot a 64 :: slot a 65 :: slot a 66 :: slot a 67 :: slot a 68 :: slot a 69 :: slot a 70 :: slot a 71 :: slot a 72 :: slot a 73 :: slot a 74 :: slot a 75 :: slot a 76 :: slot a 77 :: slot a 78 :: slot a 79 :: slot a 80 :: slot a 81 :: slot a 82 :: slot a 83 :: slot a 84 :: slot a 85 :: slot a 86 :: slot a 87 :: slot a 88 :: slot a 89 :: slot a 90 :: slot a 91 :: slot a 92 :: slot a 93 :: slot a 94 :: slot a 95 :: slot a 96 :: slot a 97 :: slot a 98 :: slot a 99 :: slot a 100 :: slot a 101 :: slot a 102 :: slot a 103 :: slot a 104 :: slot a 105 :: slot a 106 :: slot a 107 :: slot a 108 :: slot a 109 :: slot a 110 :: slot a 111 :: slot a 112 :: slot a 113 :: slot a 114 :: slot a 115 :: slot a 116 :: slot a 117 :: slot a 118 :: slot a 119 :: slot a 120 :: slot a 121 :: slot a 122 :: slot a 123 :: slot a 124 :: slot a 125 :: slot a 126 :: slot a 127 :: slot a 128 :: slot a 129 :: slot a 130 :: slot a 131 :: slot a 132 :: slot a 133 :: slot a 134 :: slot a 135 :: slot a 136 :: slot a 137 :: slot a 138 :: slot a 139 :: slot a 140 :: slot a 141 :: slot a 142 :: slot a 143 :: slot a 144 :: slot a 145 :: slot a 146 :: slot a 147 :: slot a 148 :: slot a 149 :: slot a 150 :: slot a 151 :: slot a 152 :: slot a 153 :: slot a 154 :: slot a 155 :: slot a 156 :: slot a 157 :: slot a 158 :: slot a 159 :: slot a 160 :: slot a 161 :: slot a 162 :: slot a 163 :: slot a 164 :: slot a 165 :: slot a 166 :: slot a 167 :: slot a 168 :: slot a 169 :: slot a 170 :: slot a 171 :: []).toArray, []⟩ := frameX a 172 hs hd
noncomputable def trdB1 : Code := ((Tryz.f28.body.bind (findLoop 4)).getD .skip)
set_option maxRecDepth 1000000 in
set_option maxHeartbeats 8000000 in
theorem trd1_round (wr : World) (a : Go.Act) (hsz : a.tmps.size = 172) (hd : a.defers = []) (da ra : Option Addr) (dc rc RN pc PL t xb N gb pb po k : Nat) (p : Nat) (ps : List Nat) (h0 : slot a 0 = .slice da N dc) (h2 : slot a 2 = .slice ra RN rc) (h3 : slot a 3 = .slice (some ⟨pb, po, none⟩) PL pc) (h4 : slot a 4 = .int .i64 (t : Int)) (h6 : slot a 6 = .pointer (some ⟨xb, 0, none⟩)) (h13 : slot a 13 = .int .i64 (N : Int)) (h14 : slot a 14 = .slice (some ⟨gb, 0, none⟩) N N) (h36 : slot a 36 = .slice (some ⟨pb, po, none⟩) PL pc) (h37 : slot a 37 = .int .i64 (PL : Int)) (h38 : slot a 38 = .int .i64 (k : Int)) (hk : k < PL) (hP : PL ≤ 100) (hN : N ≤ 1000) (hp : p < N) (hc : wr.cell? ⟨pb, po + k, none⟩ = some (.int .i64 (p : Int))) (hA : At wr gb (.cells (boolC (inL N ps)) 4)) (Q : Exit → Go.Act → World → Prop)
    (hq : ∀ (c : Go.Act) (w' : World), c.defers = [] → c.tmps.size = 172 → slot c 0 = .slice da N dc → slot c 2 = .slice ra RN rc → slot c 3 = .slice (some ⟨pb, po, none⟩) PL pc → slot c 4 = .int .i64 (t : Int) → slot c 6 = .pointer (some ⟨xb, 0, none⟩) → slot c 13 = .int .i64 (N : Int) → slot c 14 = .slice (some ⟨gb, 0, none⟩) N N → slot c 36 = .slice (some ⟨pb, po, none⟩) PL pc → slot c 37 = .int .i64 (PL : Int) → slot c 38 = .int .i64 ((k : Int) + 1) → At w' gb (.cells (boolC (inL N (ps ++ [p]))) 4) → Fr [gb] wr w' → Q .normal c w') : Code.wp Tryz.prog trdB1 Q a wr := by
  have HQ := Lib.hid hq
  rw [frame172 a hsz hd, h0, h2, h3, h4, h6, h13, h14, h36, h37, h38]
  clear hq h0 h2 h3 h4 h6 h13 h14 h36 h37 h38 hsz hd
  conv => arg 2; whnf
  have HA := Lib.hid hA
  have HSZ1 := Lib.hid (show p < (boolC (inL N ps)).size by rw [boolC_len, inL_len]; exact hp)
  have hki : (k : Int) < PL := by omega
  have hpi : (p : Int) < N := by omega
  clear hA
  go_wp2_with (refine wpl_store_one (.tmp 44) (.const (.bool true)) rfl rfl (.bool true) rfl rfl HA.out HSZ1.out (by kernel_rfl) rfl ?_)
  intro w6 f6 a6 s6
  have HA6 := Lib.hid (bool_set a6 hp)
  have HF6 := Lib.hid f6
  clear f6 a6 s6 HA HSZ1
  go_wp2
  exact HQ.out _ _ rfl rfl rfl rfl rfl rfl rfl rfl rfl rfl rfl (by go_num) HA6.out HF6.out
set_option maxRecDepth 1000000 in
set_option maxHeartbeats 8000000 in
theorem trd1_exit (wr : World) (a : Go.Act) (hsz : a.tmps.size = 172) (hd : a.defers = []) (pa : Option Addr) (da ra : Option Addr) (dc rc RN pc PL t xb N gb pb po k : Nat) (h0 : slot a 0 = .slice da N dc) (h2 : slot a 2 = .slice ra RN rc) (h3 : slot a 3 = .slice pa PL pc) (h4 : slot a 4 = .int .i64 (t : Int)) (h6 : slot a 6 = .pointer (some ⟨xb, 0, none⟩)) (h13 : slot a 13 = .int .i64 (N : Int)) (h14 : slot a 14 = .slice (some ⟨gb, 0, none⟩) N N) (h36 : slot a 36 = .slice pa PL pc) (h37 : slot a 37 = .int .i64 (PL : Int)) (h38 : slot a 38 = .int .i64 (PL : Int)) (hP : PL ≤ 100) (Q : Exit → Go.Act → World → Prop)
    (hq : ∀ (c : Go.Act), c.defers = [] → c.tmps.size = 172 → slot c 0 = .slice da N dc → slot c 2 = .slice ra RN rc → slot c 3 = .slice pa PL pc → slot c 4 = .int .i64 (t : Int) → slot c 6 = .pointer (some ⟨xb, 0, none⟩) → slot c 13 = .int .i64 (N : Int) → slot c 14 = .slice (some ⟨gb, 0, none⟩) N N → Q (.exit 0) c wr) : Code.wp Tryz.prog trdB1 Q a wr := by
  have HQ := Lib.hid hq
  rw [frame172 a hsz hd, h0, h2, h3, h4, h6, h13, h14, h36, h37, h38]
  clear hq h0 h2 h3 h4 h6 h13 h14 h36 h37 h38 hsz hd
  conv => arg 2; whnf
  have hki : ¬ (PL : Int) < PL := by omega
  go_wp2
  apply HQ.out <;> rfl
set_option maxRecDepth 1000000 in
set_option maxHeartbeats 8000000 in
theorem trd1_loop (w0 : World) (a : Go.Act) (hsz : a.tmps.size = 172) (hd : a.defers = []) (da ra pa : Option Addr) (dc rc RN pc PL t xb N gb : Nat) (ps : List Nat) (h0 : slot a 0 = .slice da N dc) (h2 : slot a 2 = .slice ra RN rc) (h3 : slot a 3 = .slice pa PL pc) (h4 : slot a 4 = .int .i64 (t : Int)) (h6 : slot a 6 = .pointer (some ⟨xb, 0, none⟩)) (h13 : slot a 13 = .int .i64 (N : Int)) (h14 : slot a 14 = .slice (some ⟨gb, 0, none⟩) N N) (h36 : slot a 36 = .slice pa PL pc) (h37 : slot a 37 = .int .i64 (PL : Int)) (h38 : slot a 38 = .int .i64 0) (hP : ps.length = PL) (hP2 : PL ≤ 100) (hN : N ≤ 1000) (hp : ∀ p ∈ ps, p < N)
    (hv : Is (fun b => b = gb) w0 (.slice pa PL pc) (intL ps)) (hA : At w0 gb (.cells (boolC (inL N [])) 4)) (Q : Exit → Go.Act → World → Prop)
    (hq : ∀ (c : Go.Act) (w' : World), c.defers = [] → c.tmps.size = 172 → slot c 0 = .slice da N dc → slot c 2 = .slice ra RN rc → slot c 3 = .slice pa PL pc → slot c 4 = .int .i64 (t : Int) → slot c 6 = .pointer (some ⟨xb, 0, none⟩) → slot c 13 = .int .i64 (N : Int) → slot c 14 = .slice (some ⟨gb, 0, none⟩) N N → At w' gb (.cells (boolC (inL N ps)) 4) → Fr [gb] w0 w' → Q (.exit 0) c w') : Code.wp Tryz.prog (Code.loop trdB1) Q a w0 := by
  refine wp_loop (fun a w => a.tmps.size = 172 ∧ a.defers = [] ∧ slot a 0 = .slice da N dc ∧ slot a 2 = .slice ra RN rc ∧ slot a 3 = .slice pa PL pc ∧ slot a 4 = .int .i64 (t : Int) ∧ slot a 6 = .pointer (some ⟨xb, 0, none⟩) ∧ slot a 13 = .int .i64 (N : Int) ∧ slot a 14 = .slice (some ⟨gb, 0, none⟩) N N ∧ slot a 36 = .slice pa PL pc ∧ slot a 37 = .int .i64 (PL : Int) ∧ ∃ k : Nat, k ≤ PL ∧ slot a 38 = .int .i64 (k : Int) ∧ At w gb (.cells (boolC (inL N (ps.take k))) 4) ∧ Fr [gb] w0 w) (fun a _ => PL - kN (slot a 38)) ⟨hsz, hd, h0, h2, h3, h4, h6, h13, h14, h36, h37, 0, by omega, h38, by rw [List.take_zero]; exact hA, Fr.refl _ _⟩ ?_
  clear h0 h2 h3 h4 h6 h13 h14 h36 h37 h38 hA hsz hd
  rintro a wr ⟨hsz, hd, h0, h2, h3, h4, h6, h13, h14, h36, h37, k, hk, h38, hA, hF⟩
  by_cases hkp : k < PL
  · obtain ⟨p, hpk⟩ : ∃ p, ps[k]? = some p := ⟨_, List.getElem?_eq_getElem (by omega)⟩
    obtain ⟨pb, po, e, hcc⟩ := is_cell (hv.keep hF (by simp)) k (p : Int) (by unfold intL; rw [List.getElem?_map, hpk]; rfl)
    subst e
    refine trd1_round wr a hsz hd da ra dc rc RN pc PL t xb N gb pb po k p (ps.take k) h0 h2 h3 h4 h6 h13 h14 h36 h37 h38 hkp hP2 hN (hp p (List.mem_of_getElem? hpk)) hcc hA _ ?_
    intro c w' kd ks q0 q2 q3 q4 q6 q13 q14 q36 q37 q38 hA' hf
    refine ⟨⟨ks, kd, q0, q2, q3, q4, q6, q13, q14, q36, q37, k + 1, by omega, by rw [q38]; rfl, ?_, hF.trans hf⟩, ?_⟩
    · rw [show ps.take (k + 1) = ps.take k ++ [p] by rw [List.take_add_one, hpk]; rfl]
      exact hA'
    · rw [q38, h38]
      simp [kN]; omega
  · obtain rfl : k = PL := by omega
    refine trd1_exit wr a hsz hd pa da ra dc rc RN pc k t xb N gb 0 0 0 h0 h2 h3 h4 h6 h13 h14 h36 h37 h38 hP2 _ ?_
    intro c kd ks q0 q2 q3 q4 q6 q13 q14
    rw [List.take_of_length_le (by omega)] at hA
    exact hq c wr kd ks q0 q2 q3 q4 q6 q13 q14 hA hF
noncomputable def trdB2 : Code := ((Tryz.f28.body.bind (findLoop 11)).getD .skip)
set_option maxRecDepth 1000000 in
set_option maxHeartbeats 8000000 in
theorem trd2_gone (wr : World) (a : Go.Act) (hsz : a.tmps.size = 172) (hd : a.defers = []) (da ra : Option Addr) (dc rc RN t xb N gb p m : Nat) (lv : Value) (ps : List Nat) (h0 : slot a 0 = .slice da N dc) (h4 : slot a 4 = .int .i64 (t : Int)) (h6 : slot a 6 = .pointer (some ⟨xb, 0, none⟩)) (h13 : slot a 13 = .int .i64 (N : Int)) (h14 : slot a 14 = .slice (some ⟨gb, 0, none⟩) N N) (h2 : slot a 2 = .slice ra RN rc) (h17 : slot a 17 = lv) (h18 : slot a 18 = .int .i64 (m : Int)) (h19 : slot a 19 = .int .i64 (p : Int)) (hpn : p < N) (h255 : N ≤ 255) (hm : m ≤ 300) (hmem : p ∈ ps) (hA : At wr gb (.cells (boolC (inL N ps)) 4)) (Q : Exit → Go.Act → World → Prop)
    (hq : ∀ (c : Go.Act), c.defers = [] → c.tmps.size = 172 → slot c 0 = .slice da N dc → slot c 4 = .int .i64 (t : Int) → slot c 6 = .pointer (some ⟨xb, 0, none⟩) → slot c 13 = .int .i64 (N : Int) → slot c 14 = .slice (some ⟨gb, 0, none⟩) N N → slot c 2 = .slice ra RN rc → slot c 17 = lv → slot c 18 = .int .i64 (m : Int) → slot c 19 = .int .i64 ((p : Int) + 1) → Q .normal c wr) : Code.wp Tryz.prog trdB2 Q a wr := by
  have HQ := Lib.hid hq
  rw [frame172 a hsz hd, h0, h4, h6, h13, h14, h2, h17, h18, h19]
  clear hq h0 h4 h6 h13 h14 h2 h17 h18 h19 hsz hd
  conv => arg 2; whnf
  have hpi : (p : Int) < N := by omega
  have hcb := bool_cell hA hpn
  rw [decide_eq_true hmem] at hcb
  clear hmem hA
  go_wp2
  exact HQ.out _ rfl rfl rfl rfl rfl rfl rfl rfl rfl rfl (by go_num)
set_option maxRecDepth 1000000 in
set_option maxHeartbeats 8000000 in
theorem trd2_test (wr : World) (a : Go.Act) (hsz : a.tmps.size = 172) (hd : a.defers = []) (da ra : Option Addr) (dc rc RN t xb N gb p m : Nat) (lv : Value) (ps : List Nat) (reg : List UInt8) (al : List Int) (w0 : World) (Z : Nat) (h0 : slot a 0 = .slice da N dc) (h4 : slot a 4 = .int .i64 (t : Int)) (h6 : slot a 6 = .pointer (some ⟨xb, 0, none⟩)) (h13 : slot a 13 = .int .i64 (N : Int)) (h14 : slot a 14 = .slice (some ⟨gb, 0, none⟩) N N) (h2 : slot a 2 = .slice ra RN rc) (h17 : slot a 17 = lv) (h18 : slot a 18 = .int .i64 (m : Int)) (h19 : slot a 19 = .int .i64 (p : Int)) (hpn : p < N) (h255 : N ≤ 255) (hm : m ≤ 300) (hmem : p ∉ ps) (hA : At wr gb (.cells (boolC (inL N ps)) 4)) (hF : Fr [] w0 wr) (hZ : w0.heap.size ≤ Z) (hzr : Z ≤ wr.heap.size) (hgz : gb < Z) (hr : Bs (fun _ => False) w0 (.slice ra RN rc) reg) (hI : OwnI 3 Z wr lv al) (hal : al.length ≤ 1000) (Q : Exit → Go.Act → World → Prop)
    (hq : ∀ (c : Go.Act) (w' : World), c.defers = [] → c.tmps.size = 172 → slot c 0 = .slice da N dc → slot c 4 = .int .i64 (t : Int) → slot c 6 = .pointer (some ⟨xb, 0, none⟩) → slot c 13 = .int .i64 (N : Int) → slot c 14 = .slice (some ⟨gb, 0, none⟩) N N → slot c 2 = .slice ra RN rc → ∀ lv', slot c 17 = lv' → slot c 18 = .int .i64 (((m + if pev reg (ginv (plX N p)) = 0 then 1 else 0 : Nat)) : Int) → slot c 19 = .int .i64 ((p : Int) + 1) → OwnI 3 Z w' lv' (al ++ if pev reg (ginv (plX N p)) = 0 then [(p : Int)] else []) → At w' gb (.cells (boolC (inL N ps)) 4) → Fr [] w0 w' → Z ≤ w'.heap.size → Q .normal c w') : Code.wp Tryz.prog trdB2 Q a wr := by
  have HQ := Lib.hid hq
  rw [frame172 a hsz hd, h0, h4, h6, h13, h14, h2, h17, h18, h19]
  clear hq h0 h4 h6 h13 h14 h2 h17 h18 h19 hsz hd
  conv => arg 2; whnf
  have HRG := Lib.hid hr
  have HA := Lib.hid hA
  have HF := Lib.hid hF
  have HI := Lib.hid hI
  have hpi : (p : Int) < N := by omega
  have hcb := bool_cell hA hpn
  rw [decide_eq_false hmem] at hcb
  have HPW := Lib.hid (fun w' => r3power_any w' N p h255 hpn)
  have HIN := Lib.hid (fun w' => rinv_any w' (plX N p))
  have HEV := Lib.hid (fun w' (h : Fr [] w0 w') => reval_any (fun _ => False) w' _ reg (ginv (plX N p)) (HRG.out.keep h (by simp)))
  obtain ⟨x, hx⟩ : ∃ x, plX N p = x := ⟨_, rfl⟩
  rw [hx] at HPW HIN HEV HQ
  obtain ⟨y, hy⟩ : ∃ q, ginv x = q := ⟨_, rfl⟩
  rw [hy] at HIN HEV HQ
  obtain ⟨z, hz0⟩ : ∃ q, pev reg y = q := ⟨_, rfl⟩
  rw [hz0] at HEV HQ
  clear hmem hA hF hI hr hx hy hz0
  go_wp2_with (go_at_call 56; fail)
  refine (HPW.out _).mono ?_
  rintro e w4 ⟨rfl, hf⟩
  have HF4 := Lib.hid (HF.out.trans hf)
  have HI4 := Lib.hid (HI.out.keep0 hf)
  have HA4 := Lib.hid (HA.out.keep0 hf)
  have hz4 : Z ≤ w4.heap.size := by have := hf.size; omega
  clear hf HF HI HA HPW hcb
  go_wp2_with (go_at_call 62; fail)
  refine (HIN.out _).mono ?_
  rintro e w5 ⟨rfl, hf⟩
  have HF5 := Lib.hid (HF4.out.trans hf)
  have HI5 := Lib.hid (HI4.out.keep0 hf)
  have HA5 := Lib.hid (HA4.out.keep0 hf)
  have hz5 : Z ≤ w5.heap.size := by have := hf.size; omega
  clear hf HF4 HI4 HA4 HIN
  go_wp2_with (go_at_call 61; fail)
  refine (HEV.out _ HF5.out).mono ?_
  rintro e w6 ⟨rfl, hf⟩
  have HF6 := Lib.hid (HF5.out.trans hf)
  have HI6 := Lib.hid (HI5.out.keep0 hf)
  have HA6 := Lib.hid (HA5.out.keep0 hf)
  have hz6 : Z ≤ w6.heap.size := by have := hf.size; omega
  clear hf HF5 HI5 HA5 HEV
  by_cases hzz : z = 0
  · subst hzz
    rw [if_pos rfl, if_pos rfl] at HQ
    have fb : Fr [] w6 (w6.alloc (.cells #[.int .i64 (p : Int)] 3)) := Fr.alloc _ _
    have HI7 := Lib.hid (HI6.out.keep0 fb)
    have HA7 := Lib.hid (HA6.out.keep0 fb)
    have HF7 := Lib.hid (HF6.out.trans fb)
    have HIL := Lib.hid (show al.length ≤ 17592186044414 by omega)
    clear fb HI6 HA6 HF6
    go_wp2_with (at_builtin; refine wpl_append_n Tryz.underlying23 Tryz.infoIntT rfl (.tmp 68) (.tmp 70) rfl rfl rfl (At.new rfl) HI7.out HIL.out (by simp; omega) ?_)
    intro pv8 w8 h8 g8
    have HI8 := Lib.hid h8
    have HF8 := Lib.hid (show Fr [] w0 w8 from OwnI.fr HI7.out HF7.out g8 hZ)
    have HA8 := Lib.hid (HA7.out.grown g8 (HI7.out.ne hgz))
    have hz8 : Z ≤ w8.heap.size := by have := (grown_fr g8).size; simp at this; omega
    clear h8 g8 HI7 HA7 HF7
    go_wp2
    exact HQ.out _ _ rfl rfl rfl rfl rfl rfl rfl rfl _ rfl (by go_num) (by go_num) HI8.out HA8.out HF8.out hz8
  · rw [if_neg hzz, if_neg hzz, List.append_nil] at HQ
    have hzn : z.toNat ≠ 0 := fun h => hzz (UInt8.toNat_inj.1 h)
    clear hzz
    go_wp2
    exact HQ.out _ _ rfl rfl rfl rfl rfl rfl rfl rfl _ rfl (by go_num) (by go_num) HI6.out HA6.out HF6.out hz6
set_option maxRecDepth 1000000 in
set_option maxHeartbeats 8000000 in
theorem trd2_exit (wr : World) (a : Go.Act) (hsz : a.tmps.size = 172) (hd : a.defers = []) (da ra : Option Addr) (dc rc RN t xb N gb m : Nat) (lv : Value) (h0 : slot a 0 = .slice da N dc) (h4 : slot a 4 = .int .i64 (t : Int)) (h6 : slot a 6 = .pointer (some ⟨xb, 0, none⟩)) (h13 : slot a 13 = .int .i64 (N : Int)) (h14 : slot a 14 = .slice (some ⟨gb, 0, none⟩) N N) (h2 : slot a 2 = .slice ra RN rc) (h17 : slot a 17 = lv) (h18 : slot a 18 = .int .i64 (m : Int)) (h19 : slot a 19 = .int .i64 (N : Int)) (h255 : N ≤ 255) (Q : Exit → Go.Act → World → Prop)
    (hq : ∀ (c : Go.Act), c.defers = [] → c.tmps.size = 172 → slot c 0 = .slice da N dc → slot c 4 = .int .i64 (t : Int) → slot c 6 = .pointer (some ⟨xb, 0, none⟩) → slot c 13 = .int .i64 (N : Int) → slot c 14 = .slice (some ⟨gb, 0, none⟩) N N → slot c 17 = lv → slot c 18 = .int .i64 (m : Int) → Q (.exit 2) c wr) : Code.wp Tryz.prog trdB2 Q a wr := by
  have HQ := Lib.hid hq
  rw [frame172 a hsz hd, h0, h4, h6, h13, h14, h2, h17, h18, h19]
  clear hq h0 h4 h6 h13 h14 h2 h17 h18 h19 hsz hd
  conv => arg 2; whnf
  have hki : ¬ (N : Int) < N := by omega
  go_wp2
  apply HQ.out <;> rfl
set_option maxRecDepth 1000000 in
set_option maxHeartbeats 8000000 in
theorem trd2_loop (w0 wa : World) (a : Go.Act) (hsz : a.tmps.size = 172) (hd : a.defers = []) (da ra : Option Addr) (dc rc RN t xb N gb Z : Nat) (lv : Value) (ps : List Nat) (reg : List UInt8) (h0 : slot a 0 = .slice da N dc) (h4 : slot a 4 = .int .i64 (t : Int)) (h6 : slot a 6 = .pointer (some ⟨xb, 0, none⟩)) (h13 : slot a 13 = .int .i64 (N : Int)) (h14 : slot a 14 = .slice (some ⟨gb, 0, none⟩) N N) (h2 : slot a 2 = .slice ra RN rc) (h17 : slot a 17 = lv) (h18 : slot a 18 = .int .i64 0) (h19 : slot a 19 = .int .i64 0) (h255 : N ≤ 255) (hpl : ps.length ≤ 100)
    (hA : At wa gb (.cells (boolC (inL N ps)) 4)) (hF : Fr [] w0 wa) (hZ : w0.heap.size ≤ Z) (hzr : Z ≤ wa.heap.size) (hgz : gb < Z) (hr : Bs (fun _ => False) w0 (.slice ra RN rc) reg) (hI : OwnI 3 Z wa lv (intL ps)) (Q : Exit → Go.Act → World → Prop)
    (hq : ∀ (c : Go.Act) (w' : World) (lv' : Value), c.defers = [] → c.tmps.size = 172 → slot c 0 = .slice da N dc → slot c 4 = .int .i64 (t : Int) → slot c 6 = .pointer (some ⟨xb, 0, none⟩) → slot c 13 = .int .i64 (N : Int) → slot c 14 = .slice (some ⟨gb, 0, none⟩) N N → slot c 17 = lv' → slot c 18 = .int .i64 ((fndL N reg ps).length : Int) → OwnI 3 Z w' lv' (intL (ps ++ fndL N reg ps)) → At w' gb (.cells (boolC (inL N ps)) 4) → Fr [] w0 w' → Q (.exit 2) c w') : Code.wp Tryz.prog (Code.loop trdB2) Q a wa := by
  refine wp_loop (fun a w => a.tmps.size = 172 ∧ a.defers = [] ∧ slot a 0 = .slice da N dc ∧ slot a 4 = .int .i64 (t : Int) ∧ slot a 6 = .pointer (some ⟨xb, 0, none⟩) ∧ slot a 13 = .int .i64 (N : Int) ∧ slot a 14 = .slice (some ⟨gb, 0, none⟩) N N ∧ slot a 2 = .slice ra RN rc ∧ ∃ (p : Nat) (lv : Value), p ≤ N ∧ slot a 17 = lv ∧ slot a 18 = .int .i64 ((fndK N reg ps p).length : Int) ∧ slot a 19 = .int .i64 (p : Int) ∧ OwnI 3 Z w lv (intL (ps ++ fndK N reg ps p)) ∧ At w gb (.cells (boolC (inL N ps)) 4) ∧ Fr [] w0 w ∧ Z ≤ w.heap.size) (fun a _ => N - kN (slot a 19)) ⟨hsz, hd, h0, h4, h6, h13, h14, h2, 0, lv, by omega, h17, by rw [h18]; rfl, h19, by rw [show fndK N reg ps 0 = [] from rfl, List.append_nil]; exact hI, hA, hF, hzr⟩ ?_
  clear h0 h4 h6 h13 h14 h2 h17 h18 h19 hA hsz hd hI hzr hF
  rintro a wr ⟨hsz, hd, h0, h4, h6, h13, h14, h2, p, lv, hp, h17, h18, h19, hI, hA, hF, hzr⟩
  have hle := fndK_le N reg ps p
  by_cases hpn : p < N
  · have hup := fndK_up N reg ps p
    by_cases hm : p ∈ ps
    · rw [if_neg (fun h => h.1 hm), List.append_nil] at hup
      refine trd2_gone wr a hsz hd da ra dc rc RN t xb N gb p _ lv ps h0 h4 h6 h13 h14 h2 h17 h18 h19 hpn h255 (by omega) hm hA _ ?_
      intro c kd ks q0 q4 q6 q13 q14 q2 q17 q18 q19
      refine ⟨⟨ks, kd, q0, q4, q6, q13, q14, q2, p + 1, lv, by omega, q17, by rw [hup]; exact q18, by rw [q19]; rfl, by rw [hup]; exact hI, hA, hF, hzr⟩, ?_⟩
      rw [q19, h19]
      simp [kN]; omega
    · refine trd2_test wr a hsz hd da ra dc rc RN t xb N gb p _ lv ps reg _ w0 Z h0 h4 h6 h13 h14 h2 h17 h18 h19 hpn h255 (by omega) hm hA hF hZ hzr hgz hr hI (by rw [intL_len, List.length_append]; omega) _ ?_
      intro c w' kd ks q0 q4 q6 q13 q14 q2 lv' q17 q18 q19 hI' hA' hF' hz'
      have hl : (fndK N reg ps (p + 1)).length = (fndK N reg ps p).length + if pev reg (ginv (plX N p)) = 0 then 1 else 0 := by
        rw [hup, List.length_append]
        by_cases hz : pev reg (ginv (plX N p)) = 0
        · rw [if_pos ⟨hm, hz⟩, if_pos hz]; rfl
        · rw [if_neg (fun h => hz h.2), if_neg hz]; rfl
      refine ⟨⟨ks, kd, q0, q4, q6, q13, q14, q2, p + 1, lv', by omega, q17, by rw [hl]; exact q18, by rw [q19]; rfl, ?_, hA', hF', hz'⟩, ?_⟩
      · have e : intL (ps ++ fndK N reg ps (p + 1)) = intL (ps ++ fndK N reg ps p) ++ if pev reg (ginv (plX N p)) = 0 then [(p : Int)] else [] := by
          rw [hup, ← List.append_assoc]
          by_cases hz : pev reg (ginv (plX N p)) = 0
          · rw [if_pos ⟨hm, hz⟩, if_pos hz]; unfold intL; rw [List.map_append (l₂ := [p])]; rfl
          · rw [if_neg (fun h => hz h.2), if_neg hz, List.append_nil, List.append_nil]
        rw [e]
        exact hI'
      · rw [q19, h19]
        simp [kN]; omega
  · obtain rfl : p = N := by omega
    refine trd2_exit wr a hsz hd da ra dc rc RN t xb p gb _ lv h0 h4 h6 h13 h14 h2 h17 h18 h19 h255 _ ?_
    intro c kd ks q0 q4 q6 q13 q14 q17 q18
    exact hq c wr lv kd ks q0 q4 q6 q13 q14 q17 q18 hI hA hF
noncomputable def trdB4 : Code := ((Tryz.f28.body.bind (findLoop 24)).getD .skip)
set_option maxRecDepth 1000000 in
set_option maxHeartbeats 8000000 in
theorem trd4_round (wr : World) (a : Go.Act) (hsz : a.tmps.size = 172) (hd : a.defers = []) (da : Option Addr) (lb lo dc lc AN xb N gb j : Nat) (rv : Value) (i q BW : Nat) (xv : Value) (xs : List UInt8) (w1 : World) (h0 : slot a 0 = .slice da N dc) (h6 : slot a 6 = .pointer (some ⟨xb, 0, none⟩)) (h13 : slot a 13 = .int .i64 (N : Int)) (h14 : slot a 14 = .slice (some ⟨gb, 0, none⟩) N N) (h17 : slot a 17 = .slice (some ⟨lb, lo, none⟩) AN lc) (h20 : slot a 20 = rv) (h21 : slot a 21 = .int .i64 (j : Int)) (h83 : slot a 83 = .slice (some ⟨lb, lo, none⟩) AN lc) (h84 : slot a 84 = .int .i64 (AN : Int)) (h22 : slot a 22 = xv) (h85 : slot a 85 = .int .i64 (i : Int)) (hi : i < AN) (hAN : AN ≤ 300) (h255 : N ≤ 255) (hj : j ≤ 1000) (hq0 : q < N) (hc : wr.cell? ⟨lb, lo + i, none⟩ = some (.int .i64 (q : Int))) (hR : OwnB 5 BW wr xv xs) (hxs : xs.length ≤ 1000) (hF : Fr [] w1 wr) (hB : w1.heap.size ≤ BW) (hbw : BW ≤ wr.heap.size) (Q : Exit → Go.Act → World → Prop)
    (hq : ∀ (c : Go.Act) (w' : World) (xv' : Value), c.defers = [] → c.tmps.size = 172 → slot c 0 = .slice da N dc → slot c 6 = .pointer (some ⟨xb, 0, none⟩) → slot c 13 = .int .i64 (N : Int) → slot c 14 = .slice (some ⟨gb, 0, none⟩) N N → slot c 17 = .slice (some ⟨lb, lo, none⟩) AN lc → slot c 20 = rv → slot c 21 = .int .i64 (j : Int) → slot c 83 = .slice (some ⟨lb, lo, none⟩) AN lc → slot c 84 = .int .i64 (AN : Int) → slot c 22 = xv' → slot c 85 = .int .i64 ((i : Int) + 1) → OwnB 5 BW w' xv' (xs ++ [gpw (plX N q) j]) → Fr [] w1 w' → BW ≤ w'.heap.size → Q .normal c w') : Code.wp Tryz.prog trdB4 Q a wr := by
  have HQ := Lib.hid hq
  rw [frame172 a hsz hd, h0, h6, h13, h14, h17, h20, h21, h83, h84, h22, h85]
  clear hq h0 h6 h13 h14 h17 h20 h21 h83 h84 h22 h85 hsz hd
  conv => arg 2; whnf
  have hii : (i : Int) < AN := by omega
  have HR := Lib.hid hR
  have HFr := Lib.hid hF
  have HPW := Lib.hid (fun w' => r3power_any w' N q h255 hq0)
  have HRP := Lib.hid (fun w' => rpow_any w' (plX N q) j (by omega))
  have HLN := Lib.hid (show xs.length ≤ 140737488355000 by omega)
  clear hR hF
  go_wp2_with (go_at_call 56; fail)
  refine (HPW.out _).mono ?_
  rintro e w4 ⟨rfl, hf⟩
  have HR4 := Lib.hid (HR.out.keep hf (by simp))
  have HF4 := Lib.hid (HFr.out.trans hf)
  have hb4 : BW ≤ w4.heap.size := by have := hf.size; omega
  clear hf HR HFr HPW hc
  go_wp2_with (go_at_call 63; fail)
  refine (HRP.out _).mono ?_
  rintro e w5 ⟨rfl, hf⟩
  have fb : Fr [] w5 (w5.alloc (.cells #[.int .u8 ((gpw (plX N q) j).toNat : Int)] 5)) := Fr.alloc _ _
  have HR5 := Lib.hid ((HR4.out.keep hf (by simp)).keep fb (by simp))
  have HF5 := Lib.hid ((HF4.out.trans hf).trans fb)
  have hb5 : BW ≤ w5.heap.size := by have := hf.size; omega
  clear hf fb HR4 HF4 HRP
  go_wp2_with (at_builtin; refine wpl_append_b Tryz.underlying22 Tryz.infoByte rfl (.tmp 89) (.tmp 95) rfl rfl rfl (At.new rfl) HR5.out HLN.out (by simp; omega) ?_)
  intro v7 w7 h7 g7
  have HR7 := Lib.hid h7
  have HF7 := Lib.hid (show Fr [] w1 w7 from OwnB.fr HR5.out HF5.out g7 hB)
  have hb7 : BW ≤ w7.heap.size := by have := (grown_fr g7).size; simp at this; omega
  clear h7 g7 HR5 HF5
  go_wp2
  exact HQ.out _ _ _ rfl rfl rfl rfl rfl rfl rfl rfl rfl rfl rfl rfl (by go_num) HR7.out HF7.out hb7
set_option maxRecDepth 1000000 in
set_option maxHeartbeats 8000000 in
theorem trd4_exit (wr : World) (a : Go.Act) (hsz : a.tmps.size = 172) (hd : a.defers = []) (da la : Option Addr) (dc lc AN xb N gb j : Nat) (rv : Value) (xv : Value) (h0 : slot a 0 = .slice da N dc) (h6 : slot a 6 = .pointer (some ⟨xb, 0, none⟩)) (h13 : slot a 13 = .int .i64 (N : Int)) (h14 : slot a 14 = .slice (some ⟨gb, 0, none⟩) N N) (h17 : slot a 17 = .slice la AN lc) (h20 : slot a 20 = rv) (h21 : slot a 21 = .int .i64 (j : Int)) (h83 : slot a 83 = .slice la AN lc) (h84 : slot a 84 = .int .i64 (AN : Int)) (h22 : slot a 22 = xv) (h85 : slot a 85 = .int .i64 (AN : Int)) (hAN : AN ≤ 300) (Q : Exit → Go.Act → World → Prop)
    (hq : ∀ (c : Go.Act), c.defers = [] → c.tmps.size = 172 → slot c 0 = .slice da N dc → slot c 6 = .pointer (some ⟨xb, 0, none⟩) → slot c 13 = .int .i64 (N : Int) → slot c 14 = .slice (some ⟨gb, 0, none⟩) N N → slot c 17 = .slice la AN lc → slot c 20 = rv → slot c 21 = .int .i64 (j : Int) → slot c 22 = xv → Q (.exit 6) c wr) : Code.wp Tryz.prog trdB4 Q a wr := by
  have HQ := Lib.hid hq
  rw [frame172 a hsz hd, h0, h6, h13, h14, h17, h20, h21, h83, h84, h22, h85]
  clear hq h0 h6 h13 h14 h17 h20 h21 h83 h84 h22 h85 hsz hd
  conv => arg 2; whnf
  have hii : ¬ (AN : Int) < AN := by omega
  go_wp2
  apply HQ.out <;> rfl
set_option maxRecDepth 1000000 in
set_option maxHeartbeats 8000000 in
theorem trd4_loop (w1 wa : World) (a : Go.Act) (hsz : a.tmps.size = 172) (hd : a.defers = []) (da la : Option Addr) (dc lc AN xb N gb j : Nat) (rv : Value) (BW : Nat) (xv : Value) (all : List Nat) (h0 : slot a 0 = .slice da N dc) (h6 : slot a 6 = .pointer (some ⟨xb, 0, none⟩)) (h13 : slot a 13 = .int .i64 (N : Int)) (h14 : slot a 14 = .slice (some ⟨gb, 0, none⟩) N N) (h17 : slot a 17 = .slice la AN lc) (h20 : slot a 20 = rv) (h21 : slot a 21 = .int .i64 (j : Int)) (h83 : slot a 83 = .slice la AN lc) (h84 : slot a 84 = .int .i64 (AN : Int)) (h22 : slot a 22 = xv) (h85 : slot a 85 = .int .i64 0) (hAN : all.length = AN) (hA3 : AN ≤ 300) (h255 : N ≤ 255) (hj : j ≤ 1000) (hall : ∀ q ∈ all, q < N)
    (hl : Is (fun _ => False) w1 (.slice la AN lc) (intL all)) (hR : OwnB 5 BW wa xv []) (hF : Fr [] w1 wa) (hB : w1.heap.size ≤ BW) (hbw : BW ≤ wa.heap.size) (Q : Exit → Go.Act → World → Prop)
    (hq : ∀ (c : Go.Act) (w' : World) (xv' : Value), c.defers = [] → c.tmps.size = 172 → slot c 0 = .slice da N dc → slot c 6 = .pointer (some ⟨xb, 0, none⟩) → slot c 13 = .int .i64 (N : Int) → slot c 14 = .slice (some ⟨gb, 0, none⟩) N N → slot c 17 = .slice la AN lc → slot c 20 = rv → slot c 21 = .int .i64 (j : Int) → slot c 22 = xv' → OwnB 5 BW w' xv' (all.map fun q => gpw (plX N q) j) → Fr [] w1 w' → BW ≤ w'.heap.size → Q (.exit 6) c w') : Code.wp Tryz.prog (Code.loop trdB4) Q a wa := by
  refine wp_loop (fun a w => a.tmps.size = 172 ∧ a.defers = [] ∧ slot a 0 = .slice da N dc ∧ slot a 6 = .pointer (some ⟨xb, 0, none⟩) ∧ slot a 13 = .int .i64 (N : Int) ∧ slot a 14 = .slice (some ⟨gb, 0, none⟩) N N ∧ slot a 17 = .slice la AN lc ∧ slot a 20 = rv ∧ slot a 21 = .int .i64 (j : Int) ∧ slot a 83 = .slice la AN lc ∧ slot a 84 = .int .i64 (AN : Int) ∧ ∃ (i : Nat) (xv : Value), i ≤ AN ∧ slot a 22 = xv ∧ slot a 85 = .int .i64 (i : Int) ∧ OwnB 5 BW w xv ((all.take i).map fun q => gpw (plX N q) j) ∧ Fr [] w1 w ∧ BW ≤ w.heap.size) (fun a _ => AN - kN (slot a 85)) ⟨hsz, hd, h0, h6, h13, h14, h17, h20, h21, h83, h84, 0, xv, by omega, h22, h85, by rw [List.take_zero]; exact hR, hF, hbw⟩ ?_
  clear h0 h6 h13 h14 h17 h20 h21 h83 h84 h22 h85 hR hsz hd hF hbw
  rintro a wr ⟨hsz, hd, h0, h6, h13, h14, h17, h20, h21, h83, h84, i, xv, hi, h22, h85, hR, hF, hbw⟩
  by_cases hiA : i < AN
  · obtain ⟨q, hqk⟩ : ∃ q, all[i]? = some q := ⟨_, List.getElem?_eq_getElem (by omega)⟩
    obtain ⟨lb, lo, e, hcc⟩ := is_cell (hl.keep hF (by simp)) i (q : Int) (by unfold intL; rw [List.getElem?_map, hqk]; rfl)
    subst e
    refine trd4_round wr a hsz hd da lb lo dc lc AN xb N gb j rv i q BW xv _ w1 h0 h6 h13 h14 h17 h20 h21 h83 h84 h22 h85 hiA hA3 h255 hj (hall q (List.mem_of_getElem? hqk)) hcc hR (by rw [List.length_map, List.length_take]; omega) hF hB hbw _ ?_
    intro c w' xv' kd ks q0 q6 q13 q14 q17 q20 q21 q83 q84 q22 q85 hR' hf' hb'
    refine ⟨⟨ks, kd, q0, q6, q13, q14, q17, q20, q21, q83, q84, i + 1, xv', by omega, q22, by rw [q85]; rfl, ?_, hf', hb'⟩, ?_⟩
    · rw [show all.take (i + 1) = all.take i ++ [q] by rw [List.take_add_one, hqk]; rfl, List.map_append]
      exact hR'
    · rw [q85, h85]
      simp [kN]; omega
  · obtain rfl : i = AN := by omega
    refine trd4_exit wr a hsz hd da la dc lc i xb N gb j rv xv h0 h6 h13 h14 h17 h20 h21 h83 h84 h22 h85 hA3 _ ?_
    intro c kd ks q0 q6 q13 q14 q17 q20 q21 q22
    rw [List.take_of_length_le (by omega)] at hR
    exact hq c wr xv kd ks q0 q6 q13 q14 q17 q20 q21 q22 hR hF hbw
noncomputable def trdB3 : Code := ((Tryz.f28.body.bind (findLoop 20)).getD .skip)
set_option maxRecDepth 1000000 in
set_option maxHeartbeats 8000000 in
theorem trd3_round (wr : World) (a : Go.Act) (hsz : a.tmps.size = 172) (hd : a.defers = []) (da la : Option Addr) (dc lc AN xb N gb j : Nat) (rv : Value) (B9 : Nat) (all : List Nat) (s : List UInt8) (SC : Array Value) (wm : World) (ls : List (Value × List UInt8)) (h0 : slot a 0 = .slice da N dc) (h6 : slot a 6 = .pointer (some ⟨xb, 0, none⟩)) (h13 : slot a 13 = .int .i64 (N : Int)) (h14 : slot a 14 = .slice (some ⟨gb, 0, none⟩) N N) (h17 : slot a 17 = .slice la AN lc) (h20 : slot a 20 = rv) (h21 : slot a 21 = .int .i64 (j : Int)) (hj : j < 32) (hAN : all.length = AN) (hA3 : AN ≤ 300) (h255 : N ≤ 255) (hall : ∀ q ∈ all, q < N) (hl : Is (fun _ => False) wm (.slice la AN lc) (intL all)) (hX : At wm xb (.cells SC 51)) (hS : SC[j]? = some (.int .u8 ((cf s j).toNat : Int))) (hSS : SC.size = 32)
    (hO : OwnV 22 B9 wr rv (ls.map (·.1))) (hOB : ∀ x ∈ ls, BsT wr x.1 x.2) (hll : ls.length ≤ 100) (hF : Fr [] wm wr) (hB : wm.heap.size ≤ B9) (hbw : B9 ≤ wr.heap.size) (Q : Exit → Go.Act → World → Prop)
    (hq : ∀ (c : Go.Act) (w' : World) (rv' bl : Value), c.defers = [] → c.tmps.size = 172 → slot c 0 = .slice da N dc → slot c 6 = .pointer (some ⟨xb, 0, none⟩) → slot c 13 = .int .i64 (N : Int) → slot c 14 = .slice (some ⟨gb, 0, none⟩) N N → slot c 17 = .slice la AN lc → slot c 20 = rv' → slot c 21 = .int .i64 ((j : Int) + 1) → OwnV 22 B9 w' rv' ((ls ++ [(bl, trRows N all s j)]).map (·.1)) → (∀ x ∈ ls ++ [(bl, trRows N all s j)], BsT w' x.1 x.2) → Fr [] wm w' → B9 ≤ w'.heap.size → Q .normal c w') : Code.wp Tryz.prog trdB3 Q a wr := by
  have HQ := Lib.hid hq
  rw [frame172 a hsz hd, h0, h6, h13, h14, h17, h20, h21]
  clear hq h0 h6 h13 h14 h17 h20 h21 hsz hd
  conv => arg 2; whnf
  have hji : (j : Int) < 32 := by omega
  have HAN := Lib.hid hAN
  have HALL := Lib.hid hall
  have HL := Lib.hid (hl.keep hF (by simp))
  have HX := Lib.hid (hX.keep0 hF)
  have HS := Lib.hid hS
  have HSS := Lib.hid hSS
  have HO := Lib.hid hO
  have HOB := Lib.hid hOB
  have HF := Lib.hid hF
  have hE : OwnB 5 wr.heap.size (wr.alloc (.cells #[] 5)) (.slice (some ⟨wr.heap.size, 0, none⟩) 0 0) [] := OwnB.empty 5 wr.heap.size wr (Nat.le_refl _)
  have HE := Lib.hid hE
  have HFE := Lib.hid (show Fr [] wr (wr.alloc (.cells #[] 5)) from Fr.alloc _ _)
  have hbe : wr.heap.size ≤ (wr.alloc (.cells #[] 5)).heap.size := by simp
  clear hE hAN hall hl hX hS hSS hO hOB hF
  go_wp2_with fail
  refine trd4_loop wr _ _ rfl rfl da la dc lc AN xb N gb j rv wr.heap.size _ all rfl rfl rfl rfl rfl rfl rfl rfl rfl rfl rfl HAN.out hA3 h255 (by omega) HALL.out HL.out HE.out HFE.out (Nat.le_refl _) hbe _ ?_
  intro c wq xv kd ks q0 q6 q13 q14 q17 q20 q21 q22 hR hf hb
  obtain ⟨AR, hAR⟩ : ∃ l, (all.map fun q => gpw (plX N q) j) = l := ⟨_, rfl⟩
  have HARL := Lib.hid (show AR.length = AN by rw [← hAR, List.length_map]; exact HAN.out)
  have HARE := Lib.hid (show trRows N all s j = AR ++ [cf s j] by rw [← hAR]; rfl)
  rw [hAR] at hR
  have HR := Lib.hid hR
  have HFr := Lib.hid hf
  have hxc := (HX.out.keep0 hf).cell j
  rw [HS.out] at hxc
  rw [frame172 c ks kd, q0, q6, q13, q14, q17, q20, q21, q22]
  clear kd ks q0 q6 q13 q14 q17 q20 q21 q22 hR hf hAR HE HFE hbe
  obtain ⟨z, hz9⟩ : ∃ z, cf s j = z := ⟨_, rfl⟩
  rw [hz9] at hxc HARE
  have fb : Fr [] wq (wq.alloc (.cells #[.int .u8 (z.toNat : Int)] 5)) := Fr.alloc _ _
  have HR5 := Lib.hid (HR.out.keep fb (by simp))
  have HF5 := Lib.hid (HFr.out.trans fb)
  have hb5 : wr.heap.size ≤ (wq.alloc (.cells #[.int .u8 (z.toNat : Int)] 5)).heap.size := by simp; omega
  have HLN := Lib.hid (show AR.length ≤ 140737488355000 by have := HARL.out; omega)
  clear hz9 fb HR HFr
  go_wp2_with (at_builtin; refine wpl_append_b Tryz.underlying22 Tryz.infoByte rfl (.tmp 99) (.tmp 103) rfl rfl rfl (At.new rfl) HR5.out HLN.out (by simp; omega) ?_)
  intro v7 w7 h7 g7
  rw [← HARE.out] at h7
  have hlen7 : (trRows N all s j).length = AN + 1 := by rw [HARE.out, List.length_append, HARL.out]; rfl
  have HF7 := Lib.hid (show Fr [] wr w7 from OwnB.fr HR5.out HF5.out g7 (Nat.le_refl _))
  have HB7 := Lib.hid (bst_own h7 (by rw [hlen7]; omega))
  obtain ⟨rb, ro, rcp, e⟩ := HB7.out.shape
  subst e
  obtain ⟨TR, hTR⟩ : ∃ l, trRows N all s j = l := ⟨_, rfl⟩
  rw [hTR] at HB7 HQ hlen7
  rw [hTR, hlen7]
  rw [hlen7] at HB7
  have hf8 : Fr [] w7 (w7.alloc (.cells #[.slice (some ⟨rb, ro, none⟩) (AN + 1) rcp] 22)) := Fr.alloc _ _
  have HL8 := Lib.hid (show (w7.alloc (.cells #[.slice (some ⟨rb, ro, none⟩) (AN + 1) rcp] 22)).heap[w7.heap.size]? = some (.cells #[.slice (some ⟨rb, ro, none⟩) (AN + 1) rcp] 22 (0, 0)) from heap_alloc_at rfl)
  have HF8 := Lib.hid (HF7.out.trans hf8)
  have HX8 := Lib.hid (HB7.out.keep0 hf8)
  have HO8 := Lib.hid (HO.out.keep0 HF8.out)
  have HOB8 := Lib.hid (fun x hx => (HOB.out x hx).keep0 HF8.out)
  have hs8 : B9 ≤ (w7.alloc (.cells #[.slice (some ⟨rb, ro, none⟩) (AN + 1) rcp] 22)).heap.size := by have := HF8.out.size; omega
  have HLL := Lib.hid hll
  clear h7 g7 hf8 HR5 HF5 HF7 HB7 HO hxc HOB hTR HARE HARL hll
  go_wp2_with (at_builtin; refine wpl_append_1 Tryz.underlying41 Tryz.infoBytesT rfl rfl (.tmp 98) (.tmp 105) rfl rfl rfl HL8.out rfl HO8.out (by rw [List.length_map]; have := HLL.out; omega) (by rw [List.length_map]; unfold maxLen; have := HLL.out; omega) hs8 ?_)
  intro v9 w9 h9 g9
  have HO9 := Lib.hid (show OwnV 22 B9 w9 v9 ((ls ++ [(Value.slice (some ⟨rb, ro, none⟩) (AN + 1) rcp, TR)]).map (·.1)) by rw [List.map_append]; exact h9)
  have HOB9 := Lib.hid (show ∀ x ∈ ls ++ [(Value.slice (some ⟨rb, ro, none⟩) (AN + 1) rcp, TR)], BsT w9 x.1 x.2 from fun x hx => by
    rcases List.mem_append.1 hx with hx | hx
    · exact (HOB8.out x hx).grown HO8.out g9
    · rw [List.mem_singleton] at hx
      subst hx
      exact HX8.out.grown HO8.out g9)
  have HG9 := Lib.hid (show Fr [] wm w9 from OwnV.fr HO8.out (HF.out.trans HF8.out) g9 hB)
  have hs9 : B9 ≤ w9.heap.size := by have := g9.size; omega
  clear h9 g9 HO8 HOB8 HX8 HL8 HF8
  go_wp2
  exact HQ.out _ _ _ _ rfl rfl rfl rfl rfl rfl rfl rfl (by go_num) HO9.out HOB9.out HG9.out hs9
set_option maxRecDepth 1000000 in
set_option maxHeartbeats 8000000 in
theorem trd3_exit (wr : World) (a : Go.Act) (hsz : a.tmps.size = 172) (hd : a.defers = []) (da la : Option Addr) (dc lc AN xb N gb : Nat) (rv : Value) (h0 : slot a 0 = .slice da N dc) (h6 : slot a 6 = .pointer (some ⟨xb, 0, none⟩)) (h13 : slot a 13 = .int .i64 (N : Int)) (h14 : slot a 14 = .slice (some ⟨gb, 0, none⟩) N N) (h17 : slot a 17 = .slice la AN lc) (h20 : slot a 20 = rv) (h21 : slot a 21 = .int .i64 32)  (Q : Exit → Go.Act → World → Prop)
    (hq : ∀ (c : Go.Act), c.defers = [] → c.tmps.size = 172 → slot c 0 = .slice da N dc → slot c 6 = .pointer (some ⟨xb, 0, none⟩) → slot c 13 = .int .i64 (N : Int) → slot c 14 = .slice (some ⟨gb, 0, none⟩) N N → slot c 17 = .slice la AN lc → slot c 20 = rv → Q (.exit 4) c wr) : Code.wp Tryz.prog trdB3 Q a wr := by
  have HQ := Lib.hid hq
  rw [frame172 a hsz hd, h0, h6, h13, h14, h17, h20, h21]
  clear hq h0 h6 h13 h14 h17 h20 h21 hsz hd
  conv => arg 2; whnf
  go_wp2
  apply HQ.out <;> rfl
set_option maxRecDepth 1000000 in
set_option maxHeartbeats 8000000 in
theorem trd3_loop (wm wa : World) (a : Go.Act) (hsz : a.tmps.size = 172) (hd : a.defers = []) (da la : Option Addr) (dc lc AN xb N gb B9 : Nat) (rv : Value) (all : List Nat) (s : List UInt8) (SC : Array Value) (h0 : slot a 0 = .slice da N dc) (h6 : slot a 6 = .pointer (some ⟨xb, 0, none⟩)) (h13 : slot a 13 = .int .i64 (N : Int)) (h14 : slot a 14 = .slice (some ⟨gb, 0, none⟩) N N) (h17 : slot a 17 = .slice la AN lc) (h20 : slot a 20 = rv) (h21 : slot a 21 = .int .i64 0) (hAN : all.length = AN) (hA3 : AN ≤ 300) (h255 : N ≤ 255) (hall : ∀ q ∈ all, q < N)
    (hl : Is (fun _ => False) wm (.slice la AN lc) (intL all)) (hX : At wm xb (.cells SC 51)) (hS : ∀ j, j < 32 → SC[j]? = some (.int .u8 ((cf s j).toNat : Int))) (hSS : SC.size = 32) (hO : OwnV 22 B9 wa rv []) (hF : Fr [] wm wa) (hB : wm.heap.size ≤ B9) (hbw : B9 ≤ wa.heap.size) (Q : Exit → Go.Act → World → Prop)
    (hq : ∀ (c : Go.Act) (w' : World) (rv' : Value) (ls : List (Value × List UInt8)), c.defers = [] → c.tmps.size = 172 → slot c 0 = .slice da N dc → slot c 6 = .pointer (some ⟨xb, 0, none⟩) → slot c 13 = .int .i64 (N : Int) → slot c 14 = .slice (some ⟨gb, 0, none⟩) N N → slot c 17 = .slice la AN lc → slot c 20 = rv' → OwnV 22 B9 w' rv' (ls.map (·.1)) → (∀ x ∈ ls, BsT w' x.1 x.2) → ls.map (·.2) = (List.range 32).map (trRows N all s) → Fr [] wm w' → Q (.exit 4) c w') : Code.wp Tryz.prog (Code.loop trdB3) Q a wa := by
  refine wp_loop (fun a w => a.tmps.size = 172 ∧ a.defers = [] ∧ slot a 0 = .slice da N dc ∧ slot a 6 = .pointer (some ⟨xb, 0, none⟩) ∧ slot a 13 = .int .i64 (N : Int) ∧ slot a 14 = .slice (some ⟨gb, 0, none⟩) N N ∧ slot a 17 = .slice la AN lc ∧ ∃ (j : Nat) (rv : Value) (ls : List (Value × List UInt8)), j ≤ 32 ∧ slot a 20 = rv ∧ slot a 21 = .int .i64 (j : Int) ∧ OwnV 22 B9 w rv (ls.map (·.1)) ∧ (∀ x ∈ ls, BsT w x.1 x.2) ∧ ls.map (·.2) = (List.range j).map (trRows N all s) ∧ Fr [] wm w ∧ B9 ≤ w.heap.size) (fun a _ => 32 - kN (slot a 21)) ⟨hsz, hd, h0, h6, h13, h14, h17, 0, rv, [], by omega, h20, h21, hO, (fun x hx => by simp at hx), rfl, hF, hbw⟩ ?_
  clear h0 h6 h13 h14 h17 h20 h21 hO hsz hd hF hbw
  rintro a wr ⟨hsz, hd, h0, h6, h13, h14, h17, j, rv, ls, hj, h20, h21, hO, hOB, hOS, hF, hbw⟩
  have hlen : ls.length = j := by have h := congrArg List.length hOS; simpa using h
  by_cases hj32 : j < 32
  · refine trd3_round wr a hsz hd da la dc lc AN xb N gb j rv B9 all s SC wm ls h0 h6 h13 h14 h17 h20 h21 hj32 hAN hA3 h255 hall hl hX (hS j hj32) hSS hO hOB (by omega) hF hB hbw _ ?_
    intro c w' rv' bl kd ks q0 q6 q13 q14 q17 q20 q21 hO' hOB' hF' hb'
    refine ⟨⟨ks, kd, q0, q6, q13, q14, q17, j + 1, rv', _, by omega, q20, by rw [q21]; rfl, hO', hOB', ?_, hF', hb'⟩, ?_⟩
    · rw [List.map_append, hOS, List.range_succ, List.map_append]; rfl
    · rw [q21, h21]
      simp [kN]; omega
  · obtain rfl : j = 32 := by omega
    refine trd3_exit wr a hsz hd da la dc lc AN xb N gb rv h0 h6 h13 h14 h17 h20 h21 _ ?_
    intro c kd ks q0 q6 q13 q14 q17 q20
    exact hq c wr rv ls kd ks q0 q6 q13 q14 q17 q20 hO hOB hOS hF
noncomputable def trd_xorR : Code := ((Tryz.f28.body.bind (findRegionC 36)).getD .skip)
set_option maxRecDepth 1000000 in
set_option maxHeartbeats 8000000 in
theorem trd_xor (w : World) (a : Go.Act) (hsz : a.tmps.size = 172) (g n cp i yb yo m yc j base : Nat) (y : UInt8) (xs : List UInt8) (hi : i < n) (hn : n ≤ 1000000) (hj : j < m) (hm : m ≤ 1000000) (hl : xs.length = n) (hyb : yb ≠ g) (h27 : slot a 27 = .slice (some ⟨g, 0, none⟩) n cp) (h29 : slot a 29 = .int .i64 (i : Int)) (h25 : slot a 25 = .slice (some ⟨yb, yo, none⟩) m yc) (h28 : slot a 28 = .int .i64 (j : Int)) (hO : OwnB 5 base w (.slice (some ⟨g, 0, none⟩) n cp) xs) (hc : w.cell? ⟨yb, yo + j, none⟩ = some (.int .u8 (y.toNat : Int))) (Q : Exit → Go.Act → World → Prop)
    (hQ : ∀ (b : Go.Act) (p : World), b.defers = a.defers → b.tmps.size = a.tmps.size → (∀ s, s ∉ ([126, 127, 128, 129, 130, 131, 132, 133, 134, 135, 136, 137] : List Nat) → slot b s = slot a s) → Fr [g] w p → OwnB 5 base p (.slice (some ⟨g, 0, none⟩) n cp) (xs.set i (xs.getD i 0 ^^^ y)) → Q .normal b p) : Code.wp Tryz.prog trd_xorR Q a w := by
  conv => arg 2; whnf
  refine wp_region_chain (by kernel_rfl) (by kernel_rfl) [some 126, some 127, some 128, some 129, some 130, some 131, some 132, some 133, some 134, some 135, some 136, some 137, none] [12] [.rd (.slice (some ⟨g, 0, none⟩) n cp) 1, .rd (.int .i64 (i : Int)) 1, .rd (.slice (some ⟨g, 0, none⟩) n cp) 1, .rd (.int .i64 (i : Int)) 1, .rd (.pointer (some ⟨g, i, none⟩)) 1, .rd (.int .u8 ((xs.getD i 0).toNat : Int)) 0, .rd (.slice (some ⟨yb, yo, none⟩) m yc) 1, .rd (.int .i64 (j : Int)) 1, .rd (.pointer (some ⟨yb, yo + j, none⟩)) 1, .rd (.int .u8 (y.toNat : Int)) 1, .rd (.int .u8 ((xs.getD i 0 ^^^ y).toNat : Int)) 1, .rd (.pointer (some ⟨g, i, none⟩)) 1, .st 0] (fun j => undef) (fun s p => Fr [g] w p ∧ OwnB 5 base p (.slice (some ⟨g, 0, none⟩) n cp) (if s ≤ 0 then xs else (xs.set i (xs.getD i 0 ^^^ y)))) (by kernel_rfl) (by rfl) (by rw [hsz]; rfl) (by kernel_rfl) (by kernel_rfl) (by decide) ?_ ⟨?_, ?_, ?_, ?_, ?_, ?_, ?_, ?_, ?_, ?_, ?_, ?_, ?_, trivial⟩ ?_
  · intro w1 hw1
    exact ⟨hw1.weak, by rw [if_pos (by decide)]; exact hO.keep hw1 (by simp)⟩
  · refine ⟨⟨126, rfl⟩, .inl rfl, fun b p s hs hS h => ?_⟩
    have e0 : b.eval (.tmp 27) = .slice (some ⟨g, 0, none⟩) n cp := (h.old 27 (by decide)).trans h27
    have ec : ∀ v, b.eval (.const v) = v := fun _ => rfl
    obtain ⟨ρ, hρ⟩ : ∃ ρ, b.eval = ρ := ⟨_, rfl⟩
    rw [hρ] at e0 ec ⊢
    exact ⟨_, by simp only [List.getElem?_toArray, List.getElem?_cons_succ, List.getElem?_cons_zero]; rfl, rfl, by unfold execOp; simp [go_sem, e0, ec]⟩
  · refine ⟨⟨127, rfl⟩, .inl rfl, fun b p s hs hS h => ?_⟩
    have e0 : b.eval (.tmp 29) = .int .i64 (i : Int) := (h.old 29 (by decide)).trans h29
    have ec : ∀ v, b.eval (.const v) = v := fun _ => rfl
    obtain ⟨ρ, hρ⟩ : ∃ ρ, b.eval = ρ := ⟨_, rfl⟩
    rw [hρ] at e0 ec ⊢
    exact ⟨_, by simp only [List.getElem?_toArray, List.getElem?_cons_succ, List.getElem?_cons_zero]; rfl, rfl, by unfold execOp; simp [go_sem, e0, ec]⟩
  · refine ⟨⟨128, rfl⟩, .inl rfl, fun b p s hs hS h => ?_⟩
    have e0 : b.eval (.tmp 27) = .slice (some ⟨g, 0, none⟩) n cp := (h.old 27 (by decide)).trans h27
    have ec : ∀ v, b.eval (.const v) = v := fun _ => rfl
    obtain ⟨ρ, hρ⟩ : ∃ ρ, b.eval = ρ := ⟨_, rfl⟩
    rw [hρ] at e0 ec ⊢
    exact ⟨_, by simp only [List.getElem?_toArray, List.getElem?_cons_succ, List.getElem?_cons_zero]; rfl, rfl, by unfold execOp; simp [go_sem, e0, ec]⟩
  · refine ⟨⟨129, rfl⟩, .inl rfl, fun b p s hs hS h => ?_⟩
    have e0 : b.eval (.tmp 29) = .int .i64 (i : Int) := (h.old 29 (by decide)).trans h29
    have ec : ∀ v, b.eval (.const v) = v := fun _ => rfl
    obtain ⟨ρ, hρ⟩ : ∃ ρ, b.eval = ρ := ⟨_, rfl⟩
    rw [hρ] at e0 ec ⊢
    exact ⟨_, by simp only [List.getElem?_toArray, List.getElem?_cons_succ, List.getElem?_cons_zero]; rfl, rfl, by unfold execOp; simp [go_sem, e0, ec]⟩
  · refine ⟨⟨130, rfl⟩, .inl rfl, fun b p s hs hS h => ?_⟩
    have e0 := (show b.eval (.tmp 128) = .slice (some ⟨g, 0, none⟩) n cp from h.rd 2 _ _ 128 (by kernel_rfl) rfl rfl)
    have e1 := (show b.eval (.tmp 129) = .int .i64 (i : Int) from h.rd 3 _ _ 129 (by kernel_rfl) rfl rfl)
    have ec : ∀ v, b.eval (.const v) = v := fun _ => rfl
    obtain ⟨ρ, hρ⟩ : ∃ ρ, b.eval = ρ := ⟨_, rfl⟩
    rw [hρ] at e0 e1 ec ⊢
    exact ⟨_, by simp only [List.getElem?_toArray, List.getElem?_cons_succ, List.getElem?_cons_zero]; rfl, rfl, by unfold execOp; simp [go_sem, e0, e1, ec, show (i : Int) < n by omega, show i < n by omega]⟩
  · refine ⟨⟨131, rfl⟩, .inr ⟨12, rfl, by kernel_rfl⟩, fun b p s hs hS h => ?_⟩
    have e0 := (show b.eval (.tmp 130) = .pointer (some ⟨g, i, none⟩) from h.rd 4 _ _ 130 (by kernel_rfl) rfl rfl)
    have c0 := (show p.cell? ⟨g, i, none⟩ = some (.int .u8 ((xs.getD i 0).toNat : Int)) from by have hA := hS.2; rw [if_pos hs] at hA; exact own_cellB hA (by omega))
    have ec : ∀ v, b.eval (.const v) = v := fun _ => rfl
    obtain ⟨ρ, hρ⟩ : ∃ ρ, b.eval = ρ := ⟨_, rfl⟩
    rw [hρ] at e0 ec ⊢
    exact ⟨_, by simp only [List.getElem?_toArray, List.getElem?_cons_succ, List.getElem?_cons_zero]; rfl, rfl, by unfold execOp; simp [go_sem, e0, ec, c0]⟩
  · refine ⟨⟨132, rfl⟩, .inl rfl, fun b p s hs hS h => ?_⟩
    have e0 : b.eval (.tmp 25) = .slice (some ⟨yb, yo, none⟩) m yc := (h.old 25 (by decide)).trans h25
    have ec : ∀ v, b.eval (.const v) = v := fun _ => rfl
    obtain ⟨ρ, hρ⟩ : ∃ ρ, b.eval = ρ := ⟨_, rfl⟩
    rw [hρ] at e0 ec ⊢
    exact ⟨_, by simp only [List.getElem?_toArray, List.getElem?_cons_succ, List.getElem?_cons_zero]; rfl, rfl, by unfold execOp; simp [go_sem, e0, ec]⟩
  · refine ⟨⟨133, rfl⟩, .inl rfl, fun b p s hs hS h => ?_⟩
    have e0 : b.eval (.tmp 28) = .int .i64 (j : Int) := (h.old 28 (by decide)).trans h28
    have ec : ∀ v, b.eval (.const v) = v := fun _ => rfl
    obtain ⟨ρ, hρ⟩ : ∃ ρ, b.eval = ρ := ⟨_, rfl⟩
    rw [hρ] at e0 ec ⊢
    exact ⟨_, by simp only [List.getElem?_toArray, List.getElem?_cons_succ, List.getElem?_cons_zero]; rfl, rfl, by unfold execOp; simp [go_sem, e0, ec]⟩
  · refine ⟨⟨134, rfl⟩, .inl rfl, fun b p s hs hS h => ?_⟩
    have e0 := (show b.eval (.tmp 132) = .slice (some ⟨yb, yo, none⟩) m yc from h.rd 6 _ _ 132 (by kernel_rfl) rfl rfl)
    have e1 := (show b.eval (.tmp 133) = .int .i64 (j : Int) from h.rd 7 _ _ 133 (by kernel_rfl) rfl rfl)
    have ec : ∀ v, b.eval (.const v) = v := fun _ => rfl
    obtain ⟨ρ, hρ⟩ : ∃ ρ, b.eval = ρ := ⟨_, rfl⟩
    rw [hρ] at e0 e1 ec ⊢
    exact ⟨_, by simp only [List.getElem?_toArray, List.getElem?_cons_succ, List.getElem?_cons_zero]; rfl, rfl, by unfold execOp; simp [go_sem, e0, e1, ec, show (j : Int) < m by omega, show j < m by omega]⟩
  · refine ⟨⟨135, rfl⟩, .inl rfl, fun b p s hs hS h => ?_⟩
    have e0 := (show b.eval (.tmp 134) = .pointer (some ⟨yb, yo + j, none⟩) from h.rd 8 _ _ 134 (by kernel_rfl) rfl rfl)
    have c0 := (show p.cell? ⟨yb, yo + j, none⟩ = some (.int .u8 (y.toNat : Int)) from cell_keep hS.1 (by simpa using hyb) hc)
    have ec : ∀ v, b.eval (.const v) = v := fun _ => rfl
    obtain ⟨ρ, hρ⟩ : ∃ ρ, b.eval = ρ := ⟨_, rfl⟩
    rw [hρ] at e0 ec ⊢
    exact ⟨_, by simp only [List.getElem?_toArray, List.getElem?_cons_succ, List.getElem?_cons_zero]; rfl, rfl, by unfold execOp; simp [go_sem, e0, ec, c0]⟩
  · refine ⟨⟨136, rfl⟩, .inl rfl, fun b p s hs hS h => ?_⟩
    have e0 := (show b.eval (.tmp 131) = .int .u8 ((xs.getD i 0).toNat : Int) from h.rd 5 _ _ 131 (by kernel_rfl) rfl rfl)
    have e1 := (show b.eval (.tmp 135) = .int .u8 (y.toNat : Int) from h.rd 9 _ _ 135 (by kernel_rfl) rfl rfl)
    have ec : ∀ v, b.eval (.const v) = v := fun _ => rfl
    obtain ⟨ρ, hρ⟩ : ∃ ρ, b.eval = ρ := ⟨_, rfl⟩
    rw [hρ] at e0 e1 ec ⊢
    exact ⟨_, by simp only [List.getElem?_toArray, List.getElem?_cons_succ, List.getElem?_cons_zero]; rfl, rfl, by unfold execOp; simp [go_sem, e0, e1, ec, u8_xor_u]⟩
  · refine ⟨⟨137, rfl⟩, .inl rfl, fun b p s hs hS h => ?_⟩
    have e0 := (show b.eval (.tmp 126) = .slice (some ⟨g, 0, none⟩) n cp from h.rd 0 _ _ 126 (by kernel_rfl) rfl rfl)
    have e1 := (show b.eval (.tmp 127) = .int .i64 (i : Int) from h.rd 1 _ _ 127 (by kernel_rfl) rfl rfl)
    have ec : ∀ v, b.eval (.const v) = v := fun _ => rfl
    obtain ⟨ρ, hρ⟩ : ∃ ρ, b.eval = ρ := ⟨_, rfl⟩
    rw [hρ] at e0 e1 ec ⊢
    exact ⟨_, by simp only [List.getElem?_toArray, List.getElem?_cons_succ, List.getElem?_cons_zero]; rfl, rfl, by unfold execOp; simp [go_sem, e0, e1, ec, show (i : Int) < n by omega, show i < n by omega]⟩
  · refine ⟨rfl, .inl rfl, fun b p hS h => ?_⟩
    have e0 := (show b.eval (.tmp 137) = .pointer (some ⟨g, i, none⟩) from h.rd 11 _ _ 137 (by kernel_rfl) rfl rfl)
    have e1 := (show b.eval (.tmp 136) = .int .u8 ((xs.getD i 0 ^^^ y).toNat : Int) from h.rd 10 _ _ 136 (by kernel_rfl) rfl rfl)
    obtain ⟨hf, hO⟩ := hS
    rw [if_pos (by decide)] at hO
    obtain ⟨cur, hA, hl, -, hset⟩ := own_blk hO
    refine opV_mono (K := fun _ p' => Fr [g] w p' ∧ OwnB 5 base p' (.slice (some ⟨g, 0, none⟩) n cp) (xs.set i (xs.getD i 0 ^^^ y))) (fun v p' hv => ⟨by show Fr [g] w p' ∧ OwnB 5 base p' (.slice (some ⟨g, 0, none⟩) n cp) (if 0 + 1 ≤ 0 then xs else (xs.set i (xs.getD i 0 ^^^ y))); rw [if_neg (by decide)]; exact hv, .inl rfl⟩) ?_
    refine opV_of_wpl (K := fun _ p' => Fr [g] w p' ∧ OwnB 5 base p' (.slice (some ⟨g, 0, none⟩) n cp) (xs.set i (xs.getD i 0 ^^^ y))) _ (by simp only [List.getElem?_toArray, List.getElem?_cons_succ, List.getElem?_cons_zero]; rfl) ?_
    refine wpl_store_one (.tmp 137) (.tmp 136) rfl rfl (.int .u8 ((xs.getD i 0 ^^^ y).toNat : Int)) e0 e1 hA (by omega) (by kernel_rfl) rfl ?_
    intro p1 f1 a1 _
    exact ⟨rfl, rfl, hf.trans f1, hset p1 i _ a1⟩
  · intro b p h1 h2 h3 h4 h5
    exact hQ b p h1 h2 (fun s hs => h3 s (fun hm => hs (by simpa using hm))) h4.1 (by have := h4.2; rwa [if_neg (by decide)] at this)
noncomputable def trdB5 : Code := ((Tryz.f28.body.bind (findLoop 34)).getD .skip)
set_option maxRecDepth 1000000 in
set_option maxHeartbeats 8000000 in
theorem trd5_round (wr : World) (a : Go.Act) (hsz : a.tmps.size = 172) (hd : a.defers = []) (da : Option Addr) (dc N g cb gb yb yo AN yc lb lo lc k q Z5 : Nat) (y : UInt8) (out : List UInt8) (ps : List Nat) (h0 : slot a 0 = .slice da N dc) (h13 : slot a 13 = .int .i64 (N : Int)) (h27 : slot a 27 = .slice (some ⟨g, 0, none⟩) N cb) (h14 : slot a 14 = .slice (some ⟨gb, 0, none⟩) N N) (h25 : slot a 25 = .slice (some ⟨yb, yo, none⟩) AN yc) (h119 : slot a 119 = .slice (some ⟨lb, lo, none⟩) AN lc) (h120 : slot a 120 = .int .i64 (AN : Int)) (h121 : slot a 121 = .int .i64 (k : Int)) (hk : k < AN) (hA3 : AN ≤ 300) (h255 : N ≤ 255) (hq0 : q < N) (hol : out.length = N) (hyg : yb ≠ g) (hgb : gb ≠ g) (hc : wr.cell? ⟨lb, lo + k, none⟩ = some (.int .i64 (q : Int))) (hy : wr.cell? ⟨yb, yo + k, none⟩ = some (.int .u8 (y.toNat : Int))) (hA : At wr gb (.cells (boolC (inL N ps)) 4)) (hO : OwnB 5 Z5 wr (.slice (some ⟨g, 0, none⟩) N cb) out) (Q : Exit → Go.Act → World → Prop)
    (hq : ∀ (c : Go.Act) (w' : World), c.defers = [] → c.tmps.size = 172 → slot c 0 = .slice da N dc → slot c 13 = .int .i64 (N : Int) → slot c 27 = .slice (some ⟨g, 0, none⟩) N cb → slot c 14 = .slice (some ⟨gb, 0, none⟩) N N → slot c 25 = .slice (some ⟨yb, yo, none⟩) AN yc → slot c 119 = .slice (some ⟨lb, lo, none⟩) AN lc → slot c 120 = .int .i64 (AN : Int) → slot c 121 = .int .i64 ((k : Int) + 1) → OwnB 5 Z5 w' (.slice (some ⟨g, 0, none⟩) N cb) (out.set q (out.getD q 0 ^^^ y)) → Fr [g] wr w' → Q .normal c w') (hr : ∀ (c : Go.Act) (w' : World), c.defers = [] → c.tmps.size = 172 → slot c 10 = .slice none 0 0 → slot c 11 = .slice none 0 0 → slot c 12 = .bool false → y = 0 → q ∉ ps → Fr [g] wr w' → Q .ret c w') : Code.wp Tryz.prog trdB5 Q a wr := by
  have HQ := Lib.hid hq
  have HR := Lib.hid hr
  rw [frame172 a hsz hd, h0, h13, h27, h14, h25, h119, h120, h121]
  clear hq hr h0 h13 h27 h14 h25 h119 h120 h121 hsz hd
  conv => arg 2; whnf
  have hki : (k : Int) < AN := by omega
  have hqi : (q : Int) < N := by omega
  have HA := Lib.hid hA
  have HO := Lib.hid hO
  have HY := Lib.hid hy
  have HOL := Lib.hid hol
  clear hA hO hol
  go_wp2_with fail
  refine trd_xor wr _ rfl g N cb q yb yo AN yc k Z5 y out hq0 (by omega) hk (by omega) HOL.out hyg rfl rfl rfl rfl HO.out HY.out _ ?_
  intro b p1 q1 q2 q3 hf ho
  obtain ⟨f, hb2⟩ := putsX b _ _ q1 q2 q3
  have HO8 := Lib.hid ho
  have HF8 := Lib.hid hf
  have hyc8 := cell_keep hf (by simpa using hyg) HY.out
  have hcb := bool_cell (HA.out.keep hf (by simpa using hgb)) hq0
  clear q1 q2 q3 hf ho HO hc hy
  subst hb2
  simp only [List.foldl_cons, List.foldl_nil, Go.Act.put, List.setIfInBounds_toArray, List.set_cons_succ, List.set_cons_zero]
  by_cases hy0 : y = 0
  · subst hy0
    have hyc9 : p1.cell? ⟨yb, yo + k, none⟩ = some (.int .u8 0) := hyc8
    clear hyc8
    by_cases hm : q ∈ ps
    · rw [decide_eq_true hm] at hcb
      clear hm
      go_wp2
      exact HQ.out _ _ rfl rfl rfl rfl rfl rfl rfl rfl rfl (by go_num) HO8.out HF8.out
    · rw [decide_eq_false hm] at hcb
      have HM := Lib.hid hm
      clear hm
      go_wp2
      exact HR.out _ _ rfl rfl rfl rfl rfl (by trivial) HM.out HF8.out
  · have hyn : y.toNat ≠ 0 := fun e => hy0 (UInt8.toNat_inj.1 e)
    clear hy0
    go_wp2
    exact HQ.out _ _ rfl rfl rfl rfl rfl rfl rfl rfl rfl (by go_num) HO8.out HF8.out
set_option maxRecDepth 1000000 in
set_option maxHeartbeats 8000000 in
theorem trd5_exit (wr : World) (a : Go.Act) (hsz : a.tmps.size = 172) (hd : a.defers = []) (da la ya : Option Addr) (dc N g cb gb AN yc lc : Nat) (h0 : slot a 0 = .slice da N dc) (h13 : slot a 13 = .int .i64 (N : Int)) (h27 : slot a 27 = .slice (some ⟨g, 0, none⟩) N cb) (h14 : slot a 14 = .slice (some ⟨gb, 0, none⟩) N N) (h25 : slot a 25 = .slice ya AN yc) (h119 : slot a 119 = .slice la AN lc) (h120 : slot a 120 = .int .i64 (AN : Int)) (h121 : slot a 121 = .int .i64 (AN : Int)) (hA3 : AN ≤ 300) (Q : Exit → Go.Act → World → Prop)
    (hq : ∀ (c : Go.Act), c.defers = [] → c.tmps.size = 172 → slot c 0 = .slice da N dc → slot c 13 = .int .i64 (N : Int) → slot c 27 = .slice (some ⟨g, 0, none⟩) N cb → Q (.exit 8) c wr) : Code.wp Tryz.prog trdB5 Q a wr := by
  have HQ := Lib.hid hq
  rw [frame172 a hsz hd, h0, h13, h27, h14, h25, h119, h120, h121]
  clear hq h0 h13 h27 h14 h25 h119 h120 h121 hsz hd
  conv => arg 2; whnf
  have hki : ¬ (AN : Int) < AN := by omega
  go_wp2
  apply HQ.out <;> rfl
set_option maxRecDepth 1000000 in
set_option maxHeartbeats 8000000 in
theorem trd5_loop (w6 : World) (a : Go.Act) (hsz : a.tmps.size = 172) (hd : a.defers = []) (da la ya : Option Addr) (dc N g cb gb AN yc lc Z5 : Nat) (all ps : List Nat) (ws x : List UInt8) (h0 : slot a 0 = .slice da N dc) (h13 : slot a 13 = .int .i64 (N : Int)) (h27 : slot a 27 = .slice (some ⟨g, 0, none⟩) N cb) (h14 : slot a 14 = .slice (some ⟨gb, 0, none⟩) N N) (h25 : slot a 25 = .slice ya AN yc) (h119 : slot a 119 = .slice la AN lc) (h120 : slot a 120 = .int .i64 (AN : Int)) (h121 : slot a 121 = .int .i64 0) (hAN : all.length = AN) (hxl : x.length = AN) (hwl : ws.length = N) (hA3 : AN ≤ 300) (h255 : N ≤ 255) (hall : ∀ q ∈ all, q < N) (hgz : Z5 ≤ g) (hgb : gb ≠ g)
    (hl : Is (fun b => Z5 ≤ b) w6 (.slice la AN lc) (intL all)) (hY : Bs (fun b => Z5 ≤ b) w6 (.slice ya AN yc) x) (hA : At w6 gb (.cells (boolC (inL N ps)) 4)) (hO : OwnB 5 Z5 w6 (.slice (some ⟨g, 0, none⟩) N cb) ws) (Q : Exit → Go.Act → World → Prop)
    (hq : ∀ (c : Go.Act) (w' : World), c.defers = [] → c.tmps.size = 172 → slot c 0 = .slice da N dc → slot c 13 = .int .i64 (N : Int) → slot c 27 = .slice (some ⟨g, 0, none⟩) N cb → OwnB 5 Z5 w' (.slice (some ⟨g, 0, none⟩) N cb) (trO ws all x AN) → Fr [g] w6 w' → Q (.exit 8) c w')
    (hr : ∀ (c : Go.Act) (w' : World), c.defers = [] → c.tmps.size = 172 → slot c 10 = .slice none 0 0 → slot c 11 = .slice none 0 0 → slot c 12 = .bool false → (∃ (k q : Nat), all[k]? = some q ∧ x[k]? = some 0 ∧ q ∉ ps) → Fr [g] w6 w' → Q .ret c w') : Code.wp Tryz.prog (Code.loop trdB5) Q a w6 := by
  refine wp_loop (fun a w => a.tmps.size = 172 ∧ a.defers = [] ∧ slot a 0 = .slice da N dc ∧ slot a 13 = .int .i64 (N : Int) ∧ slot a 27 = .slice (some ⟨g, 0, none⟩) N cb ∧ slot a 14 = .slice (some ⟨gb, 0, none⟩) N N ∧ slot a 25 = .slice ya AN yc ∧ slot a 119 = .slice la AN lc ∧ slot a 120 = .int .i64 (AN : Int) ∧ ∃ k : Nat, k ≤ AN ∧ slot a 121 = .int .i64 (k : Int) ∧ OwnB 5 Z5 w (.slice (some ⟨g, 0, none⟩) N cb) (trO ws all x k) ∧ Fr [g] w6 w) (fun a _ => AN - kN (slot a 121)) ⟨hsz, hd, h0, h13, h27, h14, h25, h119, h120, 0, by omega, h121, hO, Fr.refl _ _⟩ ?_
  clear h0 h13 h27 h14 h25 h119 h120 h121 hO hsz hd
  rintro a wr ⟨hsz, hd, h0, h13, h27, h14, h25, h119, h120, k, hk, h121, hO, hF⟩
  by_cases hkA : k < AN
  · obtain ⟨q, hqk⟩ : ∃ q, all[k]? = some q := ⟨_, List.getElem?_eq_getElem (by omega)⟩
    obtain ⟨y, hyk⟩ : ∃ y, x[k]? = some y := ⟨_, List.getElem?_eq_getElem (by omega)⟩
    obtain ⟨lb, lo, e, hcc⟩ := is_cell (hl.keep hF (by simpa using hgz)) k (q : Int) (by unfold intL; rw [List.getElem?_map, hqk]; rfl)
    subst e
    obtain ⟨yb, yo, e, hyc⟩ := bs_cell (hY.keep hF (by simpa using hgz)) k y hyk
    subst e
    have hyg : yb ≠ g := fun e => bs_off hY (by omega) (by show Z5 ≤ yb; omega)
    have hT : trO ws all x (k + 1) = (trO ws all x k).set q ((trO ws all x k).getD q 0 ^^^ y) := by
      show (trO ws all x k).set (all.getD k 0) (cf (trO ws all x k) (all.getD k 0) ^^^ cf x k) = _
      rw [List.getD_eq_getElem?_getD, hqk, cf_get hyk]; rfl
    refine trd5_round wr a hsz hd da dc N g cb gb yb yo AN yc lb lo lc k q Z5 y (trO ws all x k) ps h0 h13 h27 h14 h25 h119 h120 h121 hkA hA3 h255 (hall q (List.mem_of_getElem? hqk)) (by rw [trO_len, hwl]) hyg hgb hcc hyc (hA.keep hF (by simpa using hgb)) hO _ ?_ ?_
    · intro c w' kd ks q0 q13 q27 q14 q25 q119 q120 q121 hO' hF'
      refine ⟨⟨ks, kd, q0, q13, q27, q14, q25, q119, q120, k + 1, by omega, by rw [q121]; rfl, by rw [hT]; exact hO', hF.trans hF'⟩, ?_⟩
      rw [q121, h121]
      simp [kN]; omega
    · intro c w' kd ks q10 q11 q12 h0 hm hF'
      exact hr c w' kd ks q10 q11 q12 ⟨k, q, hqk, by rw [hyk, h0], hm⟩ (hF.trans hF')
  · obtain rfl : k = AN := by omega
    refine trd5_exit wr a hsz hd da la ya dc N g cb gb k yc lc h0 h13 h27 h14 h25 h119 h120 h121 hA3 _ ?_
    intro c kd ks q0 q13 q27
    exact hq c wr kd ks q0 q13 q27 hO hF
noncomputable def trdB6 : Code := ((Tryz.f28.body.bind (findLoop 42)).getD .skip)
set_option maxRecDepth 1000000 in
set_option maxHeartbeats 8000000 in
theorem trd6_round (wr : World) (a : Go.Act) (hsz : a.tmps.size = 172) (hd : a.defers = []) (zb zo dc N g cb k Z7 : Nat) (y z : UInt8) (ov : Value) (l : List Int) (w8 : World) (h27 : slot a 27 = .slice (some ⟨g, 0, none⟩) N cb) (h0 : slot a 0 = .slice (some ⟨zb, zo, none⟩) N dc) (h13 : slot a 13 = .int .i64 (N : Int)) (h30 : slot a 30 = ov) (h31 : slot a 31 = .int .i64 (k : Int)) (hk : k < N) (h255 : N ≤ 255) (hyc : wr.cell? ⟨g, k, none⟩ = some (.int .u8 (y.toNat : Int))) (hzc : wr.cell? ⟨zb, zo + k, none⟩ = some (.int .u8 (z.toNat : Int))) (hI : OwnI 3 Z7 wr ov l) (hl : l.length ≤ 1000) (hF : Fr [] w8 wr) (hZ : w8.heap.size ≤ Z7) (hzw : Z7 ≤ wr.heap.size) (Q : Exit → Go.Act → World → Prop)
    (hq : ∀ (c : Go.Act) (w' : World) (ov' : Value), c.defers = [] → c.tmps.size = 172 → slot c 27 = .slice (some ⟨g, 0, none⟩) N cb → slot c 0 = .slice (some ⟨zb, zo, none⟩) N dc → slot c 13 = .int .i64 (N : Int) → slot c 30 = ov' → slot c 31 = .int .i64 ((k : Int) + 1) → OwnI 3 Z7 w' ov' (l ++ if y = z then [] else [(k : Int)]) → Fr [] w8 w' → Z7 ≤ w'.heap.size → Q .normal c w') : Code.wp Tryz.prog trdB6 Q a wr := by
  have HQ := Lib.hid hq
  rw [frame172 a hsz hd, h27, h0, h13, h30, h31]
  clear hq h27 h0 h13 h30 h31 hsz hd
  conv => arg 2; whnf
  have hki : (k : Int) < N := by omega
  have HI := Lib.hid hI
  have HF := Lib.hid hF
  clear hI hF
  by_cases hyz : y = z
  · rw [if_pos hyz, List.append_nil] at HQ
    subst hyz
    go_wp2
    go_quiet (fail)
    go_wp2
    exact HQ.out _ _ _ rfl rfl rfl rfl rfl rfl (by go_num) (HI.out.keep0 (Fr.of_heap rfl rfl rfl rfl)) (HF.out.trans (Fr.of_heap rfl rfl rfl rfl)) hzw
  · rw [if_neg hyz] at HQ
    have hne : ¬ (y.toNat = z.toNat) := fun e => hyz (UInt8.toNat_inj.1 e)
    have hd4 : ((y.toNat : Int) != (z.toNat : Int)) = true := by simp; omega
    have hd5 : ((y.toNat : Int) == (z.toNat : Int)) = false := by simp; omega
    have HIL := Lib.hid (show l.length ≤ 17592186044414 by omega)
    clear hyz
    go_wp2
    go_quiet (fail)
    obtain ⟨wd, hwd⟩ : ∃ x, wr.drewN nq = x := ⟨_, rfl⟩
    have hfd : Fr [] wr wd := by rw [← hwd]; exact Fr.of_heap rfl rfl rfl rfl
    rw [hwd]
    have fa : Fr [] wd (wd.alloc (.cells #[.int .i64 (k : Int)] 3)) := Fr.alloc _ _
    have HI4 := Lib.hid ((HI.out.keep0 hfd).keep0 fa)
    have HF4 := Lib.hid ((HF.out.trans hfd).trans fa)
    have hz4 : Z7 ≤ (wd.alloc (.cells #[.int .i64 (k : Int)] 3)).heap.size := by have := hfd.size; simp; omega
    clear fa HI HF hfd hwd
    go_wp2_with (at_builtin; refine wpl_append_n Tryz.underlying23 Tryz.infoIntT rfl (.tmp 166) (.tmp 168) rfl rfl rfl (At.new rfl) HI4.out HIL.out hz4 ?_)
    intro v5 w5 h5 g5
    have HI5 := Lib.hid h5
    have HF5 := Lib.hid (show Fr [] w8 w5 from OwnI.fr HI4.out HF4.out g5 hZ)
    have hz5 : Z7 ≤ w5.heap.size := by have := (grown_fr g5).size; omega
    clear h5 g5 HI4 HF4
    go_wp2
    exact HQ.out _ _ _ rfl rfl rfl rfl rfl rfl (by go_num) HI5.out HF5.out hz5
set_option maxRecDepth 1000000 in
set_option maxHeartbeats 8000000 in
theorem trd6_exit (wr : World) (a : Go.Act) (hsz : a.tmps.size = 172) (hd : a.defers = []) (da : Option Addr) (dc N g cb : Nat) (ov : Value) (h27 : slot a 27 = .slice (some ⟨g, 0, none⟩) N cb) (h0 : slot a 0 = .slice da N dc) (h13 : slot a 13 = .int .i64 (N : Int)) (h30 : slot a 30 = ov) (h31 : slot a 31 = .int .i64 (N : Int)) (h255 : N ≤ 255) (Q : Exit → Go.Act → World → Prop)
    (hq : ∀ (c : Go.Act), c.defers = [] → c.tmps.size = 172 → slot c 27 = .slice (some ⟨g, 0, none⟩) N cb → slot c 30 = ov → Q (.exit 10) c wr) : Code.wp Tryz.prog trdB6 Q a wr := by
  have HQ := Lib.hid hq
  rw [frame172 a hsz hd, h27, h0, h13, h30, h31]
  clear hq h27 h0 h13 h30 h31 hsz hd
  conv => arg 2; whnf
  have hki : ¬ (N : Int) < N := by omega
  go_wp2
  apply HQ.out <;> rfl
set_option maxRecDepth 1000000 in
set_option maxHeartbeats 8000000 in
theorem trd6_loop (w8 wz : World) (a : Go.Act) (hsz : a.tmps.size = 172) (hd : a.defers = []) (da : Option Addr) (dc N g cb Z7 Z5 : Nat) (ov : Value) (ws out : List UInt8) (h27 : slot a 27 = .slice (some ⟨g, 0, none⟩) N cb) (h0 : slot a 0 = .slice da N dc) (h13 : slot a 13 = .int .i64 (N : Int)) (h30 : slot a 30 = ov) (h31 : slot a 31 = .int .i64 0) (hwl : ws.length = N) (hol : out.length = N) (h255 : N ≤ 255) (hB : Bs (fun _ => False) wz (.slice da N dc) ws) (hO : OwnB 5 Z5 wz (.slice (some ⟨g, 0, none⟩) N cb) out) (hwz : Fr [] wz w8) (hZ : wz.heap.size ≤ Z7) (hzw : Z7 ≤ w8.heap.size) (hI : OwnI 3 Z7 w8 ov []) (Q : Exit → Go.Act → World → Prop)
    (hq : ∀ (c : Go.Act) (w' : World) (ov' : Value), c.defers = [] → c.tmps.size = 172 → slot c 27 = .slice (some ⟨g, 0, none⟩) N cb → slot c 30 = ov' → OwnI 3 Z7 w' ov' (intL (dfrK out ws N)) → Fr [] wz w' → Q (.exit 10) c w') : Code.wp Tryz.prog (Code.loop trdB6) Q a w8 := by
  refine wp_loop (fun a w => a.tmps.size = 172 ∧ a.defers = [] ∧ slot a 27 = .slice (some ⟨g, 0, none⟩) N cb ∧ slot a 0 = .slice da N dc ∧ slot a 13 = .int .i64 (N : Int) ∧ ∃ (k : Nat) (ov : Value), k ≤ N ∧ slot a 30 = ov ∧ slot a 31 = .int .i64 (k : Int) ∧ OwnI 3 Z7 w ov (intL (dfrK out ws k)) ∧ Fr [] wz w ∧ Z7 ≤ w.heap.size) (fun a _ => N - kN (slot a 31)) ⟨hsz, hd, h27, h0, h13, 0, ov, by omega, h30, h31, hI, hwz, hzw⟩ ?_
  clear h27 h0 h13 h30 h31 hI hsz hd hwz hzw
  rintro a wr ⟨hsz, hd, h27, h0, h13, k, ov, hk, h30, h31, hI, hF, hzw⟩
  by_cases hkn : k < N
  · obtain ⟨y, hy⟩ : ∃ x, out[k]? = some x := ⟨_, List.getElem?_eq_getElem (by omega)⟩
    obtain ⟨z, hz⟩ : ∃ x, ws[k]? = some x := ⟨_, List.getElem?_eq_getElem (by omega)⟩
    obtain ⟨zb, zo, e, hzc⟩ := bs_cell (hB.keep hF (by simp)) k z hz
    subst e
    have hyc := own_cellB (hO.keep hF (by simp)) (i := k) (by omega)
    have e : out.getD k 0 = y := by rw [List.getD_eq_getElem?_getD, hy]; rfl
    rw [e] at hyc
    have hup := dfrK_up out ws k
    rw [cf_get hy, cf_get hz] at hup
    have hle := dfrK_le out ws k
    refine trd6_round wr a hsz hd zb zo dc N g cb k Z7 y z ov _ wz h27 h0 h13 h30 h31 hkn h255 hyc hzc hI (by rw [intL_len]; omega) hF hZ hzw _ ?_
    intro c w' ov' kd ks q27 q0 q13 q30 q31 hI' hF' hz'
    refine ⟨⟨ks, kd, q27, q0, q13, k + 1, ov', by omega, q30, by rw [q31]; rfl, ?_, hF', hz'⟩, ?_⟩
    · have e2 : intL (dfrK out ws (k + 1)) = intL (dfrK out ws k) ++ if y = z then [] else [(k : Int)] := by
        rw [hup]
        unfold intL
        rw [List.map_append]
        by_cases h : y = z
        · rw [if_pos h, if_pos h]; rfl
        · rw [if_neg h, if_neg h]; rfl
      rw [e2]
      exact hI'
    · rw [q31, h31]
      simp [kN]; omega
  · obtain rfl : k = N := by omega
    refine trd6_exit wr a hsz hd da dc k g cb ov h27 h0 h13 h30 h31 h255 _ ?_
    intro c kd ks q27 q30
    exact hq c wr ov kd ks q27 q30 hI hF
end Go.Proofs.YtmohiblgfmdkjaaGreatDoor
