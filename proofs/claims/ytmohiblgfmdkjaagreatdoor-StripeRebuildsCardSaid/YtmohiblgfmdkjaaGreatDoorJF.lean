import Derived.Test.YtmohiblgfmdkjaaGreatDoorGB
import Derived.Test.YtmohiblgfmdkjaaGreatDoorJE
import Derived.Test.YtmohiblgfmdkjaaGreatDoorIn
import Derived.Test.YtmohiblgfmdkjaaGreatDoorGN
import Derived.Test.YtmohiblgfmdkjaaGreatDoorHR
import Derived.Test.YtmohiblgfmdkjaaGreatDoorRer
import Derived.Test.YtmohiblgfmdkjaaGreatDoorJA
namespace Go.Proofs.YtmohiblgfmdkjaaGreatDoor
open Go.RowKit Go.Bl
set_option linter.unusedVariables false
set_option maxRecDepth 100000 in
theorem frame203 (a : Go.Act) (hs : a.tmps.size = 203) (hd : a.defers = []) : a = ⟨(slot a 0 :: slot a 1 :: slot a 2 :: slot a 3 :: slot a 4 :: slot a 5 :: slot a 6 :: slot a 7 :: slot a 8 :: slot a 9 :: slot a 10 :: slot a 11 :: slot a 12 :: slot a 13 :: slot a 14 :: slot a 15 :: slot a 16 :: slot a 17 :: slot a 18 :: slot a 19 :: slot a 20 :: slot a 21 :: slot a 22 :: slot a 23 :: slot a 24 :: slot a 25 :: slot a 26 :: slot a 27 :: slot a 28 :: slot a 29 :: slot a 30 :: slot a 31 :: slot a 32 :: slot a 33 :: slot a 34 :: slot a 35 :: slot a 36 :: slot a 37 :: slot a 38 :: slot a 39 :: slot a 40 :: slot a 41 :: slot a 42 :: slot a 43 :: slot a 44 :: slot a 45 :: slot a 46 :: slot a 47 :: slot a 48 :: slot a 49 :: slot a 50 :: slot a 51 :: slot a 52 :: slot a 53 :: slot a 54 :: slot a 55 :: slot a 56 :: slot a 57 :: slot a 58 :: slot a 59 :: slot a 60 :: slot a 61 :: slot a 62 :: slot a 63 :: slot a 64 :: slot a 65 :: slot a 66 :: slot a 67 :: slot a 68 :: slot a 69 :: slot a 70 :: slot a 71 :: slot a 72 :: slot a 73 :: slot a 74 :: slot a 75 :: slot a 76 :: slot a 77 :: slot a 78 :: slot a 79 :: slot a 80 :: slot a 81 :: slot a 82 :: slot a 83 :: slot a 84 :: slot a 85 :: slot a 86 :: slot a 87 :: slot a 88 :: slot a 89 :: slot a 90 :: slot a 91 :: slot a 92 :: slot a 93 :: slot a 94 :: slot a 95 :: slot a 96 :: slot a 97 :: slot a 98 :: slot a 99 :: slot a 100 :: slot a 101 :: slot a 102 :: slot a 103 :: slot a 104 :: slot a 105 :: slot a 106 :: slot a 107 :: slot a 108 :: slot a 109 :: slot a 110 :: slot a 111 :: slot a 112 :: slot a 113 :: slot a 114 :: slot a 115 :: slot a 116 :: slot a 117 :: slot a 118 :: slot a 119 :: slot a 120 :: slot a 121 :: slot a 122 :: slot a 123 :: slot a 124 :: slot a 125 :: slot a 126 :: slot a 127 :: slot a 128 :: slot a 129 :: slot a 130 :: slot a 131 :: slot a 132 :: slot a 133 :: slot a 134 :: slot a 135 :: slot a 136 :: slot a 137 :: slot a 138 :: slot a 139 :: slot a 140 :: slot a 141 :: slot a 142 :: slot a 143 :: slot a 144 :: slot a 145 :: slot a 146 :: slot a 147 :: slot a 148 :: slot a 149 :: slot a 150 :: slot a 151 :: slot a 152 :: slot a 153 :: slot a 154 :: slot a 155 :: slot a 156 :: slot a 157 :: slot a 158 :: slot a 159 :: slot a 160 :: slot a 161 :: slot a 162 :: slot a 163 :: slot a 164 :: slot a 165 :: slot a 166 :: slot a 167 :: slot a 168 :: slot a 169 :: slot a 170 :: slot a 171 :: slot a 172 :: slot a 173 :: slot a 174 :: slot a 175 :: slot a 176 :: slot a 177 :: slot a 178 :: slot a 179 :: slot a 180 :: slot a 181 :: slot a 182 :: slot a 183 :: slot a 184 :: slot a 185 :: slot a 186 :: slot a 187 :: slot a 188 :: slot a 189 :: slot a 190 :: slot a 191 :: slot a 192 :: slot a 193 :: slot a 194 :: slot a 195 :: slot a 196 :: slot a 197 :: slot a 198 :: slot a 199 :: slot a 200 :: slot a 201 :: slot a 202 :: []).toArray, []⟩ := frameX a 203 hs hd
noncomputable def rrBB : Code := ((Tryz.f17.body.bind (findLoop 27)).getD .skip)
set_option maxRecDepth 1000000 in
set_option maxHeartbeats 8000000 in
theorem rrb_yes (wr : World) (a : Go.Act) (hsz : a.tmps.size = 203) (hd : a.defers = []) (xv fv ev nv : Value) (sz : Int) (k n bc SL sc gi : Nat) (sa : Option Addr) (ea : Option Addr) (EL ec pb hb wb j : Nat) (bb bo q xb xo xc : Nat) (z : UInt8) (cur : Array Value) (h0 : slot a 0 = xv) (h1 : slot a 1 = .int .i64 sz) (h12 : slot a 12 = fv) (h13 : slot a 13 = ev) (h14 : slot a 14 = nv) (h16 : slot a 16 = .int .i64 (k : Int)) (h17 : slot a 17 = .slice (some ⟨bb, bo, none⟩) n bc) (h58 : slot a 58 = .slice sa SL sc) (h59 : slot a 59 = .int .i64 (SL : Int)) (h60 : slot a 60 = .int .i64 (gi : Int)) (h18 : slot a 18 = .slice ea EL ec) (h21 : slot a 21 = .slice (some ⟨pb, 0, none⟩) (8 * k) (8 * k)) (h22 : slot a 22 = .slice (some ⟨hb, 0, none⟩) n n) (h23 : slot a 23 = .int .i64 (j : Int)) (h24 : slot a 24 = .slice (some ⟨wb, 0, none⟩) n n) (h101 : slot a 101 = .slice (some ⟨bb, bo, none⟩) n bc) (h102 : slot a 102 = .int .i64 (n : Int)) (h103 : slot a 103 = .int .i64 (q : Int)) (hq0 : q < n) (hn : n ≤ 1000) (hj : j < 8) (hc : wr.cell? ⟨bb, bo + q, none⟩ = some (.slice (some ⟨xb, xo, none⟩) 8 xc)) (hz : wr.cell? ⟨xb, xo + j, none⟩ = some (.int .u8 (z.toNat : Int))) (hA : At wr wb (.cells cur 5)) (hcs : cur.size = n) (Q : Exit → Go.Act → World → Prop)
    (hq : ∀ (c : Go.Act) (w' : World), c.defers = [] → c.tmps.size = 203 → slot c 0 = xv → slot c 1 = .int .i64 sz → slot c 12 = fv → slot c 13 = ev → slot c 14 = nv → slot c 16 = .int .i64 (k : Int) → slot c 17 = .slice (some ⟨bb, bo, none⟩) n bc → slot c 58 = .slice sa SL sc → slot c 59 = .int .i64 (SL : Int) → slot c 60 = .int .i64 (gi : Int) → slot c 18 = .slice ea EL ec → slot c 21 = .slice (some ⟨pb, 0, none⟩) (8 * k) (8 * k) → slot c 22 = .slice (some ⟨hb, 0, none⟩) n n → slot c 23 = .int .i64 (j : Int) → slot c 24 = .slice (some ⟨wb, 0, none⟩) n n → slot c 101 = .slice (some ⟨bb, bo, none⟩) n bc → slot c 102 = .int .i64 (n : Int) → slot c 103 = .int .i64 ((q : Int) + 1) → At w' wb (.cells (cur.setIfInBounds q (.int .u8 (z.toNat : Int))) 5) → Fr [wb] wr w' → Q .normal c w') : Code.wp Tryz.prog rrBB Q a wr := by
  have HQ := Lib.hid hq
  rw [frame203 a hsz hd, h0, h1, h12, h13, h14, h16, h17, h58, h59, h60, h18, h21, h22, h23, h24, h101, h102, h103]
  clear hq h0 h1 h12 h13 h14 h16 h17 h58 h59 h60 h18 h21 h22 h23 h24 h101 h102 h103 hsz hd
  conv => arg 2; whnf
  have hki : (q : Int) < n := by omega
  have hji : (j : Int) < 8 := by omega
  have HA := Lib.hid hA
  have HCS := Lib.hid (show q < cur.size by omega)
  clear hA hcs
  go_wp2_with (refine wpl_store_one (.tmp 117) (.tmp 116) rfl rfl (.int .u8 (z.toNat : Int)) rfl rfl HA.out HCS.out (by kernel_rfl) rfl ?_)
  intro w5 f5 a5 _
  have HA5 := Lib.hid a5
  have HF5 := Lib.hid f5
  clear f5 a5 HA
  go_wp2
  exact HQ.out _ _ rfl rfl rfl rfl rfl rfl rfl rfl rfl rfl rfl rfl rfl rfl rfl rfl rfl rfl rfl (by go_num) (by simpa using HA5.out) HF5.out
set_option maxRecDepth 1000000 in
set_option maxHeartbeats 8000000 in
theorem rrb_no (wr : World) (a : Go.Act) (hsz : a.tmps.size = 203) (hd : a.defers = []) (xv fv ev nv : Value) (sz : Int) (k n bc SL sc gi : Nat) (sa : Option Addr) (ea : Option Addr) (EL ec pb hb wb j : Nat) (bb bo q bl xc : Nat) (xa : Option Addr) (h0 : slot a 0 = xv) (h1 : slot a 1 = .int .i64 sz) (h12 : slot a 12 = fv) (h13 : slot a 13 = ev) (h14 : slot a 14 = nv) (h16 : slot a 16 = .int .i64 (k : Int)) (h17 : slot a 17 = .slice (some ⟨bb, bo, none⟩) n bc) (h58 : slot a 58 = .slice sa SL sc) (h59 : slot a 59 = .int .i64 (SL : Int)) (h60 : slot a 60 = .int .i64 (gi : Int)) (h18 : slot a 18 = .slice ea EL ec) (h21 : slot a 21 = .slice (some ⟨pb, 0, none⟩) (8 * k) (8 * k)) (h22 : slot a 22 = .slice (some ⟨hb, 0, none⟩) n n) (h23 : slot a 23 = .int .i64 (j : Int)) (h24 : slot a 24 = .slice (some ⟨wb, 0, none⟩) n n) (h101 : slot a 101 = .slice (some ⟨bb, bo, none⟩) n bc) (h102 : slot a 102 = .int .i64 (n : Int)) (h103 : slot a 103 = .int .i64 (q : Int)) (hq0 : q < n) (hn : n ≤ 1000) (hc : wr.cell? ⟨bb, bo + q, none⟩ = some (.slice xa bl xc)) (h8 : bl ≠ 8) (Q : Exit → Go.Act → World → Prop)
    (hq : ∀ c : Go.Act, c.defers = [] → c.tmps.size = 203 → slot c 0 = xv → slot c 1 = .int .i64 sz → slot c 12 = fv → slot c 13 = ev → slot c 14 = nv → slot c 16 = .int .i64 (k : Int) → slot c 17 = .slice (some ⟨bb, bo, none⟩) n bc → slot c 58 = .slice sa SL sc → slot c 59 = .int .i64 (SL : Int) → slot c 60 = .int .i64 (gi : Int) → slot c 18 = .slice ea EL ec → slot c 21 = .slice (some ⟨pb, 0, none⟩) (8 * k) (8 * k) → slot c 22 = .slice (some ⟨hb, 0, none⟩) n n → slot c 23 = .int .i64 (j : Int) → slot c 24 = .slice (some ⟨wb, 0, none⟩) n n → slot c 101 = .slice (some ⟨bb, bo, none⟩) n bc → slot c 102 = .int .i64 (n : Int) → slot c 103 = .int .i64 ((q : Int) + 1) → Q .normal c wr) : Code.wp Tryz.prog rrBB Q a wr := by
  have HQ := Lib.hid hq
  rw [frame203 a hsz hd, h0, h1, h12, h13, h14, h16, h17, h58, h59, h60, h18, h21, h22, h23, h24, h101, h102, h103]
  clear hq h0 h1 h12 h13 h14 h16 h17 h58 h59 h60 h18 h21 h22 h23 h24 h101 h102 h103 hsz hd
  conv => arg 2; whnf
  have hki : (q : Int) < n := by omega
  have h8i : ¬ ((bl : Int) = 8) := by omega
  go_wp2
  exact HQ.out _ rfl rfl rfl rfl rfl rfl rfl rfl rfl rfl rfl rfl rfl rfl rfl rfl rfl rfl rfl (by go_num)
set_option maxRecDepth 1000000 in
set_option maxHeartbeats 8000000 in
theorem rrb_exit (wr : World) (a : Go.Act) (hsz : a.tmps.size = 203) (hd : a.defers = []) (ba : Option Addr) (xv fv ev nv : Value) (sz : Int) (k n bc SL sc gi : Nat) (sa : Option Addr) (ea : Option Addr) (EL ec pb hb wb j : Nat) (h0 : slot a 0 = xv) (h1 : slot a 1 = .int .i64 sz) (h12 : slot a 12 = fv) (h13 : slot a 13 = ev) (h14 : slot a 14 = nv) (h16 : slot a 16 = .int .i64 (k : Int)) (h17 : slot a 17 = .slice ba n bc) (h58 : slot a 58 = .slice sa SL sc) (h59 : slot a 59 = .int .i64 (SL : Int)) (h60 : slot a 60 = .int .i64 (gi : Int)) (h18 : slot a 18 = .slice ea EL ec) (h21 : slot a 21 = .slice (some ⟨pb, 0, none⟩) (8 * k) (8 * k)) (h22 : slot a 22 = .slice (some ⟨hb, 0, none⟩) n n) (h23 : slot a 23 = .int .i64 (j : Int)) (h24 : slot a 24 = .slice (some ⟨wb, 0, none⟩) n n) (h101 : slot a 101 = .slice ba n bc) (h102 : slot a 102 = .int .i64 (n : Int)) (h103 : slot a 103 = .int .i64 (n : Int)) (hn : n ≤ 1000) (Q : Exit → Go.Act → World → Prop)
    (hq : ∀ c : Go.Act, c.defers = [] → c.tmps.size = 203 → slot c 0 = xv → slot c 1 = .int .i64 sz → slot c 12 = fv → slot c 13 = ev → slot c 14 = nv → slot c 16 = .int .i64 (k : Int) → slot c 17 = .slice ba n bc → slot c 58 = .slice sa SL sc → slot c 59 = .int .i64 (SL : Int) → slot c 60 = .int .i64 (gi : Int) → slot c 18 = .slice ea EL ec → slot c 21 = .slice (some ⟨pb, 0, none⟩) (8 * k) (8 * k) → slot c 22 = .slice (some ⟨hb, 0, none⟩) n n → slot c 23 = .int .i64 (j : Int) → slot c 24 = .slice (some ⟨wb, 0, none⟩) n n → Q (.exit 6) c wr) : Code.wp Tryz.prog rrBB Q a wr := by
  have HQ := Lib.hid hq
  rw [frame203 a hsz hd, h0, h1, h12, h13, h14, h16, h17, h58, h59, h60, h18, h21, h22, h23, h24, h101, h102, h103]
  clear hq h0 h1 h12 h13 h14 h16 h17 h58 h59 h60 h18 h21 h22 h23 h24 h101 h102 h103 hsz hd
  conv => arg 2; whnf
  have hki : ¬ (n : Int) < n := by omega
  go_wp2
  apply HQ.out <;> rfl
set_option maxRecDepth 1000000 in
set_option maxHeartbeats 8000000 in
theorem rrb_loop (w3 : World) (a : Go.Act) (hsz : a.tmps.size = 203) (hd : a.defers = []) (ba : Option Addr) (xv fv ev nv : Value) (sz : Int) (k n bc SL sc gi : Nat) (sa : Option Addr) (ea : Option Addr) (EL ec pb hb wb j : Nat) (ls : List (Value × List UInt8)) (bs : List (List UInt8)) (h0 : slot a 0 = xv) (h1 : slot a 1 = .int .i64 sz) (h12 : slot a 12 = fv) (h13 : slot a 13 = ev) (h14 : slot a 14 = nv) (h16 : slot a 16 = .int .i64 (k : Int)) (h17 : slot a 17 = .slice ba n bc) (h58 : slot a 58 = .slice sa SL sc) (h59 : slot a 59 = .int .i64 (SL : Int)) (h60 : slot a 60 = .int .i64 (gi : Int)) (h18 : slot a 18 = .slice ea EL ec) (h21 : slot a 21 = .slice (some ⟨pb, 0, none⟩) (8 * k) (8 * k)) (h22 : slot a 22 = .slice (some ⟨hb, 0, none⟩) n n) (h23 : slot a 23 = .int .i64 (j : Int)) (h24 : slot a 24 = .slice (some ⟨wb, 0, none⟩) n n) (h101 : slot a 101 = .slice ba n bc) (h102 : slot a 102 = .int .i64 (n : Int)) (h103 : slot a 103 = .int .i64 0) (hn : n ≤ 1000) (hj : j < 8) (hln : ls.length = n) (hls : ls.map (·.2) = bs) (hr : RdB (fun b => b = wb) w3 (.slice ba n bc) ls) (hA : At w3 wb (.cells ((List.replicate n (0 : UInt8)).map u8v).toArray 5)) (Q : Exit → Go.Act → World → Prop)
    (hq : ∀ (c : Go.Act) (w' : World), c.defers = [] → c.tmps.size = 203 → slot c 0 = xv → slot c 1 = .int .i64 sz → slot c 12 = fv → slot c 13 = ev → slot c 14 = nv → slot c 16 = .int .i64 (k : Int) → slot c 17 = .slice ba n bc → slot c 58 = .slice sa SL sc → slot c 59 = .int .i64 (SL : Int) → slot c 60 = .int .i64 (gi : Int) → slot c 18 = .slice ea EL ec → slot c 21 = .slice (some ⟨pb, 0, none⟩) (8 * k) (8 * k) → slot c 22 = .slice (some ⟨hb, 0, none⟩) n n → slot c 23 = .int .i64 (j : Int) → slot c 24 = .slice (some ⟨wb, 0, none⟩) n n → At w' wb (.cells ((colW bs j).map u8v).toArray 5) → Fr [wb] w3 w' → Q (.exit 6) c w') : Code.wp Tryz.prog (Code.loop rrBB) Q a w3 := by
  refine wp_loop (fun a w => a.tmps.size = 203 ∧ a.defers = [] ∧ slot a 0 = xv ∧ slot a 1 = .int .i64 sz ∧ slot a 12 = fv ∧ slot a 13 = ev ∧ slot a 14 = nv ∧ slot a 16 = .int .i64 (k : Int) ∧ slot a 17 = .slice ba n bc ∧ slot a 58 = .slice sa SL sc ∧ slot a 59 = .int .i64 (SL : Int) ∧ slot a 60 = .int .i64 (gi : Int) ∧ slot a 18 = .slice ea EL ec ∧ slot a 21 = .slice (some ⟨pb, 0, none⟩) (8 * k) (8 * k) ∧ slot a 22 = .slice (some ⟨hb, 0, none⟩) n n ∧ slot a 23 = .int .i64 (j : Int) ∧ slot a 24 = .slice (some ⟨wb, 0, none⟩) n n ∧ slot a 101 = .slice ba n bc ∧ slot a 102 = .int .i64 (n : Int) ∧ ∃ q : Nat, q ≤ n ∧ slot a 103 = .int .i64 (q : Int) ∧ At w wb (.cells ((colG j n q ls).map u8v).toArray 5) ∧ Fr [wb] w3 w) (fun a _ => n - kN (slot a 103)) ⟨hsz, hd, h0, h1, h12, h13, h14, h16, h17, h58, h59, h60, h18, h21, h22, h23, h24, h101, h102, 0, by omega, h103, by simp only [colG, List.take_zero, List.map_nil, List.nil_append, Nat.sub_zero]; exact hA, Fr.refl _ _⟩ ?_
  clear h0 h1 h12 h13 h14 h16 h17 h58 h59 h60 h18 h21 h22 h23 h24 h101 h102 h103 hA hsz hd
  rintro a wr ⟨hsz, hd, h0, h1, h12, h13, h14, h16, h17, h58, h59, h60, h18, h21, h22, h23, h24, h101, h102, q, hk, h103, hA, hF⟩
  by_cases hkn : q < n
  · obtain ⟨x, hx⟩ : ∃ x, ls[q]? = some x := ⟨_, List.getElem?_eq_getElem (by omega)⟩
    obtain ⟨bb, bo, e, hc, hbx⟩ := rdb_cell (hr.keep hF (by simp)) q x hx
    subst e
    obtain ⟨xa, xc, e, -⟩ := id hbx
    rw [e] at hc
    by_cases h8 : x.2.length = 8
    · obtain ⟨z, hz⟩ : ∃ z, x.2[j]? = some z := ⟨_, List.getElem?_eq_getElem (by omega)⟩
      rw [e] at hbx
      obtain ⟨xb, xo, e2, hzc⟩ := bs_cell hbx j z hz
      subst e2
      rw [h8] at hc
      have hst := colG_step j n q ls x hx hln
      have hc8 : col8 j x.2 = z := by unfold col8; rw [if_pos h8, List.getD_eq_getElem?_getD, hz]; rfl
      rw [hc8] at hst
      refine rrb_yes wr a hsz hd xv fv ev nv sz k n bc SL sc gi sa ea EL ec pb hb wb j bb bo q xb xo xc z _ h0 h1 h12 h13 h14 h16 h17 h58 h59 h60 h18 h21 h22 h23 h24 h101 h102 h103 hkn hn hj hc hzc hA (by simp [colG_len j n q ls hln hk]) _ ?_
      intro c w' kd ks q0 q1 q12 q13 q14 q16 q17 q58 q59 q60 q18 q21 q22 q23 q24 q101 q102 q103 hA' hF'
      refine ⟨⟨ks, kd, q0, q1, q12, q13, q14, q16, q17, q58, q59, q60, q18, q21, q22, q23, q24, q101, q102, q + 1, by omega, by rw [q103]; rfl, ?_, hF.trans hF'⟩, ?_⟩
      · rw [← hst, List.map_set]
        simpa [u8v] using hA'
      · rw [q103, h103]
        simp [kN]; omega
    · refine rrb_no wr a hsz hd xv fv ev nv sz k n bc SL sc gi sa ea EL ec pb hb wb j bb bo q _ xc xa h0 h1 h12 h13 h14 h16 h17 h58 h59 h60 h18 h21 h22 h23 h24 h101 h102 h103 hkn hn hc h8 _ ?_
      intro c kd ks q0 q1 q12 q13 q14 q16 q17 q58 q59 q60 q18 q21 q22 q23 q24 q101 q102 q103
      refine ⟨⟨ks, kd, q0, q1, q12, q13, q14, q16, q17, q58, q59, q60, q18, q21, q22, q23, q24, q101, q102, q + 1, by omega, by rw [q103]; rfl, by rw [← colG_skip j n q ls x hx hln h8]; exact hA, hF⟩, ?_⟩
      rw [q103, h103]
      simp [kN]; omega
  · obtain rfl : q = n := by omega
    refine rrb_exit wr a hsz hd ba xv fv ev nv sz k q bc SL sc gi sa ea EL ec pb hb wb j h0 h1 h12 h13 h14 h16 h17 h58 h59 h60 h18 h21 h22 h23 h24 h101 h102 h103 hn _ ?_
    intro c kd ks q0 q1 q12 q13 q14 q16 q17 q58 q59 q60 q18 q21 q22 q23 q24
    refine hq c wr kd ks q0 q1 q12 q13 q14 q16 q17 q58 q59 q60 q18 q21 q22 q23 q24 ?_ hF
    have e : colG j q q ls = colW bs j := by
      unfold colG colW
      rw [List.take_of_length_le (by omega), Nat.sub_self, ← hls, List.map_map]
      simp <;> rfl
    rw [← e]
    exact hA
noncomputable def rrBC : Code := ((Tryz.f17.body.bind (findLoop 36)).getD .skip)
set_option maxRecDepth 1000000 in
set_option maxHeartbeats 8000000 in
theorem rrc_round (wr : World) (a : Go.Act) (hsz : a.tmps.size = 203) (hd : a.defers = []) (ba : Option Addr) (xv fv ev nv : Value) (sz : Int) (k n bc SL sc gi : Nat) (sa : Option Addr) (ea : Option Addr) (EL ec pb hb j uc : Nat) (pv : Value) (ub uo r : Nat) (z : UInt8) (cur : Array Value) (h0 : slot a 0 = xv) (h1 : slot a 1 = .int .i64 sz) (h12 : slot a 12 = fv) (h13 : slot a 13 = ev) (h14 : slot a 14 = nv) (h16 : slot a 16 = .int .i64 (k : Int)) (h17 : slot a 17 = .slice ba n bc) (h58 : slot a 58 = .slice sa SL sc) (h59 : slot a 59 = .int .i64 (SL : Int)) (h60 : slot a 60 = .int .i64 (gi : Int)) (h18 : slot a 18 = .slice ea EL ec) (h21 : slot a 21 = .slice (some ⟨pb, 0, none⟩) (8 * k) (8 * k)) (h22 : slot a 22 = .slice (some ⟨hb, 0, none⟩) n n) (h23 : slot a 23 = .int .i64 (j : Int)) (h28 : slot a 28 = pv) (h27 : slot a 27 = .slice (some ⟨ub, uo, none⟩) n uc) (h31 : slot a 31 = .int .i64 (r : Int)) (hr0 : r < k) (hk2 : k ≤ 1000) (hkn : k ≤ n) (hj : j < 8) (hz : wr.cell? ⟨ub, uo + r, none⟩ = some (.int .u8 (z.toNat : Int))) (hA : At wr pb (.cells cur 5)) (hcs : cur.size = 8 * k) (Q : Exit → Go.Act → World → Prop)
    (hq : ∀ (c : Go.Act) (w' : World), c.defers = [] → c.tmps.size = 203 → slot c 0 = xv → slot c 1 = .int .i64 sz → slot c 12 = fv → slot c 13 = ev → slot c 14 = nv → slot c 16 = .int .i64 (k : Int) → slot c 17 = .slice ba n bc → slot c 58 = .slice sa SL sc → slot c 59 = .int .i64 (SL : Int) → slot c 60 = .int .i64 (gi : Int) → slot c 18 = .slice ea EL ec → slot c 21 = .slice (some ⟨pb, 0, none⟩) (8 * k) (8 * k) → slot c 22 = .slice (some ⟨hb, 0, none⟩) n n → slot c 23 = .int .i64 (j : Int) → slot c 28 = pv → slot c 27 = .slice (some ⟨ub, uo, none⟩) n uc → slot c 31 = .int .i64 ((r : Int) + 1) → At w' pb (.cells (cur.setIfInBounds (8 * r + j) (.int .u8 (z.toNat : Int))) 5) → Fr [pb] wr w' → Q .normal c w') : Code.wp Tryz.prog rrBC Q a wr := by
  have HQ := Lib.hid hq
  rw [frame203 a hsz hd, h0, h1, h12, h13, h14, h16, h17, h58, h59, h60, h18, h21, h22, h23, h28, h27, h31]
  clear hq h0 h1 h12 h13 h14 h16 h17 h58 h59 h60 h18 h21 h22 h23 h28 h27 h31 hsz hd
  conv => arg 2; whnf
  have hki : (r : Int) < k := by omega
  have hkn2 : (r : Int) < n := by omega
  obtain ⟨ix, hix⟩ : ∃ ix, 8 * r + j = ix := ⟨_, rfl⟩
  have hixi : 8 * (r : Int) + (j : Int) = (ix : Int) := by omega
  have HA := Lib.hid hA
  have HCS := Lib.hid (show ix < cur.size by omega)
  obtain ⟨PK, hPK⟩ : ∃ x, 8 * k = x := ⟨_, rfl⟩
  have hixk : (ix : Int) < (PK : Int) := by omega
  have HIX := Lib.hid hix
  have HPK := Lib.hid hPK
  rw [hix, hPK] at HQ
  rw [hPK]
  clear hA hcs hix hPK
  go_wp2_with (refine wpl_store_one (.tmp 143) (.tmp 142) rfl rfl (.int .u8 (z.toNat : Int)) rfl rfl HA.out HCS.out (by kernel_rfl) rfl ?_)
  intro w5 f5 a5 _
  have HA5 := Lib.hid a5
  have HF5 := Lib.hid f5
  clear f5 a5 HA
  go_wp2
  exact HQ.out _ _ rfl rfl rfl rfl rfl rfl rfl rfl rfl rfl rfl rfl rfl rfl rfl rfl rfl rfl (by go_num) (by simpa using HA5.out) HF5.out
set_option maxRecDepth 1000000 in
set_option maxHeartbeats 8000000 in
theorem rrc_exit (wr : World) (a : Go.Act) (hsz : a.tmps.size = 203) (hd : a.defers = []) (ba ua : Option Addr) (xv fv ev nv : Value) (sz : Int) (k n bc SL sc gi : Nat) (sa : Option Addr) (ea : Option Addr) (EL ec pb hb j uc : Nat) (pv : Value) (h0 : slot a 0 = xv) (h1 : slot a 1 = .int .i64 sz) (h12 : slot a 12 = fv) (h13 : slot a 13 = ev) (h14 : slot a 14 = nv) (h16 : slot a 16 = .int .i64 (k : Int)) (h17 : slot a 17 = .slice ba n bc) (h58 : slot a 58 = .slice sa SL sc) (h59 : slot a 59 = .int .i64 (SL : Int)) (h60 : slot a 60 = .int .i64 (gi : Int)) (h18 : slot a 18 = .slice ea EL ec) (h21 : slot a 21 = .slice (some ⟨pb, 0, none⟩) (8 * k) (8 * k)) (h22 : slot a 22 = .slice (some ⟨hb, 0, none⟩) n n) (h23 : slot a 23 = .int .i64 (j : Int)) (h28 : slot a 28 = pv) (h27 : slot a 27 = .slice ua n uc) (h31 : slot a 31 = .int .i64 (k : Int)) (hk2 : k ≤ 1000) (Q : Exit → Go.Act → World → Prop)
    (hq : ∀ c : Go.Act, c.defers = [] → c.tmps.size = 203 → slot c 0 = xv → slot c 1 = .int .i64 sz → slot c 12 = fv → slot c 13 = ev → slot c 14 = nv → slot c 16 = .int .i64 (k : Int) → slot c 17 = .slice ba n bc → slot c 58 = .slice sa SL sc → slot c 59 = .int .i64 (SL : Int) → slot c 60 = .int .i64 (gi : Int) → slot c 18 = .slice ea EL ec → slot c 21 = .slice (some ⟨pb, 0, none⟩) (8 * k) (8 * k) → slot c 22 = .slice (some ⟨hb, 0, none⟩) n n → slot c 23 = .int .i64 (j : Int) → slot c 28 = pv → Q (.exit 8) c wr) : Code.wp Tryz.prog rrBC Q a wr := by
  have HQ := Lib.hid hq
  rw [frame203 a hsz hd, h0, h1, h12, h13, h14, h16, h17, h58, h59, h60, h18, h21, h22, h23, h28, h27, h31]
  clear hq h0 h1 h12 h13 h14 h16 h17 h58 h59 h60 h18 h21 h22 h23 h28 h27 h31 hsz hd
  conv => arg 2; whnf
  have hki : ¬ (k : Int) < k := by omega
  go_wp2
  apply HQ.out <;> rfl
set_option maxRecDepth 1000000 in
set_option maxHeartbeats 8000000 in
theorem rrc_loop (w3 : World) (a : Go.Act) (hsz : a.tmps.size = 203) (hd : a.defers = []) (ba ua : Option Addr) (xv fv ev nv : Value) (sz : Int) (k n bc SL sc gi : Nat) (sa : Option Addr) (ea : Option Addr) (EL ec pb hb j uc : Nat) (pv : Value) (xs : List UInt8) (PP : Nat → Nat → UInt8) (h0 : slot a 0 = xv) (h1 : slot a 1 = .int .i64 sz) (h12 : slot a 12 = fv) (h13 : slot a 13 = ev) (h14 : slot a 14 = nv) (h16 : slot a 16 = .int .i64 (k : Int)) (h17 : slot a 17 = .slice ba n bc) (h58 : slot a 58 = .slice sa SL sc) (h59 : slot a 59 = .int .i64 (SL : Int)) (h60 : slot a 60 = .int .i64 (gi : Int)) (h18 : slot a 18 = .slice ea EL ec) (h21 : slot a 21 = .slice (some ⟨pb, 0, none⟩) (8 * k) (8 * k)) (h22 : slot a 22 = .slice (some ⟨hb, 0, none⟩) n n) (h23 : slot a 23 = .int .i64 (j : Int)) (h28 : slot a 28 = pv) (h27 : slot a 27 = .slice ua n uc) (h31 : slot a 31 = .int .i64 0) (hk2 : k ≤ 1000) (hkn : k ≤ n) (hj : j < 8) (hxl : xs.length = n) (hP : ∀ i, i < k → PP j i = cf xs i) (hU : Bs (fun b => b = pb) w3 (.slice ua n uc) xs) (hA : At w3 pb (.cells ((ptL k PP j 0).map u8v).toArray 5)) (Q : Exit → Go.Act → World → Prop)
    (hq : ∀ (c : Go.Act) (w' : World), c.defers = [] → c.tmps.size = 203 → slot c 0 = xv → slot c 1 = .int .i64 sz → slot c 12 = fv → slot c 13 = ev → slot c 14 = nv → slot c 16 = .int .i64 (k : Int) → slot c 17 = .slice ba n bc → slot c 58 = .slice sa SL sc → slot c 59 = .int .i64 (SL : Int) → slot c 60 = .int .i64 (gi : Int) → slot c 18 = .slice ea EL ec → slot c 21 = .slice (some ⟨pb, 0, none⟩) (8 * k) (8 * k) → slot c 22 = .slice (some ⟨hb, 0, none⟩) n n → slot c 23 = .int .i64 (j : Int) → slot c 28 = pv → At w' pb (.cells ((ptL k PP j k).map u8v).toArray 5) → Fr [pb] w3 w' → Q (.exit 8) c w') : Code.wp Tryz.prog (Code.loop rrBC) Q a w3 := by
  refine wp_loop (fun a w => a.tmps.size = 203 ∧ a.defers = [] ∧ slot a 0 = xv ∧ slot a 1 = .int .i64 sz ∧ slot a 12 = fv ∧ slot a 13 = ev ∧ slot a 14 = nv ∧ slot a 16 = .int .i64 (k : Int) ∧ slot a 17 = .slice ba n bc ∧ slot a 58 = .slice sa SL sc ∧ slot a 59 = .int .i64 (SL : Int) ∧ slot a 60 = .int .i64 (gi : Int) ∧ slot a 18 = .slice ea EL ec ∧ slot a 21 = .slice (some ⟨pb, 0, none⟩) (8 * k) (8 * k) ∧ slot a 22 = .slice (some ⟨hb, 0, none⟩) n n ∧ slot a 23 = .int .i64 (j : Int) ∧ slot a 28 = pv ∧ slot a 27 = .slice ua n uc ∧ ∃ r : Nat, r ≤ k ∧ slot a 31 = .int .i64 (r : Int) ∧ At w pb (.cells ((ptL k PP j r).map u8v).toArray 5) ∧ Fr [pb] w3 w) (fun a _ => k - kN (slot a 31)) ⟨hsz, hd, h0, h1, h12, h13, h14, h16, h17, h58, h59, h60, h18, h21, h22, h23, h28, h27, 0, by omega, h31, hA, Fr.refl _ _⟩ ?_
  clear h0 h1 h12 h13 h14 h16 h17 h58 h59 h60 h18 h21 h22 h23 h28 h27 h31 hA hsz hd
  rintro a wr ⟨hsz, hd, h0, h1, h12, h13, h14, h16, h17, h58, h59, h60, h18, h21, h22, h23, h28, h27, r, hr, h31, hA, hF⟩
  by_cases hrk : r < k
  · obtain ⟨z, hz⟩ : ∃ z, xs[r]? = some z := ⟨_, List.getElem?_eq_getElem (by omega)⟩
    obtain ⟨ub, uo, e, hzc⟩ := bs_cell (hU.keep hF (by simp)) r z hz
    subst e
    have hst := ptL_step k PP j r hj hrk
    rw [hP r hrk, cf_get hz] at hst
    refine rrc_round wr a hsz hd ba xv fv ev nv sz k n bc SL sc gi sa ea EL ec pb hb j uc pv ub uo r z _ h0 h1 h12 h13 h14 h16 h17 h58 h59 h60 h18 h21 h22 h23 h28 h27 h31 hrk hk2 hkn hj hzc hA (by simp [ptL_len]) _ ?_
    intro c w' kd ks q0 q1 q12 q13 q14 q16 q17 q58 q59 q60 q18 q21 q22 q23 q28 q27 q31 hA' hF'
    refine ⟨⟨ks, kd, q0, q1, q12, q13, q14, q16, q17, q58, q59, q60, q18, q21, q22, q23, q28, q27, r + 1, by omega, by rw [q31]; rfl, ?_, hF.trans hF'⟩, ?_⟩
    · rw [← hst, List.map_set]
      simpa [u8v] using hA'
    · rw [q31, h31]
      simp [kN]; omega
  · obtain rfl : r = k := by omega
    refine rrc_exit wr a hsz hd ba ua xv fv ev nv sz r n bc SL sc gi sa ea EL ec pb hb j uc pv h0 h1 h12 h13 h14 h16 h17 h58 h59 h60 h18 h21 h22 h23 h28 h27 h31 hk2 _ ?_
    intro c kd ks q0 q1 q12 q13 q14 q16 q17 q58 q59 q60 q18 q21 q22 q23 q28
    exact hq c wr kd ks q0 q1 q12 q13 q14 q16 q17 q58 q59 q60 q18 q21 q22 q23 q28 hA hF
noncomputable def rrBD : Code := ((Tryz.f17.body.bind (findLoop 40)).getD .skip)
set_option maxRecDepth 1000000 in
set_option maxHeartbeats 8000000 in
theorem rrd_round (wr : World) (a : Go.Act) (hsz : a.tmps.size = 203) (hd : a.defers = []) (ba : Option Addr) (xv fv ev nv : Value) (sz : Int) (k n bc SL sc gi : Nat) (sa : Option Addr) (ea : Option Addr) (EL ec pb hb j RN rc : Nat) (rb ro q p : Nat) (ps : List Nat) (h0 : slot a 0 = xv) (h1 : slot a 1 = .int .i64 sz) (h12 : slot a 12 = fv) (h13 : slot a 13 = ev) (h14 : slot a 14 = nv) (h16 : slot a 16 = .int .i64 (k : Int)) (h17 : slot a 17 = .slice ba n bc) (h58 : slot a 58 = .slice sa SL sc) (h59 : slot a 59 = .int .i64 (SL : Int)) (h60 : slot a 60 = .int .i64 (gi : Int)) (h18 : slot a 18 = .slice ea EL ec) (h21 : slot a 21 = .slice (some ⟨pb, 0, none⟩) (8 * k) (8 * k)) (h22 : slot a 22 = .slice (some ⟨hb, 0, none⟩) n n) (h23 : slot a 23 = .int .i64 (j : Int)) (h144 : slot a 144 = .slice (some ⟨rb, ro, none⟩) RN rc) (h145 : slot a 145 = .int .i64 (RN : Int)) (h146 : slot a 146 = .int .i64 (q : Int)) (hq0 : q < RN) (hRN : RN ≤ 1000) (hn : n ≤ 1000) (hp : p < n) (hc : wr.cell? ⟨rb, ro + q, none⟩ = some (.int .i64 (p : Int))) (hA : At wr hb (.cells (boolC (inL n ps)) 4)) (Q : Exit → Go.Act → World → Prop)
    (hq : ∀ (c : Go.Act) (w' : World), c.defers = [] → c.tmps.size = 203 → slot c 0 = xv → slot c 1 = .int .i64 sz → slot c 12 = fv → slot c 13 = ev → slot c 14 = nv → slot c 16 = .int .i64 (k : Int) → slot c 17 = .slice ba n bc → slot c 58 = .slice sa SL sc → slot c 59 = .int .i64 (SL : Int) → slot c 60 = .int .i64 (gi : Int) → slot c 18 = .slice ea EL ec → slot c 21 = .slice (some ⟨pb, 0, none⟩) (8 * k) (8 * k) → slot c 22 = .slice (some ⟨hb, 0, none⟩) n n → slot c 23 = .int .i64 (j : Int) → slot c 144 = .slice (some ⟨rb, ro, none⟩) RN rc → slot c 145 = .int .i64 (RN : Int) → slot c 146 = .int .i64 ((q : Int) + 1) → At w' hb (.cells (boolC (inL n (ps ++ [p]))) 4) → Fr [hb] wr w' → Q .normal c w') : Code.wp Tryz.prog rrBD Q a wr := by
  have HQ := Lib.hid hq
  rw [frame203 a hsz hd, h0, h1, h12, h13, h14, h16, h17, h58, h59, h60, h18, h21, h22, h23, h144, h145, h146]
  clear hq h0 h1 h12 h13 h14 h16 h17 h58 h59 h60 h18 h21 h22 h23 h144 h145 h146 hsz hd
  conv => arg 2; whnf
  have hki : (q : Int) < RN := by omega
  have hpi : (p : Int) < n := by omega
  have HA := Lib.hid hA
  have HSZ1 := Lib.hid (show p < (boolC (inL n ps)).size by rw [boolC_len, inL_len]; exact hp)
  clear hA
  go_wp2_with (refine wpl_store_one (.tmp 152) (.const (.bool true)) rfl rfl (.bool true) rfl rfl HA.out HSZ1.out (by kernel_rfl) rfl ?_)
  intro w6 f6 a6 s6
  have HA6 := Lib.hid (bool_set a6 hp)
  have HF6 := Lib.hid f6
  clear f6 a6 s6 HA HSZ1
  go_wp2
  exact HQ.out _ _ rfl rfl rfl rfl rfl rfl rfl rfl rfl rfl rfl rfl rfl rfl rfl rfl rfl rfl (by go_num) HA6.out HF6.out
set_option maxRecDepth 1000000 in
set_option maxHeartbeats 8000000 in
theorem rrd_exit (wr : World) (a : Go.Act) (hsz : a.tmps.size = 203) (hd : a.defers = []) (ba ra : Option Addr) (xv fv ev nv : Value) (sz : Int) (k n bc SL sc gi : Nat) (sa : Option Addr) (ea : Option Addr) (EL ec pb hb j RN rc : Nat) (h0 : slot a 0 = xv) (h1 : slot a 1 = .int .i64 sz) (h12 : slot a 12 = fv) (h13 : slot a 13 = ev) (h14 : slot a 14 = nv) (h16 : slot a 16 = .int .i64 (k : Int)) (h17 : slot a 17 = .slice ba n bc) (h58 : slot a 58 = .slice sa SL sc) (h59 : slot a 59 = .int .i64 (SL : Int)) (h60 : slot a 60 = .int .i64 (gi : Int)) (h18 : slot a 18 = .slice ea EL ec) (h21 : slot a 21 = .slice (some ⟨pb, 0, none⟩) (8 * k) (8 * k)) (h22 : slot a 22 = .slice (some ⟨hb, 0, none⟩) n n) (h23 : slot a 23 = .int .i64 (j : Int)) (h144 : slot a 144 = .slice ra RN rc) (h145 : slot a 145 = .int .i64 (RN : Int)) (h146 : slot a 146 = .int .i64 (RN : Int)) (hRN : RN ≤ 1000) (Q : Exit → Go.Act → World → Prop)
    (hq : ∀ c : Go.Act, c.defers = [] → c.tmps.size = 203 → slot c 0 = xv → slot c 1 = .int .i64 sz → slot c 12 = fv → slot c 13 = ev → slot c 14 = nv → slot c 16 = .int .i64 (k : Int) → slot c 17 = .slice ba n bc → slot c 58 = .slice sa SL sc → slot c 59 = .int .i64 (SL : Int) → slot c 60 = .int .i64 (gi : Int) → slot c 18 = .slice ea EL ec → slot c 21 = .slice (some ⟨pb, 0, none⟩) (8 * k) (8 * k) → slot c 22 = .slice (some ⟨hb, 0, none⟩) n n → slot c 23 = .int .i64 (j : Int) → Q (.exit 10) c wr) : Code.wp Tryz.prog rrBD Q a wr := by
  have HQ := Lib.hid hq
  rw [frame203 a hsz hd, h0, h1, h12, h13, h14, h16, h17, h58, h59, h60, h18, h21, h22, h23, h144, h145, h146]
  clear hq h0 h1 h12 h13 h14 h16 h17 h58 h59 h60 h18 h21 h22 h23 h144 h145 h146 hsz hd
  conv => arg 2; whnf
  have hki : ¬ (RN : Int) < RN := by omega
  go_wp2
  apply HQ.out <;> rfl
set_option maxRecDepth 1000000 in
set_option maxHeartbeats 8000000 in
theorem rrd_loop (w4 : World) (a : Go.Act) (hsz : a.tmps.size = 203) (hd : a.defers = []) (ba ra : Option Addr) (xv fv ev nv : Value) (sz : Int) (k n bc SL sc gi : Nat) (sa : Option Addr) (ea : Option Addr) (EL ec pb hb j RN rc : Nat) (hs ps : List Nat) (h0 : slot a 0 = xv) (h1 : slot a 1 = .int .i64 sz) (h12 : slot a 12 = fv) (h13 : slot a 13 = ev) (h14 : slot a 14 = nv) (h16 : slot a 16 = .int .i64 (k : Int)) (h17 : slot a 17 = .slice ba n bc) (h58 : slot a 58 = .slice sa SL sc) (h59 : slot a 59 = .int .i64 (SL : Int)) (h60 : slot a 60 = .int .i64 (gi : Int)) (h18 : slot a 18 = .slice ea EL ec) (h21 : slot a 21 = .slice (some ⟨pb, 0, none⟩) (8 * k) (8 * k)) (h22 : slot a 22 = .slice (some ⟨hb, 0, none⟩) n n) (h23 : slot a 23 = .int .i64 (j : Int)) (h144 : slot a 144 = .slice ra RN rc) (h145 : slot a 145 = .int .i64 (RN : Int)) (h146 : slot a 146 = .int .i64 0) (hRN : ps.length = RN) (hR2 : RN ≤ 1000) (hn : n ≤ 1000) (hp : ∀ p ∈ ps, p < n)
    (hv : Is (fun b => b = hb) w4 (.slice ra RN rc) (intL ps)) (hA : At w4 hb (.cells (boolC (inL n hs)) 4)) (Q : Exit → Go.Act → World → Prop)
    (hq : ∀ (c : Go.Act) (w' : World), c.defers = [] → c.tmps.size = 203 → slot c 0 = xv → slot c 1 = .int .i64 sz → slot c 12 = fv → slot c 13 = ev → slot c 14 = nv → slot c 16 = .int .i64 (k : Int) → slot c 17 = .slice ba n bc → slot c 58 = .slice sa SL sc → slot c 59 = .int .i64 (SL : Int) → slot c 60 = .int .i64 (gi : Int) → slot c 18 = .slice ea EL ec → slot c 21 = .slice (some ⟨pb, 0, none⟩) (8 * k) (8 * k) → slot c 22 = .slice (some ⟨hb, 0, none⟩) n n → slot c 23 = .int .i64 (j : Int) → At w' hb (.cells (boolC (inL n (hs ++ ps))) 4) → Fr [hb] w4 w' → Q (.exit 10) c w') : Code.wp Tryz.prog (Code.loop rrBD) Q a w4 := by
  refine wp_loop (fun a w => a.tmps.size = 203 ∧ a.defers = [] ∧ slot a 0 = xv ∧ slot a 1 = .int .i64 sz ∧ slot a 12 = fv ∧ slot a 13 = ev ∧ slot a 14 = nv ∧ slot a 16 = .int .i64 (k : Int) ∧ slot a 17 = .slice ba n bc ∧ slot a 58 = .slice sa SL sc ∧ slot a 59 = .int .i64 (SL : Int) ∧ slot a 60 = .int .i64 (gi : Int) ∧ slot a 18 = .slice ea EL ec ∧ slot a 21 = .slice (some ⟨pb, 0, none⟩) (8 * k) (8 * k) ∧ slot a 22 = .slice (some ⟨hb, 0, none⟩) n n ∧ slot a 23 = .int .i64 (j : Int) ∧ slot a 144 = .slice ra RN rc ∧ slot a 145 = .int .i64 (RN : Int) ∧ ∃ q : Nat, q ≤ RN ∧ slot a 146 = .int .i64 (q : Int) ∧ At w hb (.cells (boolC (inL n (hs ++ ps.take q))) 4) ∧ Fr [hb] w4 w) (fun a _ => RN - kN (slot a 146)) ⟨hsz, hd, h0, h1, h12, h13, h14, h16, h17, h58, h59, h60, h18, h21, h22, h23, h144, h145, 0, by omega, h146, by rw [List.take_zero, List.append_nil]; exact hA, Fr.refl _ _⟩ ?_
  clear h0 h1 h12 h13 h14 h16 h17 h58 h59 h60 h18 h21 h22 h23 h144 h145 h146 hA hsz hd
  rintro a wr ⟨hsz, hd, h0, h1, h12, h13, h14, h16, h17, h58, h59, h60, h18, h21, h22, h23, h144, h145, q, hk, h146, hA, hF⟩
  by_cases hkp : q < RN
  · obtain ⟨p, hpk⟩ : ∃ p, ps[q]? = some p := ⟨_, List.getElem?_eq_getElem (by omega)⟩
    obtain ⟨rb, ro, e, hcc⟩ := is_cell (hv.keep hF (by simp)) q (p : Int) (by unfold intL; rw [List.getElem?_map, hpk]; rfl)
    subst e
    refine rrd_round wr a hsz hd ba xv fv ev nv sz k n bc SL sc gi sa ea EL ec pb hb j RN rc rb ro q p (hs ++ ps.take q) h0 h1 h12 h13 h14 h16 h17 h58 h59 h60 h18 h21 h22 h23 h144 h145 h146 hkp hR2 hn (hp p (List.mem_of_getElem? hpk)) hcc hA _ ?_
    intro c w' kd ks q0 q1 q12 q13 q14 q16 q17 q58 q59 q60 q18 q21 q22 q23 q144 q145 q146 hA' hf
    refine ⟨⟨ks, kd, q0, q1, q12, q13, q14, q16, q17, q58, q59, q60, q18, q21, q22, q23, q144, q145, q + 1, by omega, by rw [q146]; rfl, ?_, hF.trans hf⟩, ?_⟩
    · rw [show ps.take (q + 1) = ps.take q ++ [p] by rw [List.take_add_one, hpk]; rfl, ← List.append_assoc]
      exact hA'
    · rw [q146, h146]
      simp [kN]; omega
  · obtain rfl : q = RN := by omega
    refine rrd_exit wr a hsz hd ba ra xv fv ev nv sz k n bc SL sc gi sa ea EL ec pb hb j q rc h0 h1 h12 h13 h14 h16 h17 h58 h59 h60 h18 h21 h22 h23 h144 h145 h146 hR2 _ ?_
    intro c kd ks q0 q1 q12 q13 q14 q16 q17 q58 q59 q60 q18 q21 q22 q23
    rw [List.take_of_length_le (by omega)] at hA
    exact hq c wr kd ks q0 q1 q12 q13 q14 q16 q17 q58 q59 q60 q18 q21 q22 q23 hA hF
noncomputable def rrBA : Code := ((Tryz.f17.body.bind (findLoop 15)).getD .skip)
set_option maxRecDepth 1000000 in
set_option maxHeartbeats 8000000 in
theorem rra_round (wr : World) (a : Go.Act) (hsz : a.tmps.size = 203) (hd : a.defers = []) (xv fv ev nv : Value) (sz : Int) (k n bc SL sc gi : Nat) (sa : Option Addr) (bb bo q bl xc Z : Nat) (xa : Option Addr) (ov : Value) (l : List Int) (w0 : World) (h0 : slot a 0 = xv) (h1 : slot a 1 = .int .i64 sz) (h12 : slot a 12 = fv) (h13 : slot a 13 = ev) (h14 : slot a 14 = nv) (h16 : slot a 16 = .int .i64 (k : Int)) (h17 : slot a 17 = .slice (some ⟨bb, bo, none⟩) n bc) (h58 : slot a 58 = .slice sa SL sc) (h59 : slot a 59 = .int .i64 (SL : Int)) (h60 : slot a 60 = .int .i64 (gi : Int)) (h73 : slot a 73 = .slice (some ⟨bb, bo, none⟩) n bc) (h74 : slot a 74 = .int .i64 (n : Int)) (h18 : slot a 18 = ov) (h75 : slot a 75 = .int .i64 (q : Int)) (hq0 : q < n) (hn : n ≤ 1000) (hc : wr.cell? ⟨bb, bo + q, none⟩ = some (.slice xa bl xc)) (hI : OwnI 3 Z wr ov l) (hF : Fr [] w0 wr) (hZ : w0.heap.size ≤ Z) (hzw : Z ≤ wr.heap.size) (hl : l.length ≤ 1000) (Q : Exit → Go.Act → World → Prop)
    (hq : ∀ (c : Go.Act) (w' : World) (ov' : Value), c.defers = [] → c.tmps.size = 203 → slot c 0 = xv → slot c 1 = .int .i64 sz → slot c 12 = fv → slot c 13 = ev → slot c 14 = nv → slot c 16 = .int .i64 (k : Int) → slot c 17 = .slice (some ⟨bb, bo, none⟩) n bc → slot c 58 = .slice sa SL sc → slot c 59 = .int .i64 (SL : Int) → slot c 60 = .int .i64 (gi : Int) → slot c 73 = .slice (some ⟨bb, bo, none⟩) n bc → slot c 74 = .int .i64 (n : Int) → slot c 18 = ov' → slot c 75 = .int .i64 ((q : Int) + 1) → OwnI 3 Z w' ov' (l ++ if bl = 8 then [] else [(q : Int)]) → Fr [] w0 w' → Z ≤ w'.heap.size → Q .normal c w') : Code.wp Tryz.prog rrBA Q a wr := by
  have HQ := Lib.hid hq
  rw [frame203 a hsz hd, h0, h1, h12, h13, h14, h16, h17, h58, h59, h60, h73, h74, h18, h75]
  clear hq h0 h1 h12 h13 h14 h16 h17 h58 h59 h60 h73 h74 h18 h75 hsz hd
  conv => arg 2; whnf
  have hki : (q : Int) < n := by omega
  have HI := Lib.hid hI
  have HF := Lib.hid hF
  clear hI hF
  by_cases h8 : bl = 8
  · subst h8
    rw [if_pos rfl, List.append_nil] at HQ
    go_wp2
    exact HQ.out _ _ _ rfl rfl rfl rfl rfl rfl rfl rfl rfl rfl rfl rfl rfl rfl rfl (by go_num) HI.out HF.out hzw
  · rw [if_neg h8] at HQ
    have h8i : ¬ ((bl : Int) = 8) := by omega
    have fa : Fr [] wr (wr.alloc (.cells #[.int .i64 (q : Int)] 3)) := Fr.alloc _ _
    have HI4 := Lib.hid (HI.out.keep0 fa)
    have HF4 := Lib.hid (HF.out.trans fa)
    have HIL := Lib.hid (show l.length ≤ 17592186044414 by omega)
    have hz4 : Z ≤ (wr.alloc (.cells #[.int .i64 (q : Int)] 3)).heap.size := by simp; omega
    clear fa HI HF h8
    go_wp2_with (at_builtin; refine wpl_append_n Tryz.underlying23 Tryz.infoIntB rfl (.tmp 83) (.tmp 85) rfl rfl rfl (At.new rfl) HI4.out HIL.out hz4 ?_)
    intro v5 w5 h5 g5
    have HI5 := Lib.hid h5
    have HF5 := Lib.hid (show Fr [] w0 w5 from OwnI.fr HI4.out HF4.out g5 hZ)
    have hz5 : Z ≤ w5.heap.size := by have := (grown_fr g5).size; omega
    clear h5 g5 HI4 HF4
    go_wp2
    exact HQ.out _ _ _ rfl rfl rfl rfl rfl rfl rfl rfl rfl rfl rfl rfl rfl rfl rfl (by go_num) HI5.out HF5.out hz5
set_option maxRecDepth 1000000 in
set_option maxHeartbeats 8000000 in
theorem rra_exit (wr : World) (a : Go.Act) (hsz : a.tmps.size = 203) (hd : a.defers = []) (ba : Option Addr) (xv fv ev nv : Value) (sz : Int) (k n bc SL sc gi : Nat) (sa : Option Addr) (ov : Value) (h0 : slot a 0 = xv) (h1 : slot a 1 = .int .i64 sz) (h12 : slot a 12 = fv) (h13 : slot a 13 = ev) (h14 : slot a 14 = nv) (h16 : slot a 16 = .int .i64 (k : Int)) (h17 : slot a 17 = .slice ba n bc) (h58 : slot a 58 = .slice sa SL sc) (h59 : slot a 59 = .int .i64 (SL : Int)) (h60 : slot a 60 = .int .i64 (gi : Int)) (h73 : slot a 73 = .slice ba n bc) (h74 : slot a 74 = .int .i64 (n : Int)) (h18 : slot a 18 = ov) (h75 : slot a 75 = .int .i64 (n : Int)) (hn : n ≤ 1000) (Q : Exit → Go.Act → World → Prop)
    (hq : ∀ c : Go.Act, c.defers = [] → c.tmps.size = 203 → slot c 0 = xv → slot c 1 = .int .i64 sz → slot c 12 = fv → slot c 13 = ev → slot c 14 = nv → slot c 16 = .int .i64 (k : Int) → slot c 17 = .slice ba n bc → slot c 58 = .slice sa SL sc → slot c 59 = .int .i64 (SL : Int) → slot c 60 = .int .i64 (gi : Int) → slot c 18 = ov → Q (.exit 2) c wr) : Code.wp Tryz.prog rrBA Q a wr := by
  have HQ := Lib.hid hq
  rw [frame203 a hsz hd, h0, h1, h12, h13, h14, h16, h17, h58, h59, h60, h73, h74, h18, h75]
  clear hq h0 h1 h12 h13 h14 h16 h17 h58 h59 h60 h73 h74 h18 h75 hsz hd
  conv => arg 2; whnf
  have hki : ¬ (n : Int) < n := by omega
  go_wp2
  apply HQ.out <;> rfl
set_option maxRecDepth 1000000 in
set_option maxHeartbeats 8000000 in
theorem rra_loop (w0 wa : World) (a : Go.Act) (hsz : a.tmps.size = 203) (hd : a.defers = []) (ba : Option Addr) (xv fv ev nv : Value) (sz : Int) (k n bc SL sc gi : Nat) (sa : Option Addr) (Z : Nat) (ov0 : Value) (ls : List (Value × List UInt8)) (bs : List (List UInt8)) (h0 : slot a 0 = xv) (h1 : slot a 1 = .int .i64 sz) (h12 : slot a 12 = fv) (h13 : slot a 13 = ev) (h14 : slot a 14 = nv) (h16 : slot a 16 = .int .i64 (k : Int)) (h17 : slot a 17 = .slice ba n bc) (h58 : slot a 58 = .slice sa SL sc) (h59 : slot a 59 = .int .i64 (SL : Int)) (h60 : slot a 60 = .int .i64 (gi : Int)) (h73 : slot a 73 = .slice ba n bc) (h74 : slot a 74 = .int .i64 (n : Int)) (h18 : slot a 18 = ov0) (h75 : slot a 75 = .int .i64 0) (hn : n ≤ 1000) (hln : ls.length = n) (hls : ls.map (·.2) = bs) (hr : RdB (fun _ => False) w0 (.slice ba n bc) ls) (hF : Fr [] w0 wa) (hZ : w0.heap.size ≤ Z) (hzw : Z ≤ wa.heap.size) (hI : OwnI 3 Z wa ov0 []) (Q : Exit → Go.Act → World → Prop)
    (hq : ∀ (c : Go.Act) (w' : World) (ov' : Value), c.defers = [] → c.tmps.size = 203 → slot c 0 = xv → slot c 1 = .int .i64 sz → slot c 12 = fv → slot c 13 = ev → slot c 14 = nv → slot c 16 = .int .i64 (k : Int) → slot c 17 = .slice ba n bc → slot c 58 = .slice sa SL sc → slot c 59 = .int .i64 (SL : Int) → slot c 60 = .int .i64 (gi : Int) → slot c 18 = ov' → OwnI 3 Z w' ov' (intL (gon bs)) → Fr [] w0 w' → Q (.exit 2) c w') : Code.wp Tryz.prog (Code.loop rrBA) Q a wa := by
  refine wp_loop (fun a w => a.tmps.size = 203 ∧ a.defers = [] ∧ slot a 0 = xv ∧ slot a 1 = .int .i64 sz ∧ slot a 12 = fv ∧ slot a 13 = ev ∧ slot a 14 = nv ∧ slot a 16 = .int .i64 (k : Int) ∧ slot a 17 = .slice ba n bc ∧ slot a 58 = .slice sa SL sc ∧ slot a 59 = .int .i64 (SL : Int) ∧ slot a 60 = .int .i64 (gi : Int) ∧ slot a 73 = .slice ba n bc ∧ slot a 74 = .int .i64 (n : Int) ∧ ∃ (q : Nat) (ov : Value), q ≤ n ∧ slot a 18 = ov ∧ slot a 75 = .int .i64 (q : Int) ∧ OwnI 3 Z w ov (intL (gonK bs q)) ∧ Fr [] w0 w ∧ Z ≤ w.heap.size) (fun a _ => n - kN (slot a 75)) ⟨hsz, hd, h0, h1, h12, h13, h14, h16, h17, h58, h59, h60, h73, h74, 0, _, by omega, h18, h75, hI, hF, hzw⟩ ?_
  clear h0 h1 h12 h13 h14 h16 h17 h58 h59 h60 h73 h74 h18 h75 hsz hd hI hF hzw
  rintro a wr ⟨hsz, hd, h0, h1, h12, h13, h14, h16, h17, h58, h59, h60, h73, h74, q, ov, hk, h18, h75, hI, hF, hzw⟩
  have hbl : bs.length = n := by rw [← hls, List.length_map, hln]
  by_cases hkn : q < n
  · obtain ⟨x, hx⟩ : ∃ x, ls[q]? = some x := ⟨_, List.getElem?_eq_getElem (by omega)⟩
    obtain ⟨bb, bo, e, hc, hbx⟩ := rdb_cell (hr.keep hF (by simp)) q x hx
    subst e
    obtain ⟨xa, xc, e, -⟩ := id hbx
    rw [e] at hc
    have hxb : bs.getD q [] = x.2 := by rw [← hls, List.getD_eq_getElem?_getD, List.getElem?_map, hx]; rfl
    have hup := gonK_up bs q
    rw [hxb] at hup
    refine rra_round wr a hsz hd xv fv ev nv sz k n bc SL sc gi sa bb bo q x.2.length xc Z xa ov _ w0 h0 h1 h12 h13 h14 h16 h17 h58 h59 h60 h73 h74 h18 h75 hkn hn hc hI hF hZ hzw (by rw [intL_len]; have := gonK_le bs q; omega) _ ?_
    intro c w' ov' kd ks q0 q1 q12 q13 q14 q16 q17 q58 q59 q60 q73 q74 q18 q75 hI' hF' hz'
    refine ⟨⟨ks, kd, q0, q1, q12, q13, q14, q16, q17, q58, q59, q60, q73, q74, q + 1, ov', by omega, q18, by rw [q75]; rfl, ?_, hF', hz'⟩, ?_⟩
    · have e2 : intL (gonK bs (q + 1)) = intL (gonK bs q) ++ if x.2.length = 8 then [] else [(q : Int)] := by
        rw [hup]
        unfold intL
        rw [List.map_append]
        by_cases h : x.2.length = 8
        · rw [if_pos h, if_pos h]; rfl
        · rw [if_neg h, if_neg h]; rfl
      rw [e2]
      exact hI'
    · rw [q75, h75]
      simp [kN]; omega
  · obtain rfl : q = n := by omega
    refine rra_exit wr a hsz hd ba xv fv ev nv sz k q bc SL sc gi sa ov h0 h1 h12 h13 h14 h16 h17 h58 h59 h60 h73 h74 h18 h75 hn _ ?_
    intro c kd ks q0 q1 q12 q13 q14 q16 q17 q58 q59 q60 q18
    refine hq c wr ov kd ks q0 q1 q12 q13 q14 q16 q17 q58 q59 q60 q18 ?_ hF
    unfold gon
    rw [hbl]
    exact hI
noncomputable def rrBE : Code := ((Tryz.f17.body.bind (findLoop 46)).getD .skip)
set_option maxRecDepth 1000000 in
set_option maxHeartbeats 8000000 in
theorem rre_round (wr : World) (a : Go.Act) (hsz : a.tmps.size = 203) (hd : a.defers = []) (xv fv ev nv : Value) (sz : Int) (k n bc SL sc gi : Nat) (sa : Option Addr) (ea : Option Addr) (EL ec pb hb : Nat) (bb bo q m bl xc : Nat) (xa : Option Addr) (hit : Bool) (h0 : slot a 0 = xv) (h1 : slot a 1 = .int .i64 sz) (h12 : slot a 12 = fv) (h13 : slot a 13 = ev) (h14 : slot a 14 = nv) (h16 : slot a 16 = .int .i64 (k : Int)) (h17 : slot a 17 = .slice (some ⟨bb, bo, none⟩) n bc) (h58 : slot a 58 = .slice sa SL sc) (h59 : slot a 59 = .int .i64 (SL : Int)) (h60 : slot a 60 = .int .i64 (gi : Int)) (h18 : slot a 18 = .slice ea EL ec) (h21 : slot a 21 = .slice (some ⟨pb, 0, none⟩) (8 * k) (8 * k)) (h22 : slot a 22 = .slice (some ⟨hb, 0, none⟩) n n) (h155 : slot a 155 = .int .i64 (n : Int)) (h34 : slot a 34 = .int .i64 (m : Int)) (h156 : slot a 156 = .int .i64 (q : Int)) (hq0 : q < n) (hn : n ≤ 1000) (hm : m ≤ 1000) (hh : wr.cell? ⟨hb, q, none⟩ = some (.bool hit)) (hc : wr.cell? ⟨bb, bo + q, none⟩ = some (.slice xa bl xc)) (Q : Exit → Go.Act → World → Prop)
    (hq : ∀ c : Go.Act, c.defers = [] → c.tmps.size = 203 → slot c 0 = xv → slot c 1 = .int .i64 sz → slot c 12 = fv → slot c 13 = ev → slot c 14 = nv → slot c 16 = .int .i64 (k : Int) → slot c 17 = .slice (some ⟨bb, bo, none⟩) n bc → slot c 58 = .slice sa SL sc → slot c 59 = .int .i64 (SL : Int) → slot c 60 = .int .i64 (gi : Int) → slot c 18 = .slice ea EL ec → slot c 21 = .slice (some ⟨pb, 0, none⟩) (8 * k) (8 * k) → slot c 22 = .slice (some ⟨hb, 0, none⟩) n n → slot c 155 = .int .i64 (n : Int) → slot c 34 = .int .i64 ((m + if hit = true ∧ bl = 8 then 1 else 0 : Nat) : Int) → slot c 156 = .int .i64 ((q : Int) + 1) → Q .normal c wr) : Code.wp Tryz.prog rrBE Q a wr := by
  have HQ := Lib.hid hq
  rw [frame203 a hsz hd, h0, h1, h12, h13, h14, h16, h17, h58, h59, h60, h18, h21, h22, h155, h34, h156]
  clear hq h0 h1 h12 h13 h14 h16 h17 h58 h59 h60 h18 h21 h22 h155 h34 h156 hsz hd
  conv => arg 2; whnf
  have hki : (q : Int) < n := by omega
  cases hit with
  | false =>
    rw [if_neg (fun h => Bool.noConfusion h.1)] at HQ
    go_wp2
    exact HQ.out _ rfl rfl rfl rfl rfl rfl rfl rfl rfl rfl rfl rfl rfl rfl rfl rfl (by go_num) (by go_num)
  | true =>
    by_cases h8 : bl = 8
    · subst h8
      rw [if_pos ⟨rfl, rfl⟩] at HQ
      go_wp2
      exact HQ.out _ rfl rfl rfl rfl rfl rfl rfl rfl rfl rfl rfl rfl rfl rfl rfl rfl (by go_num) (by go_num)
    · rw [if_neg (fun h => h8 h.2)] at HQ
      have h8i : ¬ ((bl : Int) = 8) := by omega
      go_wp2
      exact HQ.out _ rfl rfl rfl rfl rfl rfl rfl rfl rfl rfl rfl rfl rfl rfl rfl rfl (by go_num) (by go_num)
set_option maxRecDepth 1000000 in
set_option maxHeartbeats 8000000 in
theorem rre_exit (wr : World) (a : Go.Act) (hsz : a.tmps.size = 203) (hd : a.defers = []) (ba : Option Addr) (xv fv ev nv : Value) (sz : Int) (k n bc SL sc gi : Nat) (sa : Option Addr) (ea : Option Addr) (EL ec pb hb : Nat) (m : Nat) (h0 : slot a 0 = xv) (h1 : slot a 1 = .int .i64 sz) (h12 : slot a 12 = fv) (h13 : slot a 13 = ev) (h14 : slot a 14 = nv) (h16 : slot a 16 = .int .i64 (k : Int)) (h17 : slot a 17 = .slice ba n bc) (h58 : slot a 58 = .slice sa SL sc) (h59 : slot a 59 = .int .i64 (SL : Int)) (h60 : slot a 60 = .int .i64 (gi : Int)) (h18 : slot a 18 = .slice ea EL ec) (h21 : slot a 21 = .slice (some ⟨pb, 0, none⟩) (8 * k) (8 * k)) (h22 : slot a 22 = .slice (some ⟨hb, 0, none⟩) n n) (h155 : slot a 155 = .int .i64 (n : Int)) (h34 : slot a 34 = .int .i64 (m : Int)) (h156 : slot a 156 = .int .i64 (n : Int)) (hn : n ≤ 1000) (Q : Exit → Go.Act → World → Prop)
    (hq : ∀ c : Go.Act, c.defers = [] → c.tmps.size = 203 → slot c 0 = xv → slot c 1 = .int .i64 sz → slot c 12 = fv → slot c 13 = ev → slot c 14 = nv → slot c 16 = .int .i64 (k : Int) → slot c 17 = .slice ba n bc → slot c 58 = .slice sa SL sc → slot c 59 = .int .i64 (SL : Int) → slot c 60 = .int .i64 (gi : Int) → slot c 18 = .slice ea EL ec → slot c 21 = .slice (some ⟨pb, 0, none⟩) (8 * k) (8 * k) → slot c 34 = .int .i64 (m : Int) → Q (.exit 12) c wr) : Code.wp Tryz.prog rrBE Q a wr := by
  have HQ := Lib.hid hq
  rw [frame203 a hsz hd, h0, h1, h12, h13, h14, h16, h17, h58, h59, h60, h18, h21, h22, h155, h34, h156]
  clear hq h0 h1 h12 h13 h14 h16 h17 h58 h59 h60 h18 h21 h22 h155 h34 h156 hsz hd
  conv => arg 2; whnf
  have hki : ¬ (n : Int) < n := by omega
  go_wp2
  apply HQ.out <;> rfl
set_option maxRecDepth 1000000 in
set_option maxHeartbeats 8000000 in
theorem rre_loop (w5 : World) (a : Go.Act) (hsz : a.tmps.size = 203) (hd : a.defers = []) (ba : Option Addr) (xv fv ev nv : Value) (sz : Int) (k n bc SL sc gi : Nat) (sa : Option Addr) (ea : Option Addr) (EL ec pb hb : Nat) (ls : List (Value × List UInt8)) (bs : List (List UInt8)) (h0 : slot a 0 = xv) (h1 : slot a 1 = .int .i64 sz) (h12 : slot a 12 = fv) (h13 : slot a 13 = ev) (h14 : slot a 14 = nv) (h16 : slot a 16 = .int .i64 (k : Int)) (h17 : slot a 17 = .slice ba n bc) (h58 : slot a 58 = .slice sa SL sc) (h59 : slot a 59 = .int .i64 (SL : Int)) (h60 : slot a 60 = .int .i64 (gi : Int)) (h18 : slot a 18 = .slice ea EL ec) (h21 : slot a 21 = .slice (some ⟨pb, 0, none⟩) (8 * k) (8 * k)) (h22 : slot a 22 = .slice (some ⟨hb, 0, none⟩) n n) (h155 : slot a 155 = .int .i64 (n : Int)) (h34 : slot a 34 = .int .i64 0) (h156 : slot a 156 = .int .i64 0) (hn : n ≤ 1000) (hln : ls.length = n) (hls : ls.map (·.2) = bs) (hr : RdB (fun _ => False) w5 (.slice ba n bc) ls) (hA : At w5 hb (.cells (boolC (inL n (hitK bs 8))) 4)) (Q : Exit → Go.Act → World → Prop)
    (hq : ∀ c : Go.Act, c.defers = [] → c.tmps.size = 203 → slot c 0 = xv → slot c 1 = .int .i64 sz → slot c 12 = fv → slot c 13 = ev → slot c 14 = nv → slot c 16 = .int .i64 (k : Int) → slot c 17 = .slice ba n bc → slot c 58 = .slice sa SL sc → slot c 59 = .int .i64 (SL : Int) → slot c 60 = .int .i64 (gi : Int) → slot c 18 = .slice ea EL ec → slot c 21 = .slice (some ⟨pb, 0, none⟩) (8 * k) (8 * k) → slot c 34 = .int .i64 (nHit bs n : Int) → Q (.exit 12) c w5) : Code.wp Tryz.prog (Code.loop rrBE) Q a w5 := by
  refine wp_loop (fun a w => w = w5 ∧ a.tmps.size = 203 ∧ a.defers = [] ∧ slot a 0 = xv ∧ slot a 1 = .int .i64 sz ∧ slot a 12 = fv ∧ slot a 13 = ev ∧ slot a 14 = nv ∧ slot a 16 = .int .i64 (k : Int) ∧ slot a 17 = .slice ba n bc ∧ slot a 58 = .slice sa SL sc ∧ slot a 59 = .int .i64 (SL : Int) ∧ slot a 60 = .int .i64 (gi : Int) ∧ slot a 18 = .slice ea EL ec ∧ slot a 21 = .slice (some ⟨pb, 0, none⟩) (8 * k) (8 * k) ∧ slot a 22 = .slice (some ⟨hb, 0, none⟩) n n ∧ slot a 155 = .int .i64 (n : Int) ∧ ∃ q : Nat, q ≤ n ∧ slot a 34 = .int .i64 (nHit bs q : Int) ∧ slot a 156 = .int .i64 (q : Int)) (fun a _ => n - kN (slot a 156)) ⟨rfl, hsz, hd, h0, h1, h12, h13, h14, h16, h17, h58, h59, h60, h18, h21, h22, h155, 0, by omega, h34, h156⟩ ?_
  clear h0 h1 h12 h13 h14 h16 h17 h58 h59 h60 h18 h21 h22 h155 h34 h156 hsz hd
  rintro a wr ⟨rfl, hsz, hd, h0, h1, h12, h13, h14, h16, h17, h58, h59, h60, h18, h21, h22, h155, q, hk, h34, h156⟩
  by_cases hkn : q < n
  · obtain ⟨x, hx⟩ : ∃ x, ls[q]? = some x := ⟨_, List.getElem?_eq_getElem (by omega)⟩
    obtain ⟨bb, bo, e, hc, hbx⟩ := rdb_cell hr q x hx
    subst e
    obtain ⟨xa, xc, e, -⟩ := id hbx
    rw [e] at hc
    have hxb : bs.getD q [] = x.2 := by rw [← hls, List.getD_eq_getElem?_getD, List.getElem?_map, hx]; rfl
    have hup := nHit_up bs q
    rw [hxb] at hup
    have hle := nHit_le bs q
    refine rre_round wr a hsz hd xv fv ev nv sz k n bc SL sc gi sa ea EL ec pb hb bb bo q (nHit bs q) x.2.length xc xa (decide (q ∈ hitK bs 8)) h0 h1 h12 h13 h14 h16 h17 h58 h59 h60 h18 h21 h22 h155 h34 h156 hkn hn (by omega) (bool_cell hA hkn) hc _ ?_
    intro c kd ks q0 q1 q12 q13 q14 q16 q17 q58 q59 q60 q18 q21 q22 q155 q34 q156
    refine ⟨⟨rfl, ks, kd, q0, q1, q12, q13, q14, q16, q17, q58, q59, q60, q18, q21, q22, q155, q + 1, by omega, ?_, by rw [q156]; rfl⟩, ?_⟩
    · rw [q34, hup]
      simp only [decide_eq_true_eq]
    · rw [q156, h156]
      simp [kN]; omega
  · obtain rfl : q = n := by omega
    refine rre_exit wr a hsz hd ba xv fv ev nv sz k q bc SL sc gi sa ea EL ec pb hb _ h0 h1 h12 h13 h14 h16 h17 h58 h59 h60 h18 h21 h22 h155 h34 h156 hn _ ?_
    intro c kd ks q0 q1 q12 q13 q14 q16 q17 q58 q59 q60 q18 q21 q34
    exact hq c kd ks q0 q1 q12 q13 q14 q16 q17 q58 q59 q60 q18 q21 q34
end Go.Proofs.YtmohiblgfmdkjaaGreatDoor
