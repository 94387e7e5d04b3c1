import Derived.Test.YtmohiblgfmdkjaaGreatDoorJF
import Derived.Test.YtmohiblgfmdkjaaGreatDoorHT
import Derived.Test.YtmohiblgfmdkjaaGreatDoorJO
import Derived.Test.YtmohiblgfmdkjaaGreatDoorJI
import Derived.Test.YtmohiblgfmdkjaaGreatDoorJM
namespace Go.Proofs.YtmohiblgfmdkjaaGreatDoor
open Go.RowKit Go.Bl
set_option linter.unusedVariables false
theorem rdb_monoQ {A A' : Nat → Prop} {w w' : World} {S : List Nat} {v : Value} {ls : List (Value × List UInt8)} (h : RdB A w v ls) (hf : Fr S w w') (hS : ∀ b ∈ S, A b) (hA : ∀ b, A' b → A b ∨ w.heap.size ≤ b) : RdB A' w' v ls :=
  ⟨Vs.mono h.1 hf hS hA, fun x hx => (h.2 x hx).mono hf hS hA⟩
theorem at_bs {A : Nat → Prop} {w : World} {g n : Nat} {xs : List UInt8} (h : At w g (.cells (xs.map u8v).toArray 5)) (hl : xs.length = n) (hn : n ≤ 100000) (hA : ¬ A g) : Bs A w (.slice (some ⟨g, 0, none⟩) n n) xs := by
  refine ⟨some ⟨g, 0, none⟩, n, by rw [hl], by omega, by simp [maxLen]; omega, ?_⟩
  have h2 := Row.of_block (A := A) h hA
  simpa using h2
noncomputable def rrBJ : Code := ((Tryz.f17.body.bind (findLoop 23)).getD .skip)
set_option maxRecDepth 1000000 in
set_option maxHeartbeats 8000000 in
theorem rrj_round (wr : World) (a : Go.Act) (hsz : a.tmps.size = 203) (hd : a.defers = []) (ba : Option Addr) (xv fv ev nv : Value) (sz : Int) (k n bc SL sc gi : Nat) (sa : Option Addr) (ea : Option Addr) (EL ec pb hb : Nat) (j : Nat) (w : World) (ls : List (Value × List UInt8)) (bs : List (List UInt8)) (hs ps : List Nat) (gn : List Int) (xs : List UInt8) (PP : Nat → Nat → UInt8) (OK : Prop) (h0 : slot a 0 = xv) (h1 : slot a 1 = .int .i64 sz) (h12 : slot a 12 = fv) (h13 : slot a 13 = ev) (h14 : slot a 14 = nv) (h16 : slot a 16 = .int .i64 (k : Int)) (h17 : slot a 17 = .slice ba n bc) (h58 : slot a 58 = .slice sa SL sc) (h59 : slot a 59 = .int .i64 (SL : Int)) (h60 : slot a 60 = .int .i64 (gi : Int)) (h18 : slot a 18 = .slice ea EL ec) (h21 : slot a 21 = .slice (some ⟨pb, 0, none⟩) (8 * k) (8 * k)) (h22 : slot a 22 = .slice (some ⟨hb, 0, none⟩) n n) (h23 : slot a 23 = .int .i64 (j : Int)) (hj : j < 8) (hn : n ≤ 1000) (hkn : k ≤ n) (hF : Fr [] w wr) (hln : ls.length = n) (hls : ls.map (·.2) = bs) (hrd : RdB (fun _ => False) w (.slice ba n bc) ls) (hxl : xs.length = n) (hpl : ps.length ≤ 1000) (hps : ∀ p ∈ ps, p < n) (hP : ∀ i, i < k → PP j i = cf xs i)
    (hfix : ∀ p u, Fr [] w p → Bs (fun _ => False) p u (colW bs j) → Is (fun _ => False) p (.slice ea EL ec) gn → Calls Tryz.prog 9 #[u, .slice ea EL ec] p fun e w' => ((∃ u v t, e = .returned (.tuple #[u, v, .int .i64 t, .int .i64 0]) ∧ OK ∧ OwnB 5 p.heap.size w' u xs ∧ OwnI 3 p.heap.size w' v (intL ps)) ∨ (∃ K : Nat, e = .returned (.tuple #[.slice none 0 0, .slice none 0 0, .int .i64 0, .int .i64 (K : Int)]) ∧ K ≠ 0 ∧ ¬ OK)) ∧ Fr [] p w')
    (hI : Is (fun b => b = pb ∨ b = hb) wr (.slice ea EL ec) gn) (hA : At wr pb (.cells ((ptL k PP j 0).map u8v).toArray 5)) (hH : At wr hb (.cells (boolC (inL n hs)) 4)) (hph : pb ≠ hb) (hpw : w.heap.size ≤ pb) (hhw : w.heap.size ≤ hb) (Q : Exit → Go.Act → World → Prop)
    (hq : ∀ (c : Go.Act) (w' : World), c.defers = [] → c.tmps.size = 203 → slot c 0 = xv → slot c 1 = .int .i64 sz → slot c 12 = fv → slot c 13 = ev → slot c 14 = nv → slot c 16 = .int .i64 (k : Int) → slot c 17 = .slice ba n bc → slot c 58 = .slice sa SL sc → slot c 59 = .int .i64 (SL : Int) → slot c 60 = .int .i64 (gi : Int) → slot c 18 = .slice ea EL ec → slot c 21 = .slice (some ⟨pb, 0, none⟩) (8 * k) (8 * k) → slot c 22 = .slice (some ⟨hb, 0, none⟩) n n → slot c 23 = .int .i64 ((j : Int) + 1) → OK → Fr [] w w' → Is (fun b => b = pb ∨ b = hb) w' (.slice ea EL ec) gn → At w' pb (.cells ((ptL k PP (j + 1) 0).map u8v).toArray 5) → At w' hb (.cells (boolC (inL n (hs ++ ps))) 4) → Q .normal c w') (hr : ∀ (c : Go.Act) (w' : World), c.defers = [] → c.tmps.size = 203 → slot c 4 = .slice none 0 0 → slot c 5 = .slice none 0 0 → slot c 6 = .slice none 0 0 → slot c 7 = .int .i64 17 → ¬ OK → Fr [] w w' → Q .ret c w') : Code.wp Tryz.prog rrBJ Q a wr := by
  have HQ := Lib.hid hq
  have HR := Lib.hid hr
  rw [frame203 a hsz hd, h0, h1, h12, h13, h14, h16, h17, h58, h59, h60, h18, h21, h22, h23]
  clear hq hr h0 h1 h12 h13 h14 h16 h17 h58 h59 h60 h18 h21 h22 h23 hsz hd
  conv => arg 2; whnf
  have hji : (j : Int) < 8 := by omega
  obtain ⟨i0, hi, hz, hsz0, hby⟩ := info_bytes Tryz.infoByte
  have HF := Lib.hid hF
  have HLN := Lib.hid hln
  have HLS := Lib.hid hls
  have HRD := Lib.hid hrd
  have HXL := Lib.hid hxl
  have HPL := Lib.hid hpl
  have HPS := Lib.hid hps
  have HP := Lib.hid hP
  have HFX := Lib.hid hfix
  have HI := Lib.hid hI
  have HA := Lib.hid hA
  have HH := Lib.hid hH
  clear hF hln hls hrd hxl hpl hps hP hfix hI hA hH
  go_wp2_with (refine wpList_make_row _ rfl (.tmp 99) (.tmp 99) 22 rfl 5 i0 (.int .u8 0) Tryz.underlying22 hi hz hsz0 rfl .i64 .i64 n rfl rfl (by rw [hby]; omega) (by omega) ?_)
  have fm : Fr [] wr (wr.alloc (.cells (madeCells #[.int .u8 0] n) 5)) := Fr.alloc _ _
  have HW1 := Lib.hid (show At (wr.alloc (.cells (madeCells #[.int .u8 0] n) 5)) wr.heap.size (.cells ((List.replicate n (0 : UInt8)).map u8v).toArray 5) by rw [made_zeros]; exact At.new rfl)
  have HA1 := Lib.hid (HA.out.keep0 fm)
  have HH1 := Lib.hid (HH.out.keep0 fm)
  have HI1 := Lib.hid (show Is (fun b => b = pb ∨ b = hb ∨ b = wr.heap.size) (wr.alloc (.cells (madeCells #[.int .u8 0] n) 5)) (.slice ea EL ec) gn from Vs.mono HI.out fm (by simp) (fun b h => h.elim (fun h => .inl (.inl h)) (fun h => h.elim (fun h => .inl (.inr h)) (fun h => .inr (by omega)))))
  have HF1 := Lib.hid (HF.out.trans fm)
  have hpl1 := HA.out.lt
  have hhl1 := HH.out.lt
  have hww := HF.out.size
  have HRD1 := Lib.hid (rdb_monoQ (A' := fun b => b = wr.heap.size) (HRD.out.keep HF.out (by simp)) fm (by simp) (fun b h => .inr (by omega)))
  obtain ⟨w1, hw1⟩ : ∃ x, wr.alloc (.cells (madeCells #[.int .u8 0] n) 5) = x := ⟨_, rfl⟩
  rw [hw1] at HW1 HA1 HH1 HI1 HF1 HRD1 ⊢
  obtain ⟨wb, hwb⟩ : ∃ x, wr.heap.size = x := ⟨_, rfl⟩
  rw [hwb] at HW1 HRD1 HI1 hpl1 hhl1 hww ⊢
  clear fm hw1 hwb hi hz hsz0 hby HA HH HI HF
  go_wp2_with fail
  refine rrb_loop w1 _ rfl rfl ba xv fv ev nv sz k n bc SL sc gi sa ea EL ec pb hb wb j ls bs rfl rfl rfl rfl rfl rfl rfl rfl rfl rfl rfl rfl rfl rfl rfl rfl rfl rfl hn hj HLN.out HLS.out HRD1.out HW1.out _ ?_
  intro c w2 kd ks q0 q1 q12 q13 q14 q16 q17 q58 q59 q60 q18 q21 q22 q23 q24 hW hf
  have HW2 := Lib.hid (at_bs (A := fun _ => False) hW (by rw [colW_len, ← HLS.out, List.length_map, HLN.out]) (by omega) (by simp))
  have HA2 := Lib.hid (HA1.out.keep hf (by simp; omega))
  have HH2 := Lib.hid (HH1.out.keep hf (by simp; omega))
  have HI2 := Lib.hid (show Is (fun b => b = pb ∨ b = hb) w2 (.slice ea EL ec) gn from Vs.mono HI1.out hf (fun b hb => by simp at hb; exact .inr (.inr hb)) (fun b h => .inl (h.elim .inl (fun h => .inr (.inl h)))))
  have HF2 := Lib.hid (HF1.out.then hf (by intro x hx; simp at hx; subst hx; exact .inr hww))
  rw [frame203 c ks kd, q0, q1, q12, q13, q14, q16, q17, q58, q59, q60, q18, q21, q22, q23, q24]
  clear ks kd q0 q1 q12 q13 q14 q16 q17 q58 q59 q60 q18 q21 q22 q23 q24 hW hf HW1 HA1 HH1 HI1 HF1 HRD1
  go_wp2_with (go_at_call 9; fail)
  refine (HFX.out w2 _ HF2.out HW2.out (Vs.mono HI2.out (S := []) (Fr.refl _ _) (by simp) (fun b h => h.elim))).mono ?_
  rintro e w3 ⟨⟨u, v, t, rfl, hok, ho, hi⟩ | ⟨K, rfl, hk0, hno⟩, hf⟩
  · have HU3 := Lib.hid (ho.bs (A := fun b => b = pb) (fun b h => by subst h; exact HA2.out.lt))
    have HV3 := Lib.hid (hi.is (A := fun b => b = pb ∨ b = hb) (fun b h => h.elim (fun h => by subst h; exact HA2.out.lt) (fun h => by subst h; exact HH2.out.lt)))
    obtain ⟨ua, uc, e, -⟩ := id HU3.out
    subst e
    obtain ⟨ra, rc, e, -⟩ := HV3.out.shape
    subst e
    rw [intL_len] at HV3 ⊢
    rw [HXL.out] at HU3 ⊢
    obtain ⟨RN, hRN⟩ : ∃ x, ps.length = x := ⟨_, rfl⟩
    have HRN := Lib.hid hRN
    rw [hRN] at HV3 ⊢
    have HOK := Lib.hid hok
    have HA3 := Lib.hid (HA2.out.keep0 hf)
    have HH3 := Lib.hid (HH2.out.keep0 hf)
    have HI3 := Lib.hid (Is.keep0 HI2.out hf)
    have HF3 := Lib.hid (HF2.out.trans hf)
    clear hok ho hi hf hRN HW2 HA2 HH2 HI2 HF2 HFX
    go_wp2_with fail
    refine rrc_loop w3 _ rfl rfl ba ua xv fv ev nv sz k n bc SL sc gi sa ea EL ec pb hb j uc (.slice ra RN rc) xs PP rfl rfl rfl rfl rfl rfl rfl rfl rfl rfl rfl rfl rfl rfl rfl rfl rfl (by omega) hkn hj HXL.out HP.out HU3.out HA3.out _ ?_
    intro c w4 kd ks q0 q1 q12 q13 q14 q16 q17 q58 q59 q60 q18 q21 q22 q23 q28 hA hf
    rw [ptL_next] at hA
    have HA4 := Lib.hid hA
    have HH4 := Lib.hid (HH3.out.keep hf (by simpa using fun h => hph h.symm))
    have HV4 := Lib.hid (Is.keep HV3.out hf (fun b hb => by simp at hb; exact .inl hb))
    have HI4 := Lib.hid (Is.keep HI3.out hf (fun b hb => by simp at hb; exact .inl hb))
    have HF4 := Lib.hid (HF3.out.then hf (by intro x hx; simp at hx; subst hx; exact .inr hpw))
    rw [frame203 c ks kd, q0, q1, q12, q13, q14, q16, q17, q58, q59, q60, q18, q21, q22, q23, q28]
    clear ks kd q0 q1 q12 q13 q14 q16 q17 q58 q59 q60 q18 q21 q22 q23 q28 hA hf HA3 HH3 HV3 HI3 HF3 HU3
    go_wp2_with fail
    refine rrd_loop w4 _ rfl rfl ba ra xv fv ev nv sz k n bc SL sc gi sa ea EL ec pb hb j RN rc hs ps rfl rfl rfl rfl rfl rfl rfl rfl rfl rfl rfl rfl rfl rfl rfl rfl rfl HRN.out (by have := HPL.out; have := HRN.out; omega) hn HPS.out (Vs.mono HV4.out (S := []) (Fr.refl _ _) (by simp) (fun b h => .inl (.inr h))) HH4.out _ ?_
    intro c w5 kd ks q0 q1 q12 q13 q14 q16 q17 q58 q59 q60 q18 q21 q22 q23 hH hf
    have HH5 := Lib.hid hH
    have HA5 := Lib.hid (HA4.out.keep hf (by simpa using hph))
    have HI5 := Lib.hid (Is.keep HI4.out hf (fun b hb => by simp at hb; exact .inr hb))
    have HF5 := Lib.hid (HF4.out.then hf (by intro x hx; simp at hx; subst hx; exact .inr hhw))
    rw [frame203 c ks kd, q0, q1, q12, q13, q14, q16, q17, q58, q59, q60, q18, q21, q22, q23]
    clear ks kd q0 q1 q12 q13 q14 q16 q17 q58 q59 q60 q18 q21 q22 q23 hH hf HA4 HH4 HV4 HI4 HF4
    go_wp2
    exact HQ.out _ _ rfl rfl rfl rfl rfl rfl rfl rfl rfl rfl rfl rfl rfl rfl rfl (by go_num) HOK.out HF5.out HI5.out HA5.out HH5.out
  · have HNO := Lib.hid hno
    have HF3 := Lib.hid (HF2.out.trans hf)
    have hki : ¬ ((K : Int) = 0) := by omega
    have hki2 : ((K : Int) != 0) = true := by simp; omega
    clear hno hf hk0 HW2 HA2 HH2 HI2 HF2 HFX
    go_wp2
    exact HR.out _ _ rfl rfl rfl rfl rfl rfl HNO.out HF3.out
set_option maxRecDepth 1000000 in
set_option maxHeartbeats 8000000 in
theorem rrj_exit (wr : World) (a : Go.Act) (hsz : a.tmps.size = 203) (hd : a.defers = []) (ba : Option Addr) (xv fv ev nv : Value) (sz : Int) (k n bc SL sc gi : Nat) (sa : Option Addr) (ea : Option Addr) (EL ec pb hb : Nat) (h0 : slot a 0 = xv) (h1 : slot a 1 = .int .i64 sz) (h12 : slot a 12 = fv) (h13 : slot a 13 = ev) (h14 : slot a 14 = nv) (h16 : slot a 16 = .int .i64 (k : Int)) (h17 : slot a 17 = .slice ba n bc) (h58 : slot a 58 = .slice sa SL sc) (h59 : slot a 59 = .int .i64 (SL : Int)) (h60 : slot a 60 = .int .i64 (gi : Int)) (h18 : slot a 18 = .slice ea EL ec) (h21 : slot a 21 = .slice (some ⟨pb, 0, none⟩) (8 * k) (8 * k)) (h22 : slot a 22 = .slice (some ⟨hb, 0, none⟩) n n) (h23 : slot a 23 = .int .i64 8)  (Q : Exit → Go.Act → World → Prop)
    (hq : ∀ c : Go.Act, c.defers = [] → c.tmps.size = 203 → slot c 0 = xv → slot c 1 = .int .i64 sz → slot c 12 = fv → slot c 13 = ev → slot c 14 = nv → slot c 16 = .int .i64 (k : Int) → slot c 17 = .slice ba n bc → slot c 58 = .slice sa SL sc → slot c 59 = .int .i64 (SL : Int) → slot c 60 = .int .i64 (gi : Int) → slot c 18 = .slice ea EL ec → slot c 21 = .slice (some ⟨pb, 0, none⟩) (8 * k) (8 * k) → slot c 22 = .slice (some ⟨hb, 0, none⟩) n n → Q (.exit 4) c wr) : Code.wp Tryz.prog rrBJ Q a wr := by
  have HQ := Lib.hid hq
  rw [frame203 a hsz hd, h0, h1, h12, h13, h14, h16, h17, h58, h59, h60, h18, h21, h22, h23]
  clear hq h0 h1 h12 h13 h14 h16 h17 h58 h59 h60 h18 h21 h22 h23 hsz hd
  conv => arg 2; whnf
  go_wp2
  apply HQ.out <;> rfl
set_option maxRecDepth 1000000 in
set_option maxHeartbeats 8000000 in
theorem rrj_loop (w wa : World) (a : Go.Act) (hsz : a.tmps.size = 203) (hd : a.defers = []) (ba : Option Addr) (xv fv ev nv : Value) (sz : Int) (k n bc SL sc gi : Nat) (sa : Option Addr) (ea : Option Addr) (EL ec pb hb : Nat) (ls : List (Value × List UInt8)) (bs : List (List UInt8)) (h0 : slot a 0 = xv) (h1 : slot a 1 = .int .i64 sz) (h12 : slot a 12 = fv) (h13 : slot a 13 = ev) (h14 : slot a 14 = nv) (h16 : slot a 16 = .int .i64 (k : Int)) (h17 : slot a 17 = .slice ba n bc) (h58 : slot a 58 = .slice sa SL sc) (h59 : slot a 59 = .int .i64 (SL : Int)) (h60 : slot a 60 = .int .i64 (gi : Int)) (h18 : slot a 18 = .slice ea EL ec) (h21 : slot a 21 = .slice (some ⟨pb, 0, none⟩) (8 * k) (8 * k)) (h22 : slot a 22 = .slice (some ⟨hb, 0, none⟩) n n) (h23 : slot a 23 = .int .i64 0) (hn : n ≤ 1000) (hkn : k ≤ n) (hln : ls.length = n) (hls : ls.map (·.2) = bs) (hrd : RdB (fun _ => False) w (.slice ba n bc) ls) (hF : Fr [] w wa)
    (hI : Is (fun b => b = pb ∨ b = hb) wa (.slice ea EL ec) (intL (gon bs))) (hA : At wa pb (.cells ((ptL k (fixB bs) 0 0).map u8v).toArray 5)) (hH : At wa hb (.cells (boolC (inL n [])) 4)) (hph : pb ≠ hb) (hpw : w.heap.size ≤ pb) (hhw : w.heap.size ≤ hb) (Q : Exit → Go.Act → World → Prop)
    (hq : ∀ (c : Go.Act) (w' : World), c.defers = [] → c.tmps.size = 203 → slot c 0 = xv → slot c 1 = .int .i64 sz → slot c 12 = fv → slot c 13 = ev → slot c 14 = nv → slot c 16 = .int .i64 (k : Int) → slot c 17 = .slice ba n bc → slot c 58 = .slice sa SL sc → slot c 59 = .int .i64 (SL : Int) → slot c 60 = .int .i64 (gi : Int) → slot c 18 = .slice ea EL ec → slot c 21 = .slice (some ⟨pb, 0, none⟩) (8 * k) (8 * k) → slot c 22 = .slice (some ⟨hb, 0, none⟩) n n → (∀ j, j < 8 → fixOk bs j) → Fr [] w w' → At w' pb (.cells ((ptL k (fixB bs) 8 0).map u8v).toArray 5) → At w' hb (.cells (boolC (inL n (hitK bs 8))) 4) → Q (.exit 4) c w')
    (hret : ∀ (c : Go.Act) (w' : World), c.defers = [] → c.tmps.size = 203 → slot c 4 = .slice none 0 0 → slot c 5 = .slice none 0 0 → slot c 6 = .slice none 0 0 → slot c 7 = .int .i64 17 → (∃ j, j < 8 ∧ ¬ fixOk bs j) → Fr [] w w' → Q .ret c w') : Code.wp Tryz.prog (Code.loop rrBJ) Q a wa := by
  have hbl : bs.length = n := by rw [← hls, List.length_map, hln]
  refine wp_loop (fun a wr => a.tmps.size = 203 ∧ a.defers = [] ∧ slot a 0 = xv ∧ slot a 1 = .int .i64 sz ∧ slot a 12 = fv ∧ slot a 13 = ev ∧ slot a 14 = nv ∧ slot a 16 = .int .i64 (k : Int) ∧ slot a 17 = .slice ba n bc ∧ slot a 58 = .slice sa SL sc ∧ slot a 59 = .int .i64 (SL : Int) ∧ slot a 60 = .int .i64 (gi : Int) ∧ slot a 18 = .slice ea EL ec ∧ slot a 21 = .slice (some ⟨pb, 0, none⟩) (8 * k) (8 * k) ∧ slot a 22 = .slice (some ⟨hb, 0, none⟩) n n ∧ ∃ j : Nat, j ≤ 8 ∧ slot a 23 = .int .i64 (j : Int) ∧ (∀ i, i < j → fixOk bs i) ∧ Fr [] w wr ∧ Is (fun b => b = pb ∨ b = hb) wr (.slice ea EL ec) (intL (gon bs)) ∧ At wr pb (.cells ((ptL k (fixB bs) j 0).map u8v).toArray 5) ∧ At wr hb (.cells (boolC (inL n (hitK bs j))) 4)) (fun a _ => 8 - kN (slot a 23)) ⟨hsz, hd, h0, h1, h12, h13, h14, h16, h17, h58, h59, h60, h18, h21, h22, 0, by omega, h23, (fun i h => absurd h (by omega)), hF, hI, hA, hH⟩ ?_
  clear h0 h1 h12 h13 h14 h16 h17 h58 h59 h60 h18 h21 h22 h23 hI hA hH hF hsz hd
  rintro a wr ⟨hsz, hd, h0, h1, h12, h13, h14, h16, h17, h58, h59, h60, h18, h21, h22, j, hj, h23, hok, hF, hI, hA, hH⟩
  by_cases hj8 : j < 8
  · refine rrj_round wr a hsz hd ba xv fv ev nv sz k n bc SL sc gi sa ea EL ec pb hb j w ls bs (hitK bs j) (dfrK (colW bs j) (fixW bs j) n) (intL (gon bs)) (fixW bs j) (fixB bs) (fixOk bs j) h0 h1 h12 h13 h14 h16 h17 h58 h59 h60 h18 h21 h22 h23 hj8 hn hkn hF hln hls hrd (by rw [fixW_len, hbl]) (by have := dfrK_le (colW bs j) (fixW bs j) n; omega) (fun p hp => dfrK_lt hp) (fun i _ => rfl) (fun p u hp hu hi => ?_) hI hA hH hph hpw hhw _ ?_ ?_
    · have h := rfix_any p u _ (colW bs j) (intL (gon bs)) hu hi (by rw [intL_len]; have := gonK_le bs bs.length; unfold gon; omega)
      refine h.mono ?_
      rintro e w' ⟨⟨k1, rfl⟩ | ⟨k1, k2, rfl⟩ | ⟨k1, k2, u, v, rfl, k3, k4⟩, hf⟩
      · rw [colW_len] at k1
        exact ⟨.inr ⟨_, by rw [colW_len], k1, fun h => k1 h.1⟩, hf⟩
      · exact ⟨.inr ⟨17, rfl, by decide, fun h => k2 h.2⟩, hf⟩
      · rw [colW_len, hbl] at k4
        exact ⟨.inl ⟨u, v, _, rfl, ⟨by rw [← colW_len bs j]; exact k1, k2⟩, k3, k4⟩, hf⟩
    · intro c w' kd ks q0 q1 q12 q13 q14 q16 q17 q58 q59 q60 q18 q21 q22 q23 ok hF' hI' hA' hH'
      refine ⟨⟨ks, kd, q0, q1, q12, q13, q14, q16, q17, q58, q59, q60, q18, q21, q22, j + 1, by omega, by rw [q23]; rfl, fun i hi => ?_, hF', hI', hA', by rw [hitK_up, hbl]; exact hH'⟩, ?_⟩
      · rcases Nat.lt_or_ge i j with h | h
        · exact hok i h
        · obtain rfl : i = j := by omega
          exact ok
      · rw [q23, h23]
        simp [kN]; omega
    · intro c w' kd ks q4 q5 q6 q7 hno hF'
      exact hret c w' kd ks q4 q5 q6 q7 ⟨j, hj8, hno⟩ hF'
  · obtain rfl : j = 8 := by omega
    refine rrj_exit wr a hsz hd ba xv fv ev nv sz k n bc SL sc gi sa ea EL ec pb hb h0 h1 h12 h13 h14 h16 h17 h58 h59 h60 h18 h21 h22 h23 _ ?_
    intro c kd ks q0 q1 q12 q13 q14 q16 q17 q58 q59 q60 q18 q21 q22
    exact hq c wr kd ks q0 q1 q12 q13 q14 q16 q17 q58 q59 q60 q18 q21 q22 hok hF hA hH
noncomputable def rrBG : Code := ((Tryz.f17.body.bind (findLoop 9)).getD .skip)
set_option maxRecDepth 1000000 in
set_option maxHeartbeats 8000000 in
theorem rrg_round (wr : World) (a : Go.Act) (hsz : a.tmps.size = 203) (hd : a.defers = []) (xa fa ea na : Option Addr) (xn xc sb so SL sc gi k kk fn fc en ec nn nc : Nat) (sz : Int) (w : World) (ls : List (Value × List UInt8)) (bs : List (List UInt8)) (fl : List UInt8) (el nl : List Int) (h0 : slot a 0 = .slice xa xn xc) (h1 : slot a 1 = .int .i64 sz) (h58 : slot a 58 = .slice (some ⟨sb, so, none⟩) SL sc) (h59 : slot a 59 = .int .i64 (SL : Int)) (h12 : slot a 12 = .slice fa fn fc) (h13 : slot a 13 = .slice ea en ec) (h14 : slot a 14 = .slice na nn nc) (h60 : slot a 60 = .int .i64 (gi : Int)) (hi : gi < SL) (hSL : SL ≤ 10) (hc : wr.cell? ⟨sb, so + gi, none⟩ = some (.int .i64 (k : Int))) (hk0 : k + 32 = kk) (hk2 : kk ≤ 255) (hkn : kk ≤ xn) (hxn : xn ≤ xc) (hxc : xc ≤ 2 ^ 63 - 1)
    (hF : Fr [] w wr) (hO : OwnB 5 w.heap.size wr (.slice fa fn fc) fl) (hE : OwnI 3 w.heap.size wr (.slice ea en ec) el) (hN : OwnI 3 w.heap.size wr (.slice na nn nc) nl) (hap : ∀ g, (.slice ea en ec : Value).ownBlock = some g → (.slice na nn nc : Value).ownBlock ≠ some g) (hfl : fl.length ≤ 100000) (hel : el.length ≤ 1000) (hnl : nl.length ≤ 1000)
    (hln : ls.length = kk) (hls : ls.map (·.2) = bs) (hrd : RdB (fun _ => False) wr (.slice xa kk xc) ls) (Q : Exit → Go.Act → World → Prop)
    (hq : ∀ (c : Go.Act) (w' : World) (fv ev nv : Value), c.defers = [] → c.tmps.size = 203 → slot c 0 = .slice (if xc = kk then xa else xa.map (·.add kk)) (xn - kk) (xc - kk) → slot c 1 = .int .i64 sz → slot c 58 = .slice (some ⟨sb, so, none⟩) SL sc → slot c 59 = .int .i64 (SL : Int) → slot c 12 = fv → slot c 13 = ev → slot c 14 = nv → slot c 60 = .int .i64 ((gi : Int) + 1) → (∀ j, j < 8 → fixOk bs j) → Fr [] w w' → OwnB 5 w.heap.size w' fv (fl ++ gPart bs k) → OwnI 3 w.heap.size w' ev (el ++ [((gon bs).length : Int)]) → OwnI 3 w.heap.size w' nv (nl ++ [(nHit bs kk : Int)]) → (∀ g, ev.ownBlock = some g → nv.ownBlock ≠ some g) → Q .normal c w') (hr : ∀ (c : Go.Act) (w' : World), c.defers = [] → c.tmps.size = 203 → slot c 4 = .slice none 0 0 → slot c 5 = .slice none 0 0 → slot c 6 = .slice none 0 0 → slot c 7 = .int .i64 17 → (∃ j, j < 8 ∧ ¬ fixOk bs j) → Fr [] w w' → Q .ret c w') : Code.wp Tryz.prog rrBG Q a wr := by
  have HQ := Lib.hid hq
  have HR := Lib.hid hr
  rw [frame203 a hsz hd, h0, h1, h58, h59, h12, h13, h14, h60]
  clear hq hr h0 h1 h58 h59 h12 h13 h14 h60 hsz hd
  conv => arg 2; whnf
  have hii : (gi : Int) < SL := by omega
  have hkk : (k : Int) + 32 = (kk : Int) := by omega
  have hk3 : (0 : Int) ≤ (kk : Int) := by omega
  have hk4 : (kk : Int) ≤ xc := by omega
  have hk5 : (kk : Int) ≤ xn := by omega
  have hk6 : k ≤ 223 := by omega
  have HF := Lib.hid hF
  have HO := Lib.hid hO
  have HE := Lib.hid hE
  have HN := Lib.hid hN
  have HAP := Lib.hid hap
  have HFL := Lib.hid hfl
  have HEL := Lib.hid hel
  have HNL := Lib.hid hnl
  have HLN := Lib.hid hln
  have HLS := Lib.hid hls
  have HRD := Lib.hid hrd
  obtain ⟨i0, hi0, hz0, hsz0, hby0⟩ := info_bytes Tryz.infoByte
  obtain ⟨i1, hi1, hz1, hsz1, hby1⟩ := info_bytes Tryz.infoBool
  have HE0 := Lib.hid (show OwnI 3 wr.heap.size (wr.alloc (.cells #[] 3)) (.slice (some ⟨wr.heap.size, 0, none⟩) 0 0) [] from OwnV.lit 3 wr.heap.size wr #[] (Nat.le_refl _) (by simp [maxLen]))
  have HG0 := Lib.hid (show Fr [] wr (wr.alloc (.cells #[] 3)) from Fr.alloc _ _)
  have hb0 : wr.heap.size ≤ (wr.alloc (.cells #[] 3)).heap.size := by simp
  have HK0 := Lib.hid hk0
  clear hF hO hE hN hap hfl hel hnl hln hls hrd hk0
  by_cases hce : xc = kk
  · obtain rfl : kk = xc := hce.symm
    rw [if_pos rfl, Nat.sub_self, show xn - kk = 0 by omega] at HQ
    have hkN : k ≤ kk := by have := HK0.out; omega
    go_wp2_with (rw [hkk]; fail)
    refine rra_loop wr _ _ rfl rfl xa (.slice xa 0 0) (.slice fa fn fc) (.slice ea en ec) (.slice na nn nc) sz k kk kk SL sc gi (some ⟨sb, so, none⟩) wr.heap.size (.slice (some ⟨wr.heap.size, 0, none⟩) 0 0) ls bs rfl rfl rfl rfl rfl rfl rfl rfl rfl rfl rfl rfl rfl rfl (by omega) HLN.out HLS.out HRD.out HG0.out (Nat.le_refl _) hb0 HE0.out _ ?_
    intro c w2 ov kd ks q0 q1 q12 q13 q14 q16 q17 q58 q59 q60 q18 hI hf
    have hI2 := hI.is (A := fun _ => False) (by simp)
    obtain ⟨oa, oc, e, -⟩ := hI2.shape
    subst e
    rw [intL_len] at hI2 q18
    have HI2 := Lib.hid (show Is (fun b => w2.heap.size ≤ b) w2 (.slice oa (gon bs).length oc) (intL (gon bs)) from Vs.mono hI2 (S := []) (Fr.refl _ _) (by simp) (fun b h => .inr h))
    obtain ⟨EL, hEL⟩ : ∃ x, (gon bs).length = x := ⟨_, rfl⟩
    have HELL := Lib.hid hEL
    rw [hEL] at HI2 q18
    have HF2 := Lib.hid hf
    rw [frame203 c ks kd, q0, q1, q12, q13, q14, q16, q17, q58, q59, q60, q18]
    clear ks kd q0 q1 q12 q13 q14 q16 q17 q58 q59 q60 q18 hI hI2 hf hEL HE0 HG0 hb0
    go_wp2_with (first | (refine wpList_make_row _ rfl (.tmp 89) (.tmp 89) 22 rfl 5 i0 (.int .u8 0) Tryz.underlying22 hi0 hz0 hsz0 rfl .i64 .i64 (8 * k) (show Value.int .i64 (8 * (k : Int)) = .int .i64 ((8 * k : Nat) : Int) by congr 1) (show Value.int .i64 (8 * (k : Int)) = .int .i64 ((8 * k : Nat) : Int) by congr 1) (by rw [hby0]; omega) (by omega) ?_) | (refine wpList_make_row _ rfl (.tmp 92) (.tmp 92) 83 rfl 4 i1 (.bool false) Tryz.underlying83 hi1 hz1 hsz1 rfl .i64 .i64 kk rfl rfl (by rw [hby1]; omega) (by omega) ?_))
    have fm : Fr [] w2 (w2.alloc (.cells (madeCells #[.int .u8 0] (8 * k)) 5)) := Fr.alloc _ _
    have HP3 := Lib.hid (show At (w2.alloc (.cells (madeCells #[.int .u8 0] (8 * k)) 5)) w2.heap.size (.cells ((ptL k (fixB bs) 0 0).map u8v).toArray 5) by rw [made_zeros, ptL_zero]; exact At.new rfl)
    have HF3 := Lib.hid (HF2.out.trans fm)
    have HI3 := Lib.hid (Is.keep0 HI2.out fm)
    have hs3 : (w2.alloc (.cells (madeCells #[.int .u8 0] (8 * k)) 5)).heap.size = w2.heap.size + 1 := by simp
    obtain ⟨w3, hw3⟩ : ∃ x, w2.alloc (.cells (madeCells #[.int .u8 0] (8 * k)) 5) = x := ⟨_, rfl⟩
    rw [hw3] at HP3 HF3 HI3 hs3 ⊢
    have hw2 := HF2.out.size
    clear fm hw3 HF2 HI2
    have hmb := made_bools kk
    have fm : Fr [] w3 (w3.alloc (.cells (madeCells #[.bool false] kk) 4)) := Fr.alloc _ _
    have HH4 := Lib.hid (show At (w3.alloc (.cells (madeCells #[.bool false] kk) 4)) w3.heap.size (.cells (boolC (inL kk [])) 4) by rw [hmb]; exact At.new rfl)
    have HP4 := Lib.hid (HP3.out.keep0 fm)
    have HF4 := Lib.hid (HF3.out.trans fm)
    have HI4 := Lib.hid (show Is (fun b => b = w2.heap.size ∨ b = w3.heap.size) (w3.alloc (.cells (madeCells #[.bool false] kk) 4)) (.slice oa EL oc) (intL (gon bs)) from Vs.mono (Is.keep0 HI3.out fm) (S := []) (Fr.refl _ _) (by simp) (fun b h => .inl (h.elim (fun h => by subst h; exact Nat.le_refl _) (fun h => by subst h; omega))))
    obtain ⟨w4, hw4⟩ : ∃ x, w3.alloc (.cells (madeCells #[.bool false] kk) 4) = x := ⟨_, rfl⟩
    rw [hw4] at HH4 HP4 HF4 HI4 ⊢
    try rw [← hs3]
    obtain ⟨pb, hpb⟩ : ∃ x, w2.heap.size = x := ⟨_, rfl⟩
    obtain ⟨hb, hhb⟩ : ∃ x, w3.heap.size = x := ⟨_, rfl⟩
    rw [hpb] at HP4 HI4 hs3 hw2 ⊢
    rw [hhb] at HH4 HI4 hs3 ⊢
    have hph : pb ≠ hb := by omega
    have hhw : wr.heap.size ≤ hb := by omega
    clear hmb fm hw4 hpb hhb HP3 HF3 HI3 hs3
    try go_wp2_with fail
    try rw [show (8 * (k : Int)) = ((8 * k : Nat) : Int) by omega]
    refine rrj_loop wr w4 _ rfl rfl xa (.slice xa 0 0) (.slice fa fn fc) (.slice ea en ec) (.slice na nn nc) sz k kk kk SL sc gi (some ⟨sb, so, none⟩) oa EL oc pb hb ls bs rfl rfl rfl rfl rfl rfl rfl rfl rfl rfl rfl rfl rfl rfl (by omega) (by omega) HLN.out HLS.out HRD.out HF4.out HI4.out HP4.out HH4.out hph hw2 hhw _ ?_ ?_
    · intro c w5 kd ks q0 q1 q12 q13 q14 q16 q17 q58 q59 q60 q18 q21 q22 hok hf hP hH
      have HOK := Lib.hid hok
      have HF5 := Lib.hid hf
      have HP5 := Lib.hid hP
      have HH5 := Lib.hid hH
      rw [frame203 c ks kd, q0, q1, q12, q13, q14, q16, q17, q58, q59, q60, q18, q21, q22]
      clear ks kd q0 q1 q12 q13 q14 q16 q17 q58 q59 q60 q18 q21 q22 hok hf hP hH HH4 HP4 HF4 HI4
      go_wp2_with fail
      refine rre_loop w5 _ rfl rfl xa (.slice xa 0 0) (.slice fa fn fc) (.slice ea en ec) (.slice na nn nc) sz k kk kk SL sc gi (some ⟨sb, so, none⟩) oa EL oc pb hb ls bs rfl rfl rfl rfl rfl rfl rfl rfl rfl rfl rfl rfl rfl rfl rfl rfl (by omega) HLN.out HLS.out (HRD.out.keep HF5.out (by simp)) HH5.out _ ?_
      intro c kd ks q0 q1 q12 q13 q14 q16 q17 q58 q59 q60 q18 q21 q34
      have HPB := Lib.hid (show Bs (fun _ => False) w5 (.slice (some ⟨pb, 0, none⟩) (8 * k) (8 * k)) (gPart bs k) from by
        have h := HP5.out
        rw [ptL_end] at h
        exact at_bs h (gPart_len bs k) (by omega) (by simp))
      have HO5 := Lib.hid (HO.out.keep HF5.out (by simp))
      have HE5 := Lib.hid (HE.out.keep0 HF5.out)
      have HN5 := Lib.hid (HN.out.keep0 HF5.out)
      have HG5 := Lib.hid (HF.out.trans HF5.out)
      have hgl := gPart_len bs k
      have HGL := Lib.hid hgl
      obtain ⟨HIT, hHIT⟩ : ∃ x, nHit bs kk = x := ⟨_, rfl⟩
      rw [hHIT] at q34 HQ
      rw [HELL.out] at HQ
      rw [frame203 c ks kd, q0, q1, q12, q13, q14, q16, q17, q58, q59, q60, q18, q21, q34]
      clear ks kd q0 q1 q12 q13 q14 q16 q17 q58 q59 q60 q18 q21 q34 hgl hHIT HP5 HH5
      go_wp2_with (at_builtin; refine wpl_append_bs (A := fun _ => False) (ys := gPart bs k) (base := w.heap.size) Tryz.underlying22 Tryz.infoByte rfl (.tmp 174) (.tmp 175) rfl rfl rfl HO5.out HPB.out (by have := HFL.out; have := HGL.out; omega) HG5.out.size ?_)
      intro v6 w6 h6 g6
      have f6 := Fr.grown (S := (Value.slice fa fn fc).ownBlock.toList) g6 (by intro k hk; simp [hk])
      have HO6 := Lib.hid h6
      have HG6 := Lib.hid (show Fr [] w w6 from HO5.out.fr HG5.out g6 (Nat.le_refl _))
      have fa7 : Fr [] w6 (w6.alloc (.cells #[.int .i64 (EL : Int)] 3)) := Fr.alloc _ _
      have HE6 := Lib.hid (show OwnI 3 w.heap.size (w6.alloc (.cells #[.int .i64 (EL : Int)] 3)) (.slice ea en ec) el from OwnV.keep0 (own_keep HE5.out f6 (own_apartQ HE5.out HO5.out (by decide))) fa7)
      have HN6 := Lib.hid (show OwnI 3 w.heap.size (w6.alloc (.cells #[.int .i64 (EL : Int)] 3)) (.slice na nn nc) nl from OwnV.keep0 (own_keep HN5.out f6 (own_apartQ HN5.out HO5.out (by decide))) fa7)
      have HO7 := Lib.hid (HO6.out.keep fa7 (by simp))
      have HG7 := Lib.hid (HG6.out.trans fa7)
      clear h6 g6 f6 fa7 HO5 HE5 HN5 HG5 HPB HO6 HG6
      go_wp2_with (at_builtin; refine wpl_append_nA Tryz.underlying23 Tryz.infoIntB rfl (.tmp 177) (.tmp 180) rfl rfl rfl (At.new rfl) HE6.out (by have := HEL.out; omega) HG7.out.size ?_)
      intro v8 w8 h8 g8 p8
      have f8 := Fr.grown (S := (Value.slice ea en ec).ownBlock.toList) g8 (by intro k hk; simp [hk])
      have fa9 : Fr [] w8 (w8.alloc (.cells #[.int .i64 (HIT : Int)] 3)) := Fr.alloc _ _
      have HE8 := Lib.hid (h8.keep0 fa9)
      have HG8 := Lib.hid (show Fr [] w (w8.alloc (.cells #[.int .i64 (HIT : Int)] 3)) from (OwnI.fr HE6.out HG7.out g8 (Nat.le_refl _)).trans fa9)
      have HO8 := Lib.hid (show OwnB 5 w.heap.size (w8.alloc (.cells #[.int .i64 (HIT : Int)] 3)) v6 (fl ++ gPart bs k) from OwnB.keep (own_keep HO7.out f8 (own_apartQ HO7.out HE6.out (by decide))) fa9 (by simp))
      have HN8 := Lib.hid (show OwnI 3 w.heap.size (w8.alloc (.cells #[.int .i64 (HIT : Int)] 3)) (.slice na nn nc) nl from OwnV.keep0 (own_keep HN6.out f8 (fun g hg hm => HAP.out g (by simpa using hm) hg)) fa9)
      have HAP8 := Lib.hid (show ∀ g, v8.ownBlock = some g → (.slice na nn nc : Value).ownBlock ≠ some g from fun g hg hn => p8.elim (fun h => HAP.out g (by rw [← h]; exact hg) hn) (fun h => by rw [h] at hg; cases hg; have hh := (HN6.out.lt _ hn).2; first | omega | (simp at hh; done) | (simp at hh; omega)))
      have hl8 := h8.is (A := fun _ => False) (by simp)
      obtain ⟨va, vc, e, -⟩ := hl8.shape
      subst e
      obtain ⟨vn, hvn⟩ : ∃ x, (el ++ [(EL : Int)]).length = x := ⟨_, rfl⟩
      rw [hvn] at HE8 HAP8 ⊢
      clear h8 g8 p8 f8 fa9 HO7 HE6 HN6 HG7 hl8 hvn
      go_wp2_with (at_builtin; refine wpl_append_nA Tryz.underlying23 Tryz.infoIntB rfl (.tmp 182) (.tmp 184) rfl rfl rfl (At.new rfl) HN8.out (by have := HNL.out; omega) HG8.out.size ?_)
      intro v10 w10 h10 g10 p10
      have f10 := Fr.grown (S := (Value.slice na nn nc).ownBlock.toList) g10 (by intro k hk; simp [hk])
      have HN10 := Lib.hid h10
      have HG10 := Lib.hid (show Fr [] w w10 from OwnI.fr HN8.out HG8.out g10 (Nat.le_refl _))
      have HO10 := Lib.hid (show OwnB 5 w.heap.size w10 v6 (fl ++ gPart bs k) from own_keep HO8.out f10 (own_apartQ HO8.out HN8.out (by decide)))
      have HE10 := Lib.hid (show OwnI 3 w.heap.size w10 (.slice va vn vc) (el ++ [(EL : Int)]) from own_keep HE8.out f10 (fun g hg hm => HAP8.out g hg (by simpa using hm)))
      have HAP10 := Lib.hid (show ∀ g, (.slice va vn vc : Value).ownBlock = some g → v10.ownBlock ≠ some g from fun g hg hn => p10.elim (fun h => HAP8.out g hg (by rw [← h]; exact hn)) (fun h => by rw [h] at hn; cases hn; have hh := (HE8.out.lt _ hg).2; first | omega | (simp at hh; done) | (simp at hh; omega)))
      clear h10 g10 p10 f10 HO8 HE8 HN8 HG8 HAP8
      go_wp2
      exact HQ.out _ _ _ _ _ rfl rfl rfl rfl rfl rfl rfl rfl rfl (by go_num) HOK.out HG10.out HO10.out HE10.out HN10.out HAP10.out
    · intro c w5 kd ks q4 q5 q6 q7 hno hf
      have HNO := Lib.hid hno
      have HF5 := Lib.hid (HF.out.trans hf)
      rw [frame203 c ks kd, q4, q5, q6, q7]
      clear ks kd q4 q5 q6 q7 hno hf
      go_wp2
      exact HR.out _ _ rfl rfl rfl rfl rfl rfl HNO.out HF5.out
  · rw [if_neg hce] at HQ
    have hkN : k ≤ kk := by have := HK0.out; omega
    go_wp2_with (rw [hkk]; fail)
    refine rra_loop wr _ _ rfl rfl xa (.slice (xa.map (·.add kk)) (xn - kk) (xc - kk)) (.slice fa fn fc) (.slice ea en ec) (.slice na nn nc) sz k kk xc SL sc gi (some ⟨sb, so, none⟩) wr.heap.size (.slice (some ⟨wr.heap.size, 0, none⟩) 0 0) ls bs rfl rfl rfl rfl rfl rfl rfl rfl rfl rfl rfl rfl rfl rfl (by omega) HLN.out HLS.out HRD.out HG0.out (Nat.le_refl _) hb0 HE0.out _ ?_
    intro c w2 ov kd ks q0 q1 q12 q13 q14 q16 q17 q58 q59 q60 q18 hI hf
    have hI2 := hI.is (A := fun _ => False) (by simp)
    obtain ⟨oa, oc, e, -⟩ := hI2.shape
    subst e
    rw [intL_len] at hI2 q18
    have HI2 := Lib.hid (show Is (fun b => w2.heap.size ≤ b) w2 (.slice oa (gon bs).length oc) (intL (gon bs)) from Vs.mono hI2 (S := []) (Fr.refl _ _) (by simp) (fun b h => .inr h))
    obtain ⟨EL, hEL⟩ : ∃ x, (gon bs).length = x := ⟨_, rfl⟩
    have HELL := Lib.hid hEL
    rw [hEL] at HI2 q18
    have HF2 := Lib.hid hf
    rw [frame203 c ks kd, q0, q1, q12, q13, q14, q16, q17, q58, q59, q60, q18]
    clear ks kd q0 q1 q12 q13 q14 q16 q17 q58 q59 q60 q18 hI hI2 hf hEL HE0 HG0 hb0
    go_wp2_with (first | (refine wpList_make_row _ rfl (.tmp 89) (.tmp 89) 22 rfl 5 i0 (.int .u8 0) Tryz.underlying22 hi0 hz0 hsz0 rfl .i64 .i64 (8 * k) (show Value.int .i64 (8 * (k : Int)) = .int .i64 ((8 * k : Nat) : Int) by congr 1) (show Value.int .i64 (8 * (k : Int)) = .int .i64 ((8 * k : Nat) : Int) by congr 1) (by rw [hby0]; omega) (by omega) ?_) | (refine wpList_make_row _ rfl (.tmp 92) (.tmp 92) 83 rfl 4 i1 (.bool false) Tryz.underlying83 hi1 hz1 hsz1 rfl .i64 .i64 kk rfl rfl (by rw [hby1]; omega) (by omega) ?_))
    have fm : Fr [] w2 (w2.alloc (.cells (madeCells #[.int .u8 0] (8 * k)) 5)) := Fr.alloc _ _
    have HP3 := Lib.hid (show At (w2.alloc (.cells (madeCells #[.int .u8 0] (8 * k)) 5)) w2.heap.size (.cells ((ptL k (fixB bs) 0 0).map u8v).toArray 5) by rw [made_zeros, ptL_zero]; exact At.new rfl)
    have HF3 := Lib.hid (HF2.out.trans fm)
    have HI3 := Lib.hid (Is.keep0 HI2.out fm)
    have hs3 : (w2.alloc (.cells (madeCells #[.int .u8 0] (8 * k)) 5)).heap.size = w2.heap.size + 1 := by simp
    obtain ⟨w3, hw3⟩ : ∃ x, w2.alloc (.cells (madeCells #[.int .u8 0] (8 * k)) 5) = x := ⟨_, rfl⟩
    rw [hw3] at HP3 HF3 HI3 hs3 ⊢
    have hw2 := HF2.out.size
    clear fm hw3 HF2 HI2
    have hmb := made_bools kk
    have fm : Fr [] w3 (w3.alloc (.cells (madeCells #[.bool false] kk) 4)) := Fr.alloc _ _
    have HH4 := Lib.hid (show At (w3.alloc (.cells (madeCells #[.bool false] kk) 4)) w3.heap.size (.cells (boolC (inL kk [])) 4) by rw [hmb]; exact At.new rfl)
    have HP4 := Lib.hid (HP3.out.keep0 fm)
    have HF4 := Lib.hid (HF3.out.trans fm)
    have HI4 := Lib.hid (show Is (fun b => b = w2.heap.size ∨ b = w3.heap.size) (w3.alloc (.cells (madeCells #[.bool false] kk) 4)) (.slice oa EL oc) (intL (gon bs)) from Vs.mono (Is.keep0 HI3.out fm) (S := []) (Fr.refl _ _) (by simp) (fun b h => .inl (h.elim (fun h => by subst h; exact Nat.le_refl _) (fun h => by subst h; omega))))
    obtain ⟨w4, hw4⟩ : ∃ x, w3.alloc (.cells (madeCells #[.bool false] kk) 4) = x := ⟨_, rfl⟩
    rw [hw4] at HH4 HP4 HF4 HI4 ⊢
    try rw [← hs3]
    obtain ⟨pb, hpb⟩ : ∃ x, w2.heap.size = x := ⟨_, rfl⟩
    obtain ⟨hb, hhb⟩ : ∃ x, w3.heap.size = x := ⟨_, rfl⟩
    rw [hpb] at HP4 HI4 hs3 hw2 ⊢
    rw [hhb] at HH4 HI4 hs3 ⊢
    have hph : pb ≠ hb := by omega
    have hhw : wr.heap.size ≤ hb := by omega
    clear hmb fm hw4 hpb hhb HP3 HF3 HI3 hs3
    try go_wp2_with fail
    try rw [show (8 * (k : Int)) = ((8 * k : Nat) : Int) by omega]
    refine rrj_loop wr w4 _ rfl rfl xa (.slice (xa.map (·.add kk)) (xn - kk) (xc - kk)) (.slice fa fn fc) (.slice ea en ec) (.slice na nn nc) sz k kk xc SL sc gi (some ⟨sb, so, none⟩) oa EL oc pb hb ls bs rfl rfl rfl rfl rfl rfl rfl rfl rfl rfl rfl rfl rfl rfl (by omega) (by omega) HLN.out HLS.out HRD.out HF4.out HI4.out HP4.out HH4.out hph hw2 hhw _ ?_ ?_
    · intro c w5 kd ks q0 q1 q12 q13 q14 q16 q17 q58 q59 q60 q18 q21 q22 hok hf hP hH
      have HOK := Lib.hid hok
      have HF5 := Lib.hid hf
      have HP5 := Lib.hid hP
      have HH5 := Lib.hid hH
      rw [frame203 c ks kd, q0, q1, q12, q13, q14, q16, q17, q58, q59, q60, q18, q21, q22]
      clear ks kd q0 q1 q12 q13 q14 q16 q17 q58 q59 q60 q18 q21 q22 hok hf hP hH HH4 HP4 HF4 HI4
      go_wp2_with fail
      refine rre_loop w5 _ rfl rfl xa (.slice (xa.map (·.add kk)) (xn - kk) (xc - kk)) (.slice fa fn fc) (.slice ea en ec) (.slice na nn nc) sz k kk xc SL sc gi (some ⟨sb, so, none⟩) oa EL oc pb hb ls bs rfl rfl rfl rfl rfl rfl rfl rfl rfl rfl rfl rfl rfl rfl rfl rfl (by omega) HLN.out HLS.out (HRD.out.keep HF5.out (by simp)) HH5.out _ ?_
      intro c kd ks q0 q1 q12 q13 q14 q16 q17 q58 q59 q60 q18 q21 q34
      have HPB := Lib.hid (show Bs (fun _ => False) w5 (.slice (some ⟨pb, 0, none⟩) (8 * k) (8 * k)) (gPart bs k) from by
        have h := HP5.out
        rw [ptL_end] at h
        exact at_bs h (gPart_len bs k) (by omega) (by simp))
      have HO5 := Lib.hid (HO.out.keep HF5.out (by simp))
      have HE5 := Lib.hid (HE.out.keep0 HF5.out)
      have HN5 := Lib.hid (HN.out.keep0 HF5.out)
      have HG5 := Lib.hid (HF.out.trans HF5.out)
      have hgl := gPart_len bs k
      have HGL := Lib.hid hgl
      obtain ⟨HIT, hHIT⟩ : ∃ x, nHit bs kk = x := ⟨_, rfl⟩
      rw [hHIT] at q34 HQ
      rw [HELL.out] at HQ
      rw [frame203 c ks kd, q0, q1, q12, q13, q14, q16, q17, q58, q59, q60, q18, q21, q34]
      clear ks kd q0 q1 q12 q13 q14 q16 q17 q58 q59 q60 q18 q21 q34 hgl hHIT HP5 HH5
      go_wp2_with (at_builtin; refine wpl_append_bs (A := fun _ => False) (ys := gPart bs k) (base := w.heap.size) Tryz.underlying22 Tryz.infoByte rfl (.tmp 174) (.tmp 175) rfl rfl rfl HO5.out HPB.out (by have := HFL.out; have := HGL.out; omega) HG5.out.size ?_)
      intro v6 w6 h6 g6
      have f6 := Fr.grown (S := (Value.slice fa fn fc).ownBlock.toList) g6 (by intro k hk; simp [hk])
      have HO6 := Lib.hid h6
      have HG6 := Lib.hid (show Fr [] w w6 from HO5.out.fr HG5.out g6 (Nat.le_refl _))
      have fa7 : Fr [] w6 (w6.alloc (.cells #[.int .i64 (EL : Int)] 3)) := Fr.alloc _ _
      have HE6 := Lib.hid (show OwnI 3 w.heap.size (w6.alloc (.cells #[.int .i64 (EL : Int)] 3)) (.slice ea en ec) el from OwnV.keep0 (own_keep HE5.out f6 (own_apartQ HE5.out HO5.out (by decide))) fa7)
      have HN6 := Lib.hid (show OwnI 3 w.heap.size (w6.alloc (.cells #[.int .i64 (EL : Int)] 3)) (.slice na nn nc) nl from OwnV.keep0 (own_keep HN5.out f6 (own_apartQ HN5.out HO5.out (by decide))) fa7)
      have HO7 := Lib.hid (HO6.out.keep fa7 (by simp))
      have HG7 := Lib.hid (HG6.out.trans fa7)
      clear h6 g6 f6 fa7 HO5 HE5 HN5 HG5 HPB HO6 HG6
      go_wp2_with (at_builtin; refine wpl_append_nA Tryz.underlying23 Tryz.infoIntB rfl (.tmp 177) (.tmp 180) rfl rfl rfl (At.new rfl) HE6.out (by have := HEL.out; omega) HG7.out.size ?_)
      intro v8 w8 h8 g8 p8
      have f8 := Fr.grown (S := (Value.slice ea en ec).ownBlock.toList) g8 (by intro k hk; simp [hk])
      have fa9 : Fr [] w8 (w8.alloc (.cells #[.int .i64 (HIT : Int)] 3)) := Fr.alloc _ _
      have HE8 := Lib.hid (h8.keep0 fa9)
      have HG8 := Lib.hid (show Fr [] w (w8.alloc (.cells #[.int .i64 (HIT : Int)] 3)) from (OwnI.fr HE6.out HG7.out g8 (Nat.le_refl _)).trans fa9)
      have HO8 := Lib.hid (show OwnB 5 w.heap.size (w8.alloc (.cells #[.int .i64 (HIT : Int)] 3)) v6 (fl ++ gPart bs k) from OwnB.keep (own_keep HO7.out f8 (own_apartQ HO7.out HE6.out (by decide))) fa9 (by simp))
      have HN8 := Lib.hid (show OwnI 3 w.heap.size (w8.alloc (.cells #[.int .i64 (HIT : Int)] 3)) (.slice na nn nc) nl from OwnV.keep0 (own_keep HN6.out f8 (fun g hg hm => HAP.out g (by simpa using hm) hg)) fa9)
      have HAP8 := Lib.hid (show ∀ g, v8.ownBlock = some g → (.slice na nn nc : Value).ownBlock ≠ some g from fun g hg hn => p8.elim (fun h => HAP.out g (by rw [← h]; exact hg) hn) (fun h => by rw [h] at hg; cases hg; have hh := (HN6.out.lt _ hn).2; first | omega | (simp at hh; done) | (simp at hh; omega)))
      have hl8 := h8.is (A := fun _ => False) (by simp)
      obtain ⟨va, vc, e, -⟩ := hl8.shape
      subst e
      obtain ⟨vn, hvn⟩ : ∃ x, (el ++ [(EL : Int)]).length = x := ⟨_, rfl⟩
      rw [hvn] at HE8 HAP8 ⊢
      clear h8 g8 p8 f8 fa9 HO7 HE6 HN6 HG7 hl8 hvn
      go_wp2_with (at_builtin; refine wpl_append_nA Tryz.underlying23 Tryz.infoIntB rfl (.tmp 182) (.tmp 184) rfl rfl rfl (At.new rfl) HN8.out (by have := HNL.out; omega) HG8.out.size ?_)
      intro v10 w10 h10 g10 p10
      have f10 := Fr.grown (S := (Value.slice na nn nc).ownBlock.toList) g10 (by intro k hk; simp [hk])
      have HN10 := Lib.hid h10
      have HG10 := Lib.hid (show Fr [] w w10 from OwnI.fr HN8.out HG8.out g10 (Nat.le_refl _))
      have HO10 := Lib.hid (show OwnB 5 w.heap.size w10 v6 (fl ++ gPart bs k) from own_keep HO8.out f10 (own_apartQ HO8.out HN8.out (by decide)))
      have HE10 := Lib.hid (show OwnI 3 w.heap.size w10 (.slice va vn vc) (el ++ [(EL : Int)]) from own_keep HE8.out f10 (fun g hg hm => HAP8.out g hg (by simpa using hm)))
      have HAP10 := Lib.hid (show ∀ g, (.slice va vn vc : Value).ownBlock = some g → v10.ownBlock ≠ some g from fun g hg hn => p10.elim (fun h => HAP8.out g hg (by rw [← h]; exact hn)) (fun h => by rw [h] at hn; cases hn; have hh := (HE8.out.lt _ hg).2; first | omega | (simp at hh; done) | (simp at hh; omega)))
      clear h10 g10 p10 f10 HO8 HE8 HN8 HG8 HAP8
      go_wp2
      exact HQ.out _ _ _ _ _ rfl rfl rfl rfl rfl rfl rfl rfl rfl (by go_num) HOK.out HG10.out HO10.out HE10.out HN10.out HAP10.out
    · intro c w5 kd ks q4 q5 q6 q7 hno hf
      have HNO := Lib.hid hno
      have HF5 := Lib.hid (HF.out.trans hf)
      rw [frame203 c ks kd, q4, q5, q6, q7]
      clear ks kd q4 q5 q6 q7 hno hf
      go_wp2
      exact HR.out _ _ rfl rfl rfl rfl rfl rfl HNO.out HF5.out
set_option maxRecDepth 1000000 in
set_option maxHeartbeats 8000000 in
theorem rrg_exit (wr : World) (a : Go.Act) (hsz : a.tmps.size = 203) (hd : a.defers = []) (xv fv ev nv : Value) (SL sc : Nat) (sa : Option Addr) (sz : Int) (h0 : slot a 0 = xv) (h1 : slot a 1 = .int .i64 sz) (h58 : slot a 58 = .slice sa SL sc) (h59 : slot a 59 = .int .i64 (SL : Int)) (h12 : slot a 12 = fv) (h13 : slot a 13 = ev) (h14 : slot a 14 = nv) (h60 : slot a 60 = .int .i64 (SL : Int)) (hSL : SL ≤ 10) (Q : Exit → Go.Act → World → Prop)
    (hq : ∀ c : Go.Act, c.defers = [] → c.tmps.size = 203 → slot c 1 = .int .i64 sz → slot c 12 = fv → slot c 13 = ev → slot c 14 = nv → Q (.exit 0) c wr) : Code.wp Tryz.prog rrBG Q a wr := by
  have HQ := Lib.hid hq
  rw [frame203 a hsz hd, h0, h1, h58, h59, h12, h13, h14, h60]
  clear hq h0 h1 h58 h59 h12 h13 h14 h60 hsz hd
  conv => arg 2; whnf
  have hki : ¬ (SL : Int) < SL := by omega
  go_wp2
  apply HQ.out <;> rfl
set_option maxRecDepth 1000000 in
set_option maxHeartbeats 8000000 in
theorem rrg_loop (w wa : World) (a : Go.Act) (hsz : a.tmps.size = 203) (hd : a.defers = []) (sa xa0 : Option Addr) (SL sc xn0 xc0 : Nat) (size : Int) (ls : List (Value × List UInt8)) (bs : List (List UInt8)) (sh : List Nat) (fv0 ev0 nv0 : Value) (h0 : slot a 0 = .slice xa0 xn0 xc0) (h1 : slot a 1 = .int .i64 size) (h58 : slot a 58 = .slice sa SL sc) (h59 : slot a 59 = .int .i64 (SL : Int)) (h12 : slot a 12 = fv0) (h13 : slot a 13 = ev0) (h14 : slot a 14 = nv0) (h60 : slot a 60 = .int .i64 0) (h2 : size ≤ 2000) (hsh : shZ size = sh) (hSL : sh.length = SL) (hls : ls.map (·.2) = bs) (hln : ls.length = offN sh SL)
    (hRd : RdB (fun _ => False) w (.slice xa0 xn0 xc0) ls) (hS : Is (fun _ => False) w (.slice sa SL sc) (intL sh)) (hF : Fr [] w wa) (hO : OwnB 5 w.heap.size wa fv0 []) (hE : OwnI 3 w.heap.size wa ev0 []) (hN : OwnI 3 w.heap.size wa nv0 []) (hap : ∀ g, ev0.ownBlock = some g → nv0.ownBlock ≠ some g) (Q : Exit → Go.Act → World → Prop)
    (hq : ∀ (c : Go.Act) (w' : World) (fv ev nv : Value), c.defers = [] → c.tmps.size = 203 → slot c 1 = .int .i64 size → slot c 12 = fv → slot c 13 = ev → slot c 14 = nv → gAll bs sh SL → Fr [] w w' → OwnB 5 w.heap.size w' fv (fileK bs sh SL) → OwnI 3 w.heap.size w' ev (intL (eraK bs sh SL)) → OwnI 3 w.heap.size w' nv (intL (nhK bs sh SL)) → Q (.exit 0) c w')
    (hret : ∀ (c : Go.Act) (w' : World), c.defers = [] → c.tmps.size = 203 → slot c 4 = .slice none 0 0 → slot c 5 = .slice none 0 0 → slot c 6 = .slice none 0 0 → slot c 7 = .int .i64 17 → ¬ gAll bs sh SL → Fr [] w w' → Q .ret c w') : Code.wp Tryz.prog (Code.loop rrBG) Q a wa := by
  have hbl : bs.length = ls.length := by rw [← hls, List.length_map]
  have hsl := shZ_len h2
  rw [hsh, hSL] at hsl
  refine wp_loop (fun a wr => a.tmps.size = 203 ∧ a.defers = [] ∧ slot a 1 = .int .i64 size ∧ slot a 58 = .slice sa SL sc ∧ slot a 59 = .int .i64 (SL : Int) ∧ ∃ (i : Nat) (xa : Option Addr) (xn xc : Nat) (fv ev nv : Value), i ≤ SL ∧ slot a 0 = .slice xa xn xc ∧ slot a 12 = fv ∧ slot a 13 = ev ∧ slot a 14 = nv ∧ slot a 60 = .int .i64 (i : Int) ∧ gAll bs sh i ∧ RdB (fun _ => False) w (.slice xa xn xc) (ls.drop (offN sh i)) ∧ Fr [] w wr ∧ OwnB 5 w.heap.size wr fv (fileK bs sh i) ∧ OwnI 3 w.heap.size wr ev (intL (eraK bs sh i)) ∧ OwnI 3 w.heap.size wr nv (intL (nhK bs sh i)) ∧ (∀ g, ev.ownBlock = some g → nv.ownBlock ≠ some g)) (fun a _ => SL - kN (slot a 60)) ⟨hsz, hd, h1, h58, h59, 0, xa0, xn0, xc0, _, _, _, by omega, h0, h12, h13, h14, h60, (fun q hq => absurd hq (by omega)), hRd, hF, hO, hE, hN, hap⟩ ?_
  clear h1 h58 h59 h0 h12 h13 h14 h60 hO hE hN hap hF hRd hsz hd
  rintro a wr ⟨hsz, hd, h1, h58, h59, i, xa, xn, xc, fv, ev, nv, hi, h0, h12, h13, h14, h60, hga, hRd, hF, hO, hE, hN, hap⟩
  by_cases hiS : i < SL
  · obtain ⟨k, hk⟩ : ∃ k, sh[i]? = some k := ⟨_, List.getElem?_eq_getElem (by omega)⟩
    have hk1 := shZ_at h2 (by rw [hsh]; exact hk)
    have hkd : sh.getD i 0 = k := by rw [List.getD_eq_getElem?_getD, hk]; rfl
    have hoff := offN_up sh i k hk
    have hole : offN sh (i + 1) ≤ offN sh SL := by
      have h1 := offN_le sh (i + 1)
      rw [hSL] at h1
      exact h1
    have ho3 := shZ_off h2
    rw [hsh, hSL] at ho3
    obtain ⟨sb, so, e, hcc⟩ := is_cell (hS.keep hF (by simp)) i (k : Int) (by unfold intL; rw [List.getElem?_map, hk]; rfl)
    subst e
    obtain ⟨fa, fc, e, -⟩ := hO.bs (A := fun _ => False) (by simp)
    subst e
    obtain ⟨ea, ec, e, -⟩ := (hE.is (A := fun _ => False) (by simp)).shape
    subst e
    obtain ⟨na, nc, e, -⟩ := (hN.is (A := fun _ => False) (by simp)).shape
    subst e
    obtain ⟨xa', xc', e, hx1, hx2⟩ := rdb_shape hRd
    cases e
    unfold maxLen at hx2
    have hdl : (ls.drop (offN sh i)).length = offN sh SL - offN sh i := by rw [List.length_drop, hln]
    obtain ⟨kk, hkk⟩ : ∃ kk, k + 32 = kk := ⟨_, rfl⟩
    have hkn : kk ≤ (ls.drop (offN sh i)).length := by omega
    have htk := rdb_take hRd kk hkn
    have hgb : ((ls.drop (offN sh i)).take kk).map (·.2) = gB bs sh i := by
      unfold gB
      rw [hkd, hkk, List.map_take, List.map_drop, hls]
    have htl : ((ls.drop (offN sh i)).take kk).length = kk := by rw [List.length_take]; omega
    have hfk : (fileK bs sh i).length ≤ 100000 := by
      rw [fileK_len _ _ _ (by omega)]
      have h3 := shZ_sum h2
      rw [hsh] at h3
      have h6 : sh.sum = (sh.take i).sum + (sh.drop i).sum := by rw [← List.sum_append, List.take_append_drop]
      have := nblk_le size h2
      omega
    refine rrg_round wr a hsz hd xa fa ea na _ xc sb so SL sc i k kk _ fc _ ec _ nc size w ((ls.drop (offN sh i)).take kk) (gB bs sh i) (fileK bs sh i) (intL (eraK bs sh i)) (intL (nhK bs sh i)) h0 h1 h58 h59 h12 h13 h14 h60 hiS (by omega) hcc hkk (by omega) hkn hx1 hx2 hF hO hE hN hap hfk (by rw [intL_len, eraK_len]; omega) (by rw [intL_len, nhK_len]; omega) htl hgb (htk.keep hF (by simp)) _ ?_ ?_
    · intro c w' fv ev nv kd ks q0 q1 q58 q59 q12 q13 q14 q60 hok hF' hO' hE' hN' hap'
      refine ⟨⟨ks, kd, q1, q58, q59, i + 1, _, _, _, fv, ev, nv, by omega, q0, q12, q13, q14, by rw [q60]; rfl, gAll_up hga hok, ?_, hF', ?_, ?_, ?_, hap'⟩, ?_⟩
      · rw [hoff, hkk, ← List.drop_drop]
        exact rdb_drop hRd kk hkn
      · rw [fileK_up, hkd]; exact hO'
      · rw [eraK_up, intL_snocQ]; exact hE'
      · rw [nhK_up, hkd, hkk, intL_snocQ]; exact hN'
      · rw [q60, h60]
        simp [kN]; omega
    · intro c w' kd ks q4 q5 q6 q7 hno hF'
      obtain ⟨j, hj, hn⟩ := hno
      exact hret c w' kd ks q4 q5 q6 q7 (fun h => hn (h i hiS j hj)) hF'
  · obtain rfl : i = SL := by omega
    refine rrg_exit wr a hsz hd _ fv ev nv i sc sa size h0 h1 h58 h59 h12 h13 h14 h60 (by omega) _ ?_
    intro c kd ks q1 q12 q13 q14
    exact hq c wr fv ev nv kd ks q1 q12 q13 q14 hga hF hO hE hN
noncomputable def rrBF : Code := ((Tryz.f17.body.bind (findLoop 55)).getD .skip)
set_option maxRecDepth 1000000 in
set_option maxHeartbeats 8000000 in
theorem rrf_zero (wr : World) (a : Go.Act) (hsz : a.tmps.size = 203) (hd : a.defers = []) (fv ev nv : Value) (sz : Int) (zb zo zn zc q : Nat) (h1 : slot a 1 = .int .i64 sz) (h12 : slot a 12 = fv) (h13 : slot a 13 = ev) (h14 : slot a 14 = nv) (h189 : slot a 189 = .slice (some ⟨zb, zo, none⟩) zn zc) (h190 : slot a 190 = .int .i64 (zn : Int)) (h191 : slot a 191 = .int .i64 (q : Int)) (hq0 : q < zn) (hc : wr.cell? ⟨zb, zo + q, none⟩ = some (.int .u8 0)) (hzn : zn ≤ 100000) (Q : Exit → Go.Act → World → Prop)
    (hq : ∀ c : Go.Act, c.defers = [] → c.tmps.size = 203 → slot c 1 = .int .i64 sz → slot c 12 = fv → slot c 13 = ev → slot c 14 = nv → slot c 189 = .slice (some ⟨zb, zo, none⟩) zn zc → slot c 190 = .int .i64 (zn : Int) → slot c 191 = .int .i64 ((q : Int) + 1) → Q .normal c wr) : Code.wp Tryz.prog rrBF Q a wr := by
  have HQ := Lib.hid hq
  rw [frame203 a hsz hd, h1, h12, h13, h14, h189, h190, h191]
  clear hq h1 h12 h13 h14 h189 h190 h191 hsz hd
  conv => arg 2; whnf
  have hki : (q : Int) < zn := by omega
  go_wp2
  exact HQ.out _ rfl rfl rfl rfl rfl rfl rfl rfl (by go_num)
set_option maxRecDepth 1000000 in
set_option maxHeartbeats 8000000 in
theorem rrf_bad (wr : World) (a : Go.Act) (hsz : a.tmps.size = 203) (hd : a.defers = []) (fv ev nv : Value) (sz : Int) (zb zo zn zc q : Nat) (z : UInt8) (h1 : slot a 1 = .int .i64 sz) (h12 : slot a 12 = fv) (h13 : slot a 13 = ev) (h14 : slot a 14 = nv) (h189 : slot a 189 = .slice (some ⟨zb, zo, none⟩) zn zc) (h190 : slot a 190 = .int .i64 (zn : Int)) (h191 : slot a 191 = .int .i64 (q : Int)) (hq0 : q < zn) (hc : wr.cell? ⟨zb, zo + q, none⟩ = some (.int .u8 (z.toNat : Int))) (hz : z ≠ 0) (hzn : zn ≤ 100000) (Q : Exit → Go.Act → World → Prop)
    (hr : ∀ c : Go.Act, c.defers = [] → c.tmps.size = 203 → slot c 4 = .slice none 0 0 → slot c 5 = .slice none 0 0 → slot c 6 = .slice none 0 0 → slot c 7 = .int .i64 17 → Q .ret c wr) : Code.wp Tryz.prog rrBF Q a wr := by
  have HR := Lib.hid hr
  rw [frame203 a hsz hd, h1, h12, h13, h14, h189, h190, h191]
  clear hr h1 h12 h13 h14 h189 h190 h191 hsz hd
  conv => arg 2; whnf
  have hki : (q : Int) < zn := by omega
  have hzz : z.toNat ≠ 0 := fun e => hz (UInt8.toNat_inj.1 e)
  have hzi : ((z.toNat : Int) != 0) = true := by simp; omega
  clear hz
  go_wp2
  apply HR.out <;> rfl
set_option maxRecDepth 1000000 in
set_option maxHeartbeats 8000000 in
theorem rrf_exit (wr : World) (a : Go.Act) (hsz : a.tmps.size = 203) (hd : a.defers = []) (fv ev nv : Value) (sz : Int) (za : Option Addr) (zn zc : Nat) (h1 : slot a 1 = .int .i64 sz) (h12 : slot a 12 = fv) (h13 : slot a 13 = ev) (h14 : slot a 14 = nv) (h189 : slot a 189 = .slice za zn zc) (h190 : slot a 190 = .int .i64 (zn : Int)) (h191 : slot a 191 = .int .i64 (zn : Int)) (hzn : zn ≤ 100000) (Q : Exit → Go.Act → World → Prop)
    (hq : ∀ c : Go.Act, c.defers = [] → c.tmps.size = 203 → slot c 1 = .int .i64 sz → slot c 12 = fv → slot c 13 = ev → slot c 14 = nv → Q (.exit 14) c wr) : Code.wp Tryz.prog rrBF Q a wr := by
  have HQ := Lib.hid hq
  rw [frame203 a hsz hd, h1, h12, h13, h14, h189, h190, h191]
  clear hq h1 h12 h13 h14 h189 h190 h191 hsz hd
  conv => arg 2; whnf
  have hki : ¬ (zn : Int) < zn := by omega
  go_wp2
  apply HQ.out <;> rfl
set_option maxRecDepth 1000000 in
set_option maxHeartbeats 8000000 in
theorem rrf_loop (w5 : World) (a : Go.Act) (hsz : a.tmps.size = 203) (hd : a.defers = []) (fv ev nv : Value) (sz : Int) (za : Option Addr) (zn zc : Nat) (xs : List UInt8) (h1 : slot a 1 = .int .i64 sz) (h12 : slot a 12 = fv) (h13 : slot a 13 = ev) (h14 : slot a 14 = nv) (h189 : slot a 189 = .slice za zn zc) (h190 : slot a 190 = .int .i64 (zn : Int)) (h191 : slot a 191 = .int .i64 0) (hzn : zn ≤ 100000) (hl : xs.length = zn) (hb : Bs (fun _ => False) w5 (.slice za zn zc) xs) (Q : Exit → Go.Act → World → Prop)
    (hq : ∀ c : Go.Act, c.defers = [] → c.tmps.size = 203 → slot c 1 = .int .i64 sz → slot c 12 = fv → slot c 13 = ev → slot c 14 = nv → zeroAll xs → Q (.exit 14) c w5)
    (hr : ∀ c : Go.Act, c.defers = [] → c.tmps.size = 203 → slot c 4 = .slice none 0 0 → slot c 5 = .slice none 0 0 → slot c 6 = .slice none 0 0 → slot c 7 = .int .i64 17 → ¬ zeroAll xs → Q .ret c w5) : Code.wp Tryz.prog (Code.loop rrBF) Q a w5 := by
  refine wp_loop (fun a w => w = w5 ∧ a.tmps.size = 203 ∧ a.defers = [] ∧ slot a 1 = .int .i64 sz ∧ slot a 12 = fv ∧ slot a 13 = ev ∧ slot a 14 = nv ∧ slot a 189 = .slice za zn zc ∧ slot a 190 = .int .i64 (zn : Int) ∧ ∃ q : Nat, q ≤ zn ∧ slot a 191 = .int .i64 (q : Int) ∧ ∀ j, j < q → ∀ c, xs[j]? = some c → c = 0) (fun a _ => zn - kN (slot a 191)) ⟨rfl, hsz, hd, h1, h12, h13, h14, h189, h190, 0, by omega, h191, (fun j h => absurd h (by omega))⟩ ?_
  clear h1 h12 h13 h14 h189 h190 h191 hsz hd
  rintro a wr ⟨rfl, hsz, hd, h1, h12, h13, h14, h189, h190, q, hqz, h191, hall⟩
  by_cases hqn : q < zn
  · obtain ⟨z, hz⟩ : ∃ z, xs[q]? = some z := ⟨_, List.getElem?_eq_getElem (by omega)⟩
    obtain ⟨zb, zo, e, hzc⟩ := bs_cell hb q z hz
    subst e
    by_cases h0 : z = 0
    · subst h0
      refine rrf_zero wr a hsz hd fv ev nv sz zb zo zn zc q h1 h12 h13 h14 h189 h190 h191 hqn hzc hzn _ ?_
      intro c kd ks q1 q12 q13 q14 q189 q190 q191
      refine ⟨⟨rfl, ks, kd, q1, q12, q13, q14, q189, q190, q + 1, by omega, by rw [q191]; rfl, fun j hj c hc => ?_⟩, ?_⟩
      · rcases Nat.lt_or_ge j q with h | h
        · exact hall j h c hc
        · obtain rfl : j = q := by omega
          rw [hz] at hc
          cases hc
          rfl
      · rw [q191, h191]
        simp [kN]; omega
    · refine rrf_bad wr a hsz hd fv ev nv sz zb zo zn zc q z h1 h12 h13 h14 h189 h190 h191 hqn hzc h0 hzn _ ?_
      intro c kd ks q4 q5 q6 q7
      exact hr c kd ks q4 q5 q6 q7 (fun h => h0 (h z (List.mem_of_getElem? hz)))
  · obtain rfl : q = zn := by omega
    refine rrf_exit wr a hsz hd fv ev nv sz za q zc h1 h12 h13 h14 h189 h190 h191 hzn _ ?_
    intro c kd ks q1 q12 q13 q14
    exact hq c kd ks q1 q12 q13 q14 (fun c hc => by
      obtain ⟨j, hj⟩ := List.mem_iff_getElem?.1 hc
      exact hall j (by have := (List.getElem?_eq_some_iff.1 hj).1; omega) c hj)
end Go.Proofs.YtmohiblgfmdkjaaGreatDoor
