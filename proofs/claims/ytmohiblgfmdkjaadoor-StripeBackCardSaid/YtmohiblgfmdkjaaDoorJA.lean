/-
  Layer 6, stripe.rebuilt: the written frame. (printed by genrb.py)
  Layer 6, stripe.rebuilt: the loop over what is gone. (printed by genrb.py)
  Layer 6, stripe.rebuilt: the loop that writes a column. (printed by genrb.py)
  Layer 6, stripe.rebuilt: the loop that marks what is changed. (printed by genrb.py)
  Layer 6, stripe.rebuilt: the loop that counts. (printed by genrb.py)
-/
import Derived.Test.YtmohiblgfmdkjaaDoorGB
import Derived.Test.YtmohiblgfmdkjaaDoorJE
import Derived.Test.YtmohiblgfmdkjaaDoorIn
import Derived.Test.YtmohiblgfmdkjaaDoorGN
import Derived.Test.YtmohiblgfmdkjaaDoorHR
import Derived.Test.YtmohiblgfmdkjaaDoorRer
namespace Go.Proofs.YtmohiblgfmdkjaaDoor
open Go.RowKit Go.Bl
set_option linter.unusedVariables false
set_option maxRecDepth 100000 in
theorem frame112 (a : Go.Act) (hs : a.tmps.size = 112) (hd : a.defers = []) : a = ⟨(slot a 0 :: slot a 1 :: slot a 2 :: slot a 3 :: slot a 4 :: slot a 5 :: slot a 6 :: slot a 7 :: slot a 8 :: slot a 9 :: slot a 10 :: slot a 11 :: slot a 12 :: slot a 13 :: slot a 14 :: slot a 15 :: slot a 16 :: slot a 17 :: slot a 18 :: slot a 19 :: slot a 20 :: slot a 21 :: slot a 22 :: slot a 23 :: slot a 24 :: slot a 25 :: slot a 26 :: slot a 27 :: slot a 28 :: slot a 29 :: slot a 30 :: slot a 31 :: slot a 32 :: slot a 33 :: slot a 34 :: slot a 35 :: slot a 36 :: slot a 37 :: slot a 38 :: slot a 39 :: slot a 40 :: slot a 41 :: slot a 42 :: slot a 43 :: slot a 44 :: slot a 45 :: slot a 46 :: slot a 47 :: slot a 48 :: slot a 49 :: slot a 50 :: slot a 51 :: slot a 52 :: slot a 53 :: slot a 54 :: slot a 55 :: slot a 56 :: slot a 57 :: slot a 58 :: slot a 59 :: slot a 60 :: slot a 61 :: slot a 62 :: slot a 63 :: slot a 64 :: slot a 65 :: slot a 66 :: slot a 67 :: slot a 68 :: slot a 69 :: slot a 70 :: slot a 71 :: slot a 72 :: slot a 73 :: slot a 74 :: slot a 75 :: slot a 76 :: slot a 77 :: slot a 78 :: slot a 79 :: slot a 80 :: slot a 81 :: slot a 82 :: slot a 83 :: slot a 84 :: slot a 85 :: slot a 86 :: slot a 87 :: slot a 88 :: slot a 89 :: slot a 90 :: slot a 91 :: slot a 92 :: slot a 93 :: slot a 94 :: slot a 95 :: slot a 96 :: slot a 97 :: slot a 98 :: slot a 99 :: slot a 100 :: slot a 101 :: slot a 102 :: slot a 103 :: slot a 104 :: slot a 105 :: slot a 106 :: slot a 107 :: slot a 108 :: slot a 109 :: slot a 110 :: slot a 111 :: []).toArray, []⟩ := frameX a 112 hs hd
theorem Tryd.infoIntB : (Tryd.prog.info? 3).map (fun i => (i.zero, i.size, i.bytes)) = some (some (.int .i64 0), 1, 8) := by kernel_rfl
theorem bs_len {A : Nat → Prop} {w : World} {a : Option Addr} {n c : Nat} {xs : List UInt8} (h : Bs A w (.slice a n c) xs) : n = xs.length := by
  obtain ⟨a', c', e, -⟩ := h
  cases e
  rfl
end Go.Proofs.YtmohiblgfmdkjaaDoor
namespace Go.Proofs.YtmohiblgfmdkjaaDoor
open Go.RowKit Go.Bl
set_option linter.unusedVariables false
noncomputable def rbB1 : Code := ((Tryd.f35.body.bind (findLoop 3)).getD .skip)
set_option maxRecDepth 1000000 in
set_option maxHeartbeats 8000000 in
theorem rb1_round (wr : World) (a : Go.Act) (hsz : a.tmps.size = 112) (hd : a.defers = []) (bb bo n bc k bl xc : Nat) (xa : Option Addr) (ov : Value) (l : List Int) (w0 : World) (h0 : slot a 0 = .slice (some ⟨bb, bo, none⟩) n bc) (h21 : slot a 21 = .slice (some ⟨bb, bo, none⟩) n bc) (h22 : slot a 22 = .int .i64 (n : Int)) (h6 : slot a 6 = ov) (h23 : slot a 23 = .int .i64 (k : Int)) (hk : k < n) (hn : n ≤ 1000) (hc : wr.cell? ⟨bb, bo + k, none⟩ = some (.slice xa bl xc)) (hI : OwnI 3 w0.heap.size wr ov l) (hF : Fr [] w0 wr) (hl : l.length ≤ 1000) (Q : Exit → Go.Act → World → Prop)
    (hq : ∀ (c : Go.Act) (w' : World) (ov' : Value), c.defers = [] → c.tmps.size = 112 → slot c 0 = .slice (some ⟨bb, bo, none⟩) n bc → slot c 21 = .slice (some ⟨bb, bo, none⟩) n bc → slot c 22 = .int .i64 (n : Int) → slot c 6 = ov' → slot c 23 = .int .i64 ((k : Int) + 1) → OwnI 3 w0.heap.size w' ov' (l ++ if bl = 8 then [] else [(k : Int)]) → Fr [] w0 w' → Q .normal c w') : Code.wp Tryd.prog rbB1 Q a wr := by
  have HQ := Lib.hid hq
  rw [frame112 a hsz hd, h0, h21, h22, h6, h23]
  clear hq h0 h21 h22 h6 h23 hsz hd
  conv => arg 2; whnf
  have hki : (k : Int) < n := by omega
  have HI := Lib.hid hI
  have HF := Lib.hid hF
  clear hI hF
  by_cases h8 : bl = 8
  · subst h8
    rw [if_pos rfl, List.append_nil] at HQ
    go_wp2
    exact HQ.out _ _ _ rfl rfl rfl rfl rfl rfl (by go_num) HI.out HF.out
  · rw [if_neg h8] at HQ
    have h8i : ¬ ((bl : Int) = 8) := by omega
    have fa : Fr [] wr (wr.alloc (.cells #[.int .i64 (k : Int)] 3)) := Fr.alloc _ _
    have HI4 := Lib.hid (HI.out.keep0 fa)
    have HF4 := Lib.hid (HF.out.trans fa)
    have HIL := Lib.hid (show l.length ≤ 17592186044414 by omega)
    have hz4 : w0.heap.size ≤ (wr.alloc (.cells #[.int .i64 (k : Int)] 3)).heap.size := HF4.out.size
    clear fa HI HF h8
    go_wp2_with (at_builtin; refine wpl_append_n Tryd.underlying32 Tryd.infoIntB rfl (.tmp 31) (.tmp 33) rfl rfl rfl (At.new rfl) HI4.out HIL.out hz4 ?_)
    intro v5 w5 h5 g5
    have HI5 := Lib.hid h5
    have HF5 := Lib.hid (show Fr [] w0 w5 from OwnI.fr HI4.out HF4.out g5 (Nat.le_refl _))
    clear h5 g5 HI4 HF4
    go_wp2
    exact HQ.out _ _ _ rfl rfl rfl rfl rfl rfl (by go_num) HI5.out HF5.out
set_option maxRecDepth 1000000 in
set_option maxHeartbeats 8000000 in
theorem rb1_exit (wr : World) (a : Go.Act) (hsz : a.tmps.size = 112) (hd : a.defers = []) (ba : Option Addr) (n bc : Nat) (ov : Value) (h0 : slot a 0 = .slice ba n bc) (h21 : slot a 21 = .slice ba n bc) (h22 : slot a 22 = .int .i64 (n : Int)) (h6 : slot a 6 = ov) (h23 : slot a 23 = .int .i64 (n : Int)) (hn : n ≤ 1000) (Q : Exit → Go.Act → World → Prop)
    (hq : ∀ c : Go.Act, c.defers = [] → c.tmps.size = 112 → slot c 0 = .slice ba n bc → slot c 6 = ov → Q (.exit 0) c wr) : Code.wp Tryd.prog rbB1 Q a wr := by
  have HQ := Lib.hid hq
  rw [frame112 a hsz hd, h0, h21, h22, h6, h23]
  clear hq h0 h21 h22 h6 h23 hsz hd
  conv => arg 2; whnf
  have hki : ¬ (n : Int) < n := by omega
  go_wp2
  apply HQ.out <;> rfl
set_option maxRecDepth 1000000 in
set_option maxHeartbeats 8000000 in
theorem rb1_loop (w0 : World) (a : Go.Act) (hsz : a.tmps.size = 112) (hd : a.defers = []) (ba : Option Addr) (n bc : Nat) (ls : List (Value × List UInt8)) (bs : List (List UInt8)) (h0 : slot a 0 = .slice ba n bc) (h21 : slot a 21 = .slice ba n bc) (h22 : slot a 22 = .int .i64 (n : Int)) (h6 : slot a 6 = .slice none 0 0) (h23 : slot a 23 = .int .i64 0) (hn : n ≤ 1000) (hln : ls.length = n) (hls : ls.map (·.2) = bs) (hr : RdB (fun _ => False) w0 (.slice ba n bc) ls) (Q : Exit → Go.Act → World → Prop)
    (hq : ∀ (c : Go.Act) (w' : World) (ov' : Value), c.defers = [] → c.tmps.size = 112 → slot c 0 = .slice ba n bc → slot c 6 = ov' → OwnI 3 w0.heap.size w' ov' (intL (gon bs)) → Fr [] w0 w' → Q (.exit 0) c w') : Code.wp Tryd.prog (Code.loop rbB1) Q a w0 := by
  refine wp_loop (fun a w => a.tmps.size = 112 ∧ a.defers = [] ∧ slot a 0 = .slice ba n bc ∧ slot a 21 = .slice ba n bc ∧ slot a 22 = .int .i64 (n : Int) ∧ ∃ (k : Nat) (ov : Value), k ≤ n ∧ slot a 6 = ov ∧ slot a 23 = .int .i64 (k : Int) ∧ OwnI 3 w0.heap.size w ov (intL (gonK bs k)) ∧ Fr [] w0 w) (fun a _ => n - kN (slot a 23)) ⟨hsz, hd, h0, h21, h22, 0, _, by omega, h6, h23, OwnI.nil _ _ _, Fr.refl _ _⟩ ?_
  clear h0 h21 h22 h6 h23 hsz hd
  rintro a wr ⟨hsz, hd, h0, h21, h22, k, ov, hk, h6, h23, hI, hF⟩
  have hbl : bs.length = n := by rw [← hls, List.length_map, hln]
  by_cases hkn : k < n
  · obtain ⟨x, hx⟩ : ∃ x, ls[k]? = some x := ⟨_, List.getElem?_eq_getElem (by omega)⟩
    obtain ⟨bb, bo, e, hc, hbx⟩ := rdb_cell (hr.keep hF (by simp)) k x hx
    subst e
    obtain ⟨xa, xc, e, -⟩ := id hbx
    rw [e] at hc
    have hxb : bs.getD k [] = x.2 := by rw [← hls, List.getD_eq_getElem?_getD, List.getElem?_map, hx]; rfl
    have hup := gonK_up bs k
    rw [hxb] at hup
    refine rb1_round wr a hsz hd bb bo n bc k x.2.length xc xa ov _ w0 h0 h21 h22 h6 h23 hkn hn hc hI hF (by rw [intL_len]; have := gonK_le bs k; omega) _ ?_
    intro c w' ov' kd ks q0 q21 q22 q6 q23 hI' hF'
    refine ⟨⟨ks, kd, q0, q21, q22, k + 1, ov', by omega, q6, by rw [q23]; rfl, ?_, hF'⟩, ?_⟩
    · have e2 : intL (gonK bs (k + 1)) = intL (gonK bs k) ++ if x.2.length = 8 then [] else [(k : Int)] := by
        rw [hup]
        unfold intL
        rw [List.map_append]
        by_cases h : x.2.length = 8
        · rw [if_pos h, if_pos h]; rfl
        · rw [if_neg h, if_neg h]; rfl
      rw [e2]
      exact hI'
    · rw [q23, h23]
      simp [kN]; omega
  · obtain rfl : k = n := by omega
    refine rb1_exit wr a hsz hd ba k bc ov h0 h21 h22 h6 h23 hn _ ?_
    intro c kd ks q0 q6
    refine hq c wr ov kd ks q0 q6 ?_ hF
    unfold gon
    rw [hbl]
    exact hI
end Go.Proofs.YtmohiblgfmdkjaaDoor
namespace Go.Proofs.YtmohiblgfmdkjaaDoor
open Go.RowKit Go.Bl
set_option linter.unusedVariables false
noncomputable def rbB3 : Code := ((Tryd.f35.body.bind (findLoop 17)).getD .skip)
set_option maxRecDepth 1000000 in
set_option maxHeartbeats 8000000 in
theorem rb3_round (wr : World) (a : Go.Act) (hsz : a.tmps.size = 112) (hd : a.defers = []) (ba ea : Option Addr) (n bc EL ec g cb fb j uc ub uo k b : Nat) (y : UInt8) (cur : Array Value) (h0 : slot a 0 = .slice ba n bc) (h6 : slot a 6 = .slice ea EL ec) (h9 : slot a 9 = .slice (some ⟨g, 0, none⟩) n n) (h10 : slot a 10 = .slice (some ⟨cb, 0, none⟩) n n) (h11 : slot a 11 = .int .i64 (j : Int)) (h12 : slot a 12 = .pointer (some ⟨fb, 0, none⟩)) (h42 : slot a 42 = .int .i64 (j : Int)) (h57 : slot a 57 = .slice (some ⟨ub, uo, none⟩) n uc) (h58 : slot a 58 = .int .i64 (n : Int)) (h59 : slot a 59 = .int .i64 (k : Int)) (hk : k < n) (hn : n ≤ 1000) (hj : j < 8) (hy : wr.cell? ⟨ub, uo + k, none⟩ = some (.int .u8 (y.toNat : Int))) (hg : wr.cell? ⟨g, k, none⟩ = some (.slice (some ⟨b, 0, none⟩) 8 8)) (hA : At wr b (.cells cur 5)) (hcs : cur.size = 8) (Q : Exit → Go.Act → World → Prop)
    (hq : ∀ (c : Go.Act) (w' : World), c.defers = [] → c.tmps.size = 112 → slot c 0 = .slice ba n bc → slot c 6 = .slice ea EL ec → slot c 9 = .slice (some ⟨g, 0, none⟩) n n → slot c 10 = .slice (some ⟨cb, 0, none⟩) n n → slot c 11 = .int .i64 (j : Int) → slot c 12 = .pointer (some ⟨fb, 0, none⟩) → slot c 42 = .int .i64 (j : Int) → slot c 57 = .slice (some ⟨ub, uo, none⟩) n uc → slot c 58 = .int .i64 (n : Int) → slot c 59 = .int .i64 ((k : Int) + 1) → At w' b (.cells (cur.setIfInBounds j (.int .u8 (y.toNat : Int))) 5) → Fr [b] wr w' → Q .normal c w') : Code.wp Tryd.prog rbB3 Q a wr := by
  have HQ := Lib.hid hq
  rw [frame112 a hsz hd, h0, h6, h9, h10, h11, h12, h42, h57, h58, h59]
  clear hq h0 h6 h9 h10 h11 h12 h42 h57 h58 h59 hsz hd
  conv => arg 2; whnf
  have hki : (k : Int) < n := by omega
  have hji : (j : Int) < 8 := by omega
  have HA := Lib.hid hA
  have HCS := Lib.hid (show j < cur.size by omega)
  clear hA hcs
  go_wp2_with (refine wpl_store_one (.tmp 70) (.tmp 69) rfl rfl (.int .u8 (y.toNat : Int)) rfl rfl HA.out HCS.out (by kernel_rfl) rfl ?_)
  intro w5 f5 a5 _
  have HA5 := Lib.hid a5
  have HF5 := Lib.hid f5
  clear f5 a5 HA
  go_wp2
  exact HQ.out _ _ rfl rfl rfl rfl rfl rfl rfl rfl rfl rfl rfl (by go_num) (by simpa using HA5.out) HF5.out
set_option maxRecDepth 1000000 in
set_option maxHeartbeats 8000000 in
theorem rb3_exit (wr : World) (a : Go.Act) (hsz : a.tmps.size = 112) (hd : a.defers = []) (ba ea ua : Option Addr) (n bc EL ec g cb fb j uc : Nat) (h0 : slot a 0 = .slice ba n bc) (h6 : slot a 6 = .slice ea EL ec) (h9 : slot a 9 = .slice (some ⟨g, 0, none⟩) n n) (h10 : slot a 10 = .slice (some ⟨cb, 0, none⟩) n n) (h11 : slot a 11 = .int .i64 (j : Int)) (h12 : slot a 12 = .pointer (some ⟨fb, 0, none⟩)) (h42 : slot a 42 = .int .i64 (j : Int)) (h57 : slot a 57 = .slice ua n uc) (h58 : slot a 58 = .int .i64 (n : Int)) (h59 : slot a 59 = .int .i64 (n : Int)) (hn : n ≤ 1000) (Q : Exit → Go.Act → World → Prop)
    (hq : ∀ c : Go.Act, c.defers = [] → c.tmps.size = 112 → slot c 0 = .slice ba n bc → slot c 6 = .slice ea EL ec → slot c 9 = .slice (some ⟨g, 0, none⟩) n n → slot c 10 = .slice (some ⟨cb, 0, none⟩) n n → slot c 11 = .int .i64 (j : Int) → slot c 12 = .pointer (some ⟨fb, 0, none⟩) → slot c 42 = .int .i64 (j : Int) → Q (.exit 4) c wr) : Code.wp Tryd.prog rbB3 Q a wr := by
  have HQ := Lib.hid hq
  rw [frame112 a hsz hd, h0, h6, h9, h10, h11, h12, h42, h57, h58, h59]
  clear hq h0 h6 h9 h10 h11 h12 h42 h57 h58 h59 hsz hd
  conv => arg 2; whnf
  have hki : ¬ (n : Int) < n := by omega
  go_wp2
  apply HQ.out <;> rfl
set_option maxRecDepth 1000000 in
set_option maxHeartbeats 8000000 in
theorem rb3_loop (w3 : World) (a : Go.Act) (hsz : a.tmps.size = 112) (hd : a.defers = []) (ba ea ua : Option Addr) (n bc EL ec g cb fb j uc : Nat) (Z : Nat) (bk : List Nat) (xs : List UInt8) (PP : Nat → Nat → UInt8) (h0 : slot a 0 = .slice ba n bc) (h6 : slot a 6 = .slice ea EL ec) (h9 : slot a 9 = .slice (some ⟨g, 0, none⟩) n n) (h10 : slot a 10 = .slice (some ⟨cb, 0, none⟩) n n) (h11 : slot a 11 = .int .i64 (j : Int)) (h12 : slot a 12 = .pointer (some ⟨fb, 0, none⟩)) (h42 : slot a 42 = .int .i64 (j : Int)) (h57 : slot a 57 = .slice ua n uc) (h58 : slot a 58 = .int .i64 (n : Int)) (h59 : slot a 59 = .int .i64 0) (hn : n ≤ 1000) (hj : j < 8) (hxl : xs.length = n) (hP : ∀ i, i < n → PP j i = cf xs i) (hgb : g ∉ bk) (hbl : bk.length = n)
    (hU : Bs (fun b => b ∈ bk) w3 (.slice ua n uc) xs) (hG : At w3 g (.cells (bk.map sl8).toArray 22)) (hR : Rws Z w3 bk (rwN n PP j 0)) (Q : Exit → Go.Act → World → Prop)
    (hq : ∀ (c : Go.Act) (w' : World), c.defers = [] → c.tmps.size = 112 → slot c 0 = .slice ba n bc → slot c 6 = .slice ea EL ec → slot c 9 = .slice (some ⟨g, 0, none⟩) n n → slot c 10 = .slice (some ⟨cb, 0, none⟩) n n → slot c 11 = .int .i64 (j : Int) → slot c 12 = .pointer (some ⟨fb, 0, none⟩) → slot c 42 = .int .i64 (j : Int) → Rws Z w' bk (rwN n PP j n) → Fr bk w3 w' → Q (.exit 4) c w') : Code.wp Tryd.prog (Code.loop rbB3) Q a w3 := by
  refine wp_loop (fun a w => a.tmps.size = 112 ∧ a.defers = [] ∧ slot a 0 = .slice ba n bc ∧ slot a 6 = .slice ea EL ec ∧ slot a 9 = .slice (some ⟨g, 0, none⟩) n n ∧ slot a 10 = .slice (some ⟨cb, 0, none⟩) n n ∧ slot a 11 = .int .i64 (j : Int) ∧ slot a 12 = .pointer (some ⟨fb, 0, none⟩) ∧ slot a 42 = .int .i64 (j : Int) ∧ slot a 57 = .slice ua n uc ∧ slot a 58 = .int .i64 (n : Int) ∧ ∃ k : Nat, k ≤ n ∧ slot a 59 = .int .i64 (k : Int) ∧ Rws Z w bk (rwN n PP j k) ∧ Fr bk w3 w) (fun a _ => n - kN (slot a 59)) ⟨hsz, hd, h0, h6, h9, h10, h11, h12, h42, h57, h58, 0, by omega, h59, hR, Fr.refl _ _⟩ ?_
  clear h0 h6 h9 h10 h11 h12 h42 h57 h58 h59 hR hsz hd
  rintro a wr ⟨hsz, hd, h0, h6, h9, h10, h11, h12, h42, h57, h58, k, hk, h59, hR, hF⟩
  by_cases hkn : k < n
  · obtain ⟨y, hy⟩ : ∃ y, xs[k]? = some y := ⟨_, List.getElem?_eq_getElem (by omega)⟩
    obtain ⟨ub, uo, e, hyc⟩ := bs_cell (hU.keep hF (by simp)) k y hy
    subst e
    obtain ⟨b, hb⟩ : ∃ b, bk[k]? = some b := ⟨_, List.getElem?_eq_getElem (by omega)⟩
    obtain ⟨row, hrow⟩ : ∃ row, (rwN n PP j k)[k]? = some row := ⟨_, rwN_get n PP j k k hkn⟩
    have hbm := List.mem_of_getElem? hb
    have hcg : wr.cell? ⟨g, k, none⟩ = some (.slice (some ⟨b, 0, none⟩) 8 8) := by
      rw [(hG.keep hF hgb).cell]
      simp [hb, sl8]
    have hAB := hR.at_ k b row hb hrow
    have hrl : row.length = 8 := by
      rw [rwN_get n PP j k k hkn] at hrow
      cases hrow
      simp
    have hst := rwN_step n PP j k hkn hj row hrow
    rw [hP k hkn, cf_get hy] at hst
    refine rb3_round wr a hsz hd ba ea n bc EL ec g cb fb j uc ub uo k b y _ h0 h6 h9 h10 h11 h12 h42 h57 h58 h59 hkn hn hj hyc hcg hAB (by simp [hrl]) _ ?_
    intro c w' kd ks q0 q6 q9 q10 q11 q12 q42 q57 q58 q59 hA' hF'
    refine ⟨⟨ks, kd, q0, q6, q9, q10, q11, q12, q42, q57, q58, k + 1, by omega, by rw [q59]; rfl, ?_, hF.then hF' (by intro x hx; simp at hx; subst hx; exact .inl hbm)⟩, ?_⟩
    · rw [← hst]
      refine hR.set k b j row y hb hrow hF' ?_
      rw [List.map_set]
      simpa [u8v] using hA'
    · rw [q59, h59]
      simp [kN]; omega
  · obtain rfl : k = n := by omega
    refine rb3_exit wr a hsz hd ba ea ua k bc EL ec g cb fb j uc h0 h6 h9 h10 h11 h12 h42 h57 h58 h59 hn _ ?_
    intro c kd ks q0 q6 q9 q10 q11 q12 q42
    exact hq c wr kd ks q0 q6 q9 q10 q11 q12 q42 hR hF
end Go.Proofs.YtmohiblgfmdkjaaDoor
namespace Go.Proofs.YtmohiblgfmdkjaaDoor
open Go.RowKit Go.Bl
set_option linter.unusedVariables false
noncomputable def rbB4 : Code := ((Tryd.f35.body.bind (findLoop 22)).getD .skip)
set_option maxRecDepth 1000000 in
set_option maxHeartbeats 8000000 in
theorem rb4_round (wr : World) (a : Go.Act) (hsz : a.tmps.size = 112) (hd : a.defers = []) (ba ea : Option Addr) (n bc EL ec g cb j RN rc rb ro k p : Nat) (ps : List Nat) (h0 : slot a 0 = .slice ba n bc) (h6 : slot a 6 = .slice ea EL ec) (h9 : slot a 9 = .slice (some ⟨g, 0, none⟩) n n) (h10 : slot a 10 = .slice (some ⟨cb, 0, none⟩) n n) (h42 : slot a 42 = .int .i64 (j : Int)) (h73 : slot a 73 = .slice (some ⟨rb, ro, none⟩) RN rc) (h74 : slot a 74 = .int .i64 (RN : Int)) (h75 : slot a 75 = .int .i64 (k : Int)) (hk : k < RN) (hRN : RN ≤ 1000) (hn : n ≤ 1000) (hp : p < n) (hc : wr.cell? ⟨rb, ro + k, none⟩ = some (.int .i64 (p : Int))) (hA : At wr cb (.cells (boolC (inL n ps)) 4)) (Q : Exit → Go.Act → World → Prop)
    (hq : ∀ (c : Go.Act) (w' : World), c.defers = [] → c.tmps.size = 112 → slot c 0 = .slice ba n bc → slot c 6 = .slice ea EL ec → slot c 9 = .slice (some ⟨g, 0, none⟩) n n → slot c 10 = .slice (some ⟨cb, 0, none⟩) n n → slot c 42 = .int .i64 (j : Int) → slot c 73 = .slice (some ⟨rb, ro, none⟩) RN rc → slot c 74 = .int .i64 (RN : Int) → slot c 75 = .int .i64 ((k : Int) + 1) → At w' cb (.cells (boolC (inL n (ps ++ [p]))) 4) → Fr [cb] wr w' → Q .normal c w') : Code.wp Tryd.prog rbB4 Q a wr := by
  have HQ := Lib.hid hq
  rw [frame112 a hsz hd, h0, h6, h9, h10, h42, h73, h74, h75]
  clear hq h0 h6 h9 h10 h42 h73 h74 h75 hsz hd
  conv => arg 2; whnf
  have hki : (k : Int) < RN := by omega
  have hpi : (p : Int) < n := by omega
  have HA := Lib.hid hA
  have HSZ1 := Lib.hid (show p < (boolC (inL n ps)).size by rw [boolC_len, inL_len]; exact hp)
  clear hA
  go_wp2_with (refine wpl_store_one (.tmp 81) (.const (.bool true)) rfl rfl (.bool true) rfl rfl HA.out HSZ1.out (by kernel_rfl) rfl ?_)
  intro w6 f6 a6 s6
  have HA6 := Lib.hid (bool_set a6 hp)
  have HF6 := Lib.hid f6
  clear f6 a6 s6 HA HSZ1
  go_wp2
  exact HQ.out _ _ rfl rfl rfl rfl rfl rfl rfl rfl rfl (by go_num) HA6.out HF6.out
set_option maxRecDepth 1000000 in
set_option maxHeartbeats 8000000 in
theorem rb4_exit (wr : World) (a : Go.Act) (hsz : a.tmps.size = 112) (hd : a.defers = []) (ba ea ra : Option Addr) (n bc EL ec g cb j RN rc : Nat) (h0 : slot a 0 = .slice ba n bc) (h6 : slot a 6 = .slice ea EL ec) (h9 : slot a 9 = .slice (some ⟨g, 0, none⟩) n n) (h10 : slot a 10 = .slice (some ⟨cb, 0, none⟩) n n) (h42 : slot a 42 = .int .i64 (j : Int)) (h73 : slot a 73 = .slice ra RN rc) (h74 : slot a 74 = .int .i64 (RN : Int)) (h75 : slot a 75 = .int .i64 (RN : Int)) (hRN : RN ≤ 1000) (Q : Exit → Go.Act → World → Prop)
    (hq : ∀ c : Go.Act, c.defers = [] → c.tmps.size = 112 → slot c 0 = .slice ba n bc → slot c 6 = .slice ea EL ec → slot c 9 = .slice (some ⟨g, 0, none⟩) n n → slot c 10 = .slice (some ⟨cb, 0, none⟩) n n → slot c 42 = .int .i64 (j : Int) → Q (.exit 6) c wr) : Code.wp Tryd.prog rbB4 Q a wr := by
  have HQ := Lib.hid hq
  rw [frame112 a hsz hd, h0, h6, h9, h10, h42, h73, h74, h75]
  clear hq h0 h6 h9 h10 h42 h73 h74 h75 hsz hd
  conv => arg 2; whnf
  have hki : ¬ (RN : Int) < RN := by omega
  go_wp2
  apply HQ.out <;> rfl
set_option maxRecDepth 1000000 in
set_option maxHeartbeats 8000000 in
theorem rb4_loop (w4 : World) (a : Go.Act) (hsz : a.tmps.size = 112) (hd : a.defers = []) (ba ea ra : Option Addr) (n bc EL ec g cb j RN rc : Nat) (hs ps : List Nat) (h0 : slot a 0 = .slice ba n bc) (h6 : slot a 6 = .slice ea EL ec) (h9 : slot a 9 = .slice (some ⟨g, 0, none⟩) n n) (h10 : slot a 10 = .slice (some ⟨cb, 0, none⟩) n n) (h42 : slot a 42 = .int .i64 (j : Int)) (h73 : slot a 73 = .slice ra RN rc) (h74 : slot a 74 = .int .i64 (RN : Int)) (h75 : slot a 75 = .int .i64 0) (hRN : ps.length = RN) (hR2 : RN ≤ 1000) (hn : n ≤ 1000) (hp : ∀ p ∈ ps, p < n)
    (hv : Is (fun b => b = cb) w4 (.slice ra RN rc) (intL ps)) (hA : At w4 cb (.cells (boolC (inL n hs)) 4)) (Q : Exit → Go.Act → World → Prop)
    (hq : ∀ (c : Go.Act) (w' : World), c.defers = [] → c.tmps.size = 112 → slot c 0 = .slice ba n bc → slot c 6 = .slice ea EL ec → slot c 9 = .slice (some ⟨g, 0, none⟩) n n → slot c 10 = .slice (some ⟨cb, 0, none⟩) n n → slot c 42 = .int .i64 (j : Int) → At w' cb (.cells (boolC (inL n (hs ++ ps))) 4) → Fr [cb] w4 w' → Q (.exit 6) c w') : Code.wp Tryd.prog (Code.loop rbB4) Q a w4 := by
  refine wp_loop (fun a w => a.tmps.size = 112 ∧ a.defers = [] ∧ slot a 0 = .slice ba n bc ∧ slot a 6 = .slice ea EL ec ∧ slot a 9 = .slice (some ⟨g, 0, none⟩) n n ∧ slot a 10 = .slice (some ⟨cb, 0, none⟩) n n ∧ slot a 42 = .int .i64 (j : Int) ∧ slot a 73 = .slice ra RN rc ∧ slot a 74 = .int .i64 (RN : Int) ∧ ∃ k : Nat, k ≤ RN ∧ slot a 75 = .int .i64 (k : Int) ∧ At w cb (.cells (boolC (inL n (hs ++ ps.take k))) 4) ∧ Fr [cb] w4 w) (fun a _ => RN - kN (slot a 75)) ⟨hsz, hd, h0, h6, h9, h10, h42, h73, h74, 0, by omega, h75, by rw [List.take_zero, List.append_nil]; exact hA, Fr.refl _ _⟩ ?_
  clear h0 h6 h9 h10 h42 h73 h74 h75 hA hsz hd
  rintro a wr ⟨hsz, hd, h0, h6, h9, h10, h42, h73, h74, k, hk, h75, hA, hF⟩
  by_cases hkp : k < RN
  · obtain ⟨p, hpk⟩ : ∃ p, ps[k]? = some p := ⟨_, List.getElem?_eq_getElem (by omega)⟩
    obtain ⟨rb, ro, e, hcc⟩ := is_cell (hv.keep hF (by simp)) k (p : Int) (by unfold intL; rw [List.getElem?_map, hpk]; rfl)
    subst e
    refine rb4_round wr a hsz hd ba ea n bc EL ec g cb j RN rc rb ro k p (hs ++ ps.take k) h0 h6 h9 h10 h42 h73 h74 h75 hkp hR2 hn (hp p (List.mem_of_getElem? hpk)) hcc hA _ ?_
    intro c w' kd ks q0 q6 q9 q10 q42 q73 q74 q75 hA' hf
    refine ⟨⟨ks, kd, q0, q6, q9, q10, q42, q73, q74, k + 1, by omega, by rw [q75]; rfl, ?_, hF.trans hf⟩, ?_⟩
    · rw [show ps.take (k + 1) = ps.take k ++ [p] by rw [List.take_add_one, hpk]; rfl, ← List.append_assoc]
      exact hA'
    · rw [q75, h75]
      simp [kN]; omega
  · obtain rfl : k = RN := by omega
    refine rb4_exit wr a hsz hd ba ea ra n bc EL ec g cb j k rc h0 h6 h9 h10 h42 h73 h74 h75 hR2 _ ?_
    intro c kd ks q0 q6 q9 q10 q42
    rw [List.take_of_length_le (by omega)] at hA
    exact hq c wr kd ks q0 q6 q9 q10 q42 hA hF
end Go.Proofs.YtmohiblgfmdkjaaDoor
namespace Go.Proofs.YtmohiblgfmdkjaaDoor
open Go.RowKit Go.Bl
set_option linter.unusedVariables false
noncomputable def rbB5 : Code := ((Tryd.f35.body.bind (findLoop 29)).getD .skip)
set_option maxRecDepth 1000000 in
set_option maxHeartbeats 8000000 in
theorem rb5_round (wr : World) (a : Go.Act) (hsz : a.tmps.size = 112) (hd : a.defers = []) (ea : Option Addr) (n bc EL ec g cb bb bo k m bl xc : Nat) (xa : Option Addr) (hit : Bool) (h0 : slot a 0 = .slice (some ⟨bb, bo, none⟩) n bc) (h6 : slot a 6 = .slice ea EL ec) (h9 : slot a 9 = .slice (some ⟨g, 0, none⟩) n n) (h84 : slot a 84 = .slice (some ⟨cb, 0, none⟩) n n) (h85 : slot a 85 = .int .i64 (n : Int)) (h18 : slot a 18 = .int .i64 (m : Int)) (h86 : slot a 86 = .int .i64 (k : Int)) (hk : k < n) (hn : n ≤ 1000) (hm : m ≤ 1000) (hh : wr.cell? ⟨cb, k, none⟩ = some (.bool hit)) (hc : wr.cell? ⟨bb, bo + k, none⟩ = some (.slice xa bl xc)) (Q : Exit → Go.Act → World → Prop)
    (hq : ∀ c : Go.Act, c.defers = [] → c.tmps.size = 112 → slot c 0 = .slice (some ⟨bb, bo, none⟩) n bc → slot c 6 = .slice ea EL ec → slot c 9 = .slice (some ⟨g, 0, none⟩) n n → slot c 84 = .slice (some ⟨cb, 0, none⟩) n n → slot c 85 = .int .i64 (n : Int) → slot c 18 = .int .i64 ((m + if hit = true ∧ bl = 8 then 1 else 0 : Nat) : Int) → slot c 86 = .int .i64 ((k : Int) + 1) → Q .normal c wr) : Code.wp Tryd.prog rbB5 Q a wr := by
  have HQ := Lib.hid hq
  rw [frame112 a hsz hd, h0, h6, h9, h84, h85, h18, h86]
  clear hq h0 h6 h9 h84 h85 h18 h86 hsz hd
  conv => arg 2; whnf
  have hki : (k : Int) < n := by omega
  cases hit with
  | false =>
    rw [if_neg (fun h => Bool.noConfusion h.1)] at HQ
    go_wp2
    exact HQ.out _ rfl rfl rfl rfl rfl rfl rfl (by go_num) (by go_num)
  | true =>
    by_cases h8 : bl = 8
    · subst h8
      rw [if_pos ⟨rfl, rfl⟩] at HQ
      go_wp2
      exact HQ.out _ rfl rfl rfl rfl rfl rfl rfl (by go_num) (by go_num)
    · rw [if_neg (fun h => h8 h.2)] at HQ
      have h8i : ¬ ((bl : Int) = 8) := by omega
      go_wp2
      exact HQ.out _ rfl rfl rfl rfl rfl rfl rfl (by go_num) (by go_num)
set_option maxRecDepth 1000000 in
set_option maxHeartbeats 8000000 in
theorem rb5_exit (wr : World) (a : Go.Act) (hsz : a.tmps.size = 112) (hd : a.defers = []) (ba ea : Option Addr) (n bc EL ec g cb : Nat) (m : Nat) (h0 : slot a 0 = .slice ba n bc) (h6 : slot a 6 = .slice ea EL ec) (h9 : slot a 9 = .slice (some ⟨g, 0, none⟩) n n) (h84 : slot a 84 = .slice (some ⟨cb, 0, none⟩) n n) (h85 : slot a 85 = .int .i64 (n : Int)) (h18 : slot a 18 = .int .i64 (m : Int)) (h86 : slot a 86 = .int .i64 (n : Int)) (hn : n ≤ 1000) (Q : Exit → Go.Act → World → Prop)
    (hq : ∀ c : Go.Act, c.defers = [] → c.tmps.size = 112 → slot c 6 = .slice ea EL ec → slot c 9 = .slice (some ⟨g, 0, none⟩) n n → slot c 18 = .int .i64 (m : Int) → Q (.exit 8) c wr) : Code.wp Tryd.prog rbB5 Q a wr := by
  have HQ := Lib.hid hq
  rw [frame112 a hsz hd, h0, h6, h9, h84, h85, h18, h86]
  clear hq h0 h6 h9 h84 h85 h18 h86 hsz hd
  conv => arg 2; whnf
  have hki : ¬ (n : Int) < n := by omega
  go_wp2
  apply HQ.out <;> rfl
set_option maxRecDepth 1000000 in
set_option maxHeartbeats 8000000 in
theorem rb5_loop (w5 : World) (a : Go.Act) (hsz : a.tmps.size = 112) (hd : a.defers = []) (ba ea : Option Addr) (n bc EL ec g cb : Nat) (ls : List (Value × List UInt8)) (bs : List (List UInt8)) (h0 : slot a 0 = .slice ba n bc) (h6 : slot a 6 = .slice ea EL ec) (h9 : slot a 9 = .slice (some ⟨g, 0, none⟩) n n) (h84 : slot a 84 = .slice (some ⟨cb, 0, none⟩) n n) (h85 : slot a 85 = .int .i64 (n : Int)) (h18 : slot a 18 = .int .i64 0) (h86 : slot a 86 = .int .i64 0) (hn : n ≤ 1000) (hln : ls.length = n) (hls : ls.map (·.2) = bs) (hr : RdB (fun _ => False) w5 (.slice ba n bc) ls) (hA : At w5 cb (.cells (boolC (inL n (hitK bs 8))) 4)) (Q : Exit → Go.Act → World → Prop)
    (hq : ∀ c : Go.Act, c.defers = [] → c.tmps.size = 112 → slot c 6 = .slice ea EL ec → slot c 9 = .slice (some ⟨g, 0, none⟩) n n → slot c 18 = .int .i64 (nHit bs n : Int) → Q (.exit 8) c w5) : Code.wp Tryd.prog (Code.loop rbB5) Q a w5 := by
  refine wp_loop (fun a w => w = w5 ∧ a.tmps.size = 112 ∧ a.defers = [] ∧ slot a 0 = .slice ba n bc ∧ slot a 6 = .slice ea EL ec ∧ slot a 9 = .slice (some ⟨g, 0, none⟩) n n ∧ slot a 84 = .slice (some ⟨cb, 0, none⟩) n n ∧ slot a 85 = .int .i64 (n : Int) ∧ ∃ k : Nat, k ≤ n ∧ slot a 18 = .int .i64 (nHit bs k : Int) ∧ slot a 86 = .int .i64 (k : Int)) (fun a _ => n - kN (slot a 86)) ⟨rfl, hsz, hd, h0, h6, h9, h84, h85, 0, by omega, h18, h86⟩ ?_
  clear h0 h6 h9 h84 h85 h18 h86 hsz hd
  rintro a wr ⟨rfl, hsz, hd, h0, h6, h9, h84, h85, k, hk, h18, h86⟩
  by_cases hkn : k < n
  · obtain ⟨x, hx⟩ : ∃ x, ls[k]? = some x := ⟨_, List.getElem?_eq_getElem (by omega)⟩
    obtain ⟨bb, bo, e, hc, hbx⟩ := rdb_cell hr k x hx
    subst e
    obtain ⟨xa, xc, e, -⟩ := id hbx
    rw [e] at hc
    have hxb : bs.getD k [] = x.2 := by rw [← hls, List.getD_eq_getElem?_getD, List.getElem?_map, hx]; rfl
    have hup := nHit_up bs k
    rw [hxb] at hup
    have hle := nHit_le bs k
    refine rb5_round wr a hsz hd ea n bc EL ec g cb bb bo k (nHit bs k) x.2.length xc xa (decide (k ∈ hitK bs 8)) h0 h6 h9 h84 h85 h18 h86 hkn hn (by omega) (bool_cell hA hkn) hc _ ?_
    intro c kd ks q0 q6 q9 q84 q85 q18 q86
    refine ⟨⟨rfl, ks, kd, q0, q6, q9, q84, q85, k + 1, by omega, ?_, by rw [q86]; rfl⟩, ?_⟩
    · rw [q18, hup]
      simp only [decide_eq_true_eq]
    · rw [q86, h86]
      simp [kN]; omega
  · obtain rfl : k = n := by omega
    refine rb5_exit wr a hsz hd ba ea k bc EL ec g cb _ h0 h6 h9 h84 h85 h18 h86 hn _ ?_
    intro c kd ks q6 q9 q18
    exact hq c kd ks q6 q9 q18
end Go.Proofs.YtmohiblgfmdkjaaDoor
