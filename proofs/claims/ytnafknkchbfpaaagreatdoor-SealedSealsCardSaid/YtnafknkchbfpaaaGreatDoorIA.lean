import Derived.Test.YtnafknkchbfpaaaGreatDoorHZ
import Derived.Test.YtnafknkchbfpaaaGreatDoorSStr
set_option maxRecDepth 1000000
set_option maxHeartbeats 8000000
namespace Go.Proofs.YtnafknkchbfpaaaGreatDoor
open Go.RowKit Go.Bl
set_option linter.unusedVariables false
theorem qb5 (a : Go.Act) (hs : a.tmps.size = 26) (hd : a.defers = []) : a = ⟨(qd a 0 :: qd a 1 :: qd a 2 :: qd a 3 :: qd a 4 :: qd a 5 :: qd a 6 :: qd a 7 :: qd a 8 :: qd a 9 :: qd a 10 :: qd a 11 :: qd a 12 :: qd a 13 :: qd a 14 :: qd a 15 :: qd a 16 :: qd a 17 :: qd a 18 :: qd a 19 :: qd a 20 :: qd a 21 :: qd a 22 :: qd a 23 :: qd a 24 :: qd a 25 :: []).toArray, []⟩ := j6 a 26 hs hd
noncomputable def qd9 : Code := ((Tryz.f79.body.bind (qn 6)).getD .skip)
theorem ov6 (w : World) (a : Go.Act) (hsz : a.tmps.size = 26) (q o n lc k rb : Nat) (D1 D2 D3 : Array Value) (hA : At w rb (.cells qD 57)) (hs3 : (Tryz.prog.info? 57).map (·.size) = some D3.size) (hz3 : D3.size = (qD : Array Value).size) (hc3 : D3.all (·.oneCell') = true) (hk1 : k <= n) (hk2 : k <= lc) (hk3 : n <= lc) (hk4 : ¬ lc = k) (hk5 : ¬ k = lc) (hk6 : ¬ (n : Int) < (k : Int)) (hk7 : ¬ (lc : Int) < (n : Int)) (h1 : ∀ p, Fr [rb] w p -> Calls Tryz.prog 79 #[.slice (some ⟨q, o, none⟩) k lc] p fun e w' => e = .returned (.agg D1) /\ Fr [] p w') (h2x : ∀ p, Fr [rb] w p -> Calls Tryz.prog 79 #[.slice (some ⟨q, o + k * 32, none⟩) (n - k) (lc - k)] p fun e w' => e = .returned (.agg D2) /\ Fr [] p w') (h3x : ∀ p, Fr [rb] w p -> Calls Tryz.prog 129 #[.agg D1, .agg D2] p fun e w' => e = .returned (.agg D3) /\ Fr [] p w') (h0 : qd a 0 = .slice (some ⟨q, o, none⟩) n lc) (h3 : qd a 3 = .int .i64 (k : Int)) (h2 : qd a 2 = .pointer (some ⟨rb, 0, none⟩)) (Q : Exit -> Go.Act -> World -> Prop)
  (hQ : ∀ (b : Go.Act) (p : World), b.defers = a.defers -> b.tmps.size = 26 -> (∀ s, s ∉ ([17, 18, 19, 20, 21, 22, 23, 24, 25] : List Nat) -> qd b s = qd a s) -> Fr [rb] w p -> At p rb (.cells D3 57) -> Q .normal b p) : Code.wp Tryz.prog qd9 Q a w := by
 conv => arg 2; whnf
 refine qU qf qf [some 17, some 18, some 19, some 20, some 21, some 22, some 23, some 24, some 25, none] [3, 7, 8, 9] [.rd (.slice (some ⟨q, o, none⟩) n lc) 4, .rd (.int .i64 (k : Int)) 4, .rd (.slice (some ⟨q, o, none⟩) k lc) 4, .st 0, .rd (.slice (some ⟨q, o, none⟩) n lc) 4, .rd (.int .i64 (k : Int)) 4, .rd (.slice (some ⟨q, o + k * 32, none⟩) (n - k) (lc - k)) 4, .st 1, .st 2, .st 3] (fun cj => if cj = 0 then (.agg D1) else if cj = 1 then (.agg D2) else if cj = 2 then (.agg D3) else undef) (fun s g p => Fr [rb] w p /\ (s <= 3 -> At p rb (.cells qD 57)) /\ (3 < s -> At p rb (.cells D3 57))) qf qw xz qf qf qe ?_ ⟨?_, ?_, ?_, ?_, ?_, ?_, ?_, ?_, ?_, ?_, trivial⟩ ?_
 ·intro w1 hw1
  exact ⟨fun _ => undef, ⟨(hw1).weak, fun _ => hA.keep0 hw1, fun hk => absurd hk qe⟩⟩
 ·refine ⟨⟨17, rfl⟩, .inl rfl, fun b p s g hs hlow hS h => ?_⟩
  have e0 := h.eo qe h0
  exact Y0
 ·refine ⟨⟨18, rfl⟩, .inl rfl, fun b p s g hs hlow hS h => ?_⟩
  have e0 := h.eo qe h3
  exact Y0
 ·refine ⟨⟨19, rfl⟩, .inl rfl, fun b p s g hs hlow hS h => ?_⟩
  have e0 := h.er 0 17 qf rfl rfl
  have e1 := h.er 1 18 qf rfl rfl
  refine gw0 rfl rfl ?_
  obtain ⟨ρ, hρ, ec⟩ := evx b
  rw [hρ] at e0 e1 ⊢
  unfold execOp; simp [go_sem, e0, e1, ec, Tryz.underlying107, hk1, hk2, hk3, hk4, hk5]
 ·refine ⟨rfl, .inl rfl, fun b p g hS h => ?_⟩
  have e0 := h.er 2 19 qf rfl rfl
  obtain ⟨hf, m0, m1⟩ := hS
  refine qG _ qw (qq rfl) 79 _ _ rfl #[.slice (some ⟨q, o, none⟩) k lc] Y98 zC ((h1 p hf).mono ?_)
  exact Y41
 ·refine ⟨⟨21, rfl⟩, .inl rfl, fun b p s g hs hlow hS h => ?_⟩
  have e0 := h.eo qe h0
  exact Y0
 ·refine ⟨⟨22, rfl⟩, .inl rfl, fun b p s g hs hlow hS h => ?_⟩
  have e0 := h.eo qe h3
  exact Y0
 ·refine ⟨⟨23, rfl⟩, .inl rfl, fun b p s g hs hlow hS h => ?_⟩
  have e0 := h.er 4 21 qf rfl rfl
  have e1 := h.er 5 22 qf rfl rfl
  refine gw0 rfl rfl ?_
  obtain ⟨ρ, hρ, ec⟩ := evx b
  rw [hρ] at e0 e1 ⊢
  unfold execOp; simp [go_sem, e0, e1, ec, Tryz.underlying107, hk1, hk2, hk3, hk4, hk5, hk6, hk7]
 ·refine ⟨rfl, .inr ⟨3, rfl, by kernel_rfl⟩, fun b p g hS h => ?_⟩
  have e0 := h.er 6 23 qf rfl rfl
  obtain ⟨hf, m0, m1⟩ := hS
  refine qG _ qw (qq rfl) 79 _ _ rfl #[.slice (some ⟨q, o + k * 32, none⟩) (n - k) (lc - k)] Y98 zC ((h2x p hf).mono ?_)
  exact Y41
 ·refine ⟨rfl, .inr ⟨7, rfl, by kernel_rfl⟩, fun b p g hS h => ?_⟩
  have e0 := (show b.eval (.tmp 20) = .agg D1 from h.st 3 _ 20 qf rfl rfl)
  have e1 := (show b.eval (.tmp 24) = .agg D2 from h.st 7 _ 24 qf rfl rfl)
  obtain ⟨hf, m0, m1⟩ := hS
  refine qG _ qw (qq rfl) 129 _ _ rfl #[.agg D1, .agg D2] Y99 zC ((h3x p hf).mono ?_)
  exact Y41
 ·refine ⟨rfl, .inr ⟨8, rfl, by kernel_rfl⟩, fun b p g hS h => ?_⟩
  have e0 := h.eo qe h2
  have e1 := (show b.eval (.tmp 25) = .agg D3 from h.st 8 _ 25 qf rfl rfl)
  obtain ⟨hf, m0, m1⟩ := hS
  have hp := m0 qe
  refine jf (K := fun _ p => Fr [rb] w p /\ At p rb (.cells D3 57)) (fun v p hv => ⟨⟨hv.1, fun hk => absurd hk qe, fun _ => hv.2⟩, .inl rfl⟩) ?_
  refine qW (K := fun _ p => Fr [rb] w p /\ At p rb (.cells D3 57)) _ qw ?_
  refine ql (.tmp 2) (.tmp 25) rfl rfl D3 e0 e1 hs3 hp hz3 hc3 ?_
  intro p1 f1 a1 _
  exact ⟨rfl, rfl, hf.trans f1, a1⟩
 ·exact Y10
theorem ZU {s : Nat} : ∀ (rs : List (List Value)) (k : Nat), (∀ r ∈ rs, r.length = s) -> (rs.take k).flatten = rs.flatten.take (k * s)
 | [], k, _ => by simp
 | r :: rs, 0, _ => by simp
 | r :: rs, k + 1, h => by
  have hr := h r List.mem_cons_self
  rw [List.take_succ_cons, List.flatten_cons, List.flatten_cons, ZU rs k (fun x hx => h x (List.mem_cons_of_mem _ hx)), List.take_append, hr, show (k + 1) * s - s = k * s by rw [Nat.add_mul]; omega, List.take_of_length_le (l := r) (by rw [hr, Nat.add_mul]; omega)]
theorem ZY {s : Nat} : ∀ (rs : List (List Value)) (k : Nat), (∀ r ∈ rs, r.length = s) -> (rs.drop k).flatten = rs.flatten.drop (k * s)
 | [], k, _ => by simp
 | r :: rs, 0, _ => by simp
 | r :: rs, k + 1, h => by
  have hr := h r List.mem_cons_self
  rw [List.drop_succ_cons, List.flatten_cons, ZY rs k (fun x hx => h x (List.mem_cons_of_mem _ hx)), List.drop_append, hr, show (k + 1) * s - s = k * s by rw [Nat.add_mul]; omega, List.drop_of_length_le (l := r) (by rw [hr, Nat.add_mul]; omega), List.nil_append]
theorem RdK.take {A : Nat -> Prop} {s : Nat} {w : World} {a : Option Addr} {n cap : Nat} {rs : List (List Value)} (h : RdK A s w (.slice a n cap) rs) (k : Nat) (hk : k <= n) : RdK A s w (.slice a k cap) (rs.take k) := by
 obtain ⟨⟨a', cap', h1, h2, h3, h4⟩, h5⟩ := h
 cases h1
 exact ⟨⟨a, cap, by rw [List.length_take]; congr 1; omega, by rw [List.length_take]; omega, h3, by rw [ZU rs k h5]; exact h4.take _⟩, fun r hr => h5 r (List.mem_of_mem_take hr)⟩
theorem RdK.drop {A : Nat -> Prop} {s : Nat} {w : World} {q o : Nat} {n cap : Nat} {rs : List (List Value)} (h : RdK A s w (.slice (some ⟨q, o, none⟩) n cap) rs) (k : Nat) (hk : k <= n) : RdK A s w (.slice (some ⟨q, o + k * s, none⟩) (n - k) (cap - k)) (rs.drop k) := by
 obtain ⟨⟨a', cap', h1, h2, h3, h4⟩, h5⟩ := h
 cases h1
 exact ⟨⟨_, cap - k, by rw [List.length_drop], by rw [List.length_drop]; omega, by omega, by rw [ZY rs k h5]; exact h4.drop _⟩, fun r hr => h5 r (List.mem_of_mem_drop hr)⟩
theorem qbx {s : Nat} {w : World} {v : Value} {rs : List (List Value)} (h : RdK (fun _ => False) s w v rs) : RdK (fun b => w.heap.size <= b) s w v rs := by
 obtain ⟨⟨a, cap, h1, h2, h3, h4⟩, h5⟩ := h
 exact ⟨⟨a, cap, h1, h2, h3, Jo h4⟩, h5⟩
theorem qbm {A : Nat -> Prop} {s : Nat} {w w' : World} {S : List Nat} {v : Value} {rs : List (List Value)} (h : RdK A s w v rs) (hf : Fr S w w') (hS : ∀ b ∈ S, A b) : RdK (fun _ => False) s w' v rs := by
 obtain ⟨⟨a, cap, h1, h2, h3, h4⟩, h5⟩ := h
 exact ⟨⟨a, cap, h1, h2, h3, h4.mono hf hS (fun _ h => h.elim)⟩, h5⟩
theorem qaq (ds : List Dg) (k : Nat) : (dgK ds).take k = dgK (ds.take k) := List.map_take.symm
theorem qan (ds : List Dg) (k : Nat) : (dgK ds).drop k = dgK (ds.drop k) := List.map_drop.symm
theorem yv : ∀ (n : Nat) (ds : List Dg), ds.length = n -> (∀ d ∈ ds, d.length = 32) -> 1 <= n -> (j0 ds).length = 32
 | n, ds, hn, hd, h1 => by
  by_cases h : n = 1
  ·subst h
   obtain ⟨d, rfl⟩ := List.length_eq_one_iff.1 hn
   exact hd d List.mem_cons_self
  ·rw [xG n ds hn Y95]
   exact yr _ _
theorem WS : ∀ (n : Nat) (w0 : World) (v : Value) (ds : List Dg), ds.length = n -> RdK (fun _ => False) 32 w0 v (dgK ds) -> (∀ d ∈ ds, d.length = 32) -> n <= 100000 -> RG w0 -> 1 <= n ->
  Calls Tryz.prog 79 #[v] w0 fun e w' => e = .returned (.agg ((j0 ds).map u8v).toArray) /\ Fr [] w0 w' := by
 intro n
 induction n using Nat.strongRecOn with
 | ind n IH =>
  intro w0 v ds hdl hR hd hn hRG h1
  obtain ⟨⟨a, cap, rfl, hc1, hc2, h4⟩, h5⟩ := id hR
  rw [j4, hdl] at hR hc1 ⊢
  unfold maxLen at hc2
  obtain ⟨Z, hZ⟩ := exq (w0.heap.size)
  obtain ⟨w1, hw1⟩ := exq (w0.alloc (.cells qD 57))
  have F1 : Fr [] w0 w1 := by rw [<- hw1]; exact Fr.alloc _ _
  have HA := Hdq (show At w1 Z (.cells qD 57) by rw [<- hw1]; exact At.new hZ.symm)
  have HF := Hdq F1
  have HZ := Hdq hZ
  have HR := Hdq hR
  have HG := Hdq hRG
  have HOV := Hdq (yv n ds hdl hd h1)
  obtain ⟨q, o, rfl, -, -⟩ := h4.some_of (by rw [Qe 32 _ h5, j4, hdl]; omega)
  clear h4 h5
  by_cases hn1 : n = 1
  ·subst hn1
   obtain ⟨d, rfl⟩ := List.length_eq_one_iff.1 hdl
   have HDD := Hdq (show j0 [d] = d from rfl)
   have hdl2 : d.length = 32 := hd d List.mem_cons_self
   have HRG := Hdq (show w1.rangeAt q o (d.map u8v) from by
    obtain ⟨b', off', e, -, h⟩ := (hR.keep0 F1).range qe 0 (d.map u8v) rfl
    cases e
    simpa using h)
   have HDL := Hdq (zQ d hdl2)
   have HSZ := Hdq (show (Tryz.prog.info? 57).map (·.size) = some (d.map u8v).toArray.size by rw [List.size_toArray]; exact zQ d hdl2)
   have HD2 := Hdq hdl2
   clear hR hd hdl hRG F1 IH
   go_enter Tryz.func79, Tryz.ntmps79
   go_wp2_with (first | (refine qu (.tmp 12) rfl rfl q o (d.map u8v) rfl HRG.out Tryz.underlying57 rfl HDL.out ?_) | (refine ql (.tmp 2) (.tmp 13) rfl rfl (d.map u8v).toArray rfl rfl HSZ.out HA.out (by rw [List.size_toArray, List.length_map, HD2.out]; rfl) (jv _) ?_))
   clear hw1 hZ
   intro w9 f9 a9 s9
   have HF9 := Hdq (HF.out.then f9 (fun z hz => .inr vH))
   have HA9 := Hdq a9
   clear f9 a9 s9
   go_wp2
   refine bodyPost_ret (qR rfl _ _ Z _ rfl (qr HA9.out) Tryz.underlying57 rfl HDL.out) rfl ?_
   exact ⟨by rw [HDD.out], HF9.out⟩
  ·have h2 : 2 <= n := by omega
   have hb := ue n h2
   obtain ⟨k, hk⟩ := exq (ze n)
   have HSP := Hdq (fun w => Xi w n h2 Y95)
   have HOS := Hdq (xG n ds hdl h2)
   rw [hk] at hb HSP HOS
   have hk1 : k < n := hb.1
   have hk2 : 1 <= k := hb.2.2
   have hq1 := RdK.take hR k Y95
   have hq2 := RdK.drop hR k Y95
   rw [qaq] at hq1
   rw [qan] at hq2
   have LOW : ∀ (v : Value) (rs : List (List Value)), RdK (fun _ => False) 32 w0 v rs -> ∀ p, Fr [Z] w1 p -> RdK (fun _ => False) 32 p v rs := fun v rs h p hp => qbm (qbx h) ((F1.weak (S := [Z])).trans hp) (fun b hb => by simp at hb; omega)
   have hRGp : ∀ p, Fr [Z] w1 p -> RG p := fun p hp => (hRG.keep F1).keepS hp (fun b hb => by simp at hb; have := hRG.g; omega)
   have HX1 := Hdq (fun p (hp : Fr [Z] w1 p) => IH k hk1 p (.slice (some ⟨q, o, none⟩) k cap) (ds.take k) JP (LOW _ _ hq1 p hp) (fun d h => hd d (List.mem_of_mem_take h)) Y95 (hRGp p hp) hk2)
   have HX2 := Hdq (fun p (hp : Fr [Z] w1 p) => IH (n - k) Y95 p (.slice (some ⟨q, o + k * 32, none⟩) (n - k) (cap - k)) (ds.drop k) KP (LOW _ _ hq2 p hp) (fun d h => hd d (List.mem_of_mem_drop h)) Y95 (hRGp p hp) Y95)
   have HX3 := Hdq (fun p (hp : Fr [Z] w1 p) => Ks p (j0 (ds.take k)) (j0 (ds.drop k)) (yv k _ JP (fun d h => hd d (List.mem_of_mem_take h)) hk2) (yv (n - k) _ KP (fun d h => hd d (List.mem_of_mem_drop h)) Y95) (hRGp p hp))
   have hni : ¬ (n : Int) = 0 := by omega
   have hni1 : ¬ (n : Int) = 1 := by omega
   have HKN := Hdq (And.intro hk1 (And.intro hk2 hc1))
   clear hR hd hdl hRG F1 IH hq1 hq2 LOW hRGp hb hk hk1 hk2 hn1
   go_enter Tryz.func79, Tryz.ntmps79
   go_wp2_with (go_at_call 128; fail)
   clear hw1 hZ
   refine (HSP.out w1).mono ?_
   rintro e w2 ⟨rfl, rfl⟩
   go_wp2
   refine ov6 w1 _ rfl q o n cap k Z _ _ ((j0 ds).map u8v).toArray HA.out (by rw [List.size_toArray]; exact zQ _ HOV.out) (by rw [List.size_toArray, List.length_map, HOV.out]; rfl) (jv _) XB XB XB XB XB XB XB HX1.out HX2.out (fun p hp => by rw [HOS.out]; exact HX3.out p hp) rfl rfl rfl _ ?_
   intro b p hd hs ho hf hA
   rw [qb5 b hs hd, show qd b 2 = .pointer (some ⟨Z, 0, none⟩) from ho 2 qe]
   have HF9 := Hdq (HF.out.then hf (fun z hz => .inr vH))
   have HA9 := Hdq hA
   clear hf ho hs hd hA
   exact Y88
theorem KT (w0 : World) (v : Value) (ls : List (Value × List UInt8)) (hR : RdB (fun _ => False) w0 v ls) (hl : ∀ x ∈ ls, x.2.length <= 10000000) (hn : ls.length <= 100000) (h1 : 1 <= ls.length) (hS : RG w0) :
  Calls Tryz.prog 30 #[v] w0 fun e w' => e = .returned (.agg ((j0 (ls.map fun x => zg x.2)).map u8v).toArray) /\ Fr [] w0 w' := by
 obtain ⟨Z, hZ⟩ := exq (w0.heap.size)
 obtain ⟨w1, hw1⟩ := exq (w0.alloc (.cells qD 57))
 have F1 : Fr [] w0 w1 := by rw [<- hw1]; exact Fr.alloc _ _
 have HA := Hdq (show At w1 Z (.cells qD 57) by rw [<- hw1]; exact At.new hZ.symm)
 have HF := Hdq F1
 have HZ := Hdq hZ
 have HC := Hdq (Va w1 v ls (hR.keep F1 qg) hl hn (hS.keep F1))
 have HS := Hdq (hS.keep F1)
 have H32 := Hdq (show ∀ d ∈ ls.map (fun x => zg x.2), d.length = 32 from fun d hd => by obtain ⟨x, -, rfl⟩ := List.mem_map.1 hd; rfl)
 have HN := Hdq (And.intro h1 hn)
 obtain ⟨ds, hds⟩ := exq (ls.map (fun x => zg x.2))
 have HDL := Hdq (show ds.length = ls.length by rw [<- hds, List.length_map])
 rw [hds] at HC H32 ⊢
 have HOV := Hdq (yv ds.length ds rfl H32.out (by rw [HDL.out]; exact h1))
 clear hR hl hn h1 hS F1 hds
 go_enter Tryz.func30, Tryz.ntmps30
 go_wp2_with (go_at_call 80; fail)
 clear hw1 hZ
 refine HC.out.mono ?_
 rintro e w2 ⟨u, rfl, hu, hf⟩
 have HR2 := Hdq (hu.rd (A := fun _ => False) (fun _ h => h.elim))
 have HF2 := Hdq (HF.out.trans hf)
 have HA2 := Hdq (HA.out.keep0 hf)
 have HS2 := Hdq (HS.out.keep hf)
 clear hu hf
 go_wp2_with (go_at_call 79; fail)
 refine (WS ds.length w2 u ds rfl HR2.out H32.out (by rw [HDL.out]; exact HN.out.2) HS2.out (by rw [HDL.out]; exact HN.out.1)).mono ?_
 rintro e w3 ⟨rfl, hf⟩
 have HF3 := Hdq (HF2.out.trans hf)
 have HA3 := Hdq (HA2.out.keep0 hf)
 have HSZ := Hdq (show (Tryz.prog.info? 57).map (·.size) = some ((j0 ds).map u8v).toArray.size by rw [List.size_toArray]; exact zQ _ HOV.out)
 clear hf
 go_wp2_with (refine ql (.tmp 2) (.tmp 5) rfl rfl ((j0 ds).map u8v).toArray rfl rfl HSZ.out HA3.out (by rw [List.size_toArray, List.length_map, HOV.out]; rfl) (jv _) ?_)
 intro w9 f9 a9 s9
 have HF9 := Hdq (HF3.out.then f9 (fun z hz => .inr vH))
 have HA9 := Hdq a9
 clear f9 a9 s9
 exact Y88
end Go.Proofs.YtnafknkchbfpaaaGreatDoor
