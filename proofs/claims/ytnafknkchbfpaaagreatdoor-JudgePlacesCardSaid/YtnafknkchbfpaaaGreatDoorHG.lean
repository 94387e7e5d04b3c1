import Derived.Test.YtnafknkchbfpaaaGreatDoorHF
set_option linter.unusedVariables false
set_option linter.unusedSimpArgs false
set_option maxRecDepth 1000000
set_option maxHeartbeats 8000000
namespace Go.Proofs.YtnafknkchbfpaaaGreatDoor
open Go.RowKit Go.Bl
theorem blk_le {p : Par} (h : jh p 0) : 0 <= blk p.size /\ blk p.size <= 510 := by
 have h1 : 0 <= p.size /\ p.size <= 2000 := h
 have hn := uG p.size h1.2
 have hs := yw _ (zW _ hn.1 hn.2) (qO (xx p.size)).length (Nat.le_refl _)
 rw [List.take_length] at hs
 exact hs
theorem JU {p : Par} (h : chk p = 0) : jh p 0 /\ jh p 1 := by
 unfold chk at h
 by_cases h0 : jh p 0
 ·by_cases h1 : jh p 1
  ·exact ⟨h0, h1⟩
  ·simp [h0, h1] at h
 ·simp [h0] at h
theorem K8 (E : Nat -> Addr) (B : Nat) (w0 : World) (p : Par) (hE : zJ all20 E B w0) :
  Calls Tryz.prog 82 #[.agg #[.int .i64 p.size, .int .i64 p.sent, .int .i64 p.spots, .int .i64 p.per, .int .i64 p.pat, .int .i64 p.ret]] w0 fun e w' => ∃ n ev, e = .returned (.tuple #[.int .i64 n, ev]) /\ xL E w' (chk p) ev /\ (chk p = 0 -> n = blk p.size) /\ (chk p ≠ 0 -> n = 0) /\ Fr [] w0 w' := by
 have F1 : Fr [] w0 (w0.alloc (.cells #[.int .i64 p.size, .int .i64 p.sent, .int .i64 p.spots, .int .i64 p.per, .int .i64 p.pat, .int .i64 p.ret] 24)) := Fr.alloc _ _
 have HA := Hdq (show At (w0.alloc (.cells #[.int .i64 p.size, .int .i64 p.sent, .int .i64 p.spots, .int .i64 p.per, .int .i64 p.pat, .int .i64 p.ret] 24)) w0.heap.size (.cells #[.int .i64 p.size, .int .i64 p.sent, .int .i64 p.spots, .int .i64 p.per, .int .i64 p.pat, .int .i64 p.ret] 24) from At.new rfl)
 have HC := Hdq (L9 all20 E B (w0.alloc (.cells #[.int .i64 p.size, .int .i64 p.sent, .int .i64 p.spots, .int .i64 p.per, .int .i64 p.pat, .int .i64 p.ret] 24)) (hE.keep0 F1) qa qa qa p)
 have HF1 := Hdq F1
 clear hE F1
 go_enter Tryz.func82, Tryz.ntmps82
 go_wp2_with (go_at_call 72; fail)
 refine HC.out.mono ?_
 rintro e w2 ⟨v, rfl, hv, hf⟩
 have HF2 := Hdq (HF1.out.trans hf)
 have c0 : w2.cell? ⟨w0.heap.size, 0, none⟩ = some (.int .i64 p.size) := (HA.out.keep0 hf).cell 0
 by_cases h0 : chk p = 0
 ·rw [h0] at hv
  have := hv.nil_iff
  subst this
  have ho := (JU h0).1
  have HC2 := Hdq (total_ok w2 p.size ho.1 ho.2)
  clear hv hf HF1 HC
  go_wp2_with (go_at_call 118; fail)
  refine HC2.out.mono ?_
  rintro e w3 ⟨rfl, hf⟩
  have HF3 := Hdq (HF2.out.trans hf)
  obtain ⟨t, ht⟩ := exq (v7 (qO (xx p.size)))
  rw [ht]
  clear hf
  go_wp2
  go_ret2
  exact ⟨_, _, rfl, by rw [h0]; exact .nil, fun _ => by rw [<- ht]; rfl, fun h => absurd h0 h, HF3.out⟩
 ·have HV := Hdq hv
  obtain ⟨t, a, rfl⟩ := hv.some_of h0
  clear hv hf HF1 HC
  go_wp2
  go_ret2
  exact ⟨_, _, rfl, HV.out, fun h => absurd h h0, fun _ => rfl, HF2.out⟩
theorem J9 (E : Nat -> Addr) (B : Nat) (w0 : World) (p : Par) (hE : zJ all20 E B w0) :
  Calls Tryz.prog 32 #[.agg #[.int .i64 p.size, .int .i64 p.sent, .int .i64 p.spots, .int .i64 p.per, .int .i64 p.pat, .int .i64 p.ret]] w0 fun e w' => ∃ n ev, e = .returned (.tuple #[.int .i64 n, ev]) /\ xL E w' (chk p) ev /\ (chk p = 0 -> n = blk p.size + p.sent) /\ (chk p ≠ 0 -> n = 0) /\ Fr [] w0 w' := by
 have F1 : Fr [] w0 (w0.alloc (.cells #[.int .i64 p.size, .int .i64 p.sent, .int .i64 p.spots, .int .i64 p.per, .int .i64 p.pat, .int .i64 p.ret] 24)) := Fr.alloc _ _
 have HA := Hdq (show At (w0.alloc (.cells #[.int .i64 p.size, .int .i64 p.sent, .int .i64 p.spots, .int .i64 p.per, .int .i64 p.pat, .int .i64 p.ret] 24)) w0.heap.size (.cells #[.int .i64 p.size, .int .i64 p.sent, .int .i64 p.spots, .int .i64 p.per, .int .i64 p.pat, .int .i64 p.ret] 24) from At.new rfl)
 have HC := Hdq (K8 E B (w0.alloc (.cells #[.int .i64 p.size, .int .i64 p.sent, .int .i64 p.spots, .int .i64 p.per, .int .i64 p.pat, .int .i64 p.ret] 24)) p (hE.keep0 F1))
 have HF1 := Hdq F1
 clear hE F1
 go_enter Tryz.func32, Tryz.ntmps32
 go_wp2_with (go_at_call 82; fail)
 refine HC.out.mono ?_
 rintro e w2 ⟨n, v, rfl, hv, hn0, hn1, hf⟩
 have HF2 := Hdq (HF1.out.trans hf)
 have c0 : w2.cell? ⟨w0.heap.size, 1, none⟩ = some (.int .i64 p.sent) := (HA.out.keep0 hf).cell 1
 by_cases h0 : chk p = 0
 ·rw [h0] at hv
  have := hv.nil_iff
  subst this
  have hn := hn0 h0
  have ho := JU h0
  have hb := blk_le ho.1
  have hw : IntKind.i64.wrap (n + p.sent) = n + p.sent := by
   have := ho.2
   simp only [jh] at this
   rw [IntKind.wrap_i64]; omega
  have HW := Hdq hw
  clear hv hf HF1 HC hn0 hn1 hw
  go_wp2
  go_ret2
  refine ⟨_, _, rfl, by rw [h0]; exact .nil, fun _ => by have h1 := hb; have h2 : 0 <= p.sent /\ p.sent <= 8 := ho.2; unfold wrap64; omega, fun h => absurd h0 h, HF2.out⟩
 ·have HV := Hdq hv
  obtain ⟨t, a, rfl⟩ := hv.some_of h0
  clear hv hf HF1 HC hn0 hn1
  go_wp2
  go_ret2
  exact ⟨_, _, rfl, HV.out, fun h => absurd h h0, fun _ => rfl, HF2.out⟩
noncomputable def qfC : Code := ((Tryz.f64.body.bind (qr 10)).getD .skip)
def qae (kq ob pb : Nat) (x0 x1 x2 x3 x4 : Option Addr) (n0 y0 n1 y1 n2 y2 n3 y3 n4 y4 : Nat) (N S D : Int) (kT : List UInt8) (k : Nat) (b : Go.Act) (p : World) : Prop :=
 match k with
 | 0 => slot b 39 = .agg #[.slice x0 n0 y0, .slice x1 n1 y1, .slice x2 n2 y2, .slice x3 n3 y3, .slice x4 n4 y4]
 | 1 => slot b 40 = .pointer (some ⟨ob, 0, none⟩)
 | 2 => slot b 41 = .pointer (some ⟨kq, 3, none⟩)
 | 3 => slot b 42 = .slice x3 n3 y3
 | 4 => ∃ kb, slot b 43 = .pointer (some ⟨kb, 0, none⟩) /\ ja p kb kT
 | 5 => slot b 44 = .int .i64 N
 | 6 => slot b 45 = .pointer (some ⟨pb, 1, none⟩)
 | 7 => slot b 46 = .int .i64 S
 | 8 => slot b 47 = .int .i64 D
 | 9 => slot b 48 = .int .i64 N
 | 10 => slot b 49 = .agg #[.slice x0 n0 y0, .slice x1 n1 y1, .slice x2 n2 y2, .slice x3 n3 y3, .slice x4 n4 y4, .pointer (some ⟨ob, 0, none⟩), slot b 43, .int .i64 D, .int .i64 N] /\ ∃ kb, slot b 43 = .pointer (some ⟨kb, 0, none⟩) /\ ja p kb kT
 | 11 => ∃ mb kb, slot b 50 = .pointer (some ⟨mb, 0, none⟩) /\ At p mb (.cells #[.slice x0 n0 y0, .slice x1 n1 y1, .slice x2 n2 y2, .slice x3 n3 y3, .slice x4 n4 y4, .pointer (some ⟨ob, 0, none⟩), .pointer (some ⟨kb, 0, none⟩), .int .i64 D, .int .i64 N] 136) /\ ja p kb kT
 | 12 => ∃ mb kb, slot b 6 = .pointer (some ⟨mb, 0, none⟩) /\ At p mb (.cells #[.slice x0 n0 y0, .slice x1 n1 y1, .slice x2 n2 y2, .slice x3 n3 y3, .slice x4 n4 y4, .pointer (some ⟨ob, 0, none⟩), .pointer (some ⟨kb, 0, none⟩), .int .i64 D, .int .i64 N] 136) /\ ja p kb kT
 | 13 => slot b 7 = .nilIface
 | 14 => At p kq (.cells #[.slice x0 n0 y0, .slice x1 n1 y1, .slice x2 n2 y2, .slice x3 n3 y3, .slice x4 n4 y4] 133)
 | 15 => ∃ c, At p pb (.cells c 24) /\ c[1]? = some (.int .i64 S)
 | 16 => Bs (fun b => p.heap.size <= b) p (.slice x3 n3 y3) kT
 | _ => True
def qew (kq ob pb : Nat) (x0 x1 x2 x3 x4 : Option Addr) (n0 y0 n1 y1 n2 y2 n3 y3 n4 y4 : Nat) (N S D : Int) (kT : List UInt8) (k : Nat) (b : Go.Act) (p : World) : Prop :=
 match k with
 | _ => True
theorem XW (kq ob pb : Nat) (x0 x1 x2 x3 x4 : Option Addr) (n0 y0 n1 y1 n2 y2 n3 y3 n4 y4 : Nat) (N S D : Int) (kT : List UInt8) : ∀ (k : Nat) (b : Go.Act) (p p' : World), Fr [] p p' -> qae kq ob pb x0 x1 x2 x3 x4 n0 y0 n1 y1 n2 y2 n3 y3 n4 y4 N S D kT k b p -> qae kq ob pb x0 x1 x2 x3 x4 n0 y0 n1 y1 n2 y2 n3 y3 n4 y4 N S D kT k b p'
 | 0, b, p, p', hf, h => h
 | 1, b, p, p', hf, h => h
 | 2, b, p, p', hf, h => h
 | 3, b, p, p', hf, h => h
 | 4, b, p, p', hf, h => let ⟨kb, h1, h2⟩ := h; ⟨kb, h1, h2.keep hf⟩
 | 5, b, p, p', hf, h => h
 | 6, b, p, p', hf, h => h
 | 7, b, p, p', hf, h => h
 | 8, b, p, p', hf, h => h
 | 9, b, p, p', hf, h => h
 | 10, b, p, p', hf, h => ⟨h.1, let ⟨kb, h1, h2⟩ := h.2; ⟨kb, h1, h2.keep hf⟩⟩
 | 11, b, p, p', hf, h => let ⟨mb, kb, h1, h2, h3⟩ := h; ⟨mb, kb, h1, h2.keep0 hf, h3.keep hf⟩
 | 12, b, p, p', hf, h => let ⟨mb, kb, h1, h2, h3⟩ := h; ⟨mb, kb, h1, h2.keep0 hf, h3.keep hf⟩
 | 13, b, p, p', hf, h => h
 | 14, b, p, p', hf, h => h.keep0 hf
 | 15, b, p, p', hf, h => let ⟨c, h1, h2⟩ := h; ⟨c, h1.keep0 hf, h2⟩
 | 16, b, p, p', hf, h => h.mono hf qc (fun b hb => .inl qbO)
 | k + 17, b, p, p', hf, h => trivial
theorem UU (kq ob pb : Nat) (x0 x1 x2 x3 x4 : Option Addr) (n0 y0 n1 y1 n2 y2 n3 y3 n4 y4 : Nat) (N S D : Int) (kT : List UInt8) : ∀ (k : Nat) (b : Go.Act) (p p' : World), Fr [] p p' -> qew kq ob pb x0 x1 x2 x3 x4 n0 y0 n1 y1 n2 y2 n3 y3 n4 y4 N S D kT k b p -> qew kq ob pb x0 x1 x2 x3 x4 n0 y0 n1 y1 n2 y2 n3 y3 n4 y4 N S D kT k b p'
 | k, b, p, p', hf, h => trivial
theorem sf1 (kq ob pb : Nat) (x0 x1 x2 x3 x4 : Option Addr) (n0 y0 n1 y1 n2 y2 n3 y3 n4 y4 : Nat) (N S D : Int) (kT : List UInt8) (w : World) (a : Go.Act) (hsz : a.tmps.size = 51) (h10 : slot a 10 = .pointer (some ⟨kq, 0, none⟩)) (h11 : slot a 11 = .pointer (some ⟨ob, 0, none⟩)) (h8 : slot a 8 = .int .i64 N) (h5 : slot a 5 = .pointer (some ⟨pb, 0, none⟩)) (hKq : At w kq (.cells #[.slice x0 n0 y0, .slice x1 n1 y1, .slice x2 n2 y2, .slice x3 n3 y3, .slice x4 n4 y4] 133)) (hPb : ∃ c, At w pb (.cells c 24) /\ c[1]? = some (.int .i64 S)) (hB3 : Bs (fun b => w.heap.size <= b) w (.slice x3 n3 y3) kT) (hlT : kT.length <= 100000000) (hS : SG w) (hD1 : IntKind.i64.wrap (N - S) = D) (hD2 : wrap64 (N - S) = D) (Q : Exit -> Go.Act -> World -> Prop)
  (hQ : ∀ (b : Go.Act) (p : World), b.defers = a.defers -> b.tmps.size = 51 -> (∀ s, some s ∉ ([some 39, some 40, some 41, some 42, some 43, some 44, some 45, some 46, some 47, some 48, some 49, some 50, some 6, some 7] : List (Option Nat)) -> slot b s = slot a s) -> Fr [] w p -> (∃ mb kb, slot b 6 = .pointer (some ⟨mb, 0, none⟩) /\ At p mb (.cells #[.slice x0 n0 y0, .slice x1 n1 y1, .slice x2 n2 y2, .slice x3 n3 y3, .slice x4 n4 y4, .pointer (some ⟨ob, 0, none⟩), .pointer (some ⟨kb, 0, none⟩), .int .i64 D, .int .i64 N] 136) /\ ja p kb kT) -> slot b 7 = .nilIface -> Q .normal b p) : Code.wp Tryz.prog qfC Q a w := by
 conv => arg 2; whnf
 refine jc [] (qae kq ob pb x0 x1 x2 x3 x4 n0 y0 n1 y1 n2 y2 n3 y3 n4 y4 N S D kT) (qew kq ob pb x0 x1 x2 x3 x4 n0 y0 n1 y1 n2 y2 n3 y3 n4 y4 N S D kT) [some 39, some 40, some 41, some 42, some 43, some 44, some 45, some 46, some 47, some 48, some 49, some 50, some 6, some 7] [[39], [40], [41], [42], [43], [44], [45], [46], [47], [48], [43, 49], [50], [6], [7], [], [], []] [] [] [] qb qb qb qb qb qa ?_ ?_ ?_ ?_ ?_
 ·intro w1 hw1 k hk1 hk2
  have hk3 : 14 <= k := hk1
  have hk4 : k < 17 := hk2
  clear hk1 hk2
  rcases (show k = 14 ∨ k = 15 ∨ k = 16 by omega) with rfl | rfl | rfl
  ·exact hKq.keep0 hw1
  ·exact hPb.elim fun c h => ⟨c, h.1.keep0 hw1, h.2⟩
  ·exact hB3.mono hw1 qc (fun b hb => .inl (by have := hw1.size; omega))
 ·intro k b b' p hs h
  match k with
  | 0 => show slot b' 39 = .agg #[.slice x0 n0 y0, .slice x1 n1 y1, .slice x2 n2 y2, .slice x3 n3 y3, .slice x4 n4 y4]; rw [<- hs 39 qa]; exact h
  | 1 => show slot b' 40 = .pointer (some ⟨ob, 0, none⟩); rw [<- hs 40 qa]; exact h
  | 2 => show slot b' 41 = .pointer (some ⟨kq, 3, none⟩); rw [<- hs 41 qa]; exact h
  | 3 => show slot b' 42 = .slice x3 n3 y3; rw [<- hs 42 qa]; exact h
  | 4 => show ∃ kb, slot b' 43 = .pointer (some ⟨kb, 0, none⟩) /\ ja p kb kT; rw [<- hs 43 qa]; exact h
  | 5 => show slot b' 44 = .int .i64 N; rw [<- hs 44 qa]; exact h
  | 6 => show slot b' 45 = .pointer (some ⟨pb, 1, none⟩); rw [<- hs 45 qa]; exact h
  | 7 => show slot b' 46 = .int .i64 S; rw [<- hs 46 qa]; exact h
  | 8 => show slot b' 47 = .int .i64 D; rw [<- hs 47 qa]; exact h
  | 9 => show slot b' 48 = .int .i64 N; rw [<- hs 48 qa]; exact h
  | 10 => show slot b' 49 = .agg #[.slice x0 n0 y0, .slice x1 n1 y1, .slice x2 n2 y2, .slice x3 n3 y3, .slice x4 n4 y4, .pointer (some ⟨ob, 0, none⟩), slot b' 43, .int .i64 D, .int .i64 N] /\ ∃ kb, slot b' 43 = .pointer (some ⟨kb, 0, none⟩) /\ ja p kb kT; rw [<- hs 43 qa, <- hs 49 qa]; exact h
  | 11 => show ∃ mb kb, slot b' 50 = .pointer (some ⟨mb, 0, none⟩) /\ At p mb (.cells #[.slice x0 n0 y0, .slice x1 n1 y1, .slice x2 n2 y2, .slice x3 n3 y3, .slice x4 n4 y4, .pointer (some ⟨ob, 0, none⟩), .pointer (some ⟨kb, 0, none⟩), .int .i64 D, .int .i64 N] 136) /\ ja p kb kT; rw [<- hs 50 qa]; exact h
  | 12 => show ∃ mb kb, slot b' 6 = .pointer (some ⟨mb, 0, none⟩) /\ At p mb (.cells #[.slice x0 n0 y0, .slice x1 n1 y1, .slice x2 n2 y2, .slice x3 n3 y3, .slice x4 n4 y4, .pointer (some ⟨ob, 0, none⟩), .pointer (some ⟨kb, 0, none⟩), .int .i64 D, .int .i64 N] 136) /\ ja p kb kT; rw [<- hs 6 qa]; exact h
  | 13 => show slot b' 7 = .nilIface; rw [<- hs 7 qa]; exact h
  | 14 => show At p kq (.cells #[.slice x0 n0 y0, .slice x1 n1 y1, .slice x2 n2 y2, .slice x3 n3 y3, .slice x4 n4 y4] 133); exact h
  | 15 => show ∃ c, At p pb (.cells c 24) /\ c[1]? = some (.int .i64 S); exact h
  | 16 => show Bs (fun b => p.heap.size <= b) p (.slice x3 n3 y3) kT; exact h
  | k + 17 => trivial
 ·intro k b b' p hs h
  match k with
  | k => trivial
 ·intro i hi dn b p hs ho hf hF hG hdn hdc hr
  have hi9 : i < 14 := hi
  clear hi
  match i, hi9 with
  | 0, _ =>
   have e0 : b.eval (.tmp 10) = .pointer (some ⟨kq, 0, none⟩) := (ho 10 qa).trans h10
   have f14 : At p kq (.cells #[.slice x0 n0 y0, .slice x1 n1 y1, .slice x2 n2 y2, .slice x3 n3 y3, .slice x4 n4 y4] 133) := hF 14 (show (14:Nat) < 17 by decide) (fun h => absurd h qa) (fun c hc => absurd hc qc)
   refine opV_step _ Y72 ?_
   refine qW (.tmp 10) rfl rfl kq 0 [.slice x0 n0 y0, .slice x1 n1 y1, .slice x2 n2 y2, .slice x3 n3 y3, .slice x4 n4 y4] e0 (qL f14) Tryz.underlying133 rfl qb ?_
   exact fstep_end hf (slot_put_self Y67)
  | 1, _ =>
   have e0 : b.eval (.tmp 11) = .pointer (some ⟨ob, 0, none⟩) := (ho 11 qa).trans h11
   exact Y1
  | 2, _ =>
   have e0 : b.eval (.tmp 10) = .pointer (some ⟨kq, 0, none⟩) := (ho 10 qa).trans h10
   exact Y1
  | 3, _ =>
   have e0 : b.eval (.tmp 41) = .pointer (some ⟨kq, 3, none⟩) := fdq hF hr 2
   have f14 : At p kq (.cells #[.slice x0 n0 y0, .slice x1 n1 y1, .slice x2 n2 y2, .slice x3 n3 y3, .slice x4 n4 y4] 133) := hF 14 (show (14:Nat) < 17 by decide) (fun h => absurd h qa) (fun c hc => absurd hc qc)
   have c1 : p.cell? ⟨kq, 3, none⟩ = some (.slice x3 n3 y3) := f14.cell 3
   exact Y4
  | 4, _ =>
   have e0 : b.eval (.tmp 42) = .slice x3 n3 y3 := fdq hF hr 3
   have f16 : Bs (fun b => p.heap.size <= b) p (.slice x3 n3 y3) kT := hF 16 (show (16:Nat) < 17 by decide) (fun h => absurd h qa) (fun c hc => absurd hc qc)
   refine qJ _ Y72 (ql rfl) 103 _ _ rfl #[.slice x3 n3 y3] Y70 Y74 ((yM p (.slice x3 n3 y3) kT f16 hlT (hS.keep hf)).mono ?_)
   rintro e p' ⟨kb, rfl, hk, hf2⟩
   refine ⟨_, rfl, hf.trans hf2, fun k _ _ _ _ h => XW kq ob pb x0 x1 x2 x3 x4 n0 y0 n1 y1 n2 y2 n3 y3 n4 y4 N S D kT k _ _ _ hf2 h, ?_, fun e _ _ h => UU kq ob pb x0 x1 x2 x3 x4 n0 y0 n1 y1 n2 y2 n3 y3 n4 y4 N S D kT e _ _ _ hf2 h, fun e he hi hx => by exact absurd he (Nat.not_lt_zero e)⟩
   refine qP b 43 _ Y67 (fun b' => qae kq ob pb x0 x1 x2 x3 x4 n0 y0 n1 y1 n2 y2 n3 y3 n4 y4 N S D kT 4 b' p') ?_
   intro b' hd hne
   show ∃ kb, slot b' 43 = .pointer (some ⟨kb, 0, none⟩) /\ ja p' kb kT
   exact ⟨_, hd, hk⟩
  | 5, _ =>
   have e0 : b.eval (.tmp 8) = .int .i64 N := (ho 8 qa).trans h8
   exact Y1
  | 6, _ =>
   have e0 : b.eval (.tmp 5) = .pointer (some ⟨pb, 0, none⟩) := (ho 5 qa).trans h5
   exact Y1
  | 7, _ =>
   have e0 : b.eval (.tmp 45) = .pointer (some ⟨pb, 1, none⟩) := fdq hF hr 6
   have f15 : ∃ c, At p pb (.cells c 24) /\ c[1]? = some (.int .i64 S) := hF 15 (show (15:Nat) < 17 by decide) (fun h => absurd h qa) (fun c hc => absurd hc qc)
   obtain ⟨cc, g1, g2⟩ := f15
   have c1 : p.cell? ⟨pb, 1, none⟩ = some (.int .i64 S) := (g1.cell 1).trans g2
   exact Y4
  | 8, _ =>
   have e0 : b.eval (.tmp 44) = .int .i64 N := fdq hF hr 5
   have e1 : b.eval (.tmp 46) = .int .i64 S := fdq hF hr 7
   refine opV_step _ Y72 ?_
   refine qz _ rfl rfl _ ?_ (fstep_end hf (slot_put_self Y67))
   obtain ⟨ρ, hρ⟩ := exq (b.eval)
   rw [hρ] at e0 e1 ⊢
   unfold execOp; simp [go_sem, e0, e1, hD1, hD2]
  | 9, _ =>
   have e0 : b.eval (.tmp 8) = .int .i64 N := (ho 8 qa).trans h8
   exact Y1
  | 10, _ =>
   have f4 : ∃ kb, slot b 43 = .pointer (some ⟨kb, 0, none⟩) /\ ja p kb kT := fdq hF hr 4
   obtain ⟨kb, g1, g2⟩ := f4
   have e0 : b.eval (.tmp 39) = .agg #[.slice x0 n0 y0, .slice x1 n1 y1, .slice x2 n2 y2, .slice x3 n3 y3, .slice x4 n4 y4] := fdq hF hr 0
   have e1 : b.eval (.tmp 40) = .pointer (some ⟨ob, 0, none⟩) := fdq hF hr 1
   have e2 : b.eval (.tmp 43) = .pointer (some ⟨kb, 0, none⟩) := g1
   have e3 : b.eval (.tmp 47) = .int .i64 D := fdq hF hr 8
   have e4 : b.eval (.tmp 48) = .int .i64 N := fdq hF hr 9
   refine opV_step _ Y72 ?_
   refine qz _ rfl rfl (.agg #[.slice x0 n0 y0, .slice x1 n1 y1, .slice x2 n2 y2, .slice x3 n3 y3, .slice x4 n4 y4, .pointer (some ⟨ob, 0, none⟩), .pointer (some ⟨kb, 0, none⟩), .int .i64 D, .int .i64 N]) (by obtain ⟨ρ, hρ⟩ := exq (b.eval); rw [hρ] at e0 e1 e2 e3 e4 ⊢; unfold execOp; simp [go_sem, e0, e1, e2, e3, e4]) ?_
   refine ⟨rfl, rfl, hf, fun _ _ _ _ _ h => h, ?_, fun _ _ _ h => h, fun e he hi hx => by exact absurd he (Nat.not_lt_zero e)⟩
   refine qP b 49 _ Y67 (fun b' => qae kq ob pb x0 x1 x2 x3 x4 n0 y0 n1 y1 n2 y2 n3 y3 n4 y4 N S D kT 10 b' p) ?_
   intro b' hd hne
   show slot b' 49 = .agg #[.slice x0 n0 y0, .slice x1 n1 y1, .slice x2 n2 y2, .slice x3 n3 y3, .slice x4 n4 y4, .pointer (some ⟨ob, 0, none⟩), slot b' 43, .int .i64 D, .int .i64 N] /\ ∃ kb, slot b' 43 = .pointer (some ⟨kb, 0, none⟩) /\ ja p kb kT
   have q43 := hne 43 qa
   rw [hd, q43, g1]
   exact ⟨rfl, kb, rfl, g2⟩
  | 11, _ =>
   have f10 : slot b 49 = .agg #[.slice x0 n0 y0, .slice x1 n1 y1, .slice x2 n2 y2, .slice x3 n3 y3, .slice x4 n4 y4, .pointer (some ⟨ob, 0, none⟩), slot b 43, .int .i64 D, .int .i64 N] /\ ∃ kb, slot b 43 = .pointer (some ⟨kb, 0, none⟩) /\ ja p kb kT := fdq hF hr 10
   obtain ⟨e9a, kb, g1, g2⟩ := f10
   have e9 : b.eval (.tmp 49) = .agg #[.slice x0 n0 y0, .slice x1 n1 y1, .slice x2 n2 y2, .slice x3 n3 y3, .slice x4 n4 y4, .pointer (some ⟨ob, 0, none⟩), .pointer (some ⟨kb, 0, none⟩), .int .i64 D, .int .i64 N] := by have := e9a; rw [g1] at this; exact this
   refine opV_step _ Y72 ?_
   refine jZ (.tmp 49) rfl rfl _ e9 ?_
   have hf2 : Fr [] p (p.alloc (.cells #[.slice x0 n0 y0, .slice x1 n1 y1, .slice x2 n2 y2, .slice x3 n3 y3, .slice x4 n4 y4, .pointer (some ⟨ob, 0, none⟩), .pointer (some ⟨kb, 0, none⟩), .int .i64 D, .int .i64 N] 136)) := Fr.alloc _ _
   obtain ⟨p', hp'⟩ : ∃ p', p.alloc (.cells #[.slice x0 n0 y0, .slice x1 n1 y1, .slice x2 n2 y2, .slice x3 n3 y3, .slice x4 n4 y4, .pointer (some ⟨ob, 0, none⟩), .pointer (some ⟨kb, 0, none⟩), .int .i64 D, .int .i64 N] 136) = p' := ⟨_, rfl⟩
   have hA : At p' p.heap.size (.cells #[.slice x0 n0 y0, .slice x1 n1 y1, .slice x2 n2 y2, .slice x3 n3 y3, .slice x4 n4 y4, .pointer (some ⟨ob, 0, none⟩), .pointer (some ⟨kb, 0, none⟩), .int .i64 D, .int .i64 N] 136) := by rw [<- hp']; exact At.new rfl
   rw [hp'] at hf2 ⊢
   clear hp'
   refine ⟨rfl, rfl, hf.trans hf2, fun k _ _ _ _ h => XW kq ob pb x0 x1 x2 x3 x4 n0 y0 n1 y1 n2 y2 n3 y3 n4 y4 N S D kT k _ _ _ hf2 h, ?_, fun e _ _ h => UU kq ob pb x0 x1 x2 x3 x4 n0 y0 n1 y1 n2 y2 n3 y3 n4 y4 N S D kT e _ _ _ hf2 h, fun e he hi hx => by exact absurd he (Nat.not_lt_zero e)⟩
   refine qP b 50 _ Y67 (fun b' => qae kq ob pb x0 x1 x2 x3 x4 n0 y0 n1 y1 n2 y2 n3 y3 n4 y4 N S D kT 11 b' p') ?_
   intro b' hd hne
   show ∃ mb kb, slot b' 50 = .pointer (some ⟨mb, 0, none⟩) /\ At p' mb (.cells #[.slice x0 n0 y0, .slice x1 n1 y1, .slice x2 n2 y2, .slice x3 n3 y3, .slice x4 n4 y4, .pointer (some ⟨ob, 0, none⟩), .pointer (some ⟨kb, 0, none⟩), .int .i64 D, .int .i64 N] 136) /\ ja p' kb kT
   exact ⟨_, kb, hd, hA, g2.keep hf2⟩
  | 12, _ =>
   have f11 : ∃ mb kb, slot b 50 = .pointer (some ⟨mb, 0, none⟩) /\ At p mb (.cells #[.slice x0 n0 y0, .slice x1 n1 y1, .slice x2 n2 y2, .slice x3 n3 y3, .slice x4 n4 y4, .pointer (some ⟨ob, 0, none⟩), .pointer (some ⟨kb, 0, none⟩), .int .i64 D, .int .i64 N] 136) /\ ja p kb kT := fdq hF hr 11
   obtain ⟨mb, kb, g1, g2, g3⟩ := f11
   have e0 : b.eval (.tmp 50) = .pointer (some ⟨mb, 0, none⟩) := g1
   refine opV_step _ Y72 ?_
   refine qz _ rfl rfl (.pointer (some ⟨mb, 0, none⟩)) Y73 ?_
   exact ⟨rfl, rfl, hf, fun _ _ _ _ _ h => h, ⟨mb, kb, slot_put_self Y67, g2, g3⟩, fun _ _ _ h => h, fun e he hi hx => by exact absurd he (Nat.not_lt_zero e)⟩
  | 13, _ =>
   have ec : b.eval (.const .nilIface) = .nilIface := rfl
   refine opV_step _ Y72 ?_
   refine qz _ rfl rfl _ ?_ (fstep_end hf (slot_put_self Y67))
   obtain ⟨ρ, hρ⟩ := exq (b.eval)
   rw [hρ] at ec ⊢
   unfold execOp; simp [go_sem, ec]
 ·intro b p hd hs ho hf hall hex
  have a1 := hall 12 qa (fun c hc => by simp at hc)
  have a2 := hall 13 qa (fun c hc => by simp at hc)
  exact hQ b p hd (hs.trans hsz) ho hf a1 a2
theorem qdz (a : Go.Act) (hs : a.tmps.size = 51) (hd : a.defers = []) : a = ⟨(slot a 0 :: slot a 1 :: slot a 2 :: slot a 3 :: slot a 4 :: slot a 5 :: slot a 6 :: slot a 7 :: slot a 8 :: slot a 9 :: slot a 10 :: slot a 11 :: slot a 12 :: slot a 13 :: slot a 14 :: slot a 15 :: slot a 16 :: slot a 17 :: slot a 18 :: slot a 19 :: slot a 20 :: slot a 21 :: slot a 22 :: slot a 23 :: slot a 24 :: slot a 25 :: slot a 26 :: slot a 27 :: slot a 28 :: slot a 29 :: slot a 30 :: slot a 31 :: slot a 32 :: slot a 33 :: slot a 34 :: slot a 35 :: slot a 36 :: slot a 37 :: slot a 38 :: slot a 39 :: slot a 40 :: slot a 41 :: slot a 42 :: slot a 43 :: slot a 44 :: slot a 45 :: slot a 46 :: slot a 47 :: slot a 48 :: slot a 49 :: slot a 50 :: []).toArray, []⟩ := uO a 51 hs hd
theorem yx {base : Nat} {w : World} {v : Value} {xs : List UInt8} (h : qf 5 base w v xs) : ∃ a n c, v = .slice a n c := by
 rcases h.2 with ⟨rfl, -⟩ | ⟨g, cap, cur, rfl, -⟩
 ·exact ⟨_, _, _, rfl⟩
 ·exact ⟨_, _, _, rfl⟩
def Ud (w : World) (mb : Nat) (N D : Nat) (m : List UInt8) (n : Int) : Prop := ∃ (u0 u1 u2 u3 u4 : Value) (ob kb okb : Nat), At w mb (.cells #[u0, u1, u2, u3, u4, .pointer (some ⟨ob, 0, none⟩), .pointer (some ⟨kb, 0, none⟩), .int .i64 (D : Int), .int .i64 (N : Int)] 136) /\ xI w ob okb N (jL N) /\ ja w okb (qp m qI n) /\ ja w kb (qp m zZ n) /\ Bs (fun _ => False) w u0 (qp m uu n) /\ Bs (fun _ => False) w u2 (qp m jI n)
theorem Ud.keep {w w' : World} {mb N D : Nat} {m : List UInt8} {n : Int} (h : Ud w mb N D m n) (hf : Fr [] w w') : Ud w' mb N D m n := by
 obtain ⟨u0, u1, u2, u3, u4, ob, kb, okb, a1, a2, a3, a4, a5, a6⟩ := h
 exact ⟨u0, u1, u2, u3, u4, ob, kb, okb, a1.keep0 hf, a2.keep hf, a3.keep hf, a4.keep hf, a5.keep hf qc, a6.keep hf qc⟩
def sdE (p : Par) (m : List UInt8) (n : Int) : Nat := if chk p ≠ 0 then chk p else qe m n
theorem qeu {p : Par} (h : jh p 0) : 1 <= blk p.size := by
 have h1 : 0 <= p.size /\ p.size <= 2000 := h
 have hn := uG p.size h1.2
 unfold blk qO
 split <;> simp only [v7, List.foldl_cons, List.foldl_nil] <;> omega
theorem qaM (E : Nat -> Addr) (B : Nat) (w0 : World) (mv : Value) (m : List UInt8) (n : Int) (p : Par) (hE : zJ all20 E B w0) (hS : SG w0) (hB : Bs (fun b => w0.heap.size <= b) w0 mv m) :
  Calls Tryz.prog 64 #[mv, .int .i64 n, .agg #[.int .i64 p.size, .int .i64 p.sent, .int .i64 p.spots, .int .i64 p.per, .int .i64 p.pat, .int .i64 p.ret]] w0 fun e w' => (sdE p m n = 0 -> ∃ mb, e = .returned (.tuple #[.pointer (some ⟨mb, 0, none⟩), .nilIface]) /\ Ud w' mb (blk p.size + p.sent).toNat (blk p.size).toNat m n) /\ (sdE p m n ≠ 0 -> ∃ ev, e = .returned (.tuple #[.pointer none, ev]) /\ xL E w' (sdE p m n) ev) /\ Fr [] w0 w' := by
 obtain ⟨ma, mc, rfl, -, -, -⟩ := id hB
 obtain ⟨mn, hmn⟩ := exq (m.length)
 rw [hmn] at hB ⊢
 clear hmn
 have F1 : Fr [] w0 (w0.alloc (.cells #[.int .i64 p.size, .int .i64 p.sent, .int .i64 p.spots, .int .i64 p.per, .int .i64 p.pat, .int .i64 p.ret] 24)) := Fr.alloc _ _
 have HA := Hdq (show At (w0.alloc (.cells #[.int .i64 p.size, .int .i64 p.sent, .int .i64 p.spots, .int .i64 p.per, .int .i64 p.pat, .int .i64 p.ret] 24)) w0.heap.size (.cells #[.int .i64 p.size, .int .i64 p.sent, .int .i64 p.spots, .int .i64 p.per, .int .i64 p.pat, .int .i64 p.ret] 24) from At.new rfl)
 have HC := Hdq (J9 E B (w0.alloc (.cells #[.int .i64 p.size, .int .i64 p.sent, .int .i64 p.spots, .int .i64 p.per, .int .i64 p.pat, .int .i64 p.ret] 24)) p (hE.keep0 F1))
 have HE1 := Hdq (hE.keep0 F1)
 have HS1 := Hdq (hS.keep F1)
 have HF1 := Hdq F1
 have HB1 := Hdq (hB.mono (A' := fun b => (w0.alloc (.cells #[.int .i64 p.size, .int .i64 p.sent, .int .i64 p.spots, .int .i64 p.per, .int .i64 p.pat, .int .i64 p.ret] 24)).heap.size <= b) F1 qc (fun b hb => .inl Y96))
 clear hE hS hB F1
 go_enter Tryz.func64, Tryz.ntmps64
 have k0 := HA.out.cell 0
 go_wp2_with (go_at_call 32; fail)
 refine HC.out.mono ?_
 rintro e w2 ⟨N, v, rfl, hv, hn0, hn1, hf⟩
 have HF2 := Hdq (HF1.out.trans hf)
 have HA2 := Hdq (HA.out.keep0 hf)
 have HE2 := Hdq (HE1.out.keep0 hf)
 have HS2 := Hdq (HS1.out.keep hf)
 have HB2 := Hdq (HB1.out.mono (A' := fun b => w2.heap.size <= b) hf qc (fun b hb => .inl qbO))
 clear HF1 HA HE1 HS1 HB1 HC hf k0
 by_cases h0 : chk p = 0
 ·rw [h0] at hv
  have := hv.nil_iff
  subst this
  have hN := hn0 h0
  have ho := JU h0
  have hb1 := blk_le ho.1
  have hb2 := qeu ho.1
  have hs1 : 0 <= p.sent /\ p.sent <= 8 := ho.2
  have hsd : sdE p m n = qe m n := by unfold sdE; rw [if_neg Y66]
  have HSD := Hdq hsd
  clear hv hn0 hn1 hsd
  have HI := Hdq (And.intro hN (And.intro hb1 (And.intro hb2 hs1)))
  clear hb1 hb2 hs1 ho hN
  go_wp2_with (go_at_call 90; fail)
  refine (all_any E B w2 (.slice ma mn mc) m n HE2.out HS2.out HB2.out).mono ?_
  rintro e w3 ⟨u0, u1, u2, u3, u4, rfl, hg, hb, hf⟩
  have HF3 := Hdq (HF2.out.trans hf)
  have HA3 := Hdq (HA2.out.keep0 hf)
  have HS3 := Hdq (HS2.out.keep hf)
  clear HF2 HA2 HE2 HS2 HB2 hf
  by_cases hk : qe m n = 0
  ·obtain ⟨g0, g1, g2, g3, g4⟩ := hg hk
   obtain ⟨x0, n0, y0, rfl⟩ := yx g0
   obtain ⟨x1, n1, y1, rfl⟩ := yx g1
   obtain ⟨x2, n2, y2, rfl⟩ := yx g2
   obtain ⟨x3, n3, y3, rfl⟩ := yx g3
   obtain ⟨x4, n4, y4, rfl⟩ := yx g4
   rw [hk, UQ]
   have f35 : Fr [] w3 (w3.alloc (.cells #[.slice x0 n0 y0, .slice x1 n1 y1, .slice x2 n2 y2, .slice x3 n3 y3, .slice x4 n4 y4] 133)) := Fr.alloc _ _
   have HQ5 := Hdq (show At (w3.alloc (.cells #[.slice x0 n0 y0, .slice x1 n1 y1, .slice x2 n2 y2, .slice x3 n3 y3, .slice x4 n4 y4] 133)) w3.heap.size (.cells #[.slice x0 n0 y0, .slice x1 n1 y1, .slice x2 n2 y2, .slice x3 n3 y3, .slice x4 n4 y4] 133) from At.new rfl)
   have g0' := g0.bs (A := fun _ => False) (fun _ h => h.elim)
   have g1' := g1.bs (A := fun _ => False) (fun _ h => h.elim)
   have g2' := g2.bs (A := fun _ => False) (fun _ h => h.elim)
   have g3' := g3.bs (A := fun _ => False) (fun _ h => h.elim)
   have HG5 := Hdq (And.intro (g0'.keep f35 qc) (And.intro (g1'.keep f35 qc) (And.intro (g2'.keep f35 qc) (g3'.keep f35 qc))))
   have HK := Hdq hk
   have HF5 := Hdq (HF3.out.trans f35)
   have HA5 := Hdq (HA3.out.keep0 f35)
   have HS5 := Hdq (HS3.out.keep f35)
   clear hg hb g0 g1 g2 g3 g4 g0' g1' g2' g3' f35 HF3 HA3 HS3
   have c3 : N = (((blk p.size + p.sent).toNat : Nat) : Int) := by have := HI.out; omega
   have c4 : 1 <= (blk p.size + p.sent).toNat /\ (blk p.size + p.sent).toNat <= 1000 := by have := HI.out; omega
   have c5 : N - p.sent = (((blk p.size).toNat : Nat) : Int) := by have := HI.out; omega
   obtain ⟨NN, hNN⟩ := exq ((blk p.size + p.sent).toNat)
   obtain ⟨DD, hDD⟩ := exq ((blk p.size).toNat)
   rw [hNN] at c3 c4
   rw [hDD] at c5
   have HN2 := Hdq (And.intro hNN hDD)
   subst c3
   have HD := Hdq c5
   have HNN := Hdq c4
   have HSP := Hdq (And.intro HI.out.2.2.2 HI.out.2.1)
   clear HI hNN hDD c5 c4
   go_wp2_with (go_at_call 109; fail)
   refine (qa0 (w3.alloc (.cells #[.slice x0 n0 y0, .slice x1 n1 y1, .slice x2 n2 y2, .slice x3 n3 y3, .slice x4 n4 y4] 133)) (.slice x1 n1 y1) (qp m qI n) NN (yd HG5.out.2.1) (by have := QK m qI n; omega) HS5.out HNN.out.1 (by have := HNN.out.2; omega)).mono ?_
   rintro e w6 ⟨ob, okb, rfl, hob, hokb, hf⟩
   have HF6 := Hdq (HF5.out.trans hf)
   have HA6 := Hdq (HA5.out.keep0 hf)
   have HS6 := Hdq (HS5.out.keep hf)
   have HG6 := Hdq (And.intro (HG5.out.1.keep hf qc) (And.intro (HG5.out.2.2.1.keep hf qc) (HG5.out.2.2.2.keep hf qc)))
   have HQ6 := Hdq (HQ5.out.keep0 hf)
   have HO6 := Hdq (And.intro hob hokb)
   clear hf hob hokb HF5 HA5 HS5 HG5 HQ5
   go_wp2
   refine sf1 w3.heap.size ob w0.heap.size x0 x1 x2 x3 x4 n0 y0 n1 y1 n2 y2 n3 y3 n4 y4 (NN : Int) p.sent (DD : Int) (qp m zZ n) w6 _ rfl rfl rfl rfl rfl HQ6.out ⟨_, HA6.out, rfl⟩ (yd HG6.out.2.2) (by have := QK m zZ n; omega) HS6.out (by rw [HD.out, IntKind.wrap_i64]; have := HD.out; have := HNN.out; have := HSP.out; omega) (by rw [HD.out]; have := HD.out; have := HNN.out; have := HSP.out; unfold wrap64; omega) _ ?_
   rintro b w7 hbd hbs hbo hf ⟨mb, kb, h6, hmb, hkb⟩ h7
   rw [qdz b hbs hbd, h6, h7]
   have HR := Hdq (show Ud w7 mb NN DD m n from ⟨_, _, _, _, _, ob, kb, okb, hmb, HO6.out.1.keep hf, HO6.out.2.keep hf, hkb, HG6.out.1.keep hf qc, HG6.out.2.1.keep hf qc⟩)
   have HF7 := Hdq (HF6.out.trans hf)
   clear hbd hbs hbo hf h6 hmb hkb h7
   go_wp2
   go_ret2
   exact ⟨fun _ => ⟨mb, rfl, by rw [HN2.out.1, HN2.out.2]; exact HR.out⟩, fun h => absurd (HSD.out.trans HK.out) h, HF7.out⟩
  ·obtain ⟨rfl, rfl, rfl, rfl, rfl⟩ := hb hk
   rw [errv_pos E _ hk]
   have HF5 := Hdq (HF3.out.trans (Fr.alloc (S := []) w3 (.cells n5q 133)))
   have HK := Hdq hk
   clear hg hb hk HF3 HA3 HS3
   go_wp2
   go_ret2
   exact ⟨fun h => absurd (HSD.out.symm.trans h) HK.out, fun _ => ⟨_, rfl, by rw [HSD.out]; exact .plain _ HK.out⟩, HF5.out⟩
 ·have HV := Hdq hv
  obtain ⟨t, a, rfl⟩ := hv.some_of h0
  have hsd : sdE p m n = chk p := by unfold sdE; rw [if_pos h0]
  have HSD := Hdq hsd
  clear hv hn0 hn1 hsd
  go_wp2
  go_ret2
  exact ⟨fun h => absurd (HSD.out.symm.trans h) h0, fun _ => ⟨_, rfl, by rw [HSD.out]; exact HV.out⟩, HF2.out⟩
end Go.Proofs.YtnafknkchbfpaaaGreatDoor
