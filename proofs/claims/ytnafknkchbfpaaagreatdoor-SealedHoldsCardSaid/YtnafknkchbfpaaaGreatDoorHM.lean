import Derived.Test.YtnafknkchbfpaaaGreatDoorHI
set_option maxRecDepth 1000000
set_option maxHeartbeats 8000000
namespace Go.Proofs.YtnafknkchbfpaaaGreatDoor
open Go.RowKit Go.Bl
set_option linter.unusedVariables false
theorem JG (n : Nat) : qT n = (shN n).map (fun k : Nat => (k : Int)) := by
 unfold qT shN
 split
 ·rfl
 ·simp; omega
theorem La (n : Nat) : yL (n : Int) = nB n := by unfold yL nB; simp
def YJ (bs : List Nat) (rows : List (List UInt8)) : List (Value × List UInt8) := List.zipWith (fun b r => (sl8 b, r)) bs rows
theorem Wa : ∀ (bs : List Nat) (rows : List (List UInt8)), bs.length = rows.length -> (YJ bs rows).map (·.1) = bs.map sl8
 | [], [], _ => rfl
 | b :: bs, r :: rows, h => by
  have := Wa bs rows Y85
  simp only [YJ, List.zipWith_cons_cons, List.map_cons] at this ⊢
  rw [this]
theorem Xk : ∀ (bs : List Nat) (rows : List (List UInt8)), bs.length = rows.length -> (YJ bs rows).map (·.2) = rows
 | [], [], _ => rfl
 | b :: bs, r :: rows, h => by
  have := Xk bs rows Y85
  simp only [YJ, List.zipWith_cons_cons, List.map_cons] at this ⊢
  rw [this]
theorem qcz {base : Nat} {w : World} {bs : List Nat} {rows : List (List UInt8)} (h : Rws base w bs rows) (h8 : ∀ r ∈ rows, r.length = 8) : ∀ x ∈ YJ bs rows, BsT w x.1 x.2 := by
 intro x hx
 obtain ⟨i, hi, rfl⟩ := List.getElem_of_mem hx
 have hl := h.len
 simp only [YJ, List.length_zipWith] at hi
 simp only [YJ, List.getElem_zipWith]
 exact qdV h h8 i _ _ (List.getElem?_eq_getElem Y62) (List.getElem?_eq_getElem Y62)
theorem J9 (data : List (List UInt8)) : ∀ r ∈ J1 data, r.length = 8 := by
 intro r hr
 obtain ⟨i, -, rfl⟩ := List.mem_map.1 hr
 simp
theorem qdS {A : Nat -> Prop} {w : World} {a : Option Addr} {n cap : Nat} {us : List Value} (h : Vs A w (.slice a n cap) us) (k : Nat) (hk : k <= n) : Vs A w (.slice a k cap) (us.take k) := by
 obtain ⟨a', cap', h1, h2, h3, h4⟩ := h
 cases h1
 exact ⟨a, cap, by rw [List.length_take, Nat.min_eq_left hk], by rw [List.length_take]; omega, h3, h4.take k⟩
theorem qfg {A : Nat -> Prop} {w : World} {a : Option Addr} {n cap : Nat} {us : List Value} (h : Vs A w (.slice a n cap) us) (k : Nat) (hk : k <= n) : Vs A w (.slice (if cap = k then a else a.map (·.add k)) (n - k) (cap - k)) (us.drop k) := by
 obtain ⟨a', cap', h1, h2, h3, h4⟩ := h
 cases h1
 refine ⟨_, cap - k, by rw [List.length_drop], by rw [List.length_drop]; omega, by omega, ?_⟩
 have := h4.cut k cap 1 (fun e => by subst e; simp; omega)
 simpa using this
theorem qbM (data : List (List UInt8)) (sh : List Nat) (i k : Nat) (h : sh[i]? = some k) (hs : sh.sum <= data.length) :
  um data (sh.take (i + 1)) = um data (sh.take i) ++ qd9 ((data.drop (sh.take i).sum).take k) := by
 induction sh generalizing data i with
 | nil => simp at h
 | cons x sh ih =>
  cases i with
  | zero => simp at h; subst h; simp [um]
  | succ i =>
   simp only [List.sum_cons] at hs
   simp only [List.take_succ_cons, um, List.sum_cons, List.append_assoc]
   rw [ih (data.drop x) i Y85 Y89, List.drop_drop]
theorem Wu (w : World) (v : Value) (xs : List UInt8) (hb : Bs (fun _ => False) w v xs) (hl : xs.length <= 2000) :
  Calls Tryz.prog 120 #[v] w fun e w' => ∃ (u : Value) (ls : List (Value × List UInt8)), e = .returned (.tuple #[u, .nilIface]) /\ qJ 22 w.heap.size w' u (ls.map (·.1)) /\ (∀ x ∈ ls, BsT w' x.1 x.2) /\ ls.map (·.2) = qt xs /\ Fr [] w w' := by
 have HB := Hdq hb
 obtain ⟨a, cap, rfl, h2, h3, -⟩ := hb
 unfold maxLen at h3
 obtain ⟨M, hM⟩ := exq (nB xs.length)
 have hM1 : 1 <= M /\ M <= 250 := by rw [<- hM]; unfold nB; omega
 have HPL := Hdq (show (uZ xs).length = 8 * M by rw [<- hM]; exact YD xs)
 have HSH := Hdq (fun w => XR w (xs.length : Int) Y62 Y62)
 have HNB := Hdq (show qT (yL (xs.length : Int)) = (shN M).map (fun k : Nat => (k : Int)) by rw [La, hM, JG])
 have HBL := Hdq (show um (zN M (uZ xs)) (shN M) = qt xs by unfold qt Lqe; rw [hM])
 obtain ⟨N, hN⟩ := exq (xs.length)
 rw [hN] at HB h2 hl HSH HNB ⊢
 have HN := Hdq hN
 clear hM hN
 go_enter Tryz.func120, Tryz.ntmps120
 go_wp2_with fail
 refine (HSH.out w).mono ?_
 rintro e w1 ⟨sv, rfl, ho, hf⟩
 rw [HNB.out] at ho
 have HF1 := Hdq hf
 have HS1 := Hdq (ho.is (A := fun _ => False) qf)
 obtain ⟨sa, sc, rfl, s3, s4, -⟩ := HS1.out.shape
 rw [List.length_map] at s3 HS1 ⊢
 have hsl := Xd M
 clear ho hf HSH
 go_wp2_with fail
 refine (qdc (fun _ => False) w1 _ xs (HB.out.keep HF1.out qf) Y68).mono ?_
 rintro e w2 ⟨pv, rfl, ho, hf⟩
 have HF2 := Hdq (HF1.out.trans hf)
 have HS2 := Hdq (HS1.out.keep hf qf)
 have HP2 := Hdq ho
 obtain ⟨pb, pc, rfl, pc1, pc2⟩ : ∃ pb pc, pv = .slice (some ⟨pb, 0, none⟩) (8 * M) pc /\ 8 * M <= pc /\ pc <= maxLen := by
  rcases ho.2 with ⟨rfl, h0⟩ | ⟨g, cap', cur, rfl, hg, hh, hn, hm, -⟩
  ·have := HPL.out; omega
  ·rw [HPL.out] at hn ⊢
   exact ⟨g, cap', rfl, hn, hm⟩
 unfold maxLen at pc2
 clear ho hf HS1 HF1
 go_wp2_with fail
 refine (qas w2 _ _ _).mono ?_
 rintro e w3' ⟨rfl, hw3⟩
 have hBs : w3'.cell? ⟨w2.heap.size, 0, none⟩ = some (.slice (some ⟨pb, 0, none⟩) (8 * M) pc) := by
  have h : At w3' w2.heap.size (.cells #[.slice (some ⟨pb, 0, none⟩) (8 * M) pc] 22) := by rw [hw3]; exact (At.new rfl).al
  rw [qK h]; rfl
 have hBn : w3'.cell? ⟨w2.heap.size + 1, 0, none⟩ = some (.int .i64 8) := by
  have h : At w3' (w2.heap.size + 1) (.cells #[.int .i64 8] 3) := by rw [hw3]; exact At.new qf
  rw [qK h]; rfl
 have hf3 : Fr [] w2 w3' := by rw [hw3]; exact Fr.al (Fr.alloc _ _)
 have HCO := Hdq (XC w3' w2.heap.size (w2.heap.size + 1) pb M (8 * M) pc rfl Y62 pc1 pc2 hBs hBn)
 have HF3 := Hdq (HF2.out.trans hf3)
 have HS3 := Hdq (HS2.out.keep hf3 qf)
 have HP3 := Hdq (HP2.out.keep hf3 qf)
 clear hw3 hBs hBn hf3 HF2 HS2 HP2
 go_wp2_with fail
 refine HCO.out.mono ?_
 rintro e w4 ⟨dv, rfl, ho, hf⟩
 have HF4 := Hdq (HF3.out.trans hf)
 have HS4 := Hdq (HS3.out.keep hf qf)
 have HP4 := Hdq (HP3.out.keep hf qf)
 have HD4 := Hdq (ho.vs (A := fun _ => False) qf)
 obtain ⟨da, dc, rfl, d1, d2, -⟩ := HD4.out
 have HCK := Hdq (show ∀ x ∈ ckL pb M (uZ xs), BsT w4 x.1 x.2 from fun x hx => by
  obtain ⟨k, hk, rfl⟩ := List.mem_map.1 hx
  exact qeR HP4.out k (by have := HPL.out; have := List.mem_range.1 hk; omega))
 rw [List.length_map, List.length_range] at HD4 d1 ⊢
 unfold maxLen at d2
 obtain ⟨B4, hB4⟩ := exq (w4.heap.size)
 have hwB : w.heap.size <= B4 := by have := HF4.out.size; omega
 replace HD4 := Hdq (show Vs (fun b => B4 <= b) w4 (.slice da M dc) ((List.range M).map (ckV pb)) from HD4.out.mono (Fr.refl [] w4) qf (fun b h => .inr Y62))
 replace HS4 := Hdq (show Is (fun b => B4 <= b) w4 (.slice sa (shN M).length sc) ((shN M).map fun k : Nat => (k : Int)) from Vs.mono HS4.out (Fr.refl [] w4) qf (fun b h => .inr Y62))
 clear ho hf HCO HF3 HS3 HP3
 go_wp2
 go_loopw [6, 7, 27] (fun d o i wr => ∃ (q s : Nat) (ea : Option Addr) (ec : Nat) (lsO : List (Value × List UInt8)), q <= (shN M).length /\ i = .int .i64 q /\ s = ((shN M).take q).sum /\ s <= M /\ d = .slice ea (M - s) ec /\ M - s <= ec /\ ec <= 2 ^ 63 - 1 /\
   B4 <= wr.heap.size /\ Hid (Vs (fun b => B4 <= b) wr (.slice ea (M - s) ec) (((List.range M).map (ckV pb)).drop s)) /\ Hid (qJ 22 B4 wr o (lsO.map (·.1))) /\ Hid (∀ x ∈ lsO, BsT wr x.1 x.2) /\ Hid (lsO.map (·.2) = um (zN M (uZ xs)) ((shN M).take q)) /\
   Hid (∀ x ∈ ckL pb M (uZ xs), BsT wr x.1 x.2) /\ Hid (Is (fun b => B4 <= b) wr (.slice sa (shN M).length sc) ((shN M).map fun k : Nat => (k : Int))) /\ Hid (Fr [] w wr)) (fun _ _ i _ => (shN M).length - (intOf i).toNat)
 case atStart => exact ⟨0, 0, da, dc, [], by omega, rfl, rfl, by omega, rfl, by omega, by omega, by omega, Hdq (by simpa using HD4.out), qJ.nil _ _ _, Hdq (fun x hx => by simp at hx), Hdq (by simp [um]), HCK.out, HS4.out, HF4.out⟩
 case round =>
  clear HD4 HCK HS4 HF4 HP4
  obtain ⟨q, s, ea, ec, lsO, hq, rfl, hsq, hsM, rfl, e1, e2, hBw, HD, HO, HOB, HOS, HCK, HS, HF⟩ := hrel
  have HSQ := Hdq hsq
  clear hsq
  by_cases hqn : q < (shN M).length
  ·obtain ⟨k, hk⟩ : ∃ k, (shN M)[q]? = some k := ⟨_, List.getElem?_eq_getElem hqn⟩
   have hkb := qeK M hM1.1 hM1.2 k (List.mem_of_getElem? hk)
   have hsum : ((shN M).take (q + 1)).sum = s + k := by rw [List.take_add_one, hk, HSQ.out]; simp
   have hle := YS (shN M) (q + 1)
   rw [hsum, yz] at hle
   obtain ⟨a', c', e, -, -, hc⟩ := HS.out.shape
   rw [List.length_map] at e hc
   cases e
   obtain ⟨b1, o1, rfl, -, hc1⟩ := hc (Nat.lt_of_le_of_lt (Nat.zero_le _) hqn)
   have g1 := hc1 q hqn
   rw [show ((shN M).map fun k : Nat => (k : Int)).getD q 0 = (k : Int) by simp [List.getD_eq_getElem?_getD, hk]] at g1
   have HK := Hdq hk
   have HSUM := Hdq hsum
   have HRD := Hdq (show RdB (fun _ => False) wr (.slice ea k ec) (((ckL pb M (uZ xs)).drop s).take k) from by
    refine ⟨?_, fun x hx => (HCK.out x (List.mem_of_mem_drop (List.mem_of_mem_take hx))).bs (fun _ h => h)⟩
    have h := (qdS HD.out k Y62).mono (A' := fun _ => False) (Fr.refl [] wr) (fun b hb => by simp at hb) (fun b h => h.elim)
    rw [List.map_take, List.map_drop, show (ckL pb M (uZ xs)).map (·.1) = (List.range M).map (ckV pb) by simp [ckL, Function.comp_def]]
    exact h)
   clear hk hsum hc hc1
   go_wp2_with fail
   have HLEN := Hdq (show (((ckL pb M (uZ xs)).drop s).take k).length = k by simp [ckL]; omega)
   have HOL := Hdq (show lsO.length <= 400 by
    have h := congrArg List.length HOS.out
    rw [List.length_map, yo [] _ _ (by rw [zt, <- HSQ.out]; omega), <- HSQ.out] at h
    have := Xd M
    have h2 : ((shN M).take q).length <= 2 := by rw [List.length_take]; omega
    omega)
   refine (XN wr _ (((ckL pb M (uZ xs)).drop s).take k) HRD.out (fun x hx => ?_) (by rw [HLEN.out]; omega) (by rw [HLEN.out]; omega)).mono ?_
   ·obtain ⟨j, hj, rfl⟩ := List.mem_map.1 (List.mem_of_mem_drop (List.mem_of_mem_take hx))
    have := HPL.out
    have := List.mem_range.1 hj
    simp; omega
   rintro e w5 ⟨gu, bs, rfl, ho, hrw, hf⟩
   obtain ⟨ls, hls⟩ := exq (((ckL pb M (uZ xs)).drop s).take k)
   rw [hls] at ho hrw HLEN
   have hbl : bs.length = 32 := by have := hrw.len; rwa [Yr] at this
   have HD5 := Hdq (HD.out.keep hf qf)
   have HS5 := Hdq (HS.out.keep hf qf)
   have HO5 := Hdq (HO.out.keep hf qf)
   have HOB5 := Hdq (show ∀ x ∈ lsO, BsT w5 x.1 x.2 from fun x hx => (HOB.out x hx).keep0 hf)
   have HCK5 := Hdq (show ∀ x ∈ ckL pb M (uZ xs), BsT w5 x.1 x.2 from fun x hx => (HCK.out x hx).keep0 hf)
   have HZ5 := Hdq (qcz hrw (J9 _))
   have HF5 := Hdq (HF.out.trans hf)
   have HG := Hdq (ho.vs (A := fun _ => False) qf)
   have HSN := Hdq (Xk bs (J1 (ls.map (·.2))) hrw.len)
   have HFN := Hdq (Wa bs (J1 (ls.map (·.2))) hrw.len)
   have HONE := Hdq (show ∀ u ∈ ls.map (·.1) ++ bs.map sl8, u.oneCell' = true from fun u hu => by
    rcases List.mem_append.1 hu with hu | hu
    ·obtain ⟨y, hy, rfl⟩ := List.mem_map.1 hu
     rw [<- hls] at hy
     obtain ⟨b, off, cp, e⟩ := (HCK.out y (List.mem_of_mem_drop (List.mem_of_mem_take hy))).shape
     rw [e]; rfl
    ·obtain ⟨y, hy, rfl⟩ := List.mem_map.1 hu
     rfl)
   have hs5 : B4 <= w5.heap.size := by have := hf.size; omega
   have HLS := Hdq hls
   obtain ⟨go, gn, gc, rfl⟩ : ∃ go gn gc, gu = .slice go gn gc := by
    obtain ⟨a', c', rfl, -⟩ := HG.out
    exact ⟨_, _, _, rfl⟩
   clear ho hrw hf hls HD HS HO HOB HCK HF HRD
   go_wp2_with (at_builtin; refine jQ (ys := ls.map (·.1) ++ bs.map sl8) (base := B4) Tryz.underlying56 Tryz.infoBytes rfl rfl (.tmp 41) (.tmp 42) rfl rfl rfl HO5.out HG.out HONE.out (by have := HOL.out; have := HLEN.out; simp [maxLen]; omega) (by have := HOL.out; have := HLEN.out; simp; omega) hs5 ?_)
   intro v' w6 h5 h6
   obtain ⟨L6, hL6⟩ := exq (lsO ++ (ls ++ YJ bs (J1 (ls.map (·.2)))))
   have hfg := Fr.grown (S := u7.ownBlock.toList) h6 (fun g hg => by simp [hg])
   have hsz6 : B4 <= w6.heap.size := by have := h6.size; omega
   have HO6 := Hdq (show qJ 22 B4 w6 v' (L6.map (·.1)) by
    rw [<- hL6, List.map_append, List.map_append, HFN.out]; exact h5)
   have HD6 := Hdq (show Vs (fun b => B4 <= b) w6 (.slice ea (M - s) ec) (((List.range M).map (ckV pb)).drop s) from HD5.out.keep hfg (fun g hg => HO5.out.blk hg))
   have HS6 := Hdq (HS5.out.keep hfg (fun g hg => HO5.out.blk hg))
   have HCK6 := Hdq (show ∀ x ∈ ckL pb M (uZ xs), BsT w6 x.1 x.2 from fun x hx => (HCK5.out x hx).grown HO5.out h6)
   have HOB6 := Hdq (show ∀ x ∈ L6, BsT w6 x.1 x.2 from fun x hx => by
    rw [<- hL6] at hx
    rcases List.mem_append.1 hx with hx | hx
    ·exact (HOB5.out x hx).grown HO5.out h6
    rcases List.mem_append.1 hx with hx | hx
    ·rw [<- HLS.out] at hx
     exact (HCK5.out x (List.mem_of_mem_drop (List.mem_of_mem_take hx))).grown HO5.out h6
    ·exact (HZ5.out x hx).grown HO5.out h6)
   have HOS6 := Hdq (show L6.map (·.2) = um (zN M (uZ xs)) ((shN M).take (q + 1)) by
    rw [<- hL6, List.map_append, List.map_append, HSN.out, HOS.out, qbM _ _ q k HK.out (by rw [yz, zt]; omega), <- HSQ.out]
    have : ls.map (·.2) = ((zN M (uZ xs)).drop s).take k := by rw [<- HLS.out, List.map_take, List.map_drop, qci]
    rw [this]; rfl)
   have HF6 := Hdq (show Fr [] w w6 from Fr.own HF5.out h6 HO5.out hwB)
   have HC6 := Hdq (qfg HD6.out k Y62)
   obtain ⟨ez, hez⟩ := exq ((if ec = k then ea else ea.map (·.add k)))
   rw [hez] at HC6
   have HEZ := Hdq hez
   have HDR := Hdq (show ((((List.range M).map (ckV pb)).drop s).drop k) = ((List.range M).map (ckV pb)).drop (s + k) by rw [List.drop_drop])
   rw [HDR.out, show M - s - k = M - (s + k) by omega] at HC6
   clear h5 h6 hfg HO5 HD5 HS5 HCK5 HOB5 HZ5 HF5 HG HSN HFN HONE hL6 HLEN HOL HOS HLS HD6 hez HDR
   go_wp2
   rw [HEZ.out]
   constructor
   ·exact ⟨q + 1, s + k, ez, ec - k, L6, by omega, by go_num, by rw [HSUM.out], by omega, by rw [Nat.sub_sub], by omega, by omega, hsz6, HC6, HO6, HOB6, HOS6, HCK6, HS6, HF6⟩
   ·simp [intOf]; omega
  ·obtain rfl : q = (shN M).length := by omega
   have HE := Hdq (show lsO.map (·.2) = qt xs by have h := HOS.out; rw [List.take_length] at h; rw [h, HBL.out])
   go_wp2
   go_ret2
   exact ⟨_, lsO, rfl, HO.out.base hwB, HOB.out, HE.out, HF.out⟩
theorem Lx {e base : Nat} {w : World} {v : Value} {cs : List Value} (h : qJ e base w v cs) : ∃ a n c, v = .slice a n c := by
 obtain ⟨a, c, e, -⟩ := h.vs (A := fun _ => False) (fun _ h => h.elim)
 exact ⟨_, _, _, e⟩
theorem Lp : ∀ (sh : List Nat) (data : List (List UInt8)), (∀ b ∈ data, b.length = 8) -> ∀ b ∈ um data sh, b.length = 8
 | [], data, h, b, hb => by simp [um] at hb
 | k :: sh, data, h, b, hb => by
  simp only [um, qd9, List.mem_append] at hb
  rcases hb with (hb | hb) | hb
  ·exact h b (List.mem_of_mem_take hb)
  ·exact J9 _ b hb
  ·exact Lp sh _ (fun x hx => h x (List.mem_of_mem_drop hx)) b hb
theorem QW (xs : List UInt8) : ∀ b ∈ qt xs, b.length = 8 := Lp _ _ (XH xs)
theorem V7 {w : World} {v : Value} {ls : List (Value × List UInt8)} (h : RdB (fun _ => False) w v ls) : RdB (fun b => w.heap.size <= b) w v ls := by
 obtain ⟨⟨a, c, h1, h2, h3, h4⟩, h5⟩ := h
 exact ⟨⟨a, c, h1, h2, h3, Vu h4⟩, fun x hx => zk (h5 x hx)⟩
theorem Lm {base : Nat} {w : World} {v : Value} {ls : List (Value × List UInt8)} (h : qJ 22 base w v (ls.map (·.1))) (ht : ∀ x ∈ ls, BsT w x.1 x.2) : RdB (fun _ => False) w v ls :=
 ⟨h.vs (fun _ h => h.elim), fun x hx => (ht x hx).bs (fun _ h => h)⟩
theorem yQ.mask {w : World} {mb N D : Nat} {m : List UInt8} {n : Int} (h : yQ w mb N D m n) : ∃ (c : Array Value) (u : Value), At w mb (.cells c 136) /\ c[0]? = some u /\ Bs (fun _ => False) w u (qn m zI n) := by
 obtain ⟨u0, u1, u2, u3, u4, ob, kb, okb, a1, -, -, -, a5, -⟩ := h
 exact ⟨_, u0, a1, rfl, a5⟩
theorem qaJ (E : Nat -> Addr) (B : Nat) (w0 : World) (mb N D : Nat) (m : List UInt8) (n : Int) (v : Value) (xs : List UInt8) (hE : j7 all20 E B w0) (hM : yQ w0 mb N D m n) (hB : Bs (fun _ => False) w0 v xs) (hx : xs.length <= 2000) (hS : SG w0) (hbl : (qt xs).length <= 1000) (hN : D <= N /\ N <= 1000) :
  Calls Tryz.prog 73 #[.pointer (some ⟨mb, 0, none⟩), v] w0 fun e w' => ∃ (u : Value) (ls' : List (Value × List UInt8)), e = .returned (.tuple #[u, .nilIface]) /\ RdB (fun _ => False) w' u ls' /\ ls'.map (·.2) = UB (qn m zI n) (qn m jp n) (qt xs) (N - D) /\ Fr [] w0 w' := by
 obtain ⟨c, u0, a1, a2, a3⟩ := hM.mask
 have HH := Hdq (And.intro hE (And.intro hM (And.intro hS (And.intro hbl hN))))
 have HA := Hdq (And.intro a1 a2)
 have HB0 := Hdq a3
 obtain ⟨ua, uc, rfl, -, -, -⟩ := id a3
 rw [show (qn m zI n).length = 32 from rfl] at HB0 HA
 have HC := Hdq (Wu w0 v xs hB hx)
 clear hE hM hB hx hS a1 a2 a3 hbl hN
 go_enter Tryz.func73, Tryz.ntmps73
 go_wp2_with (go_at_call 120; fail)
 refine HC.out.mono ?_
 rintro e w2 ⟨u, ls, rfl, hu, hT, hl, hf⟩
 have HR2 := Hdq (Lm hu hT)
 have HL2 := Hdq hl
 have HF2 := Hdq hf
 have HF2S := Hdq hf.size
 have c0 : w2.cell? ⟨mb, 0, none⟩ = some (.slice ua 32 uc) := ((HA.out.1.keep0 hf).cell 0).trans HA.out.2
 have HLN := Hdq (show ls.length <= 1000 by rw [<- List.length_map (·.2), hl]; exact HH.out.2.2.2.1)
 have HL8 := Hdq (show ∀ x ∈ ls, x.2.length = 8 from fun x hx => QW xs x.2 (by rw [<- hl]; exact List.mem_map_of_mem hx))
 clear hu hT hl hf HC
 go_wp2_with (go_at_call 121; fail)
 refine (WO w2 (.slice ua 32 uc) u (qn m zI n) ls (zk (HB0.out.keep HF2.out qf)) (by rw [show (qn m zI n).length = 32 from rfl]; decide) (HH.out.2.2.1.keep HF2.out) (V7 HR2.out) HL8.out HLN.out).mono ?_
 rintro e w3 ⟨u3, l3, rfl, hu, hT, hl, hf⟩
 have HF3 := Hdq (HF2.out.trans hf)
 have HF3S := Hdq hf.size
 have HO3 := Hdq hu
 have HT3 := Hdq hT
 have HL3 := Hdq (show l3.map (·.2) = VG (qn m zI n) (qt xs) by rw [hl, HL2.out])
 have HC := Hdq (WF E B w3 mb N D m n (HH.out.1.keep0 HF3.out) (HH.out.2.1.keep HF3.out) (HH.out.2.2.1.keep HF3.out) HH.out.2.2.2.2)
 clear hu hT hl hf HF2 HR2 HL2 HL8 HLN c0
 go_wp2_with (go_at_call 122; fail)
 refine HC.out.mono ?_
 rintro e w4 ⟨u4, l4, rfl, hu, hT, hl, hf⟩
 have HF4 := Hdq (HF3.out.trans hf)
 have HO4 := Hdq (HO3.out.keep0 hf)
 have HT4 := Hdq (show ∀ x ∈ l3, BsT w4 x.1 x.2 from fun x hx => (HT3.out x hx).keep0 hf)
 have HV4 := Hdq (hu.vs (A := fun _ => False) (fun _ h => h.elim))
 have HS4 := Hdq hT
 have HL4 := Hdq hl
 have HBA := Hdq hf.size
 have HN3 := Hdq (show l3.length <= 1000 by rw [<- List.length_map (·.2), HL3.out, Z6]; exact HH.out.2.2.2.1)
 have HN4 := Hdq (show l4.length <= 1000 by
  rw [<- List.length_map (·.2), hl, List.length_map, List.length_range]
  have := HH.out.2.2.2.2
  omega)
 have H1 := Hdq (show ∀ u ∈ l4.map (·.1), u.oneCell' = true from fun u hu => by
  obtain ⟨x, hx, rfl⟩ := List.mem_map.1 hu
  obtain ⟨b, o, c, e⟩ := (hT x hx).shape
  rw [e]
  rfl)
 obtain ⟨aa, an, ac, rfl⟩ := Lx hu
 obtain ⟨ba, bn, bc, rfl⟩ := Lx HO3.out
 have HZ := Hdq HF3.out.size
 clear hu hT hl hf HF3 HO3 HT3 HC
 go_wp2_with (at_builtin; refine jQ Tryz.underlying56 Tryz.infoBytes rfl rfl (.tmp 36) (.tmp 37) rfl rfl rfl HO4.out HV4.out H1.out (by rw [List.length_map, List.length_map]; have := HN3.out; have := HN4.out; simp [maxLen]; omega) (by rw [List.length_map, List.length_map]; have := HN3.out; have := HN4.out; omega) (by have := HBA.out; have := HF2S.out; have := HF3S.out; omega) ?_)
 intro v' w5 ho hg
 have hT5 : ∀ x ∈ l3 ++ l4, BsT w5 x.1 x.2 := fun x hx => by
  rcases List.mem_append.1 hx with hx | hx
  ·exact BsT.grown (HT4.out x hx) HO4.out hg
  ·exact BsT.grown (HS4.out x hx) HO4.out hg
 have HR5 := Hdq (Lm (ls := l3 ++ l4) (by rw [List.map_append]; exact ho) hT5)
 have HF5 := Hdq (qJ.fr HO4.out HF4.out hg (by have := HF2S.out; omega))
 clear ho hg hT5
 go_wp2
 go_ret2
 exact ⟨_, l3 ++ l4, rfl, HR5.out, by rw [List.map_append, HL3.out, HL4.out]; rfl, HF5.out⟩
theorem W5 {p : Par} {xs : List UInt8} (h : (xs.length : Int) = p.size) (ho : jS p 0) : ((qt xs).length : Int) = blk p.size := by
 have hl : (qt xs).length = nB xs.length + 32 * (shN (nB xs.length)).length := by
  unfold qt
  rw [yo [] _ _ (by rw [yz, Vd]; exact Nat.le_refl _), yz]
 rw [hl]
 unfold blk
 rw [<- h, La, JG]
 unfold shN
 split <;> simp [Qj] <;> omega
theorem KP {kM kS : List UInt8} {bs : List (List UInt8)} {s : Nat} (h : ∀ b ∈ bs, b.length = 8) : ∀ b ∈ UB kM kS bs s, b.length = 8 := by
 intro b hb
 rcases List.mem_append.1 hb with hb | hb
 ·obtain ⟨i, hi, rfl⟩ := List.mem_mapIdx.1 hb
  exact U6 _ _ _ (h _ (List.getElem_mem hi))
 ·obtain ⟨j, -, rfl⟩ := List.mem_map.1 hb
  rfl
theorem YG {P : Nat -> Nat} {T : Nat -> List UInt8 -> List UInt8} {bs : List (List UInt8)} {M : Nat} (h : ∀ p i, (T p (bs.getD i [])).length <= M) : ∀ k, ∀ x ∈ vT P T bs k, x.length <= M
 | 0, x, hx => by
  obtain ⟨-, rfl⟩ := List.mem_replicate.1 hx
  exact Nat.zero_le _
 | k + 1, x, hx => by
  rw [vT] at hx
  rcases List.mem_or_eq_of_mem_set hx with hx | rfl
  ·exact YG h k x hx
  ·exact h _ _
theorem qde {m : List UInt8} {n : Int} {s : Nat} (xs : List UInt8) : ∀ x ∈ zw m n xs s, x.length <= 16 := by
 intro x hx
 refine YG (fun p i => ?_) _ x hx
 rw [Zs]
 rcases Nat.lt_or_ge i (UB (qn m zI n) (qn m jp n) (qt xs) s).length with hi | hi
 ·rw [List.getD_eq_getElem?_getD, List.getElem?_eq_getElem hi]
  have := KP (kM := qn m zI n) (kS := qn m jp n) (s := s) (QW xs) _ (List.getElem_mem hi)
  show List.length _ + 8 <= 16
  simp only [Option.getD_some]
  omega
 ·rw [List.getD_eq_getElem?_getD, List.getElem?_eq_none hi]
  simp
theorem Jc (off : Nat) : ∀ (l : List Value) (k : Nat) (cs : Array Value), (List.foldl (fun (cs : Array Value) (x : Value × Nat) => cs.setIfInBounds (off + x.2) x.1) cs (l.zipIdx k)).size = cs.size
 | [], k, cs => rfl
 | a :: l, k, cs => by
  rw [List.zipIdx_cons, List.foldl_cons, Jc off l (k + 1)]
  simp
theorem ZA (off : Nat) : ∀ (l : List Value) (k : Nat) (cs : Array Value) (i : Nat), off + k + l.length <= cs.size -> (List.foldl (fun (cs : Array Value) (x : Value × Nat) => cs.setIfInBounds (off + x.2) x.1) cs (l.zipIdx k))[i]? = if off + k <= i /\ i < off + k + l.length then l[i - (off + k)]? else cs[i]?
 | [], k, cs, i, h => by
  rw [if_neg qf]
  rfl
 | a :: l, k, cs, i, h => by
  rw [List.length_cons] at h
  rw [List.zipIdx_cons, List.foldl_cons, ZA off l (k + 1) _ i Y65, List.length_cons]
  by_cases h1 : i = off + k
  ·subst h1
   rw [if_neg Y62, if_pos Y62, Nat.sub_self, Array.getElem?_setIfInBounds_self_of_lt Y62]
   rfl
  ·by_cases h2 : off + (k + 1) <= i /\ i < off + (k + 1) + l.length
   ·rw [if_pos h2, if_pos Y62, show i - (off + k) = (i - (off + (k + 1))) + 1 by omega]
    rfl
   ·rw [if_neg h2, if_neg Y62, Array.getElem?_setIfInBounds_ne Y62]
theorem V0 (v : Value) (r h : List UInt8) (hr : r.length = 32) (hh : h.length = 32) : List.foldl (fun (cs : Array Value) (x : Value × Nat) => cs.setIfInBounds (33 + x.2) x.1) (List.foldl (fun (cs : Array Value) (x : Value × Nat) => cs.setIfInBounds (1 + x.2) x.1) ((Tryz.zeroCells60).setIfInBounds 0 v) (r.map u8v).zipIdx) (h.map u8v).zipIdx = (v :: (r.map u8v ++ h.map u8v)).toArray := by
 have hz : (Tryz.zeroCells60).size = 65 := by kernel_rfl
 refine Array.ext_getElem? fun i => ?_
 rw [ZA 33 _ 0 _ i (by rw [Jc, Array.size_setIfInBounds, hz, List.length_map, hh]; decide), ZA 1 _ 0 _ i (by rw [Array.size_setIfInBounds, hz, List.length_map, hr]; decide), List.length_map, List.length_map, hr, hh]
 have et : ∀ i, (v :: (r.map u8v ++ h.map u8v)).toArray[i]? = (v :: (r.map u8v ++ h.map u8v))[i]? := fun i => List.getElem?_toArray
 rw [et]
 rcases (show i = 0 ∨ (1 <= i /\ i < 33) ∨ (33 <= i /\ i < 65) ∨ 65 <= i by omega) with rfl | h1 | h1 | h1
 ·rw [if_neg Y62, if_neg Y62, Array.getElem?_setIfInBounds_self_of_lt Y62]
  rfl
 ·obtain ⟨j, rfl⟩ : ∃ j, i = j + 1 := ⟨i - 1, by omega⟩
  rw [if_neg Y62, if_pos Y62, List.getElem?_cons_succ, List.getElem?_append_left (by rw [List.length_map, hr]; omega)]
  rfl
 ·obtain ⟨j, rfl⟩ : ∃ j, i = j + 1 := ⟨i - 1, by omega⟩
  rw [if_pos Y62, List.getElem?_cons_succ, List.getElem?_append_right (by rw [List.length_map, hr]; omega), List.length_map, hr, show j + 1 - (33 + 0) = j - 32 by omega]
 ·obtain ⟨j, rfl⟩ : ∃ j, i = j + 1 := ⟨i - 1, by omega⟩
  rw [if_neg Y62, if_neg Y62, Array.getElem?_setIfInBounds_ne Y62, List.getElem?_cons_succ, List.getElem?_eq_none (by rw [List.length_append, List.length_map, List.length_map, hr, hh]; omega), Array.getElem?_eq_none Y62]
theorem X9 (E : Nat -> Addr) (B : Nat) (w0 : World) (mv v : Value) (m xs : List UInt8) (n : Int) (p : Par) (hE : j7 all20 E B w0) (hS : SG w0) (hB : Bs (fun b => w0.heap.size <= b) w0 mv m) (hV : Bs (fun _ => False) w0 v xs) (hc : chk p = 0) (hk : qp m n = 0) (hx : (xs.length : Int) = p.size) :
  Calls Tryz.prog 26 #[mv, .int .i64 n, v, .agg #[.int .i64 p.size, .int .i64 p.sent, .int .i64 p.spots, .int .i64 p.per, .int .i64 p.pat, .int .i64 p.ret]] w0 fun e w' => ∃ (u : Value) (us : List (Value × List UInt8)) (r h : List UInt8), e = .returned (.tuple #[.agg (u :: (r.map u8v ++ h.map u8v)).toArray, .nilIface]) /\ RdB (fun b => b < w0.heap.size) w' u us /\ us.map (·.2) = zw m n xs p.sent.toNat /\ r = jx (us.map fun x => qS x.2) /\ h = jf xs /\ Fr [] w0 w' := by
 have ho := yy hc
 have hs1 : 0 <= p.size /\ p.size <= 2000 := ho.1
 have hs2 : 0 <= p.sent /\ p.sent <= 8 := ho.2
 have hb1 := blk_le ho.1
 have hb2 := qb9 ho.1
 have hbl := W5 hx ho.1
 have HI := Hdq (And.intro hs1 (And.intro hs2 (And.intro hb1 (And.intro hb2 hbl))))
 have F2 : Fr [] w0 (((w0.alloc (.cells #[.int .i64 p.size, .int .i64 p.sent, .int .i64 p.spots, .int .i64 p.per, .int .i64 p.pat, .int .i64 p.ret] 24))).alloc (.cells Tryz.zeroCells60 60)) := (Fr.alloc _ _).trans (Fr.alloc _ _)
 obtain ⟨Z, hZ⟩ := exq (w0.heap.size)
 have HP := Hdq (show At (((w0.alloc (.cells #[.int .i64 p.size, .int .i64 p.sent, .int .i64 p.spots, .int .i64 p.per, .int .i64 p.pat, .int .i64 p.ret] 24))).alloc (.cells Tryz.zeroCells60 60)) Z (.cells #[.int .i64 p.size, .int .i64 p.sent, .int .i64 p.spots, .int .i64 p.per, .int .i64 p.pat, .int .i64 p.ret] 24) from (At.new hZ.symm).al)
 have HA := Hdq (show At (((w0.alloc (.cells #[.int .i64 p.size, .int .i64 p.sent, .int .i64 p.spots, .int .i64 p.per, .int .i64 p.pat, .int .i64 p.ret] 24))).alloc (.cells Tryz.zeroCells60 60)) (Z + 1) (.cells Tryz.zeroCells60 60) from At.new Y94)
 have HF := Hdq F2
 have HH := Hdq (And.intro (hE.keep0 F2) (And.intro (hS.keep F2) (And.intro (hB.mono (A' := fun b => (((w0.alloc (.cells #[.int .i64 p.size, .int .i64 p.sent, .int .i64 p.spots, .int .i64 p.per, .int .i64 p.pat, .int .i64 p.ret] 24))).alloc (.cells Tryz.zeroCells60 60)).heap.size <= b) F2 qf (fun b hb => .inl (by have := F2.size; omega))) (hV.keep F2 qf))))
 have HC := Hdq (Vn all20 E B (((w0.alloc (.cells #[.int .i64 p.size, .int .i64 p.sent, .int .i64 p.spots, .int .i64 p.per, .int .i64 p.pat, .int .i64 p.ret] 24))).alloc (.cells Tryz.zeroCells60 60)) (hE.keep0 F2) qd qd qd p)
 obtain ⟨va, vc, rfl, -, hvm⟩ := id hV
 obtain ⟨ma, mc, rfl, -, -, -⟩ := id hB
 obtain ⟨xn, hxn⟩ := exq (xs.length)
 obtain ⟨mn, hmn⟩ := exq (m.length)
 rw [hxn] at HH ⊢
 rw [hmn] at HH ⊢
 have HP1 := Hdq (show p.size = (xn : Int) by omega)
 have HX := Hdq hxn
 have HK := Hdq (And.intro hc hk)
 have hZW : Z + 2 = (((w0.alloc (.cells #[.int .i64 p.size, .int .i64 p.sent, .int .i64 p.spots, .int .i64 p.per, .int .i64 p.pat, .int .i64 p.ret] 24))).alloc (.cells Tryz.zeroCells60 60)).heap.size := by simp [hZ]
 have HZW := Hdq hZW
 obtain ⟨ws, hws⟩ := exq ((((w0.alloc (.cells #[.int .i64 p.size, .int .i64 p.sent, .int .i64 p.spots, .int .i64 p.per, .int .i64 p.pat, .int .i64 p.ret] 24))).alloc (.cells Tryz.zeroCells60 60)))
 clear hE hS hB hV hc hk hx ho hs1 hs2 hb1 hb2 hbl F2 hxn hmn hZW
 rw [hws] at HP HA HF HH HC HZW
 have hk : ∀ i, ws.cell? ⟨Z, i, none⟩ = #[.int .i64 p.size, .int .i64 p.sent, .int .i64 p.spots, .int .i64 p.per, .int .i64 p.pat, .int .i64 p.ret][i]? := fun i => HP.out.cell i
 have k0 := hk 0
 have k1 := hk 1
 have k2 := hk 2
 have k3 := hk 3
 have k4 := hk 4
 have k5 := hk 5
 simp only [List.getElem?_toArray, List.getElem?_cons_zero, List.getElem?_cons_succ] at k0 k1 k2 k3 k4 k5
 clear hk
 go_enter Tryz.func26, Tryz.ntmps26
 go_wp2_with (go_at_call 72; fail)
 clear k0 k1 k2 k3 k4 k5 hws
 refine HC.out.mono ?_
 rintro e w2 ⟨ev, rfl, hv, hf⟩
 rw [HK.out.1] at hv
 have := hv.nil_iff
 subst this
 have HF2 := Hdq (HF.out.trans hf)
 have HP2 := Hdq (HP.out.keep0 hf)
 have HA2 := Hdq (HA.out.keep0 hf)
 have HE2 := Hdq (HH.out.1.keep0 hf)
 have HS2 := Hdq (HH.out.2.1.keep hf)
 have HB2 := Hdq (HH.out.2.2.1.mono (A' := fun b => w2.heap.size <= b) hf qf (fun b hb => .inl Y97))
 have HV2 := Hdq (HH.out.2.2.2.keep hf qf)
 have hk : ∀ i, w2.cell? ⟨Z, i, none⟩ = #[.int .i64 p.size, .int .i64 p.sent, .int .i64 p.spots, .int .i64 p.per, .int .i64 p.pat, .int .i64 p.ret][i]? := fun i => HP2.out.cell i
 have k0 := hk 0
 have k1 := hk 1
 have k2 := hk 2
 have k3 := hk 3
 have k4 := hk 4
 have k5 := hk 5
 simp only [List.getElem?_toArray, List.getElem?_cons_zero, List.getElem?_cons_succ] at k0 k1 k2 k3 k4 k5
 have hpx : (xn : Int) = p.size := HP1.out.symm
 clear hk
 clear hv hf HF HP HA HH HC
 go_wp2_with (go_at_call 64; fail)
 refine (Wm E B w2 (.slice ma mn mc) m n p HE2.out HS2.out HB2.out).mono ?_
 rintro e w3 ⟨hok, -, hf⟩
 have hsd : sdE p m n = 0 := by unfold sdE; rw [if_neg (by rw [HK.out.1]; decide)]; exact HK.out.2
 obtain ⟨mb, rfl, hm⟩ := hok hsd
 obtain ⟨NN, hNN⟩ := exq ((blk p.size + p.sent).toNat)
 obtain ⟨DD, hDD⟩ := exq ((blk p.size).toNat)
 rw [hNN, hDD] at hm
 have HND := Hdq (show DD <= NN /\ NN <= 1000 /\ NN - DD = p.sent.toNat /\ (qt xs).length = DD /\ 1 <= NN by have := HI.out; omega)
 have HM3 := Hdq hm
 have HF3 := Hdq (HF2.out.trans hf)
 have HA3 := Hdq (HA2.out.keep0 hf)
 have HE3 := Hdq (HE2.out.keep0 hf)
 have HS3 := Hdq (HS2.out.keep hf)
 have HV3 := Hdq (HV2.out.keep hf qf)
 clear hpx hok hsd hf hm HF2 HP2 HA2 HE2 HS2 HB2 HV2 k0 k1 k2 k3 k4 k5 hNN hDD
 go_wp2_with (go_at_call 73; fail)
 refine (qaJ E B w3 mb NN DD m n (.slice va xn vc) xs HE3.out HM3.out HV3.out (by have := HI.out; have := HP1.out; have := HX.out; omega) HS3.out (by have := HND.out; omega) ⟨HND.out.1, HND.out.2.1⟩).mono ?_
 rintro e w4 ⟨u, ls, rfl, hR, hL, hf⟩
 rw [HND.out.2.2.1] at hL
 have hln : ls.length = NN := by rw [<- List.length_map (·.2), hL, Qx]; have := HND.out; omega
 have HM4 := Hdq (HM3.out.keep hf)
 have HF4 := Hdq (HF3.out.trans hf)
 have HA4 := Hdq (HA3.out.keep0 hf)
 have HS4 := Hdq (HS3.out.keep hf)
 have HV4 := Hdq (HV3.out.keep hf qf)
 have HR4 := Hdq hR
 have HL4 := Hdq hL
 have HLN := Hdq hln
 have HL8 := Hdq (show ∀ x ∈ ls, x.2.length = 8 from fun x hx => KP (QW xs) x.2 (by rw [<- hL]; exact List.mem_map_of_mem hx))
 clear hR hL hln hf HM3 HF3 HA3 HE3 HS3 HV3
 go_wp2_with (go_at_call 74; fail)
 refine (Kh w4 mb NN DD m n u ls HM4.out HR4.out HLN.out HND.out.2.1 (fun x hx => by rw [HL8.out x hx]; decide) HS4.out).mono ?_
 rintro e w5 ⟨v5, us, rfl, hR, hul, hL, hf⟩
 obtain ⟨v5a, v5c, rfl, -, -⟩ := zx hR
 obtain ⟨un, hun⟩ := exq (us.length)
 rw [hun] at hR
 rw [hun]
 have HF5 := Hdq (HF4.out.trans hf)
 have HA5 := Hdq (HA4.out.keep0 hf)
 have HS5 := Hdq (HS4.out.keep hf)
 have HV5 := Hdq (HV4.out.keep hf qf)
 have HR5 := Hdq hR
 have HZ4 := Hdq (show Z + 1 < w4.heap.size from ql HA4.out)
 have HW4 := Hdq (show w0.heap.size <= w4.heap.size from HF4.out.size)
 have HU5 := Hdq hul
 have HL5 := Hdq (show us.map (·.2) = zw m n xs p.sent.toNat by
  rw [hL, HL4.out]
  unfold zw
  simp only []
  rw [show (UB (qn m zI n) (qn m jp n) (qt xs) p.sent.toNat).length = NN by rw [<- HL4.out, List.length_map, HLN.out]])
 have HU8 := Hdq (show ∀ x ∈ us, x.2.length <= 10000000 from fun x hx => by
  have h9 := qde (m := m) (n := n) (s := p.sent.toNat) xs x.2 (by rw [<- HL5.out]; exact List.mem_map_of_mem hx)
  omega)
 clear hR hul hL hf HM4 HF4 HA4 HS4 HV4 HR4 HL4 HLN HL8
 go_wp2_with (go_at_call 75; fail)
 refine (qcV w5 (.slice v5a un v5c) us (uL (S := []) (A' := fun _ => False) HR5.out (Fr.refl _ _) qf (fun b hb => hb.elim)) HU8.out (by rw [HU5.out]; have := HND.out; omega) (by rw [HU5.out]; have := HND.out; omega) HS5.out).mono ?_
 rintro e w6 ⟨rfl, hf⟩
 obtain ⟨r, hr⟩ := exq (jx (us.map fun x => qS x.2))
 rw [hr]
 have HRL := Hdq (show r.length = 32 by
  rw [<- hr]
  exact overL_32 _ (fun d hd => by obtain ⟨x, -, rfl⟩ := List.mem_map.1 hd; rfl) (by rw [List.length_map, HU5.out]; have := HND.out; omega))
 have HRR := Hdq hr
 have HF6 := Hdq (HF5.out.trans hf)
 have HA6 := Hdq (HA5.out.keep0 hf)
 have HS6 := Hdq (HS5.out.keep hf)
 have HV6 := Hdq (HV5.out.keep hf qf)
 have HR6 := Hdq (HR5.out.keep hf qf)
 obtain ⟨Z2, hZ2⟩ := exq (w6.heap.size)
 obtain ⟨wb, hwb⟩ := exq ((w6.alloc (.cells #[.slice va xn vc] 22)))
 have F7 : Fr [] w6 wb := by rw [<- hwb]; exact Fr.alloc _ _
 have HB7 := Hdq (show RdB (fun b => wb.heap.size <= b) wb (.slice (some ⟨Z2, 0, none⟩) 1 1) [(.slice va xn vc, xs)] from by
  have hA : At wb Z2 (.cells #[.slice va xn vc] 22) := by rw [<- hwb]; exact At.new hZ2.symm
  refine V7 ⟨⟨_, 1, rfl, by simp, by decide, Row.of_block (c := #[.slice va xn vc]) (fz := (0, 0)) hA qf⟩, fun x hx => ?_⟩
  obtain rfl : x = (.slice va xn vc, xs) := by simpa using hx
  exact HV6.out.keep F7 qf)
 have HF7 := Hdq (HF6.out.trans F7)
 have HA7 := Hdq (HA6.out.keep0 F7)
 have HS7 := Hdq (HS6.out.keep F7)
 have HR7 := Hdq (HR6.out.keep F7 qf)
 clear hr hf F7 HF5 HA5 HS5 HV5 HR5 HF6 HA6 HS6 HV6 HR6
 go_wp2_with (go_at_call 76; fail)
 clear hwb
 refine (Qa wb _ [(.slice va xn vc, xs)] HB7.out HS7.out.f HS7.out.k HS7.out.g (by simp [qP]; have := HI.out; have := HP1.out; have := HX.out; omega)).mono ?_
 rintro e w8 ⟨rfl, hf⟩
 obtain ⟨h, hh⟩ := exq (jf (qP [((.slice va xn vc : Value), xs)]))
 rw [hh]
 have HHL := Hdq (show h.length = 32 by rw [<- hh]; exact jY _)
 have HHX := Hdq (show h = jf xs by rw [<- hh]; simp [qP])
 have HF8 := Hdq (HF7.out.trans hf)
 have HA8 := Hdq (HA7.out.keep0 hf)
 have HR8 := Hdq (HR7.out.keep hf qf)
 clear hf hh HF7 HA7 HS7 HR7 HB7
 have HBV := Hdq (V0 (.slice v5a un v5c) r h HRL.out HHL.out)
 have HS9 := Hdq (show (Tryz.prog.info? 60).map (·.size) = some (List.foldl (fun (cs : Array Value) (x : Value × Nat) => cs.setIfInBounds (33 + x.2) x.1) (List.foldl (fun (cs : Array Value) (x : Value × Nat) => cs.setIfInBounds (1 + x.2) x.1) ((Tryz.zeroCells60).setIfInBounds 0 (.slice v5a un v5c)) (r.map u8v).zipIdx) (h.map u8v).zipIdx).size by rw [HBV.out, List.size_toArray, List.length_cons, List.length_append, List.length_map, List.length_map, HRL.out, HHL.out]; kernel_rfl)
 have HZ9 := Hdq (show (List.foldl (fun (cs : Array Value) (x : Value × Nat) => cs.setIfInBounds (33 + x.2) x.1) (List.foldl (fun (cs : Array Value) (x : Value × Nat) => cs.setIfInBounds (1 + x.2) x.1) ((Tryz.zeroCells60).setIfInBounds 0 (.slice v5a un v5c)) (r.map u8v).zipIdx) (h.map u8v).zipIdx).size = (Tryz.zeroCells60).size by rw [HBV.out, List.size_toArray, List.length_cons, List.length_append, List.length_map, List.length_map, HRL.out, HHL.out]; kernel_rfl)
 have H1 := Hdq (show (List.foldl (fun (cs : Array Value) (x : Value × Nat) => cs.setIfInBounds (33 + x.2) x.1) (List.foldl (fun (cs : Array Value) (x : Value × Nat) => cs.setIfInBounds (1 + x.2) x.1) ((Tryz.zeroCells60).setIfInBounds 0 (.slice v5a un v5c)) (r.map u8v).zipIdx) (h.map u8v).zipIdx).all (fun v => v.oneCell') = true by
  rw [HBV.out]
  refine Array.all_eq_true'.2 fun u hu => ?_
  rw [List.mem_toArray, List.mem_cons, List.mem_append] at hu
  rcases hu with rfl | hu | hu
  ·rfl
  ·exact zp _ u hu
  ·exact zp _ u hu)
 have hr32 := HRL.out
 have hh32 := HHL.out
 have hs65 : (List.foldl (fun (cs : Array Value) (x : Value × Nat) => cs.setIfInBounds (1 + x.2) x.1) ((Tryz.zeroCells60).setIfInBounds 0 (.slice v5a un v5c)) (r.map u8v).zipIdx).size = 65 := by rw [Jc, Array.size_setIfInBounds]; kernel_rfl
 go_wp2_with (refine qx (.tmp 8) (.tmp 65) rfl rfl (List.foldl (fun (cs : Array Value) (x : Value × Nat) => cs.setIfInBounds (33 + x.2) x.1) (List.foldl (fun (cs : Array Value) (x : Value × Nat) => cs.setIfInBounds (1 + x.2) x.1) ((Tryz.zeroCells60).setIfInBounds 0 (.slice v5a un v5c)) (r.map u8v).zipIdx) (h.map u8v).zipIdx) rfl rfl HS9.out HA8.out HZ9.out H1.out ?_)
 intro w9 f9 a9 s9
 rw [HBV.out] at a9
 have HF9 := Hdq (HF8.out.then f9 (fun z hz => .inr Y74))
 have HR9 := Hdq (uL (A' := fun b => b < w0.heap.size) HR8.out f9 (fun b hb => by have := HZ4.out; simp at hb; omega) (fun b hb => .inl (Nat.lt_of_lt_of_le hb HW4.out)))
 have HA9 := Hdq a9
 clear f9 a9 s9
 go_wp2
 refine bodyPost_ret (zl rfl _ _ (Z + 1) ((.slice v5a un v5c) :: (r.map u8v ++ h.map u8v)) Y69 (qC HA9.out) Tryz.underlying60 rfl (by rw [List.length_cons, List.length_append, List.length_map, List.length_map, HRL.out, HHL.out]; kernel_rfl)) rfl ?_
 exact ⟨_, us, r, h, rfl, HR9.out, HL5.out, HRR.out.symm, HHX.out, HF9.out⟩
theorem qdu (E : Nat -> Addr) (B : Nat) (w0 : World) (mv v : Value) (m xs : List UInt8) (n : Int) (p : Par) (hE : j7 all20 E B w0) (hS : SG w0) (hB : Bs (fun b => w0.heap.size <= b) w0 mv m) (hV : Bs (fun _ => False) w0 v xs) (hc : chk p = 0) (hk : qp m n = 0) (hx : (xs.length : Int) = p.size) :
  Calls Tryz.prog 26 #[mv, .int .i64 n, v, .agg #[.int .i64 p.size, .int .i64 p.sent, .int .i64 p.spots, .int .i64 p.per, .int .i64 p.pat, .int .i64 p.ret]] w0 fun e w' => ∃ (u : Value) (us : List (Value × List UInt8)) (r h : List UInt8), e = .returned (.tuple #[.agg (u :: (r.map u8v ++ h.map u8v)).toArray, .nilIface]) /\ RdB (fun _ => False) w' u us /\ us.map (·.2) = zw m n xs p.sent.toNat /\ r = jx (us.map fun x => qS x.2) /\ h = jf xs /\ Fr [] w0 w' :=
 (X9 E B w0 mv v m xs n p hE hS hB hV hc hk hx).mono (by
  rintro e w' ⟨u, us, r, h, e1, e2, e3⟩
  exact ⟨u, us, r, h, e1, uL (S := []) e2 (Fr.refl _ _) qf (fun b hb => hb.elim), e3⟩)
theorem vD (m xs : List UInt8) (n : Int) (s : Nat) : (zw m n xs s).length = (qt xs).length + s := by
 unfold zw
 rw [Jb, Qx]
theorem YF (m xs : List UInt8) (n : Int) (s : Nat) (hN : (qt xs).length + s <= 4194304) (i : Nat) (hi : i < (qt xs).length + s) :
  ∃ b : List UInt8, b.length = 8 /\ (zw m n xs s)[i]? = some (ze (qn m jR n) (i : Int) b) := by
 obtain ⟨all, ha⟩ := exq (UB (qn m zI n) (qn m jp n) (qt xs) s)
 have hl : all.length = (qt xs).length + s := by rw [<- ha, Qx]
 have hP := fun j (hj : j < all.length) => Q3 (key := qn m qM n) (n := all.length) Y62 hj
 have hinj := fun a c (h1 : a < all.length) (h2 : c < all.length) h => ZH (key := qn m qM n) (n := all.length) Y62 h1 h2 h
 have hn := qdD (key := qn m qM n) (n := all.length) Y62 (i := i) Y62
 have hp := Wj (key := qn m qM n) (n := all.length) Y62 (i := i) Y62
 have h := Je (P := ji (qn m qM n) all.length) (T := fun p b => ze (qn m jR n) (p : Int) b) hP hinj all.length (Nat.le_refl _) _ hn
 refine ⟨all.getD (qe9 (qn m qM n) all.length i) [], ?_, ?_⟩
 ·rw [List.getD_eq_getElem?_getD, List.getElem?_eq_getElem hn]
  exact KP (QW xs) _ (by rw [ha]; exact List.getElem_mem hn)
 ·rw [hp] at h
  unfold zw
  simp only [ha]
  exact h
theorem WV : (qt []).length = 33 := by
 have h := W5 (p := ⟨0, 0, 1, 1, 1, 0⟩) (xs := []) rfl (by simp [jS])
 have h2 : blk 0 = 33 := by decide
 rw [show (⟨0, 0, 1, 1, 1, 0⟩ : Par).size = 0 from rfl, h2] at h
 omega
theorem qaB : chk ⟨0, 0, 1, 1, 1, 0⟩ = 0 := by
 have h2 : blk 0 = 33 := by decide
 simp [chk, jS, h2]
 omega
theorem WK {m xs : List UInt8} {n : Int} {s : Nat} {us : List (Value × List UInt8)} (hb : (qt xs).length = 33) (h : us.map (·.2) = zw m n xs s) (hs : s = 0 := by rfl) : us.length = 33 /\ ∃ x0, us[0]? = some x0 /\ x0.2.length = 16 /\ (jx (us.map fun x => qS x.2)).length = 32 := by
 subst hs
 have hul : us.length = 33 := by
  rw [<- List.length_map (·.2), h, vD]
  omega
 obtain ⟨x0, hx0⟩ : ∃ x, us[0]? = some x := ⟨_, List.getElem?_eq_getElem (by rw [hul]; decide)⟩
 obtain ⟨b8, hb8, hrow⟩ := YF m xs n 0 Y62 0 Y62
 refine ⟨hul, x0, hx0, ?_, ?_⟩
 ·have h9 : (us.map (·.2))[0]? = some x0.2 := by rw [List.getElem?_map, hx0]; rfl
  rw [h, hrow] at h9
  rw [<- Option.some.inj h9, Zs, hb8]
 ·exact overL_32 _ (fun d hd => by obtain ⟨x, -, rfl⟩ := List.mem_map.1 hd; rfl) (by rw [List.length_map, hul]; decide)
theorem Ww (E : Nat -> Addr) (B : Nat) (w0 : World) (hE : j7 all20 E B w0) (hS : SG w0) :
  Calls Tryz.prog 9 #[] w0 fun e w' => e = .returned (.bool true) /\ Fr [] w0 w' := by
 obtain ⟨wm, hwm⟩ := exq (w0.alloc (.cells (madeCells #[.int .u8 0] 16) 5))
 have F1 : Fr [] w0 wm := by rw [<- hwm]; exact Fr.alloc _ _
 have hA : At wm w0.heap.size (.cells ((List.replicate 16 (0 : UInt8)).map u8v).toArray 5) := by rw [<- hwm, We]; exact At.new rfl
 have hB : Bs (fun b => wm.heap.size <= b) wm (.slice (some ⟨w0.heap.size, 0, none⟩) 16 16) (List.replicate 16 (0 : UInt8)) := zk (xD hA rfl qd (fun h => h))
 have HC := Hdq (qdu E B wm (.slice (some ⟨w0.heap.size, 0, none⟩) 16 16) (.slice none 0 0) (List.replicate 16 (0 : UInt8)) [] 0 ⟨0, 0, 1, 1, 1, 0⟩ (hE.keep0 F1) (hS.keep F1) hB (Bs.nil _ _ _ _ (Nat.zero_le _)) qaB qd rfl)
 have HF := Hdq F1
 clear hE hS hA hB F1
 go_enter Tryz.func9, Tryz.ntmps9
 go_wp2_with (first | (refine qcu Tryz.underlying22 Tryz.infoByte rfl rfl (.const (.int .i64 16)) rfl 16 rfl qd qd ?_) | (go_at_call 26; fail))
 refine HC.out.mono ?_
 rintro e w2 ⟨u, us, r, h, rfl, hR, hL, hr, hh, hf⟩
 obtain ⟨hul, x0, hx0, hx16, hun⟩ := WK (s := _) WV hL
 obtain ⟨ua, uc, rfl, -, -⟩ := zx hR
 rw [hul] at hR ⊢
 obtain ⟨b, off, rfl, hc, hbx⟩ := vM hR 0 x0 hx0
 obtain ⟨xa, xc, hx1, -, -, -⟩ := id hbx
 rw [hx16] at hx1
 rw [hx1] at hc
 have hr32 : r.length = 32 := by
  rw [hr]
  exact hun
 have hh32 : h.length = 32 := by rw [hh]; exact jY _
 obtain ⟨wn, hwn⟩ := exq (w2.alloc (.cells ((.slice (some ⟨b, off, none⟩) 33 uc) :: (r.map u8v ++ h.map u8v)).toArray 60))
 have F2 : Fr [] w2 wn := by rw [<- hwn]; exact Fr.alloc _ _
 have c0 : wn.cell? ⟨w2.heap.size, 0, none⟩ = some (.slice (some ⟨b, off, none⟩) 33 uc) := by
  rw [<- hwn]
  exact (At.new (w := w2) (b := w2.heap.size) rfl).cell 0
 have c1 : wn.cell? ⟨b, off, none⟩ = some (.slice xa 16 xc) := qG F2 qf hc
 have HS9 := Hdq (show (Tryz.prog.info? 60).map (·.size) = some (((.slice (some ⟨b, off, none⟩) 33 uc) :: (r.map u8v ++ h.map u8v)).toArray).size by rw [List.size_toArray, List.length_cons, List.length_append, List.length_map, List.length_map, hr32, hh32]; kernel_rfl)
 have HS8 := Hdq (show (((.slice (some ⟨b, off, none⟩) 33 uc) :: (r.map u8v ++ h.map u8v)).toArray).size = (Tryz.zeroCells60).size by rw [List.size_toArray, List.length_cons, List.length_append, List.length_map, List.length_map, hr32, hh32]; kernel_rfl)
 have H1 := Hdq (show (((.slice (some ⟨b, off, none⟩) 33 uc) :: (r.map u8v ++ h.map u8v)).toArray).all (fun v => v.oneCell') = true by
  refine Array.all_eq_true'.2 fun u hu => ?_
  rw [List.mem_toArray, List.mem_cons, List.mem_append] at hu
  rcases hu with rfl | hu | hu
  ·rfl
  ·exact zp _ u hu
  ·exact zp _ u hu)
 have HF2 := Hdq ((HF.out.trans hf).trans F2)
 clear hR hL hr hh hf hul hun hx0 hbx hx16 hx1 hc F2 HC HF hwm hr32 hh32
 go_wp2_with (refine jb (.tmp 1) (.tmp 7) rfl rfl (((.slice (some ⟨b, off, none⟩) 33 uc) :: (r.map u8v ++ h.map u8v)).toArray) rfl rfl HS9.out HS8.out.symm H1.out ?_)
 go_ret
 exact ⟨by simp, HF2.out⟩
end Go.Proofs.YtnafknkchbfpaaaGreatDoor
