import Derived.Test.YtnafknkchbfpaaaGreatDoorHW
import Derived.Test.YtnafknkchbfpaaaGreatDoorHM
set_option maxRecDepth 1000000
set_option maxHeartbeats 8000000
namespace Go.Proofs.YtnafknkchbfpaaaGreatDoor
open Go.RowKit Go.Bl
set_option linter.unusedVariables false
theorem Yy {w : World} {base : Nat} {v : Value} {xs : List UInt8} (h : qi 5 base w v xs) (hx : 0 < xs.length) : BsT w v xs := by
 obtain ⟨h1, h2⟩ := h
 rcases h2 with ⟨-, h2⟩ | ⟨g, cap, cur, rfl, hg, hh, hn, hm, hs, ht⟩
 ·exfalso; rw [List.length_eq_zero_iff.1 h2] at hx; simp at hx
 ·refine ⟨g, 0, cap, cur, rfl, hn, hm, hh, fun i hi => ?_⟩
  rw [List.length_map] at hi
  have e : (cur.toList.take (xs.length * 1))[i]? = (xs.map u8v)[i]? := by rw [ht]
  rw [List.getElem?_take, if_pos Y95, Array.getElem?_toList] at e
  rw [Nat.zero_add, e]
theorem qcB (n : Nat) : madeCells #[.int .u8 0] n = ((List.replicate n (0 : UInt8)).map u8v).toArray := by
 apply Array.ext
 ·simp [madeCells]
 ·intro i h1 h2
  simp [madeCells, u8v, Nat.mod_one]
theorem qaa (w : World) : Calls Tryz.prog 159 #[] w fun e w' => ∃ b, e = .returned (.slice (some ⟨b, 0, none⟩) 33 33) /\ w.heap.size <= b /\ At w' b (.cells (vu.map u8v).toArray 5) /\ Fr [] w w' := by
 obtain ⟨i0, hi, hz, hsz, hby⟩ := qO Tryz.infoByte
 go_enter Tryz.func159, Tryz.ntmps159
 go_wp2
 go_loopw [1, 2, 3] (fun g r i wr => ∃ (j b n : Nat), j <= 32 /\ n = j + 1 /\ i = .int .i64 j /\ g = .slice (some ⟨b, 0, none⟩) n n /\ r = .int .u8 ((yf j).2.toNat : Int) /\ w.heap.size <= b /\ Hid (At wr b (.cells ((yf j).1.map u8v).toArray 5)) /\ Hid (Fr [] w wr)) (fun _ _ i _ => 32 - (intOf i).toNat)
 case atStart => exact ⟨0, w.heap.size, 1, by omega, rfl, rfl, rfl, rfl, Nat.le_refl _, Hdq (At.new rfl), Hdq (Fr.alloc _ _)⟩
 case round =>
  obtain ⟨j, b, n, hj, hn, rfl, rfl, rfl, hwb, HA, HF⟩ := hrel
  have hn3 : n <= 33 := by omega
  have HN0 := Hdq hn
  clear hn
  by_cases hjn : j < 32
  ·have HGL := Hdq (Zb j)
   have HN1 := Hdq (show (yf (j + 1)).1 = uy (yf j).2 (yf j).1 0 (List.replicate (n + 1) 0) by
    show uy _ _ 0 (List.replicate ((yf j).1.length + 1) 0) = _
    rw [Zb j, <- HN0.out])
   have HN2 := Hdq (show (yf (j + 1)).2 = qX (yf j).2 2 from rfl)
   rw [<- HN0.out] at HGL
   obtain ⟨G, hG⟩ := exq ((yf j).1)
   obtain ⟨R, hR⟩ := exq ((yf j).2)
   rw [hG] at HGL HN1 HA
   rw [hR] at HN1 HN2 ⊢
   clear hG hR
   go_wp2_with (refine wpList_make_row _ rfl (.tmp 14) (.tmp 14) 22 rfl 5 i0 (.int .u8 0) Tryz.underlying22 hi hz hsz rfl .i64 .i64 (n + 1) (by show Value.int .i64 _ = _; simp) (by show Value.int .i64 _ = _; simp) XU Y95 ?_)
   have HX := Hdq (show At (wr.alloc (.cells (madeCells #[.int .u8 0] (n + 1)) 5)) wr.heap.size (.cells ((uy R (G.take 0) 0 (List.replicate (n + 1) 0)).map u8v).toArray 5) by rw [qcB]; exact At.new rfl)
   have HA2 := Hdq (HA.out.al (o' := .cells (madeCells #[.int .u8 0] (n + 1)) 5))
   have HF2 := Hdq (show Fr [] w (wr.alloc (.cells (madeCells #[.int .u8 0] (n + 1)) 5)) from Fr.al HF.out)
   have hbl := HA.out.lt
   obtain ⟨w2, hw2⟩ := exq (wr.alloc (.cells (madeCells #[.int .u8 0] (n + 1)) 5))
   rw [hw2] at HX HA2 HF2 ⊢
   obtain ⟨g, hg⟩ := exq (wr.heap.size)
   rw [hg] at HX hbl ⊢
   have hgw : w.heap.size <= g := by omega
   clear hw2 hg HA HF
   have hgb : b ≠ g := by omega
   go_wp2
   go_loopw [18] (fun i wr => ∃ k : Nat, k <= n /\ i = .int .i64 k /\ Hid (At wr g (.cells ((uy R (G.take k) 0 (List.replicate (n + 1) 0)).map u8v).toArray 5)) /\ Hid (At wr b (.cells (G.map u8v).toArray 5)) /\ Hid (Fr [] w wr)) (fun i _ => n - (intOf i).toNat)
   case atStart => exact ⟨0, by omega, rfl, HX, HA2, HF2⟩
   case round =>
    clear HX HA2 HF2
    obtain ⟨k, hk, rfl, HX, HA, HF⟩ := hrel
    by_cases hkn : k < n
    ·obtain ⟨c, hc⟩ : ∃ c, G[k]? = some c := ⟨_, List.getElem?_eq_getElem (by have := HGL.out; omega)⟩
     have hcc : wr.cell? ⟨b, k, none⟩ = some (.int .u8 (c.toNat : Int)) := by
      rw [zX HA.out (by have := HGL.out; omega), List.getD_eq_getElem?_getD, hc]; rfl
     have HT := Hdq (JZ R G k 0 c (List.replicate (n + 1) 0) hc)
     have HL2 := Hdq (show (uy R (G.take k) 0 (List.replicate (n + 1) 0)).length = n + 1 by rw [QF, List.length_replicate])
     obtain ⟨cur, hcur⟩ := exq (uy R (G.take k) 0 (List.replicate (n + 1) 0))
     rw [hcur] at HX HT HL2
     rw [Nat.zero_add] at HT
     clear hc hcur
     go_wp2_with fail
     refine qaD _ _ rfl g (n + 1) k cur c R Y95 Y95 HL2.out rfl rfl rfl rfl HX.out _ ?_
     intro b' p h1 h2 h3 hf ha
     obtain ⟨f, hb⟩ := ZJ b' _ _ h1 h2 h3
     have HF2 := Hdq (HF.out.then hf Jc)
     have HA2 := Hdq (HA.out.keep hf (by simpa using hgb))
     have HL3 := Hdq (show (jY cur k (qX c R)).length = n + 1 by rw [vL, HL2.out])
     obtain ⟨cu2, hcu⟩ := exq (jY cur k (qX c R))
     rw [hcu] at HT HL3 ha
     have HX2 := Hdq ha
     obtain ⟨d, hd⟩ := exq (cu2.getD (k + 1) 0)
     have hce := zX ha (i := k + 1) (by have := HL3.out; omega)
     rw [hd] at hce
     have hxu := uk d c
     obtain ⟨z, hz2⟩ := exq (d ^^^ c)
     rw [hz2] at hxu
     have HXU := Hdq hxu
     have HZ := Hdq (show cu2.getD (k + 1) 0 ^^^ c = z by rw [hd, hz2])
     clear hd hxu hz2
     clear h1 h2 h3 hf ha HX HA HF hcc hcu HL2
     subst hb
     simp only [List.foldl_cons, List.foldl_nil, Go.Act.put, List.setIfInBounds_toArray, List.set_cons_succ, List.set_cons_zero]
     go_wp2_with (refine qj (.tmp 44) (.tmp 43) rfl rfl (.int .u8 (z.toNat : Int)) rfl (by show Value.int .u8 _ = _; rw [HXU.out]) HX2.out (by simp [HL3.out]; omega) qf rfl ?_)
     intro w3 f3 a3 _
     have HX3 := Hdq (show At w3 g (.cells ((uy R (G.take (k + 1)) 0 (List.replicate (n + 1) 0)).map u8v).toArray 5) by
      rw [HT.out]
      unfold jY
      rw [HZ.out, List.map_set]
      simpa [u8v] using a3)
     have HF3 := Hdq (HF2.out.then f3 Jc)
     have HA3 := Hdq (HA2.out.keep f3 (by simpa using hgb))
     clear f3 a3 HX2 HF2 HA2 hce HT HL3
     go_wp2
     go_roundw
     case rel => exact ⟨k + 1, by omega, by go_num, HX3, HA3, HF3⟩
     case measure => simp [intOf]; omega
    ·obtain rfl : k = n := by omega
     have HX2 := Hdq (show At wr g (.cells ((yf (j + 1)).1.map u8v).toArray 5) by
      have h := HX.out
      rw [List.take_of_length_le (by have := HGL.out; omega)] at h
      rw [HN1.out]; exact h)
     clear HX HN1
     go_wp2_with fail
     refine (U4 wr R 2).mono ?_
     rintro e w3 ⟨rfl, hf⟩
     have HX3 := Hdq (HX2.out.keep0 hf)
     have HF3 := Hdq (HF.out.trans hf)
     clear hf HX2 HF HA
     unfold u8v
     go_wp2
     go_roundw
     case rel => exact ⟨j + 1, g, k + 1, by omega, by have := HN0.out; omega, by go_num, rfl, by rw [HN2.out], hgw, HX3, HF3⟩
     case measure => simp [intOf]; omega
  ·obtain rfl : j = 32 := by omega
   have hn := HN0.out
   subst hn
   clear HN0
   have HA2 := Hdq (show At wr b (.cells (vu.map u8v).toArray 5) by rw [<- LK]; exact HA.out)
   clear HA
   go_wp2
   go_ret
   exact ⟨b, rfl, hwb, HA2.out, HF.out⟩
theorem Za (y : UInt8) : qX 0 y = 0 := by simp [qX]
theorem Km (l : List UInt8) (i : Nat) : jY l i 0 = l := by
 unfold jY
 rw [UInt8.xor_zero]
 apply List.ext_getElem?
 intro j
 rw [List.getElem?_set]
 split
 ·rename_i h
  subst h
  split
  ·rename_i h2
   simp [List.getD_eq_getElem?_getD, h2]
  ·rename_i h2
   rw [List.getElem?_eq_none Y95]
 ·rfl
theorem qar (w : World) (v : Value) (data : List UInt8) (hb : Bs (fun _ => False) w v data) (h1 : 1 <= data.length) (h2 : data.length <= 223) :
  Calls Tryz.prog 127 #[v] w fun e w' => ∃ (b off cap : Nat), e = .returned (.tuple #[.slice (some ⟨b, off, none⟩) 32 cap, .int .i64 0]) /\ w.heap.size <= b /\ BsT w' (.slice (some ⟨b, off, none⟩) 32 cap) (zl data) /\ Fr [] w w' := by
 have HB := Hdq hb
 obtain ⟨a, cap, rfl, k2, k3, -⟩ := hb
 unfold maxLen at k3
 have HDP := Hdq (qcy data)
 obtain ⟨L, hL⟩ := exq (data.length)
 rw [hL] at HB HDP k2 h1 h2 ⊢
 have HL := Hdq hL
 clear hL
 go_enter Tryz.func127, Tryz.ntmps127
 go_wp2_with fail
 refine (qaa w).mono ?_
 rintro e w1 ⟨gg, rfl, hwg, hgA, hf⟩
 have HG1 := Hdq hgA
 have HF1 := Hdq hf
 have HB1 := Hdq (HB.out.keep hf qg)
 have hgl := hgA.lt
 obtain ⟨B1, hB1⟩ := exq (w1.heap.size)
 have hwB : w.heap.size <= B1 := by have := hf.size; omega
 rw [hB1] at hgl
 have HE := Hdq (show qi 5 B1 (w1.alloc (.cells #[] 5)) (.slice (some ⟨B1, 0, none⟩) 0 0) [] by
  have h := qi.empty 5 B1 w1 Y95
  rwa [hB1] at h)
 have HBa := Hdq (show Bs (fun _ => False) (w1.alloc (.cells #[] 5)) (.slice a L cap) data from HB1.out.keep (Fr.alloc (S := []) _ _) qg)
 have hbs : B1 <= (w1.alloc (.cells #[] 5)).heap.size := by simp; omega
 clear hf hgA HB
 go_wp2_with (at_builtin; refine qh (A := fun _ => False) (ys := data) (base := B1) Tryz.underlying22 Tryz.infoByte rfl (.tmp 18) (.tmp 19) rfl rfl rfl HE.out HBa.out (by simp; have := HL.out; omega) hbs ?_)
 intro v2 w2 ho2 hg2
 have HO2 := Hdq ho2
 have HG2 := Hdq (show At w2 gg (.cells (vu.map u8v).toArray 5) from ((HG1.out.al (o' := .cells #[] 5)).grown hg2 (by simp [Value.ownBlock]; omega)))
 have HF2 := Hdq (show Fr [] w w2 from qi.fr HE.out (Fr.al HF1.out) hg2 hwB)
 have hs2 : B1 <= w2.heap.size := by have := hg2.size; omega
 clear ho2 hg2 HE HBa hbs HB1 HG1 HF1
 obtain ⟨z, hz⟩ := exq (32)
 have HZ := Hdq hz
 rw [hz] at HDP
 have hzi : (32 : Int) = z := by omega
 have HZI := Hdq hzi
 clear hz hzi
 go_wp2_with (refine uz (kn := .i64) (k := z) Tryz.underlying22 Tryz.underlying3 Tryz.infoByte rfl (.tmp 20) (.const (.int .i64 32)) rfl rfl rfl HZI.out HO2.out (by have := HL.out; have := HZ.out; omega) hs2 ?_)
 intro v3 w3 ho3 hg3
 have HG3 := Hdq (show At w3 gg (.cells (vu.map u8v).toArray 5) from HG2.out.grown hg3 (fun h => by have := HO2.out.blk (g := gg) (by rw [h]; simp); omega))
 have HF3 := Hdq (show Fr [] w w3 from qi.fr HO2.out HF2.out hg3 hwB)
 obtain ⟨D, hD⟩ := exq (data ++ List.replicate z (0 : UInt8))
 have HDL := Hdq (show D.length = L + 32 by rw [<- hD]; simp; have := HL.out; have := HZ.out; omega)
 rw [hD] at ho3 HDP
 obtain ⟨g, cp, rfl, hg0, hg1, hg2, -⟩ := ho3.shape (by have := HDL.out; omega)
 have HO3 := Hdq ho3
 rw [HDL.out] at hg1 HO3 ⊢
 unfold maxLen at hg2
 have hgg : gg ≠ g := by omega
 have hwg2 : w.heap.size <= g := by omega
 clear ho3 hg3 HO2 HG2 HF2 hD
 go_wp2
 go_loopw [24] (fun i wr => ∃ j, j <= L /\ i = .int .i64 j /\ Hid (qi 5 B1 wr (.slice (some ⟨g, 0, none⟩) (L + 32) cp) (zv D j)) /\ Hid (At wr gg (.cells (vu.map u8v).toArray 5)) /\ Hid (Fr [] w wr)) (fun i _ => L - (intOf i).toNat)
 case atStart => exact ⟨0, by omega, rfl, HO3, HG3, HF3⟩
 case round =>
  clear HO3 HG3 HF3
  obtain ⟨j, hj, rfl, HO, HG, HF⟩ := hrel
  by_cases hjn : j < L
  ·have HST := Hdq (show ∀ n, n = 33 -> zv D (j + 1) = zJ ((zv D j).getD j 0) j n (zv D j) from fun n hn => by subst hn; rfl)
   have HLE := Hdq (show (zv D j).length = L + 32 by rw [uO, HDL.out])
   obtain ⟨Z, hE⟩ := exq (zv D j)
   rw [hE] at HO HST HLE
   obtain ⟨x, hx⟩ := exq (Z.getD j 0)
   have hcx : wr.cell? ⟨g, j, none⟩ = some (.int .u8 (x.toNat : Int)) := by
    obtain ⟨cur, q1, q2, q3, -⟩ := Qo HO.out
    rw [qE q1, q3 j (by have := HLE.out; omega), hx]
   rw [hx] at HST
   clear hE hx
   go_wp2
   go_loopw [8] (fun i wr => ∃ k : Nat, k <= 33 /\ i = .int .i64 k /\ Hid (qi 5 B1 wr (.slice (some ⟨g, 0, none⟩) (L + 32) cp) (zJ x j k Z)) /\ Hid (At wr gg (.cells (vu.map u8v).toArray 5)) /\ Hid (Fr [] w wr)) (fun i _ => 33 - (intOf i).toNat)
   case atStart => exact ⟨0, by omega, rfl, HO, HG, HF⟩
   case round =>
    clear HO HG HF hcx
    obtain ⟨k, hk, rfl, HO, HG, HF⟩ := hrel
    by_cases hkn : k < 33
    ·obtain ⟨m, hm⟩ : ∃ m, m + k = 32 := ⟨32 - k, by omega⟩
     have HT := Hdq (show zJ x j (k + 1) Z = jY (zJ x j k Z) (j + k) (qX x (vu.getD m 0)) by
      rw [show m = 32 - k by omega]; rfl)
     have HL2 := Hdq (show (zJ x j k Z).length = L + 32 by rw [xk, HLE.out])
     obtain ⟨cur, hcur⟩ := exq (zJ x j k Z)
     obtain ⟨y, hy⟩ := exq (vu.getD m 0)
     have hcy := zX HG.out (i := m) (by rw [Qn]; omega)
     rw [hy] at HT hcy
     have HCY := Hdq hcy
     rw [hcur] at HO HT HL2
     clear hcur hy hcy
     by_cases hx0 : x = 0
     ·subst hx0
      have HT0 := Hdq (show zJ 0 j (k + 1) Z = cur by rw [HT.out, Za, Km])
      clear HT
      have HO2 := Hdq (show qi 5 B1 wr (.slice (some ⟨g, 0, none⟩) (L + 32) cp) (zJ 0 j (k + 1) Z) by rw [HT0.out]; exact HO.out)
      clear HT0 HO
      go_wp2
      constructor
      ·exact ⟨k + 1, by omega, by go_num, HO2, HG, HF⟩
      ·simp [intOf]; omega
     ·have hxn : x.toNat ≠ 0 := fun h => hx0 (UInt8.toNat_inj.1 h)
      go_wp2_with fail
      refine qa4 _ _ rfl B1 g gg (L + 32) cp 33 j k m cur x y Y95 hm Y95 HL2.out hgg rfl rfl rfl rfl rfl HCY.out HO.out _ ?_
      intro b' p q1 q2 q3 hf ha
      obtain ⟨f, hb⟩ := ZJ b' _ _ q1 q2 q3
      have HF2 := Hdq (HF.out.then hf Jc)
      have HG2 := Hdq (HG.out.keep hf (by simpa using hgg))
      have HO2 := Hdq (show qi 5 B1 p (.slice (some ⟨g, 0, none⟩) (L + 32) cp) (zJ x j (k + 1) Z) by rw [HT.out]; exact ha)
      clear q1 q2 q3 hf ha HO HG HF HCY HT HL2
      subst hb
      simp only [List.foldl_cons, List.foldl_nil, Go.Act.put, List.setIfInBounds_toArray, List.set_cons_succ, List.set_cons_zero]
      go_wp2
      go_roundw
      case rel => exact ⟨k + 1, by omega, by go_num, HO2, HG2, HF2⟩
      case measure => simp [intOf]; omega
    ·have HX2 := Hdq (show qi 5 B1 wr (.slice (some ⟨g, 0, none⟩) (L + 32) cp) (zv D (j + 1)) by rw [HST.out k Y95]; exact HO.out)
     clear HO
     go_wp2
     constructor
     ·exact ⟨j + 1, by omega, by go_num, HX2, HG, HF⟩
     ·simp [intOf]; omega
  ·obtain rfl : j = L := by omega
   have HC := Hdq (show BsT wr (.slice (some ⟨g, j, none⟩) 32 (cp - j)) (zl data) by
    obtain ⟨cur, q1, q2, q3, -⟩ := Qo HO.out
    have hl : (zv D j).length = j + 32 := by rw [uO, HDL.out]
    refine ⟨g, j, cp - j, cur, by rw [zE], by rw [zE]; omega, by unfold maxLen; omega, q1, fun i hi => ?_⟩
    rw [List.length_map, zE] at hi
    rw [q3 (j + i) Y95, <- HDP.out, List.getElem?_map, List.getElem?_drop, List.getD_eq_getElem?_getD, List.getElem?_eq_getElem Y95]
    rfl)
   clear HO
   go_wp2
   go_ret2
   exact ⟨g, j, cp - j, rfl, hwg2, HC.out, HF.out⟩
theorem qcQ {A : Nat -> Prop} {w : World} {b o n c : Nat} {xs : List UInt8} (h : Bs A w (.slice (some ⟨b, o, none⟩) n c) xs) (k m : Nat) (hk : k + m <= n) : Bs A w (.slice (some ⟨b, o + k, none⟩) m (c - k)) ((xs.drop k).take m) := by
 obtain ⟨a, cap, e, h2, h3, h4⟩ := h
 cases e
 have hl : ((xs.drop k).take m).length = m := by rw [List.length_take, List.length_drop]; omega
 have hr := (h4.drop k).take m
 rw [<- List.map_drop, <- List.map_take] at hr
 exact ⟨_, c - k, by rw [hl], by rw [hl]; omega, by omega, hr⟩
def xq (R : List UInt8) (k j : Nat) : List UInt8 := (List.range k).map fun i => R.getD (8 * i + j) 0
theorem Vi (R : List UInt8) (k j : Nat) : (xq R k j).length = k := by simp [xq]
theorem qbs {d : List (List UInt8)} {R : List UInt8} {k : Nat} (h : ∀ i, i < k -> d[i]? = some ((R.drop (8 * i)).take 8)) (hl : d.length = k) (j : Nat) (hj : j < 8) : d.map (fun b => b.getD j 0) = xq R k j := by
 apply List.ext_getElem?
 intro i
 unfold xq
 rw [List.getElem?_map, List.getElem?_map]
 by_cases hi : i < k
 ·rw [h i hi, List.getElem?_range hi]
  simp [List.getD_eq_getElem?_getD, List.getElem?_take, hj]
 ·rw [List.getElem?_eq_none Y95, List.getElem?_eq_none jF]
  rfl
theorem Lw {w w' : World} {v : Value} {xs : List UInt8} {g : Nat} {c : Array Value} {te : TypeId} {fz : Nat × Nat} (h : BsT w v xs) (hf : Fr [g] w w') (hg : At w g (.cells c te fz)) (hne : te ≠ 5) : BsT w' v xs := by
 obtain ⟨b, off, cap, c', rfl, h1, h2, h3, h4⟩ := h
 refine ⟨b, off, cap, c', rfl, h1, h2, h3.keep hf ?_, h4⟩
 simp only [List.mem_singleton]
 rintro rfl
 have := Option.some.inj (h3.symm.trans hg)
 simp only [Obj.cells.injEq] at this
 exact hne this.2.1.symm
def Zm (n : Nat) : List Value := List.replicate n (.slice none 0 0)
theorem KX {w : World} {b off n cap : Nat} {xs : List UInt8} (h : BsT w (.slice (some ⟨b, off, none⟩) n cap) xs) (i : Nat) (hi : i < xs.length) : w.cell? ⟨b, off + i, none⟩ = some (.int .u8 ((xs.getD i 0).toNat : Int)) := by
 obtain ⟨b', off', cap', c, e, h1, h2, h3, h4⟩ := h
 cases e
 rw [h3.cell, h4 i (by simpa using hi)]
 simp [List.getD_eq_getElem?_getD, hi, u8v]
theorem J6 {α : Type} (f : Nat -> α) (i : Nat) : (List.range (i + 1)).map f = (List.range i).map f ++ [f i] := by rw [List.range_succ, List.map_append]; rfl
theorem L3 (d : List (List UInt8)) (n : Nat) (hn : n < 32) : (xE d)[n]? = some ((List.range 8).map fun j => (zl (d.map fun b => b.getD j 0)).getD n 0) := by
 unfold xE
 rw [List.getElem?_map, List.getElem?_range hn]
 rfl
theorem Vb (w : World) (v : Value) (xs : List UInt8) (hb : Bs (fun _ => False) w v xs) (hl : xs.length <= 2000) :
  Calls Tryz.prog 77 #[v] w fun e w' => ∃ (u : Value) (ls : List (Value × List UInt8)), e = .returned (.tuple #[u, .int .i64 0]) /\ qM 22 w.heap.size w' u (ls.map (·.1)) /\ (∀ x ∈ ls, BsT w' x.1 x.2) /\ ls.map (·.2) = jd xs /\ Fr [] w w' := by
 have HB := Hdq hb
 obtain ⟨a, cap, rfl, h2, h3, -⟩ := hb
 unfold maxLen at h3
 obtain ⟨M, hM⟩ := exq (nB xs.length)
 have hM1 : 1 <= M /\ M <= 250 := by rw [<- hM]; unfold nB; omega
 have HPL := Hdq (show (zu xs).length = 8 * M by rw [<- hM]; exact J2 xs)
 have HSH := Hdq (fun w => ZF w (xs.length : Int) Y95 Y95)
 have HNB := Hdq (show qK (z6 (xs.length : Int)) = (shN M).map (fun k : Nat => (k : Int)) by rw [Uz, hM, xF])
 have HBL := Hdq (show zy (j7 M (zu xs)) (shN M) = jd xs by unfold jd VT; rw [hM])
 obtain ⟨N, hN⟩ := exq (xs.length)
 rw [hN] at HB h2 hl HSH HNB ⊢
 have HN := Hdq hN
 clear hM hN
 go_enter Tryz.func77, Tryz.ntmps77
 go_wp2_with fail
 refine (HSH.out w).mono ?_
 rintro e w1 ⟨sv, rfl, ho, hf⟩
 rw [HNB.out] at ho
 have HF1 := Hdq hf
 have HS1 := Hdq (ho.is (A := fun _ => False) qg)
 obtain ⟨sa, sc, rfl, s3, s4, -⟩ := HS1.out.shape
 rw [List.length_map] at s3 HS1 ⊢
 have hsl := Ub M
 clear ho hf HSH
 go_wp2_with fail
 refine (LM w1 _ xs (HB.out.keep HF1.out qg) ux).mono ?_
 rintro e w2 ⟨pv, rfl, ho, hf⟩
 have HF2 := Hdq (HF1.out.trans hf)
 have HS2 := Hdq (HS1.out.keep hf qg)
 have HP2 := Hdq (ho.bs (A := fun _ => False) qg)
 obtain ⟨pa, pc, rfl, pc1, pc2, -⟩ := HP2.out
 rw [HPL.out] at HP2 pc1 ⊢
 unfold maxLen at pc2
 obtain ⟨B4, hB4⟩ := exq (w2.heap.size)
 have hwB : w.heap.size <= B4 := by have := HF2.out.size; omega
 have hfa : Fr [] w2 (w2.alloc (.cells #[] 22)) := Fr.alloc _ _
 have hA : ∀ b, B4 <= b -> False ∨ w2.heap.size <= b := fun b h => .inr (by rw [hB4]; exact h)
 have HP4 := Hdq (show Bs (fun b => B4 <= b) (w2.alloc (.cells #[] 22)) (.slice pa (8 * M) pc) (zu xs) from HP2.out.mono hfa qg hA)
 have HS4 := Hdq (show Is (fun b => B4 <= b) (w2.alloc (.cells #[] 22)) (.slice sa (shN M).length sc) ((shN M).map fun k : Nat => (k : Int)) from Vs.mono HS2.out hfa qg hA)
 have HF4 := Hdq (show Fr [] w (w2.alloc (.cells #[] 22)) from HF2.out.trans hfa)
 have HO4 := Hdq (show qM 22 B4 (w2.alloc (.cells #[] 22)) (.slice (some ⟨B4, 0, none⟩) 0 0) [] from by
  have h := qM.lit 22 B4 w2 #[] Y95 (by simp [maxLen])
  rw [hB4] at h
  exact h)
 have hbs : B4 <= (w2.alloc (.cells #[] 22)).heap.size := by simp; omega
 clear ho hf HS1 HF1 HS2 HP2 HF2 hfa hA
 go_wp2
 clear hB4
 go_loopw [6, 7, 32] (fun d o i wr => ∃ (q s L : Nat) (ea : Option Addr) (ec : Nat) (lsO : List (Value × List UInt8)), q <= (shN M).length /\ i = .int .i64 q /\ s = ((shN M).take q).sum /\ s <= M /\ L = 8 * (M - s) /\ d = .slice ea L ec /\ L <= ec /\ ec <= 2 ^ 63 - 1 /\
   B4 <= wr.heap.size /\ Hid (Bs (fun b => B4 <= b) wr (.slice ea L ec) ((zu xs).drop (8 * s))) /\ Hid (qM 22 B4 wr o (lsO.map (·.1))) /\ Hid (∀ x ∈ lsO, BsT wr x.1 x.2) /\ Hid (lsO.map (·.2) = zy (j7 M (zu xs)) ((shN M).take q)) /\
   Hid (Is (fun b => B4 <= b) wr (.slice sa (shN M).length sc) ((shN M).map fun k : Nat => (k : Int))) /\ Hid (Fr [] w wr)) (fun _ _ i _ => (shN M).length - (intOf i).toNat)
 case atStart => exact ⟨0, 0, 8 * M, pa, pc, [], by omega, rfl, rfl, by omega, by omega, rfl, by omega, by omega, hbs, Hdq (by simpa using HP4.out), HO4, Hdq (fun x hx => by simp at hx), Hdq (by simp [zy]), HS4, HF4⟩
 case round =>
  clear HP4 HS4 HF4 HO4 hbs
  obtain ⟨q, s, L, ea, ec, lsO, hq, rfl, hsq, hsM, hL, rfl, e1, e2, hBw, HD, HO, HOB, HOS, HS, HF⟩ := hrel
  have HSQ := Hdq hsq
  have HLL := Hdq hL
  clear hsq hL
  by_cases hqn : q < (shN M).length
  ·obtain ⟨k, hk⟩ : ∃ k, (shN M)[q]? = some k := ⟨_, List.getElem?_eq_getElem hqn⟩
   have hkb := qaK M hM1.1 hM1.2 k (List.mem_of_getElem? hk)
   have hsum : ((shN M).take (q + 1)).sum = s + k := by rw [List.take_add_one, hk, HSQ.out]; simp
   have hle := Ja (shN M) (q + 1)
   rw [hsum, yi] at hle
   obtain ⟨a', c', e, -, -, hc⟩ := HS.out.shape
   rw [List.length_map] at e hc
   cases e
   obtain ⟨b1, o1, rfl, -, hc1⟩ := hc (Nat.lt_of_le_of_lt (Nat.zero_le _) hqn)
   have g1 := hc1 q hqn
   rw [show ((shN M).map fun k : Nat => (k : Int)).getD q 0 = (k : Int) by simp [List.getD_eq_getElem?_getD, hk]] at g1
   have HK := Hdq hk
   have HSUM := Hdq hsum
   obtain ⟨d, hd⟩ := exq (((j7 M (zu xs)).drop s).take k)
   obtain ⟨R, hR⟩ := exq ((zu xs).drop (8 * s))
   obtain ⟨X, hX⟩ := exq (zy (j7 M (zu xs)) ((shN M).take q))
   have HRL := Hdq (show R.length = L by rw [<- hR, List.length_drop, HPL.out, HLL.out]; omega)
   have HDG := Hdq (show ∀ i, i < k -> d[i]? = some ((R.drop (8 * i)).take 8) from fun i hi => by
    rw [<- hd, <- hR, List.getElem?_take, if_pos hi, List.getElem?_drop, vX _ _ _ Y95, List.drop_drop, Nat.mul_add])
   have HDL := Hdq (show d.length = k by rw [<- hd]; simp [jV]; omega)
   have HXL := Hdq (show X.length <= 300 by
    rw [<- hX, yA [] _ _ (by rw [jV, <- HSQ.out]; omega), <- HSQ.out]
    have h2 : ((shN M).take q).length <= 1 := by rw [List.length_take]; omega
    omega)
   have HXX := Hdq (show zy (j7 M (zu xs)) ((shN M).take (q + 1)) = X ++ qaF d by
    rw [UN _ _ q k HK.out (by rw [yi, jV]; omega), <- HSQ.out, hX, hd])
   rw [hR] at HD
   rw [hX] at HOS
   have hRd := Hdq hR
   obtain ⟨b2, o2, rfl⟩ : ∃ b2 o2, ea = some ⟨b2, o2, none⟩ := by
    obtain ⟨a', c', e, -, -, h4⟩ := HD.out
    cases e
    obtain ⟨b, off, e, -⟩ := Row.some_of h4 (by rw [List.length_map, HRL.out, HLL.out]; omega)
    exact ⟨b, off, e⟩
   have h8k : 8 * k <= L := by have := HLL.out; omega
   clear hk hsum hc hc1 hd hR hX
   go_wp2
   go_loopw [7, 10] (fun o i wr => ∃ (j : Nat) (ls1 : List (Value × List UInt8)), j <= k /\ i = .int .i64 j /\ B4 <= wr.heap.size /\ Hid (Bs (fun b => B4 <= b) wr (.slice (some ⟨b2, o2, none⟩) L ec) R) /\
    Hid (qM 22 B4 wr o (ls1.map (·.1))) /\ Hid (∀ x ∈ ls1, BsT wr x.1 x.2) /\ Hid (ls1.map (·.2) = X ++ d.take j) /\
    Hid (Is (fun b => B4 <= b) wr (.slice (some ⟨b1, o1, none⟩) (shN M).length sc) ((shN M).map fun k : Nat => (k : Int))) /\ Hid (Fr [] w wr)) (fun _ i _ => k - (intOf i).toNat)
   case atStart => exact ⟨0, lsO, by omega, rfl, hBw, HD, HO, HOB, Hdq (by rw [HOS.out]; simp), HS, HF⟩
   case round =>
    clear HD HO HOB HOS HS HF g1 hBw
    obtain ⟨j, ls1, hj, rfl, hBw, HD, HO, HOB, HOS, HS, HF⟩ := hrel
    have hlen1 : ls1.length <= 600 := by
     have h := congrArg List.length HOS.out
     rw [List.length_map, List.length_append, List.length_take] at h
     have := HXL.out
     omega
    by_cases hjk : j < k
    ·obtain ⟨BW, hBW⟩ := exq (wr.heap.size)
     have hBB : B4 <= BW := by omega
     have hfa : Fr [] wr (wr.alloc (.cells #[] 5)) := Fr.alloc _ _
     have HE := Hdq (show qi 5 BW (wr.alloc (.cells #[] 5)) (.slice (some ⟨BW, 0, none⟩) 0 0) [] by
      have h := qi.empty 5 BW wr Y95
      rwa [hBW] at h)
     have HSL := Hdq (show Bs (fun b => B4 <= b) (wr.alloc (.cells #[] 5)) (.slice (some ⟨b2, o2 + 8 * j, none⟩) (8 * j + 8 - 8 * j) (ec - 8 * j)) ((R.drop (8 * j)).take 8) from by
      rw [Nat.add_sub_cancel_left]
      exact qcQ (HD.out.keep hfa qg) (8 * j) 8 Y95)
     have h8 : ((R.drop (8 * j)).take 8).length = 8 := by rw [List.length_take, List.length_drop, HRL.out]; omega
     have hbs : BW <= (wr.alloc (.cells #[] 5)).heap.size := by simp; omega
     have hDj := HDG.out j hjk
     obtain ⟨row, hrow⟩ := exq ((R.drop (8 * j)).take 8)
     rw [hrow] at HSL h8 hDj
     have H8 := Hdq h8
     have HDJ := Hdq hDj
     clear h8 hDj hrow
     go_wp2_with (at_builtin; refine qh (A := fun b => B4 <= b) (ys := row) (base := BW) Tryz.underlying22 Tryz.infoByte rfl (.tmp 42) (.tmp 49) rfl rfl rfl HE.out HSL.out (by simp [H8.out]) hbs ?_)
     intro v5 w5 h5 h6
     have HO5 := Hdq (show qi 5 BW w5 v5 row by simpa using h5)
     have hf5 : Fr [] wr w5 := qi.fr HE.out hfa h6 Y95
     have HX5 := Hdq (Yy HO5.out (by rw [H8.out]; omega))
     have HF5 := Hdq hf5
     obtain ⟨g5, c5, rfl, g50, -⟩ := HO5.out.shape (by rw [H8.out]; omega)
     have hs5 : BW <= w5.heap.size := by have := hf5.size; omega
     obtain ⟨W5, hW5⟩ := exq (w5.heap.size)
     rw [hW5] at hs5
     have hf6 : Fr [] w5 (w5.alloc (.cells #[.slice (some ⟨g5, 0, none⟩) row.length c5] 22)) := Fr.alloc _ _
     have HL6 := Hdq (show (w5.alloc (.cells #[.slice (some ⟨g5, 0, none⟩) row.length c5] 22)).heap[W5]? = some (.cells #[.slice (some ⟨g5, 0, none⟩) row.length c5] 22 (0, 0)) from jW hW5.symm)
     have HF6 := Hdq (hf5.trans hf6)
     have HO6 := Hdq (HO.out.keep0 HF6.out)
     have hs6 : B4 <= (w5.alloc (.cells #[.slice (some ⟨g5, 0, none⟩) row.length c5] 22)).heap.size := by simp; omega
     clear h5 h6 hf5 hf6 HE HSL
     rw [H8.out] at HL6 HF6 HO6 hs6 HX5 HO5 ⊢
     go_wp2_with (at_builtin; refine uB Tryz.underlying56 Tryz.infoBytes rfl rfl (.tmp 41) (.tmp 51) rfl rfl rfl HL6.out rfl HO6.out Vv (by rw [List.length_map]; unfold maxLen; omega) hs6 ?_)
     intro v7 w7 h7 h8
     have hfg := Fr.grown (S := u7.ownBlock.toList) h8 (fun g hg => by simp [hg])
     have hfa6 : Fr [] wr (w5.alloc (.cells #[.slice (some ⟨g5, 0, none⟩) 8 c5] 22)) := HF6.out
     have HO7 := Hdq (show qM 22 B4 w7 v7 ((ls1 ++ [(Value.slice (some ⟨g5, 0, none⟩) 8 c5, row)]).map (·.1)) by rw [List.map_append]; exact h7)
     have HD7 := Hdq ((HD.out.keep hfa6 qg).keep hfg (fun g hg => HO6.out.blk hg))
     have HS7 := Hdq ((HS.out.keep hfa6 qg).keep hfg (fun g hg => HO6.out.blk hg))
     have HOB7 := Hdq (show ∀ x ∈ ls1 ++ [(Value.slice (some ⟨g5, 0, none⟩) 8 c5, row)], BsT w7 x.1 x.2 from fun x hx => by
      rcases List.mem_append.1 hx with hx | hx
      ·exact ((HOB.out x hx).keep0 hfa6).grown HO6.out h8
      ·rw [List.mem_singleton] at hx
       subst hx
       exact (HX5.out.keep0 (Fr.alloc _ _)).grown HO6.out h8)
     have HOS7 := Hdq (show (ls1 ++ [(Value.slice (some ⟨g5, 0, none⟩) 8 c5, row)]).map (·.2) = X ++ d.take (j + 1) by
      rw [List.map_append, HOS.out, List.take_add_one, HDJ.out, List.append_assoc]; rfl)
     have HF7 := Hdq (show Fr [] w w7 from qM.fr HO6.out (HF.out.trans hfa6) h8 hwB)
     have hsz7 : B4 <= w7.heap.size := by have := h8.size; omega
     clear h7 h8 hfg hfa6 HO6 HO HD HS HOB HOS HF HX5 HO5 HL6 HF6 HF5
     go_wp2
     constructor
     ·exact ⟨j + 1, _, by omega, by go_num, hsz7, HD7, HO7, HOB7, HOS7, HS7, HF7⟩
     ·simp [intOf]; omega
    ·obtain rfl : k = j := by omega
     have HOS2 := Hdq (show ls1.map (·.2) = X ++ d by rw [HOS.out, List.take_of_length_le (by have := HDL.out; omega)])
     obtain ⟨wg, rfl⟩ : ∃ wg, wg = wr := ⟨wr, rfl⟩
     obtain ⟨pr, hpr⟩ := exq (wg.heap.size)
     have HPR := Hdq hpr
     have hBp : B4 <= pr := by omega
     have HA := Hdq (show At (wg.alloc (.cells #[.slice none 0 0, .slice none 0 0, .slice none 0 0, .slice none 0 0, .slice none 0 0, .slice none 0 0, .slice none 0 0, .slice none 0 0] 213)) pr (.cells (([] : List Value) ++ Zm (8 - 0)).toArray 213) from At.new hpr.symm)
     have HFA := Hdq (show Fr [] wg (wg.alloc (.cells #[.slice none 0 0, .slice none 0 0, .slice none 0 0, .slice none 0 0, .slice none 0 0, .slice none 0 0, .slice none 0 0, .slice none 0 0] 213)) from Fr.alloc _ _)
     clear HOS
     go_wp2
     clear hpr
     go_loopw [12] (fun i wl => ∃ (jj : Nat) (us : List Value), jj <= 8 /\ i = .int .i64 jj /\ Hid (us.length = jj) /\ Hid (At wl pr (.cells (us ++ Zm (8 - jj)).toArray 213)) /\ Hid (∀ m u, us[m]? = some u -> BsT wl u (zl (xq R k m))) /\ Hid (Fr [] wg wl)) (fun i _ => 8 - (intOf i).toNat)
     case atStart => exact ⟨0, [], by omega, rfl, Hdq rfl, HA, Hdq (fun m u h => by simp at h), HFA⟩
     case round =>
      clear HA HFA
      obtain ⟨jj, us, hjj, rfl, HUL, HA, HU, HFL⟩ := hrel
      obtain ⟨wl, rfl⟩ : ∃ wl, wl = wr := ⟨wr, rfl⟩
      by_cases hj8 : jj < 8
      ·obtain ⟨BL, hBL⟩ := exq (wl.heap.size)
       have hprl : pr < BL := by have := HA.out.lt; omega
       have HE := Hdq (show qi 5 BL (wl.alloc (.cells #[] 5)) (.slice (some ⟨BL, 0, none⟩) 0 0) ((List.range 0).map fun i => R.getD (8 * i + jj) 0) by
        have h := qi.empty 5 BL wl Y95
        rwa [hBL] at h)
       have HFE := Hdq (show Fr [] wl (wl.alloc (.cells #[] 5)) from Fr.alloc _ _)
       have HDl := Hdq (HD.out.keep HFL.out qg)
       have hbs : BL <= (wl.alloc (.cells #[] 5)).heap.size := by simp; omega
       have HBL := Hdq hBL
       have hj8i : (jj : Int) < 8 := by omega
       go_wp2
       clear hBL
       go_loopw [13, 14] (fun c i wr => ∃ i' : Nat, i' <= k /\ i = .int .i64 i' /\ BL <= wr.heap.size /\ Hid (qi 5 BL wr c ((List.range i').map fun i => R.getD (8 * i + jj) 0)) /\ Hid (Fr [] wl wr)) (fun _ i _ => k - (intOf i).toNat)
       case atStart => exact ⟨0, by omega, rfl, hbs, HE, HFE⟩
       case round =>
        clear HE HFE hbs
        obtain ⟨i', hi', rfl, hbc, HC, HFc⟩ := hrel
        obtain ⟨wc, rfl⟩ : ∃ wc, wc = wr := ⟨wr, rfl⟩
        have hcl : ((List.range i').map fun i => R.getD (8 * i + jj) 0).length = i' := by simp
        by_cases hik : i' < k
        ·have hix : 8 * i' + jj < L := by omega
         obtain ⟨x, hx⟩ : ∃ x, R[8 * i' + jj]? = some x := ⟨_, List.getElem?_eq_getElem (by rw [HRL.out]; exact hix)⟩
         obtain ⟨b', o', e, hcx⟩ := uF (HDl.out.keep HFc.out qg) (8 * i' + jj) x hx
         cases e
         have HST := Hdq (show ((List.range i').map fun i => R.getD (8 * i + jj) 0) ++ [x] = (List.range (i' + 1)).map fun i => R.getD (8 * i + jj) 0 by
          rw [J6, List.getD_eq_getElem?_getD, hx]; rfl)
         have hfa : Fr [] wc (wc.alloc (.cells #[.int .u8 (x.toNat : Int)] 5)) := Fr.alloc _ _
         have HC1 := Hdq (HC.out.keep hfa qg)
         have HL1 := Hdq (show Bs (fun _ => False) (wc.alloc (.cells #[.int .u8 (x.toNat : Int)] 5)) (.slice (some ⟨wc.heap.size, 0, none⟩) 1 1) [x] from Ug _ wc x 5 qg)
         have HF1 := Hdq (HFc.out.trans hfa)
         have hb1 : BL <= (wc.alloc (.cells #[.int .u8 (x.toNat : Int)] 5)).heap.size := by simp; omega
         have HCL := Hdq hcl
         clear hfa hx HC hcl
         go_wp2_with (at_builtin; refine qh (A := fun _ => False) (ys := [x]) (base := BL) Tryz.underlying22 Tryz.infoByte rfl (.tmp 64) (.tmp 72) rfl rfl rfl HC1.out HL1.out (by rw [HCL.out]; simp; omega) hb1 ?_)
         intro v' w' h5 h6
         have HC2 := Hdq (show qi 5 BL w' v' ((List.range (i' + 1)).map fun i => R.getD (8 * i + jj) 0) by rw [<- HST.out]; exact h5)
         have HF2 := Hdq (show Fr [] wl w' from qi.fr HC1.out HF1.out h6 (by have := HBL.out; omega))
         have hb2 : BL <= w'.heap.size := by have := h6.size; omega
         clear h5 h6 HC1 HL1 HF1 HST hb1 HCL
         go_wp2
         go_roundw
         case rel => exact ⟨i' + 1, by omega, by go_num, hb2, HC2, HF2⟩
         case measure => simp [intOf]; omega
        ·obtain rfl : k = i' := by omega
         have HC3 := Hdq (show qi 5 BL wc u13 (xq R k jj) from HC.out)
         have HFP := Hdq (qar wc u13 (xq R k jj) (HC3.out.bs qg) (by rw [Vi]; omega) (by rw [Vi]; omega))
         clear hcl HC
         go_wp2_with fail
         refine HFP.out.mono ?_
         rintro e w6 ⟨pb, po, pcp, rfl, hlb, hbt, hf⟩
         have HF6 := Hdq ((HFL.out.trans HFc.out).trans hf)
         have HA6 := Hdq (HA.out.keep0 (HFc.out.trans hf))
         have HU6 := Hdq (show ∀ m u, us[m]? = some u -> BsT w6 u (zl (xq R k m)) from fun m u hm => (HU.out m u hm).keep0 (HFc.out.trans hf))
         have HN6 := Hdq hbt
         have hcu : (us ++ Zm (8 - jj)).length = 8 := by simp [Zm, HUL.out]; omega
         have HSET := Hdq (show (us ++ Zm (8 - jj)).set jj (Value.slice (some ⟨pb, po, none⟩) 32 pcp) = (us ++ [Value.slice (some ⟨pb, po, none⟩) 32 pcp]) ++ Zm (8 - (jj + 1)) by
          unfold Zm
          rw [show 8 - jj = (8 - (jj + 1)) + 1 by omega, List.replicate_succ, List.set_append_right _ _ (by rw [HUL.out]; exact Nat.le_refl _), HUL.out, Nat.sub_self]
          simp)
         obtain ⟨cur, hcur⟩ := exq (us ++ Zm (8 - jj))
         rw [hcur] at HA6 hcu HSET
         clear hcur hf hbt HFP HC3
         go_wp2_with (refine qj (.tmp 80) (.tmp 78) rfl rfl (.slice (some ⟨pb, po, none⟩) 32 pcp) rfl rfl HA6.out (by simp [hcu]; omega) qf rfl ?_)
         intro w7 f7 a7 _
         have HA7 := Hdq (show At w7 pr (.cells ((us ++ [Value.slice (some ⟨pb, po, none⟩) 32 pcp]) ++ Zm (8 - (jj + 1))).toArray 213) by
          rw [<- HSET.out]
          simpa using a7)
         have HU7 := Hdq (show ∀ m u, (us ++ [Value.slice (some ⟨pb, po, none⟩) 32 pcp])[m]? = some u -> BsT w7 u (zl (xq R k m)) from fun m u hm => by
          rcases Nat.lt_or_ge m us.length with h | h
          ·rw [List.getElem?_append_left h] at hm
           exact Lw (HU6.out m u hm) f7 HA6.out qe
          ·rw [List.getElem?_append_right h] at hm
           have h0 : m - us.length = 0 := by have := (List.getElem?_eq_some_iff.1 hm).1; simp at this; omega
           rw [h0] at hm
           have h1 : m = jj := by have := HUL.out; omega
           simp at hm
           subst hm h1
           exact Lw HN6.out f7 HA6.out qe)
         have HF7 := Hdq (show Fr [] wg w7 from HF6.out.then f7 (by intro b hb; simp at hb; have := HPR.out; omega))
         have HUL7 := Hdq (show (us ++ [Value.slice (some ⟨pb, po, none⟩) 32 pcp]).length = jj + 1 by simp [HUL.out])
         clear f7 a7 HF6 HA6 HU6 HN6 HSET hcu HA HU HFL HFc HDl
         go_wp2
         go_roundw
         case rel => exact ⟨jj + 1, _, by omega, by go_num, HUL7, HA7, HU7, HF7⟩
         case measure => simp [intOf]; omega
      ·have HJ8 := Hdq (show jj = 8 by omega)
       have hj8i : ¬ ((jj : Int) < 8) := by omega
       have HAL := Hdq (show At wl pr (.cells us.toArray 213) by have h := HA.out; rw [HJ8.out] at h; simpa [Zm] using h)
       have HUL8 := Hdq (show us.length = 8 by rw [HUL.out, HJ8.out])
       have HDm := Hdq (HD.out.keep HFL.out qg)
       have HSm := Hdq (HS.out.keep HFL.out qg)
       have HOm := Hdq (HO.out.keep0 HFL.out)
       have HOBm := Hdq (show ∀ x ∈ ls1, BsT wl x.1 x.2 from fun x hx => (HOB.out x hx).keep0 HFL.out)
       have HFm := Hdq (HF.out.trans HFL.out)
       have hszm : B4 <= wl.heap.size := by have := HFL.out.size; omega
       clear HD HS HO HOB HF HA HFL
       go_wp2
       go_loopw [7, 15] (fun o i wr => ∃ (n : Nat) (ls2 : List (Value × List UInt8)), n <= 32 /\ i = .int .i64 n /\ B4 <= wr.heap.size /\ Hid (Bs (fun b => B4 <= b) wr (.slice (some ⟨b2, o2, none⟩) L ec) R) /\
        Hid (qM 22 B4 wr o (ls2.map (·.1))) /\ Hid (∀ x ∈ ls2, BsT wr x.1 x.2) /\ Hid (ls2.map (·.2) = (X ++ d) ++ (xE d).take n) /\
        Hid (Is (fun b => B4 <= b) wr (.slice (some ⟨b1, o1, none⟩) (shN M).length sc) ((shN M).map fun k : Nat => (k : Int))) /\ Hid (At wr pr (.cells us.toArray 213)) /\ Hid (∀ m u, us[m]? = some u -> BsT wr u (zl (xq R k m))) /\ Hid (Fr [] w wr)) (fun _ i _ => 32 - (intOf i).toNat)
       case atStart => exact ⟨0, ls1, by omega, rfl, hszm, HDm, HOm, HOBm, Hdq (by rw [HOS2.out]; simp), HSm, HAL, HU, HFm⟩
       case round =>
        clear HAL HU HDm HSm HOm HOBm HFm hszm
        obtain ⟨n, ls2, hn, rfl, hBm, HD, HO, HOB, HOS, HS, HA, HU, HF⟩ := hrel
        obtain ⟨wm, rfl⟩ : ∃ wm, wm = wr := ⟨wr, rfl⟩
        by_cases hn32 : n < 32
        ·obtain ⟨BM, hBM⟩ := exq (wm.heap.size)
         have hBB : B4 <= BM := by omega
         have HE := Hdq (show qi 5 BM (wm.alloc (.cells #[] 5)) (.slice (some ⟨BM, 0, none⟩) 0 0) ((List.range 0).map fun j => (zl (xq R k j)).getD n 0) by
          have h := qi.empty 5 BM wm Y95
          rwa [hBM] at h)
         have HFE := Hdq (show Fr [] wm (wm.alloc (.cells #[] 5)) from Fr.alloc _ _)
         have hbs : BM <= (wm.alloc (.cells #[] 5)).heap.size := by simp; omega
         have hn32i : (n : Int) < 32 := by omega
         have HBM := Hdq hBM
         have hlen2 : ls2.length <= 900 := by
          have h := congrArg List.length HOS.out
          rw [List.length_map, List.length_append, List.length_append, List.length_take, HDL.out] at h
          have := HXL.out
          omega
         go_wp2
         clear hBM
         go_loopw [16, 17] (fun c i wr => ∃ m : Nat, m <= 8 /\ i = .int .i64 m /\ BM <= wr.heap.size /\ Hid (qi 5 BM wr c ((List.range m).map fun j => (zl (xq R k j)).getD n 0)) /\ Hid (Fr [] wm wr)) (fun _ i _ => 8 - (intOf i).toNat)
         case atStart => exact ⟨0, by omega, rfl, hbs, HE, HFE⟩
         case round =>
          clear HE HFE hbs
          obtain ⟨m, hm, rfl, hbc, HC, HFc⟩ := hrel
          obtain ⟨wc, rfl⟩ : ∃ wc, wc = wr := ⟨wr, rfl⟩
          have hcl : ((List.range m).map fun j => (zl (xq R k j)).getD n 0).length = m := by simp
          by_cases hm8 : m < 8
          ·obtain ⟨u, hu⟩ : ∃ u, us[m]? = some u := ⟨_, List.getElem?_eq_getElem (by rw [HUL8.out]; exact hm8)⟩
           have hub := (HU.out m u hu).keep0 HFc.out
           obtain ⟨rb, ro, rc, rfl⟩ := hub.shape
           have hcr : wc.cell? ⟨pr, m, none⟩ = some (.slice (some ⟨rb, ro, none⟩) 32 rc) := by
            rw [(HA.out.keep0 HFc.out).cell, List.getElem?_toArray, hu, zE]
           have hcy := KX hub n (by rw [zE]; exact hn32)
           obtain ⟨y, hy⟩ := exq ((zl (xq R k m)).getD n 0)
           rw [hy] at hcy
           have HST := Hdq (show ((List.range m).map fun j => (zl (xq R k j)).getD n 0) ++ [y] = (List.range (m + 1)).map fun j => (zl (xq R k j)).getD n 0 by rw [J6, hy])
           have hfa : Fr [] wc (wc.alloc (.cells #[.int .u8 (y.toNat : Int)] 5)) := Fr.alloc _ _
           have HC1 := Hdq (HC.out.keep hfa qg)
           have HL1 := Hdq (show Bs (fun _ => False) (wc.alloc (.cells #[.int .u8 (y.toNat : Int)] 5)) (.slice (some ⟨wc.heap.size, 0, none⟩) 1 1) [y] from Ug _ wc y 5 qg)
           have HF1 := Hdq (HFc.out.trans hfa)
           have hb1 : BM <= (wc.alloc (.cells #[.int .u8 (y.toNat : Int)] 5)).heap.size := by simp; omega
           have HCL := Hdq hcl
           have hm8i : (m : Int) < 8 := by omega
           clear hfa hy HC hcl hu hub
           go_wp2_with (at_builtin; refine qh (A := fun _ => False) (ys := [y]) (base := BM) Tryz.underlying22 Tryz.infoByte rfl (.tmp 90) (.tmp 97) rfl rfl rfl HC1.out HL1.out (by rw [HCL.out]; simp; omega) hb1 ?_)
           intro v' w' h5 h6
           have HC2 := Hdq (show qi 5 BM w' v' ((List.range (m + 1)).map fun j => (zl (xq R k j)).getD n 0) by rw [<- HST.out]; exact h5)
           have HF2 := Hdq (show Fr [] wm w' from qi.fr HC1.out HF1.out h6 (by have := HBM.out; omega))
           have hb2 : BM <= w'.heap.size := by have := h6.size; omega
           clear h5 h6 HC1 HL1 HF1 HST hb1 HCL
           go_wp2
           go_roundw
           case rel => exact ⟨m + 1, by omega, by go_num, hb2, HC2, HF2⟩
           case measure => simp [intOf]; omega
          ·have hm8i : ¬ ((m : Int) < 8) := by omega
           have h8m : m = 8 := by omega
           rw [h8m] at hcl HC
           clear h8m
           obtain ⟨row, hrow⟩ := exq (((List.range 8).map fun j => (zl (xq R k j)).getD n 0))
           have H8 := Hdq (show row.length = 8 by rw [<- hrow]; exact hcl)
           have HRW := Hdq (show (xE d)[n]? = some row by
            rw [L3 d n hn32, <- hrow]
            congr 1
            apply List.map_congr_left
            intro j hj
            rw [qbs HDG.out HDL.out j (List.mem_range.1 hj)])
           rw [hrow] at HC
           have HX5 := Hdq (Yy HC.out (by rw [H8.out]; omega))
           obtain ⟨g5, c5, e5, g50, -⟩ := HC.out.shape (by rw [H8.out]; omega)
           subst e5
           obtain ⟨W5, hW5⟩ := exq (wc.heap.size)
           have hf6 : Fr [] wc (wc.alloc (.cells #[.slice (some ⟨g5, 0, none⟩) row.length c5] 22)) := Fr.alloc _ _
           have HL6 := Hdq (show (wc.alloc (.cells #[.slice (some ⟨g5, 0, none⟩) row.length c5] 22)).heap[W5]? = some (.cells #[.slice (some ⟨g5, 0, none⟩) row.length c5] 22 (0, 0)) from jW hW5.symm)
           have HF6 := Hdq (HFc.out.trans hf6)
           have HX6 := Hdq (HX5.out.keep0 hf6)
           have HO6 := Hdq (HO.out.keep0 HF6.out)
           have hs6 : B4 <= (wc.alloc (.cells #[.slice (some ⟨g5, 0, none⟩) row.length c5] 22)).heap.size := by simp; omega
           clear hf6 hcl HC hrow HX5
           rw [H8.out] at HL6 HF6 HO6 hs6 HX6 ⊢
           go_wp2_with (at_builtin; refine uB Tryz.underlying56 Tryz.infoBytes rfl rfl (.tmp 99) (.tmp 101) rfl rfl rfl HL6.out rfl HO6.out Vv (by rw [List.length_map]; unfold maxLen; omega) hs6 ?_)
           intro v7 w7 h7 h8
           have hfg := Fr.grown (S := u7.ownBlock.toList) h8 (fun g hg => by simp [hg])
           have hfa6 : Fr [] wm (wc.alloc (.cells #[.slice (some ⟨g5, 0, none⟩) 8 c5] 22)) := HF6.out
           have HO7 := Hdq (show qM 22 B4 w7 v7 ((ls2 ++ [(Value.slice (some ⟨g5, 0, none⟩) 8 c5, row)]).map (·.1)) by rw [List.map_append]; exact h7)
           have HD7 := Hdq ((HD.out.keep hfa6 qg).keep hfg (fun g hg => HO6.out.blk hg))
           have HS7 := Hdq ((HS.out.keep hfa6 qg).keep hfg (fun g hg => HO6.out.blk hg))
           have HA7 := Hdq ((HA.out.keep0 hfa6).grown h8 (jO HO6.out (HA.out.keep0 hfa6) qe))
           have HU7 := Hdq (show ∀ m u, us[m]? = some u -> BsT w7 u (zl (xq R k m)) from fun m u hm => ((HU.out m u hm).keep0 hfa6).grown HO6.out h8)
           have HOB7 := Hdq (show ∀ x ∈ ls2 ++ [(Value.slice (some ⟨g5, 0, none⟩) 8 c5, row)], BsT w7 x.1 x.2 from fun x hx => by
            rcases List.mem_append.1 hx with hx | hx
            ·exact ((HOB.out x hx).keep0 hfa6).grown HO6.out h8
            ·rw [List.mem_singleton] at hx
             subst hx
             exact HX6.out.grown HO6.out h8)
           have HOS7 := Hdq (show (ls2 ++ [(Value.slice (some ⟨g5, 0, none⟩) 8 c5, row)]).map (·.2) = (X ++ d) ++ (xE d).take (n + 1) by
            rw [List.map_append, HOS.out, List.take_add_one, HRW.out, <- List.append_assoc]; rfl)
           have HF7 := Hdq (show Fr [] w w7 from qM.fr HO6.out (HF.out.trans hfa6) h8 hwB)
           have hsz7 : B4 <= w7.heap.size := by have := h8.size; omega
           clear h7 h8 hfg hfa6 HO6 HO HD HS HOB HOS HF HX6 HL6 HF6 HA HU HFc
           go_wp2
           go_roundw
           case rel => exact ⟨n + 1, _, by omega, by go_num, hsz7, HD7, HO7, HOB7, HOS7, HS7, HA7, HU7, HF7⟩
           case measure => simp [intOf]; omega
        ·have hn32i : ¬ ((n : Int) < 32) := by omega
         have h32 : n = 32 := by omega
         have HOS8 := Hdq (show ls2.map (·.2) = zy (j7 M (zu xs)) ((shN M).take (q + 1)) by
          rw [HOS.out, HXX.out, List.take_of_length_le (by rw [Zg]; omega), List.append_assoc]; rfl)
         clear h32
         have HC6 := Hdq (HD.out.cut (8 * k) Y95)
         have hadd : (some (⟨b2, o2, none⟩ : Addr)).map (·.add (8 * k)) = some ⟨b2, o2 + 8 * k, none⟩ := by
          simp only [Option.map_some, Addr.add]
          split
          ·rename_i h0; rw [h0]; rfl
          ·rfl
         rw [hadd] at HC6
         clear hadd
         obtain ⟨ez, hez⟩ := exq ((if ec = 8 * k then some (⟨b2, o2, none⟩ : Addr) else some ⟨b2, o2 + 8 * k, none⟩))
         rw [hez] at HC6
         have HEZ := Hdq hez
         have HRD := Hdq (show R.drop (8 * k) = (zu xs).drop (8 * (s + k)) by rw [<- hRd.out, List.drop_drop, Nat.mul_add])
         rw [HRD.out] at HC6
         clear HOS HD hez HA HU HUL
         go_wp2
         rw [HEZ.out]
         constructor
         ·exact ⟨q + 1, s + k, L - 8 * k, ez, ec - 8 * k, ls2, by omega, by go_num, by rw [HSUM.out], by omega, by have := HLL.out; omega, rfl, by omega, by omega, hBm, HC6, HO, HOB, HOS8, HS, HF⟩
         ·simp [intOf]; omega
  ·exact Y48
end Go.Proofs.YtnafknkchbfpaaaGreatDoor
