import Derived.Test.YtdloaifdpajcjaaGreatDoorPU
import Derived.Test.YtdloaifdpajcjaaGreatDoorQE
set_option linter.unusedVariables false
set_option linter.unusedSimpArgs false
namespace Go.Bl
open Go.RowKit Go.Proofs
set_option maxRecDepth 100000
set_option maxHeartbeats 8000000
attribute [local irreducible] qz
open Go.Proofs.YtdloaifdpajcjaaGreatDoor (Par chk blk qU jU zK qj qg qS ql qG jd jK sdE qA jO jL jy zc)
theorem Zl {f : zk -> Nat} : ∀ {l : List zk}, zG f l = 0 -> ∀ s ∈ l, f s = 0
 | s :: r, h, t, ht => by
  unfold zG at h
  by_cases q : f s = 0
  ·rw [if_pos q] at h
   rcases List.mem_cons.1 ht with rfl | ht
   ·exact q
   ·exact Zl h t ht
  ·rw [if_neg q] at h; exact absurd h q
def inN (n : Nat) (l : List Int) : Prop := ∀ x ∈ l, 0 <= x /\ x < n
theorem qba (k : List UInt8) (r n : Nat) (hn : 0 < n) : ∀ j, inN n (X8 k r n j)
 | 0 => by
  intro x hx
  obtain ⟨i, hi, rfl⟩ := List.mem_map.1 hx
  have := List.mem_range.1 hi
  split <;> omega
 | j + 1 => by
  have ih := qba k r n hn j
  have hg : ∀ i, 0 <= (X8 k r n j).getD i 0 /\ (X8 k r n j).getD i 0 < n := fun i => by
   rw [List.getD_eq_getElem?_getD]
   cases h : (X8 k r n j)[i]? with
   | none => simp; omega
   | some y => exact ih y (List.mem_of_getElem? h)
  intro x hx
  rcases List.mem_or_eq_of_mem_set hx with hx | rfl
  ·rcases List.mem_or_eq_of_mem_set hx with hx | rfl
   ·exact ih x hx
   ·exact hg _
  ·exact hg _
theorem qfw (k : List UInt8) (r n c : Nat) (hn : 0 < n) : inN n (KW k r n c) := fun x hx => qba k r n hn c x (List.mem_of_mem_take hx)
theorem qb9 (S : List (List UInt8)) (sh : List j8) (k : Nat) (p : Int) : (tOf S sh k p).place = p := by
 unfold tOf
 split
 ·split <;> rfl
 ·rfl
theorem L2 (S : List (List UInt8)) (sh : List j8) (pl : List Int) : (tsL S sh pl pl.length).map (·.place) = pl := by
 refine List.ext_getElem (by simp [tsL]) fun i h1 h2 => ?_
 simp only [tsL, List.getElem_map, List.getElem_range, qb9]
 rw [List.getD_eq_getElem?_getD, List.getElem?_eq_getElem h2]; rfl
theorem qgR {S : List (List UInt8)} {sh : List j8} (oks : ∀ a ∈ sh, a.Ok) (hsl : ∀ a ∈ sh, a.leaf.length <= 200 /\ a.path.length <= 40) (hSw : ∀ l ∈ S, l.length <= 10000) (hS : S.length <= 512) (k : Nat) (p : Int) : (tOf S sh k p).ok := by
 have hway : (jF (S.map qy) p.toNat).length <= 1000 /\ ∀ q ∈ jF (S.map qy) p.toNat, q.length = 32 := by
  refine ⟨?_, Go.Proofs.YtdloaifdpajcjaaGreatDoor.pathL_32 S.length (S.map qy) p.toNat (List.length_map _) fun d hd => by obtain ⟨l, -, rfl⟩ := List.mem_map.1 hd; exact zx l⟩
  rw [uz S.length (S.map qy) _ (List.length_map _), zH]
  rcases Nat.eq_zero_or_pos S.length with h0 | h0
  ·rw [h0, um Y54]; simp
  ·have := zW S.length p.toNat h0
   omega
 have hst : (S.getD p.toNat []).length <= 10000 := by
  rw [List.getD_eq_getElem?_getD]
  cases h : S[p.toNat]? with
  | none => simp
  | some y => exact hSw y (List.mem_of_getElem? h)
 unfold tOf
 split
 ·rename_i a ha
  have hm := List.mem_of_getElem? ha
  have h1 := hsl a hm
  split
  ·exact ⟨hst, hway⟩
  ·refine ⟨by show a.leaf.length <= 10000; omega, ?_, ?_⟩
   ·show (if a.path = [] then _ else _ : List Dg).length <= 1000
    split
    ·exact hway.1
    ·omega
   ·show ∀ q ∈ (if a.path = [] then _ else _ : List Dg), _
    split
    ·exact hway.2
    ·exact (oks a hm).p
 ·exact ⟨hst, hway⟩
theorem qg5 (Z : Ad) (h : Hh) (hh : ∀ α g, h α g = g ()) (m xs : List UInt8) (n : Int) (p : Par) (y : jc) (sh : List j8) (oks : ∀ a ∈ sh, a.Ok) : qi Z 3 [.pv (qc8 h m xs n p), .pv (qX h y), .pv (lH h leafP sh)] (.pv (.v (.bool true))) [.any, .any, .any] := by
 by_cases q : 100 < m.length ∨ 100 < xs.length ∨ 20 < sh.length
 ·exact qdI Z h hh m xs n p y sh q
 refine qdN Z h hh m xs n p y sh Y54 Y54 Y54 oks fun hsl C hC t => ?_
 refine (fun (H : ∀ GG : Prop, (_ -> GG) -> GG) => H _ id) ?_
 intro GG out
 rcases UJ Z h hh p with ⟨hc, cp⟩ | ⟨j, -, -, -, cp⟩
 rotate_left
 ·exact out (qgW Z h hh m xs n p y sh _ (qeE Z h hh m xs n p _ cp) C hC t)
 by_cases hs : (xs.length : Int) = p.size
 rotate_left
 ·exact out (qeI Z h hh m xs n p y sh 8 (qcO Z h hh m xs n p cp hs) C hC t)
 by_cases hk : qj m n = 0
 rotate_left
 ·exact out (qeI Z h hh m xs n p y sh _ (qeU Z h hh m xs n p cp hc hs hk) C hC t)
 have c1 := qbr Z h hh m xs n p hc hk hs
 obtain ⟨l1, l2, l3, l4, l5⟩ := Go.Proofs.YtdloaifdpajcjaaGreatDoor.holds_len hs hc
 unfold Z6 at c1
 have hSl := Go.Proofs.YtdloaifdpajcjaaGreatDoor.sealL_len m xs n p.sent.toNat
 have hrow : ∀ l ∈ zc m n xs p.sent.toNat, l.length <= 10000 := fun l hl => by
  obtain ⟨i, hi, rfl⟩ := List.mem_iff_getElem.1 hl
  have := (Go.Proofs.YtdloaifdpajcjaaGreatDoor.holds_row (m := m) (xs := xs) (n := n) (s := p.sent.toNat) Y54 hk hi).1
  omega
 obtain ⟨S, hSe⟩ := exq (zc m n xs p.sent.toNat)
 rw [hSe] at c1 hSl hrow
 have hN : S.length <= 512 := by omega
 have hN1 : 1 <= S.length := by omega
 have hR : (jA (S.map qy)).length = 32 := Go.Proofs.YtdloaifdpajcjaaGreatDoor.overL_32 _ (fun d hd => by obtain ⟨l, -, rfl⟩ := List.mem_map.1 hd; exact zx l) (by rw [List.length_map]; exact hN1)
 have hD : (qz xs).length = 32 := jv xs
 obtain ⟨R, hRe⟩ := exq (jA (S.map qy))
 obtain ⟨D, hDe⟩ := exq (qz xs)
 rw [hRe] at c1 hR
 rw [hDe] at c1 hD
 have hNe : (blk p.size + p.sent).toNat = S.length := by rw [hSl, <- l1]; omega
 have n0 : 0 <= blk p.size + p.sent := by rw [<- l1]; omega
 obtain ⟨x, hx⟩ : ∃ x : jY, x = ⟨n, ⟨#[97]⟩, p, R, D, 0, false, 0, 0⟩ := ⟨_, rfl⟩
 have xr : x.root = R := by rw [hx]
 have xp : x.par = p := by rw [hx]
 have xn : x.num = n := by rw [hx]
 have lr : x.root.length = 32 := by rw [xr]; exact hR
 have lf : x.file.length = 32 := by rw [hx]; exact hD
 have hcx : chk x.par = 0 := by rw [xp]; exact hc
 have hkx : qj m x.num = 0 := by rw [xn]; exact hk
 have perr : ∀ k, qi Z 8 [.pv (bH h m), .pv (jk h x), .pv (qX h y)] (.tup [.pv (lH h iP []), .pv (qP Z k)]) [.any, .any, .any] -> GG := fun k c2 => out (qfT Z h hh m xs n p y sh S R D hR hD k c1 (by rw [hx] at c2; exact c2) C hC t)
 have go : ∀ pl : List Int, pl.length <= 1000 -> inN S.length pl -> (y.way = 2 -> 0 <= y.idx /\ y.idx < p.sent /\ pl.length = 1) -> qi Z 8 [.pv (bH h m), .pv (jk h x), .pv (qX h y)] (.tup [.pv (lH h iP pl), .pv (.v .nilIface)]) [.any, .any, .any] -> GG := fun pl hpn hin hw2 c2 => by
  have hpl : ∀ k (_ : k < pl.length), ∃ i, ∃ _ : i < S.length, pl[k] = (i : Int) := fun k hk => by
   obtain ⟨h1, h2⟩ := hin _ (List.getElem_mem hk)
   exact ⟨(pl[k]).toNat, by omega, by omega⟩
  have hoks : ∀ s ∈ tsL S sh pl pl.length, s.ok := fun s hs => by
   obtain ⟨i, -, rfl⟩ := List.mem_map.1 hs
   exact qgR oks hsl hrow hN i _
  obtain ⟨L, hL⟩ := exq (tsL S sh pl pl.length)
  have hLn : L.length = pl.length := by rw [<- hL, Yg]
  have hLp : L.map (·.place) = pl := by rw [<- hL, L2]
  rw [hL] at hoks
  have fin : ∀ v : Int, (v = 1 ∨ v = 2) -> (v = 1 -> zG (jW x) L = 0) -> qi Z 10 [.pv (bH h m), .pv (jk h x), .pv (qX h y), .pv (zq h ⟨4, y.id, n, [], L, 0, 0, [], 0⟩)] (.tup [.pv (iH h v), .pv (.v .nilIface)]) [.any, .any, .any, .any] -> GG := fun v hv h1 c3 => by
   refine out (qh1 Z h hh m xs n p y sh S R D hR hD pl v hv hpn oks Y54 hsl hN hrow hpl c1 (by rw [hx] at c2; exact c2) (by rw [hL]; rw [hx] at c3; exact c3) ?_ C hC t)
   rw [hL]
   intro j hj
   have hjp : j < pl.length := by omega
   obtain ⟨i, hi, e⟩ := hpl j hjp
   have e2 : L[j].place = (i : Int) := by
    have : (L.map (·.place))[j]'(by rw [List.length_map]; exact hj) = pl[j] := by simp only [hLp]
    rw [List.getElem_map] at this
    rw [this, e]
   have so := hoks _ (List.getElem_mem hj)
   refine ⟨i, hi, e2, hrow _ (List.getElem_mem hi), so.1, fun v1 hne => ?_⟩
   have hz := Zl (h1 v1) _ (List.getElem_mem hj)
   unfold jW WK at hz
   rw [xp, hNe, e2, xr, Int.toNat_natCast, if_pos ⟨by omega, by omega, by omega⟩] at hz
   by_cases g1 : zH S.length i = (L[j].path).length
   ·rw [if_pos g1] at hz
    by_cases g2 : vl S.length i (qy L[j].stored) L[j].path = R
    ·exact qbV Z h hh S i hN hi hrow L[j].stored so.1 L[j].path so.2.2 g1.symm (by rw [g2, hRe]) fun q => hne q.symm
    ·rw [if_neg g2] at hz; cases hz
   ·rw [if_neg g1] at hz; cases hz
  have lk : (⟨4, y.id, n, [], L, 0, 0, [], 0⟩ : zu).kind = 4 := rfl
  have hs5 : L.length <= 100000 := by omega
  by_cases k0 : zG (jW x) L = 0
  ·by_cases hw : y.way = 2
   ·obtain ⟨w1, w2, w3⟩ := hw2 hw
    obtain ⟨s, h0⟩ : ∃ s, L[0]? = some s := ⟨_, List.getElem?_eq_getElem Y54⟩
    have c4 := qes Z h hh m x y ⟨4, y.id, n, [], L, 0, 0, [], 0⟩ lr lf pl c2 lk hLp hs5 hoks hcx k0 hw hkx (by rw [xp]; exact ⟨w1, w2⟩) s h0
    by_cases hq : Xb m x y = s.stored
    ·rw [if_pos hq] at c4
     exact fin 1 (.inl rfl) (fun _ => k0) (UD Z h hh m x y ⟨4, y.id, n, [], L, 0, 0, [], 0⟩ lr lf 0 pl c2 c4)
    ·rw [if_neg hq] at c4
     exact fin 2 (.inr rfl) (fun q => by cases q) (UF Z h hh m x y ⟨4, y.id, n, [], L, 0, 0, [], 0⟩ lr lf 15 pl c2 c4)
   ·exact fin 1 (.inl rfl) (fun _ => k0) (UD Z h hh m x y ⟨4, y.id, n, [], L, 0, 0, [], 0⟩ lr lf 0 pl c2 (qdB Z h hh m x y ⟨4, y.id, n, [], L, 0, 0, [], 0⟩ lr lf pl c2 lk hLp hs5 hoks hcx k0 hw))
  ·exact fin 2 (.inr rfl) (fun q => by cases q) (UF Z h hh m x y ⟨4, y.id, n, [], L, 0, 0, [], 0⟩ lr lf _ pl c2 (qcF Z h hh m x y ⟨4, y.id, n, [], L, 0, 0, [], 0⟩ lr lf pl c2 lk hLp hs5 hoks hcx _ k0 rfl))
 have hsp := (Z0 hc).2.2
 have hsp : 1 <= p.spots /\ p.spots <= min 12 (blk p.size + p.sent) := hsp
 by_cases w1 : y.way = 1
 ·by_cases hi : 0 <= y.idx /\ y.idx <= 1073741824
  ·refine go (Qy m x y) ?_ ?_ (fun q => by omega) (Zp Z h hh m x y lr lf hcx hkx w1 hi)
   ·unfold Qy KW
    rw [List.length_take, xp]
    omega
   ·unfold Qy
    rw [xp, hNe]
    exact qfw _ _ _ _ Y54
  ·exact perr 1 (L9 Z h hh m x y lr lf hcx hkx w1 hi)
 ·by_cases w2 : y.way = 2
  ·by_cases hi : 0 <= y.idx /\ y.idx < p.sent
   ·refine go [(Xy m x y : Int)] Y85 ?_ (fun _ => ⟨hi.1, hi.2, rfl⟩) (Ww Z h hh m x y lr lf hcx hkx w2 (by rw [xp]; exact hi))
    intro z hz
    rw [List.mem_singleton.1 hz]
    have : Xy m x y < S.length := by
     unfold Xy
     rw [xp, hNe]
     refine jO Y54 ?_
     rw [hSl, <- l1]
     omega
    omega
   ·exact perr 18 (LN Z h hh m x y lr lf hcx hkx w2 (by rw [xp]; exact hi))
  ·exact perr 7 (YH Z h hh m x y lr lf hcx hkx w1 w2)
end Go.Bl
