import Derived.Test.YtnafknkchbfpaaaGreatDoorGR
import Derived.Test.YtnafknkchbfpaaaGreatDoorGB
import Derived.Outline
import Derived.Test.YtnafknkchbfpaaaGreatDoorGL
import Derived.Maps.AppendAt
set_option maxRecDepth 1000000
set_option maxHeartbeats 8000000
namespace Go.Proofs.YtnafknkchbfpaaaGreatDoor
open Go.RowKit Go.Bl
set_option linter.unusedVariables false
theorem frame56 (a : Go.Act) (hs : a.tmps.size = 56) (hd : a.defers = []) : a = ⟨(slot a 0 :: slot a 1 :: slot a 2 :: slot a 3 :: slot a 4 :: slot a 5 :: slot a 6 :: slot a 7 :: slot a 8 :: slot a 9 :: slot a 10 :: slot a 11 :: slot a 12 :: slot a 13 :: slot a 14 :: slot a 15 :: slot a 16 :: slot a 17 :: slot a 18 :: slot a 19 :: slot a 20 :: slot a 21 :: slot a 22 :: slot a 23 :: slot a 24 :: slot a 25 :: slot a 26 :: slot a 27 :: slot a 28 :: slot a 29 :: slot a 30 :: slot a 31 :: slot a 32 :: slot a 33 :: slot a 34 :: slot a 35 :: slot a 36 :: slot a 37 :: slot a 38 :: slot a 39 :: slot a 40 :: slot a 41 :: slot a 42 :: slot a 43 :: slot a 44 :: slot a 45 :: slot a 46 :: slot a 47 :: slot a 48 :: slot a 49 :: slot a 50 :: slot a 51 :: slot a 52 :: slot a 53 :: slot a 54 :: slot a 55 :: []).toArray, []⟩ := frameX a 56 hs hd
noncomputable def rmB1 : Code := ((Tryz.f102.body.bind (findLoop 5)).getD .skip)
noncomputable def rmB2 : Code := ((Tryz.f102.body.bind (findLoop 9)).getD .skip)
theorem rm_loop1 (w1 w0 : World) (a : Go.Act) (hsz : a.tmps.size = 56) (hd : a.defers = []) (x0 x1 v : Value) (Z : Nat) (k : List UInt8) (h0 : slot a 0 = x0) (h1 : slot a 1 = x1) (h4 : slot a 4 = .pointer (some ⟨Z, 0, none⟩)) (h5 : slot a 5 = v) (hk : k.length <= 64) (hO : OwnB 5 w1.heap.size w0 v k) (hF : Fr [] w1 w0) (Q : Exit -> Go.Act -> World -> Prop)
  (hq : ∀ (c : Go.Act) (w' : World) (v' : Value), c.defers = [] -> c.tmps.size = 56 -> slot c 0 = x0 -> slot c 1 = x1 -> slot c 4 = .pointer (some ⟨Z, 0, none⟩) -> slot c 5 = v' -> OwnB 5 w1.heap.size w' v' (k ++ List.replicate (64 - k.length) 0) -> Fr [] w1 w' -> Q (.exit 0) c w') : Code.wp Tryz.prog (Code.loop rmB1) Q a w0 := by
 refine wp_loop (fun a w => a.tmps.size = 56 /\ a.defers = [] /\ slot a 0 = x0 /\ slot a 1 = x1 /\ slot a 4 = .pointer (some ⟨Z, 0, none⟩) /\ ∃ (j : Nat) (v : Value), j <= 64 - k.length /\ slot a 5 = v /\ OwnB 5 w1.heap.size w v (k ++ List.replicate j 0) /\ Fr [] w1 w) (fun a _ => 100 - sLen (slot a 5)) ⟨hsz, hd, h0, h1, h4, 0, v, by omega, h5, by simpa using hO, hF⟩ ?_
 clear h0 h1 h4 h5 hsz hd hO hF
 rintro a wr ⟨hsz, hd, h0, h1, h4, j, v, hj, h5, hO, hF⟩
 have hlen : (k ++ List.replicate j (0 : UInt8)).length = k.length + j := by rw [List.length_append, List.length_replicate]
 obtain ⟨va, vc, rfl, -⟩ := hO.bs (A := fun _ => False) (fun _ h => h.elim)
 rw [hlen] at h5 hO
 obtain ⟨n, hn⟩ := exq (k.length + j)
 rw [hn] at h5 hO hlen
 have HQ := Hdq hq
 have HO := Hdq hO
 have HF := Hdq hF
 have HN := Hdq (And.intro hn hlen)
 have H5 := Hdq h5
 by_cases hjz : n < 64
 ·have hi : (n : Int) < 64 := by omega
  have HO2 := Hdq (OwnB.keep hO (Fr.alloc (S := []) wr (.cells #[.int .u8 0] 5)) (by simp))
  have HSZ := Hdq hF.size
  rw [frame56 a hsz hd, h0, h1, h4, h5]
  clear hsz hd h0 h1 h4 h5 hO hF hn hlen hq
  conv => arg 2; whnf
  go_wp2_with (at_builtin; refine wpl_append_bs (A := fun _ => False) (ys := [0]) (base := w1.heap.size) Tryz.underlying22 Tryz.infoByte rfl (.tmp 26) (.tmp 27) rfl rfl rfl HO2.out (bs_u8 _ wr 0 (by simp)) (by rw [HN.out.2]; simp; omega) (by have := HSZ.out; simp; omega) ?_)
  intro v' w5 g1 g2
  have HO5 := Hdq (show OwnB 5 w1.heap.size w5 v' (k ++ List.replicate (j + 1) 0) by rw [List.replicate_succ']; exact g1)
  have HF5 := Hdq (OwnB.fr HO2.out (HF.out.trans (Fr.alloc (S := []) wr (.cells #[.int .u8 0] 5))) g2 (Nat.le_refl _))
  clear g1 g2
  go_wp2
  refine ⟨⟨by first | rfl | trivial, by first | rfl | trivial, by first | rfl | trivial, by first | rfl | trivial, by first | rfl | trivial, j + 1, v', by have := HN.out.1; omega, rfl, HO5.out, HF5.out⟩, ?_⟩
  obtain ⟨va', vc', e, -⟩ := HO5.out.bs (A := fun _ => False) (fun _ h => h.elim)
  have e1 : sLen v' = k.length + (j + 1) := by rw [e]; simp [sLen]
  show 100 - sLen v' < 100 - sLen (.slice va n vc)
  rw [e1]
  show 100 - (k.length + (j + 1)) < 100 - n
  have := HN.out.1
  omega
 ·have hi : ¬ (n : Int) < 64 := by omega
  have hj9 : j = 64 - k.length := by omega
  subst hj9
  rw [frame56 a hsz hd, h0, h1, h4, h5]
  clear hsz hd h0 h1 h4 h5 hO hF hn hlen hq
  conv => arg 2; whnf
  go_wp2
  exact HQ.out _ wr _ rfl rfl rfl rfl rfl rfl HO.out HF.out
theorem wpl_append_bA {P : Program} {w : World} {ops : Array Oper} {rest : List Oper} {o : Oper} {a : Go.Act} {Q : Exit -> Go.Act -> World -> Prop} {t e : TypeId}
  (ht : P.underlying t = some (.slice e)) (hinfo : (P.info? e).map (fun i => (i.zero, i.size, i.bytes)) = some (some (.int .u8 0), 1, 1)) (hgd : o.guard = none) (s x : Operand)
  (ho : o.op = .call { callee := .builtin .append, args := #[s, x], argTypes := #[t, t] })
  {base b : Nat} {v : Value} {c : UInt8} {xs : List UInt8} (hs : a.eval s = v) (hx : a.eval x = .slice (some ⟨b, 0, none⟩) 1 1) (hb : w.heap[b]? = some (.cells #[.int .u8 (c.toNat : Int)] e (0, 0))) (hown : OwnB e base w v xs)
  (hlen : xs.length <= 140737488355000) (hbase : base <= w.heap.size)
  (h : ∀ v' w', OwnB e base w' v' (xs ++ [c]) -> w.grownBy w' v.ownBlock -> (v'.ownBlock = v.ownBlock ∨ v'.ownBlock = some w.heap.size) -> wpList P ops Q rest (a.put o.dst v') w') : wpList P ops Q (o :: rest) a w := by
 refine wpList_plain hgd fun K hK => ?_
 obtain ⟨i, hi, hz, hsz, hby⟩ := info_bytes hinfo
 obtain ⟨v', w', hr, h2, h3, -, h5⟩ := run_append_own_at (P := P) w base t o.type e i (.int .u8 0) 1 1 ht hi hz hsz hby rfl (by decide) v xs.length (xs.map u8v) hown ⟨b, 0, none⟩ 1 1 [.int .u8 (c.toNat : Int)] rfl (fun j u hj => by
  have hlt : j < 1 := by
   rcases Nat.lt_or_ge j 1 with h | h
   ·exact h
   ·rw [List.getElem?_eq_none (by simpa using h)] at hj; cases hj
  obtain rfl : j = 0 := by omega
  simp at hj
  subst hj
  have := cell_of hb 0
  simpa [Addr.add] using this) (fun u hu => by simp at hu; subst hu; rfl) (by simp [maxLen]; omega) (by omega) hbase
 unfold Oper.wp execOp
 simp only [ho, resolve, invoke, builtin, Sem.run_bind, Sem.run_pure, Result.andThen_ok, List.map_toArray, List.map_cons, List.map_nil, hs, hx, hr]
 refine hK _ _ (h v' w' ?_ h3 h5)
 unfold OwnB
 rw [List.map_append, List.length_append]
 exact h2
theorem ownB_hi {e : TypeId} {base : Nat} {w : World} {v : Value} {xs : List UInt8} (h : OwnB e base w v xs) : ∀ g, v.ownBlock = some g -> g < w.heap.size := by
 rcases h.2 with ⟨rfl, -⟩ | ⟨g, cap, cur, rfl, hb, hh, r⟩
 ·intro q hq
  simp [Value.ownBlock] at hq
 ·intro q hq
  simp only [Value.ownBlock, Option.some.injEq] at hq
  subst hq
  exact lt_of_heap hh
theorem take_up (k : List UInt8) (c : UInt8) (j : Nat) (x : UInt8) (h : k[j]? = some x) : (k.map (· ^^^ c)).take (j + 1) = (k.map (· ^^^ c)).take j ++ [x ^^^ c] := by
 rw [List.take_add_one, List.getElem?_map, h]
 rfl
theorem rm_loop2 (w1 w0 : World) (a : Go.Act) (hsz : a.tmps.size = 56) (hd : a.defers = []) (x0 x1 v7 v8 : Value) (Z : Nat) (va : Option Addr) (vc : Nat) (k : List UInt8) (h0 : slot a 0 = x0) (h1 : slot a 1 = x1) (h4 : slot a 4 = .pointer (some ⟨Z, 0, none⟩)) (h7 : slot a 7 = v7) (h8 : slot a 8 = v8) (h31 : slot a 31 = .slice va 64 vc) (h32 : slot a 32 = .int .i64 64) (h33 : slot a 33 = .int .i64 0) (hk : k.length = 64) (hK : Bs (fun b => w1.heap.size <= b) w0 (.slice va 64 vc) k) (hO7 : OwnB 5 w1.heap.size w0 v7 []) (hO8 : OwnB 5 w1.heap.size w0 v8 []) (hne : ∀ g, v7.ownBlock = some g -> v8.ownBlock ≠ some g) (hF : Fr [] w1 w0) (Q : Exit -> Go.Act -> World -> Prop)
  (hq : ∀ (c : Go.Act) (w' : World) (u7 u8 : Value), c.defers = [] -> c.tmps.size = 56 -> slot c 0 = x0 -> slot c 1 = x1 -> slot c 4 = .pointer (some ⟨Z, 0, none⟩) -> slot c 7 = u7 -> slot c 8 = u8 -> OwnB 5 w1.heap.size w' u7 (k.map (· ^^^ 54)) -> OwnB 5 w1.heap.size w' u8 (k.map (· ^^^ 92)) -> (∀ g, u7.ownBlock = some g -> u8.ownBlock ≠ some g) -> Fr [] w1 w' -> Q (.exit 2) c w') : Code.wp Tryz.prog (Code.loop rmB2) Q a w0 := by
 refine wp_loop (fun a w => a.tmps.size = 56 /\ a.defers = [] /\ slot a 0 = x0 /\ slot a 1 = x1 /\ slot a 4 = .pointer (some ⟨Z, 0, none⟩) /\ slot a 31 = .slice va 64 vc /\ slot a 32 = .int .i64 64 /\ ∃ (j : Nat) (v7 v8 : Value), j <= 64 /\ slot a 33 = .int .i64 (j : Int) /\ slot a 7 = v7 /\ slot a 8 = v8 /\ Bs (fun b => w1.heap.size <= b) w (.slice va 64 vc) k /\ OwnB 5 w1.heap.size w v7 ((k.map (· ^^^ 54)).take j) /\ OwnB 5 w1.heap.size w v8 ((k.map (· ^^^ 92)).take j) /\ (∀ g, v7.ownBlock = some g -> v8.ownBlock ≠ some g) /\ Fr [] w1 w) (fun a _ => 64 - kN (slot a 33)) ⟨hsz, hd, h0, h1, h4, h31, h32, 0, v7, v8, by omega, h33, h7, h8, hK, hO7, hO8, hne, hF⟩ ?_
 clear h0 h1 h4 h7 h8 h31 h32 h33 hsz hd hK hO7 hO8 hne hF
 rintro a wr ⟨hsz, hd, h0, h1, h4, h31, h32, j, v7, v8, hj, h33, h7, h8, hK, hO7, hO8, hne, hF⟩
 have HQ := Hdq hq
 have H7 := Hdq hO7
 have H8 := Hdq hO8
 have HNE := Hdq hne
 have HF := Hdq hF
 have HK := Hdq (And.intro hk hK)
 by_cases hjk : j < 64
 ·obtain ⟨x, hx⟩ : ∃ x, k[j]? = some x := ⟨_, List.getElem?_eq_getElem (by omega)⟩
  obtain ⟨q, o, e, c0⟩ : ∃ q o, va = some ⟨q, o, none⟩ /\ wr.cell? ⟨q, o + j, none⟩ = some (u8v x) := by
   obtain ⟨a', c', e, h2, h3, h4⟩ := hK
   rw [hk] at e
   cases e
   obtain ⟨q, o, e, -, h⟩ := h4.some_of (by rw [List.length_map]; omega)
   exact ⟨q, o, e, (h j (by rw [List.length_map]; omega)).trans (by rw [List.getElem?_map, hx]; rfl)⟩
  subst e
  have hi : (j : Int) < 64 := by omega
  have hx5 : bits .xor .u8 (x.toNat : Int) 54 = ((x ^^^ 54).toNat : Int) := u8_xor_u x 54
  have hx9 : bits .xor .u8 (x.toNat : Int) 92 = ((x ^^^ 92).toNat : Int) := u8_xor_u x 92
  have HI := Hdq (And.intro hi hjk)
  have HX := Hdq hx
  have HL := Hdq (show ∀ c : UInt8, ((k.map (· ^^^ c)).take j).length = j from fun c => by rw [List.length_take, List.length_map, hk]; omega)
  unfold u8v at c0
  obtain ⟨A4, hA4⟩ := exq (x ^^^ 54)
  obtain ⟨A9, hA9⟩ := exq (x ^^^ 92)
  rw [hA4] at hx5
  rw [hA9] at hx9
  have HA := Hdq (And.intro hA4 hA9)
  have G1 : Fr [] wr (wr.alloc (.cells #[.int .u8 (A4.toNat : Int)] 5)) := Fr.alloc _ _
  have H71 := Hdq (OwnB.keep hO7 G1 (by simp))
  have H81 := Hdq (OwnB.keep hO8 G1 (by simp))
  have HF1 := Hdq (hF.trans G1)
  have HK1 := Hdq (hK.keep G1 (by simp))
  have HB := Hdq hF.size
  rw [frame56 a hsz hd, h0, h1, h4, h7, h8, h31, h32, h33]
  clear hsz hd h0 h1 h4 h7 h8 h31 h32 h33 hK hO7 hO8 hne hF hA4 hA9 hx hjk hq G1
  conv => arg 2; whnf
  go_wp2_with (at_builtin; refine wpl_append_bA (base := w1.heap.size) (c := A4) Tryz.underlying22 Tryz.infoByte rfl (.tmp 37) (.tmp 40) rfl rfl rfl (At.new rfl) H71.out (by rw [HL.out]; omega) (by have := HF1.out.size; omega) ?_)
  intro v1 w5 g1 g2 g3
  have F5 : Fr v7.ownBlock.toList (wr.alloc (.cells #[.int .u8 (A4.toNat : Int)] 5)) w5 := Fr.grown g2 (by intro g hg; simp [hg])
  have hn1 : ∀ g, v1.ownBlock = some g -> v8.ownBlock ≠ some g := fun g hg h8 => by
   rcases g3 with e | e
   ·exact HNE.out g (e.symm.trans hg) h8
   ·rw [hg] at e
    have h9 := ownB_hi H8.out g h8
    simp at e
    omega
  have o8 : OwnB 5 w1.heap.size w5 v8 ((k.map (· ^^^ 92)).take j) := own_keep H81.out F5 (fun g hg hm => HNE.out g (by simpa using hm) hg)
  have f5 : Fr [] w1 w5 := OwnB.fr H71.out HF1.out g2 (Nat.le_refl _)
  have k5 : Bs (fun b => w1.heap.size <= b) w5 (.slice (some ⟨q, o, none⟩) 64 vc) k := HK1.out.keep F5 (fun g hg => (H71.out.lt g (by simpa using hg)).1)
  have G2 : Fr [] w5 (w5.alloc (.cells #[.int .u8 (A9.toNat : Int)] 5)) := Fr.alloc _ _
  have H72 := Hdq (OwnB.keep g1 G2 (by simp))
  have H82 := Hdq (OwnB.keep o8 G2 (by simp))
  have H7L := Hdq (ownB_hi g1)
  have HF2 := Hdq (f5.trans G2)
  have HK2 := Hdq (k5.keep G2 (by simp))
  have HN1 := Hdq hn1
  clear g1 g2 g3 F5 hn1 o8 f5 k5 G2 H71 H81 HF1 HK1
  go_wp2_with (at_builtin; refine wpl_append_bA (base := w1.heap.size) (c := A9) Tryz.underlying22 Tryz.infoByte rfl (.tmp 42) (.tmp 45) rfl rfl rfl (At.new rfl) H82.out (by rw [HL.out]; omega) (by have := HF2.out.size; omega) ?_)
  intro v2 w6 g4 g5 g6
  have F6 : Fr v8.ownBlock.toList (w5.alloc (.cells #[.int .u8 (A9.toNat : Int)] 5)) w6 := Fr.grown g5 (by intro g hg; simp [hg])
  have HN2 := Hdq (show ∀ g, v1.ownBlock = some g -> v2.ownBlock ≠ some g from fun g hg h2 => by
   rcases g6 with e | e
   ·exact HN1.out g hg (e.symm.trans h2)
   ·rw [h2] at e
    have h9 := H7L.out g hg
    simp at e
    omega)
  have HO7 := Hdq (show OwnB 5 w1.heap.size w6 v1 ((k.map (· ^^^ 54)).take (j + 1)) by
   have h := own_keep H72.out F6 (fun g hg hm => HN1.out g hg (by simpa using hm))
   rw [take_up k 54 j x HX.out, HA.out.1]
   exact h)
  have HO8 := Hdq (show OwnB 5 w1.heap.size w6 v2 ((k.map (· ^^^ 92)).take (j + 1)) by
   rw [take_up k 92 j x HX.out, HA.out.2]
   exact g4)
  have HF6 := Hdq (OwnB.fr H82.out HF2.out g5 (Nat.le_refl _))
  have HK6 := Hdq (HK2.out.keep F6 (fun g hg => (H82.out.lt g (by simpa using hg)).1))
  clear g4 g5 g6 F6
  go_wp2
  refine ⟨⟨by first | rfl | trivial, by first | rfl | trivial, by first | rfl | trivial, by first | rfl | trivial, by first | rfl | trivial, by first | rfl | trivial, by first | rfl | trivial, j + 1, v1, v2, by have := HI.out.2; omega, by first | rfl | (simp [slot]), by first | rfl | trivial, by first | rfl | trivial, HK6.out, HO7.out, HO8.out, HN2.out, HF6.out⟩, ?_⟩
  have := HI.out
  simp [kN, slot]
  omega
 ·obtain rfl : j = 64 := by omega
  have hi : ¬ ((64 : Nat) : Int) < 64 := by decide
  rw [frame56 a hsz hd, h0, h1, h4, h7, h8, h31, h32, h33]
  clear hsz hd h0 h1 h4 h7 h8 h31 h32 h33 hK hO7 hO8 hne hF hq
  conv => arg 2; whnf
  go_wp2
  have e7 := H7.out
  rw [List.take_of_length_le (by rw [List.length_map, hk]; exact Nat.le_refl _)] at e7
  have e8 := H8.out
  rw [List.take_of_length_le (by rw [List.length_map, hk]; exact Nat.le_refl _)] at e8
  exact HQ.out _ wr v7 v8 rfl rfl rfl rfl rfl rfl rfl e7 e8 HNE.out HF.out
end Go.Proofs.YtnafknkchbfpaaaGreatDoor
