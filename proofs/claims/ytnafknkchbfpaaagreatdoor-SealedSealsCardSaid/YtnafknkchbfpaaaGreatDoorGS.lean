import Derived.Test.YtnafknkchbfpaaaGreatDoorGR
set_option maxRecDepth 1000000
set_option maxHeartbeats 8000000
namespace Go.Proofs.YtnafknkchbfpaaaGreatDoor
open Go.RowKit Go.Bl
set_option linter.unusedVariables false
theorem vg (a : Go.Act) (hs : a.tmps.size = 56) (hd : a.defers = []) : a = ⟨(qd a 0 :: qd a 1 :: qd a 2 :: qd a 3 :: qd a 4 :: qd a 5 :: qd a 6 :: qd a 7 :: qd a 8 :: qd a 9 :: qd a 10 :: qd a 11 :: qd a 12 :: qd a 13 :: qd a 14 :: qd a 15 :: qd a 16 :: qd a 17 :: qd a 18 :: qd a 19 :: qd a 20 :: qd a 21 :: qd a 22 :: qd a 23 :: qd a 24 :: qd a 25 :: qd a 26 :: qd a 27 :: qd a 28 :: qd a 29 :: qd a 30 :: qd a 31 :: qd a 32 :: qd a 33 :: qd a 34 :: qd a 35 :: qd a 36 :: qd a 37 :: qd a 38 :: qd a 39 :: qd a 40 :: qd a 41 :: qd a 42 :: qd a 43 :: qd a 44 :: qd a 45 :: qd a 46 :: qd a 47 :: qd a 48 :: qd a 49 :: qd a 50 :: qd a 51 :: qd a 52 :: qd a 53 :: qd a 54 :: qd a 55 :: []).toArray, []⟩ := j6 a 56 hs hd
noncomputable def qd4 : Code := ((Tryz.f102.body.bind (jq 5)).getD .skip)
noncomputable def qd8 : Code := ((Tryz.f102.body.bind (jq 9)).getD .skip)
theorem Vt (w1 w0 : World) (a : Go.Act) (hsz : a.tmps.size = 56) (hd : a.defers = []) (x0 x1 v : Value) (Z : Nat) (k : List UInt8) (h0 : qd a 0 = x0) (h1 : qd a 1 = x1) (h4 : qd a 4 = .pointer (some ⟨Z, 0, none⟩)) (h5 : qd a 5 = v) (hk : k.length <= 64) (hO : qi 5 w1.heap.size w0 v k) (hF : Fr [] w1 w0) (Q : Exit -> Go.Act -> World -> Prop)
  (hq : ∀ (c : Go.Act) (w' : World) (v' : Value), c.defers = [] -> c.tmps.size = 56 -> qd c 0 = x0 -> qd c 1 = x1 -> qd c 4 = .pointer (some ⟨Z, 0, none⟩) -> qd c 5 = v' -> qi 5 w1.heap.size w' v' (k ++ List.replicate (64 - k.length) 0) -> Fr [] w1 w' -> Q (.exit 0) c w') : Code.wp Tryz.prog (Code.loop qd4) Q a w0 := by
 refine wp_loop (fun a w => a.tmps.size = 56 /\ a.defers = [] /\ qd a 0 = x0 /\ qd a 1 = x1 /\ qd a 4 = .pointer (some ⟨Z, 0, none⟩) /\ ∃ (j : Nat) (v : Value), j <= 64 - k.length /\ qd a 5 = v /\ qi 5 w1.heap.size w v (k ++ List.replicate j 0) /\ Fr [] w1 w) (fun a _ => 100 - Uq (qd a 5)) ⟨hsz, hd, h0, h1, h4, 0, v, by omega, h5, by simpa using hO, hF⟩ ?_
 clear h0 h1 h4 h5 hsz hd hO hF
 rintro a wr ⟨hsz, hd, h0, h1, h4, j, v, hj, h5, hO, hF⟩
 have hlen : (k ++ List.replicate j (0 : UInt8)).length = k.length + j := by rw [List.length_append, List.length_replicate]
 obtain ⟨va, vc, rfl, -⟩ := hO.bs (A := fun _ => False) (fun _ h => h.elim)
 rw [hlen] at h5 hO
 obtain ⟨n, hn⟩ := exq (k.length + j)
 rw [hn] at h5 hO hlen
 have HQ := Hdq hq
 have HO := Hdq hO
 have HF := Hdq hF
 have HN := Hdq (And.intro hn hlen)
 have H5 := Hdq h5
 by_cases hjz : n < 64
 ·have hi : (n : Int) < 64 := by omega
  have HO2 := Hdq (qi.keep hO (Fr.alloc (S := []) wr (.cells #[.int .u8 0] 5)) qg)
  have HSZ := Hdq hF.size
  rw [vg a hsz hd, h0, h1, h4, h5]
  clear hsz hd h0 h1 h4 h5 hO hF hn hlen hq
  conv => arg 2; whnf
  go_wp2_with (at_builtin; refine qh (A := fun _ => False) (ys := [0]) (base := w1.heap.size) Tryz.underlying22 Tryz.infoByte rfl (.tmp 26) (.tmp 27) rfl rfl rfl HO2.out (JJ _ wr 0 qg) (by rw [HN.out.2]; simp; omega) (by have := HSZ.out; simp; omega) ?_)
  intro v' w5 g1 g2
  have HO5 := Hdq (show qi 5 w1.heap.size w5 v' (k ++ List.replicate (j + 1) 0) by rw [List.replicate_succ']; exact g1)
  have HF5 := Hdq (qi.fr HO2.out (HF.out.trans (Fr.alloc (S := []) wr (.cells #[.int .u8 0] 5))) g2 (Nat.le_refl _))
  clear g1 g2
  go_wp2
  refine ⟨⟨by first | rfl | trivial, by first | rfl | trivial, by first | rfl | trivial, by first | rfl | trivial, by first | rfl | trivial, j + 1, v', by have := HN.out.1; omega, rfl, HO5.out, HF5.out⟩, ?_⟩
  obtain ⟨va', vc', e, -⟩ := HO5.out.bs (A := fun _ => False) (fun _ h => h.elim)
  have e1 : Uq v' = k.length + (j + 1) := by rw [e]; simp [Uq]
  show 100 - Uq v' < 100 - Uq (.slice va n vc)
  rw [e1]
  show 100 - (k.length + (j + 1)) < 100 - n
  have := HN.out.1
  omega
 ·have hi : ¬ (n : Int) < 64 := by omega
  have hj9 : j = 64 - k.length := by omega
  subst hj9
  rw [vg a hsz hd, h0, h1, h4, h5]
  clear hsz hd h0 h1 h4 h5 hO hF hn hlen hq
  conv => arg 2; whnf
  go_wp2
  exact HQ.out _ wr _ rfl rfl rfl rfl rfl rfl HO.out HF.out
theorem yK {P : Program} {w : World} {ops : Array Oper} {rest : List Oper} {o : Oper} {a : Go.Act} {Q : Exit -> Go.Act -> World -> Prop} {t e : TypeId}
  (ht : P.underlying t = some (.slice e)) (hinfo : (P.info? e).map (fun i => (i.zero, i.size, i.bytes)) = some (some (.int .u8 0), 1, 1)) (hgd : o.guard = none) (s x : Operand)
  (ho : o.op = .call { callee := .builtin .append, args := #[s, x], argTypes := #[t, t] })
  {base b : Nat} {v : Value} {c : UInt8} {xs : List UInt8} (hs : a.eval s = v) (hx : a.eval x = .slice (some ⟨b, 0, none⟩) 1 1) (hb : w.heap[b]? = some (.cells #[.int .u8 (c.toNat : Int)] e (0, 0))) (hown : qi e base w v xs)
  (hlen : xs.length <= 140737488355000) (hbase : base <= w.heap.size)
  (h : ∀ v' w', qi e base w' v' (xs ++ [c]) -> w.grownBy w' v.ownBlock -> (v'.ownBlock = v.ownBlock ∨ v'.ownBlock = some w.heap.size) -> wpList P ops Q rest (a.put o.dst v') w') : wpList P ops Q (o :: rest) a w := by
 refine wpList_plain hgd fun K hK => ?_
 obtain ⟨i, hi, hz, hsz, hby⟩ := qO hinfo
 obtain ⟨v', w', hr, h2, h3, -, h5⟩ := run_append_own_at (P := P) w base t o.type e i (.int .u8 0) 1 1 ht hi hz hsz hby rfl qe v xs.length (xs.map u8v) hown ⟨b, 0, none⟩ 1 1 [.int .u8 (c.toNat : Int)] rfl (fun j u hj => by
  have hlt : j < 1 := by
   rcases Nat.lt_or_ge j 1 with h | h
   ·exact h
   ·rw [List.getElem?_eq_none XX] at hj; cases hj
  obtain rfl : j = 0 := by omega
  simp at hj
  subst hj
  have := qE hb 0
  simpa [Addr.add] using this) (fun u hu => by simp at hu; subst hu; rfl) (by simp [maxLen]; omega) Y95 hbase
 unfold Oper.wp execOp
 simp only [ho, resolve, invoke, builtin, Sem.run_bind, Sem.run_pure, Result.andThen_ok, List.map_toArray, List.map_cons, List.map_nil, hs, hx, hr]
 refine hK _ _ (h v' w' ?_ h3 h5)
 unfold qi
 rw [List.map_append, List.length_append]
 exact h2
theorem Ul {e : TypeId} {base : Nat} {w : World} {v : Value} {xs : List UInt8} (h : qi e base w v xs) : ∀ g, v.ownBlock = some g -> g < w.heap.size := by
 rcases h.2 with ⟨rfl, -⟩ | ⟨g, cap, cur, rfl, hb, hh, r⟩
 ·intro q hq
  simp [Value.ownBlock] at hq
 ·intro q hq
  simp only [Value.ownBlock, Option.some.injEq] at hq
  subst hq
  exact qx hh
theorem YO (k : List UInt8) (c : UInt8) (j : Nat) (x : UInt8) (h : k[j]? = some x) : (k.map (· ^^^ c)).take (j + 1) = (k.map (· ^^^ c)).take j ++ [x ^^^ c] := by
 rw [List.take_add_one, List.getElem?_map, h]
 rfl
theorem VE (w1 w0 : World) (a : Go.Act) (hsz : a.tmps.size = 56) (hd : a.defers = []) (x0 x1 v7 v8 : Value) (Z : Nat) (va : Option Addr) (vc : Nat) (k : List UInt8) (h0 : qd a 0 = x0) (h1 : qd a 1 = x1) (h4 : qd a 4 = .pointer (some ⟨Z, 0, none⟩)) (h7 : qd a 7 = v7) (h8 : qd a 8 = v8) (h31 : qd a 31 = .slice va 64 vc) (h32 : qd a 32 = .int .i64 64) (h33 : qd a 33 = .int .i64 0) (hk : k.length = 64) (hK : Bs (fun b => w1.heap.size <= b) w0 (.slice va 64 vc) k) (hO7 : qi 5 w1.heap.size w0 v7 []) (hO8 : qi 5 w1.heap.size w0 v8 []) (hne : ∀ g, v7.ownBlock = some g -> v8.ownBlock ≠ some g) (hF : Fr [] w1 w0) (Q : Exit -> Go.Act -> World -> Prop)
  (hq : ∀ (c : Go.Act) (w' : World) (u7 u8 : Value), c.defers = [] -> c.tmps.size = 56 -> qd c 0 = x0 -> qd c 1 = x1 -> qd c 4 = .pointer (some ⟨Z, 0, none⟩) -> qd c 7 = u7 -> qd c 8 = u8 -> qi 5 w1.heap.size w' u7 (k.map (· ^^^ 54)) -> qi 5 w1.heap.size w' u8 (k.map (· ^^^ 92)) -> (∀ g, u7.ownBlock = some g -> u8.ownBlock ≠ some g) -> Fr [] w1 w' -> Q (.exit 2) c w') : Code.wp Tryz.prog (Code.loop qd8) Q a w0 := by
 refine wp_loop (fun a w => a.tmps.size = 56 /\ a.defers = [] /\ qd a 0 = x0 /\ qd a 1 = x1 /\ qd a 4 = .pointer (some ⟨Z, 0, none⟩) /\ qd a 31 = .slice va 64 vc /\ qd a 32 = .int .i64 64 /\ ∃ (j : Nat) (v7 v8 : Value), j <= 64 /\ qd a 33 = .int .i64 (j : Int) /\ qd a 7 = v7 /\ qd a 8 = v8 /\ Bs (fun b => w1.heap.size <= b) w (.slice va 64 vc) k /\ qi 5 w1.heap.size w v7 ((k.map (· ^^^ 54)).take j) /\ qi 5 w1.heap.size w v8 ((k.map (· ^^^ 92)).take j) /\ (∀ g, v7.ownBlock = some g -> v8.ownBlock ≠ some g) /\ Fr [] w1 w) (fun a _ => 64 - kN (qd a 33)) ⟨hsz, hd, h0, h1, h4, h31, h32, 0, v7, v8, by omega, h33, h7, h8, hK, hO7, hO8, hne, hF⟩ ?_
 clear h0 h1 h4 h7 h8 h31 h32 h33 hsz hd hK hO7 hO8 hne hF
 rintro a wr ⟨hsz, hd, h0, h1, h4, h31, h32, j, v7, v8, hj, h33, h7, h8, hK, hO7, hO8, hne, hF⟩
 have HQ := Hdq hq
 have H7 := Hdq hO7
 have H8 := Hdq hO8
 have HNE := Hdq hne
 have HF := Hdq hF
 have HK := Hdq (And.intro hk hK)
 by_cases hjk : j < 64
 ·obtain ⟨x, hx⟩ : ∃ x, k[j]? = some x := ⟨_, List.getElem?_eq_getElem Y95⟩
  obtain ⟨q, o, e, c0⟩ : ∃ q o, va = some ⟨q, o, none⟩ /\ wr.cell? ⟨q, o + j, none⟩ = some (u8v x) := by
   obtain ⟨a', c', e, h2, h3, h4⟩ := hK
   rw [hk] at e
   cases e
   obtain ⟨q, o, e, -, h⟩ := h4.some_of Vv
   exact ⟨q, o, e, (h j Vv).trans (by rw [List.getElem?_map, hx]; rfl)⟩
  subst e
  have hi : (j : Int) < 64 := by omega
  have hx5 : bits .xor .u8 (x.toNat : Int) 54 = ((x ^^^ 54).toNat : Int) := uk x 54
  have hx9 : bits .xor .u8 (x.toNat : Int) 92 = ((x ^^^ 92).toNat : Int) := uk x 92
  have HI := Hdq (And.intro hi hjk)
  have HX := Hdq hx
  have HL := Hdq (show ∀ c : UInt8, ((k.map (· ^^^ c)).take j).length = j from fun c => by rw [List.length_take, List.length_map, hk]; omega)
  unfold u8v at c0
  obtain ⟨A4, hA4⟩ := exq (x ^^^ 54)
  obtain ⟨A9, hA9⟩ := exq (x ^^^ 92)
  rw [hA4] at hx5
  rw [hA9] at hx9
  have HA := Hdq (And.intro hA4 hA9)
  have G1 : Fr [] wr (wr.alloc (.cells #[.int .u8 (A4.toNat : Int)] 5)) := Fr.alloc _ _
  have H71 := Hdq (qi.keep hO7 G1 qg)
  have H81 := Hdq (qi.keep hO8 G1 qg)
  have HF1 := Hdq (hF.trans G1)
  have HK1 := Hdq (hK.keep G1 qg)
  have HB := Hdq hF.size
  rw [vg a hsz hd, h0, h1, h4, h7, h8, h31, h32, h33]
  clear hsz hd h0 h1 h4 h7 h8 h31 h32 h33 hK hO7 hO8 hne hF hA4 hA9 hx hjk hq G1
  conv => arg 2; whnf
  go_wp2_with (at_builtin; refine yK (base := w1.heap.size) (c := A4) Tryz.underlying22 Tryz.infoByte rfl (.tmp 37) (.tmp 40) rfl rfl rfl (At.new rfl) H71.out (by rw [HL.out]; omega) (by have := HF1.out.size; omega) ?_)
  intro v1 w5 g1 g2 g3
  have F5 : Fr v7.ownBlock.toList (wr.alloc (.cells #[.int .u8 (A4.toNat : Int)] 5)) w5 := Fr.grown g2 Ky
  have hn1 : ∀ g, v1.ownBlock = some g -> v8.ownBlock ≠ some g := fun g hg h8 => by
   rcases g3 with e | e
   ·exact HNE.out g (e.symm.trans hg) h8
   ·rw [hg] at e
    have h9 := Ul H8.out g h8
    simp at e
    omega
  have o8 : qi 5 w1.heap.size w5 v8 ((k.map (· ^^^ 92)).take j) := j9 H81.out F5 (fun g hg hm => HNE.out g vd hg)
  have f5 : Fr [] w1 w5 := qi.fr H71.out HF1.out g2 (Nat.le_refl _)
  have k5 : Bs (fun b => w1.heap.size <= b) w5 (.slice (some ⟨q, o, none⟩) 64 vc) k := HK1.out.keep F5 (fun g hg => (H71.out.lt g (by simpa using hg)).1)
  have G2 : Fr [] w5 (w5.alloc (.cells #[.int .u8 (A9.toNat : Int)] 5)) := Fr.alloc _ _
  have H72 := Hdq (qi.keep g1 G2 qg)
  have H82 := Hdq (qi.keep o8 G2 qg)
  have H7L := Hdq (Ul g1)
  have HF2 := Hdq (f5.trans G2)
  have HK2 := Hdq (k5.keep G2 qg)
  have HN1 := Hdq hn1
  clear g1 g2 g3 F5 hn1 o8 f5 k5 G2 H71 H81 HF1 HK1
  go_wp2_with (at_builtin; refine yK (base := w1.heap.size) (c := A9) Tryz.underlying22 Tryz.infoByte rfl (.tmp 42) (.tmp 45) rfl rfl rfl (At.new rfl) H82.out (by rw [HL.out]; omega) (by have := HF2.out.size; omega) ?_)
  intro v2 w6 g4 g5 g6
  have F6 : Fr v8.ownBlock.toList (w5.alloc (.cells #[.int .u8 (A9.toNat : Int)] 5)) w6 := Fr.grown g5 Ky
  have HN2 := Hdq (show ∀ g, v1.ownBlock = some g -> v2.ownBlock ≠ some g from fun g hg h2 => by
   rcases g6 with e | e
   ·exact HN1.out g hg (e.symm.trans h2)
   ·rw [h2] at e
    have h9 := H7L.out g hg
    simp at e
    omega)
  have HO7 := Hdq (show qi 5 w1.heap.size w6 v1 ((k.map (· ^^^ 54)).take (j + 1)) by
   have h := j9 H72.out F6 (fun g hg hm => HN1.out g hg vd)
   rw [YO k 54 j x HX.out, HA.out.1]
   exact h)
  have HO8 := Hdq (show qi 5 w1.heap.size w6 v2 ((k.map (· ^^^ 92)).take (j + 1)) by
   rw [YO k 92 j x HX.out, HA.out.2]
   exact g4)
  have HF6 := Hdq (qi.fr H82.out HF2.out g5 (Nat.le_refl _))
  have HK6 := Hdq (HK2.out.keep F6 (fun g hg => (H82.out.lt g (by simpa using hg)).1))
  clear g4 g5 g6 F6
  go_wp2
  refine ⟨⟨by first | rfl | trivial, by first | rfl | trivial, by first | rfl | trivial, by first | rfl | trivial, by first | rfl | trivial, by first | rfl | trivial, by first | rfl | trivial, j + 1, v1, v2, by have := HI.out.2; omega, by first | rfl | (simp [qd]), by first | rfl | trivial, by first | rfl | trivial, HK6.out, HO7.out, HO8.out, HN2.out, HF6.out⟩, ?_⟩
  have := HI.out
  simp [kN, qd]
  omega
 ·obtain rfl : j = 64 := by omega
  have hi : ¬ ((64 : Nat) : Int) < 64 := by decide
  rw [vg a hsz hd, h0, h1, h4, h7, h8, h31, h32, h33]
  clear hsz hd h0 h1 h4 h7 h8 h31 h32 h33 hK hO7 hO8 hne hF hq
  conv => arg 2; whnf
  go_wp2
  have e7 := H7.out
  rw [List.take_of_length_le (by rw [List.length_map, hk]; exact Nat.le_refl _)] at e7
  have e8 := H8.out
  rw [List.take_of_length_le (by rw [List.length_map, hk]; exact Nat.le_refl _)] at e8
  exact HQ.out _ wr v7 v8 rfl rfl rfl rfl rfl rfl rfl e7 e8 HNE.out HF.out
end Go.Proofs.YtnafknkchbfpaaaGreatDoor
