/-
  Layer 31: the document's Encode: its rounds: helpers. (printed by genren.py)
  Layer 31: the document's Encode: a round. (printed by genren.py)
  Layer 31: the document's Encode: a round. (printed by genren.py)
  Layer 31: the document's Encode: a round. (printed by genren.py)
  Layer 31: the document's Encode: a round. (printed by genren.py)
-/
import Derived.Test.YtbohmnblegljkaaDoorGI
import Derived.Test.YtbohmnblegljkaaDoorGH
namespace Go.Proofs.YtbohmnblegljkaaDoor
open Go.RowKit Go.Bl
set_option linter.unusedVariables false

def firstLoopE : Code → Option Code
  | .loop c => some c
  | .seq a b => match firstLoopE a with
    | some c => some c
    | none => firstLoopE b
  | .block _ c => firstLoopE c
  | .scope c => firstLoopE c
  | .cond _ a b => match firstLoopE a with
    | some c => some c
    | none => firstLoopE b
  | _ => none
noncomputable def encBody : Code := ((Tryd.f30.body.bind firstLoopE).getD .skip)
theorem frame_exp (a : Go.Act) (n : Nat) (hs : a.tmps.size = n) (hd : a.defers = []) : a = ⟨((List.range n).map (slot a)).toArray, []⟩ := by
  obtain ⟨t, d⟩ := a
  simp only at hs hd
  subst hd
  simp only [Go.Act.mk.injEq, and_true]
  refine Array.ext (by simp [hs]) fun i h1 h2 => ?_
  simp [slot, h1]
set_option maxRecDepth 100000 in
theorem frame144 (a : Go.Act) (hs : a.tmps.size = 144) (hd : a.defers = []) : a = ⟨(slot a 0 :: slot a 1 :: slot a 2 :: slot a 3 :: slot a 4 :: slot a 5 :: slot a 6 :: slot a 7 :: slot a 8 :: slot a 9 :: slot a 10 :: slot a 11 :: slot a 12 :: slot a 13 :: slot a 14 :: slot a 15 :: slot a 16 :: slot a 17 :: slot a 18 :: slot a 19 :: slot a 20 :: slot a 21 :: slot a 22 :: slot a 23 :: slot a 24 :: slot a 25 :: slot a 26 :: slot a 27 :: slot a 28 :: slot a 29 :: slot a 30 :: slot a 31 :: slot a 32 :: slot a 33 :: slot a 34 :: slot a 35 :: slot a 36 :: slot a 37 :: slot a 38 :: slot a 39 :: slot a 40 :: slot a 41 :: slot a 42 :: slot a 43 :: slot a 44 :: slot a 45 :: slot a 46 :: slot a 47 :: slot a 48 :: slot a 49 :: slot a 50 :: slot a 51 :: slot a 52 :: slot a 53 :: slot a 54 :: slot a 55 :: slot a 56 :: slot a 57 :: slot a 58 :: slot a 59 :: slot a 60 :: slot a 61 :: slot a 62 :: slot a 63 :: slot a 64 :: slot a 65 :: slot a 66 :: slot a 67 :: slot a 68 :: slot a 69 :: slot a 70 :: slot a 71 :: slot a 72 :: slot a 73 :: slot a 74 :: slot a 75 :: slot a 76 :: slot a 77 :: slot a 78 :: slot a 79 :: slot a 80 :: slot a 81 :: slot a 82 :: slot a 83 :: slot a 84 :: slot a 85 :: slot a 86 :: slot a 87 :: slot a 88 :: slot a 89 :: slot a 90 :: slot a 91 :: slot a 92 :: slot a 93 :: slot a 94 :: slot a 95 :: slot a 96 :: slot a 97 :: slot a 98 :: slot a 99 :: slot a 100 :: slot a 101 :: slot a 102 :: slot a 103 :: slot a 104 :: slot a 105 :: slot a 106 :: slot a 107 :: slot a 108 :: slot a 109 :: slot a 110 :: slot a 111 :: slot a 112 :: slot a 113 :: slot a 114 :: slot a 115 :: slot a 116 :: slot a 117 :: slot a 118 :: slot a 119 :: slot a 120 :: slot a 121 :: slot a 122 :: slot a 123 :: slot a 124 :: slot a 125 :: slot a 126 :: slot a 127 :: slot a 128 :: slot a 129 :: slot a 130 :: slot a 131 :: slot a 132 :: slot a 133 :: slot a 134 :: slot a 135 :: slot a 136 :: slot a 137 :: slot a 138 :: slot a 139 :: slot a 140 :: slot a 141 :: slot a 142 :: slot a 143 :: []).toArray, []⟩ := frame_exp a 144 hs hd
theorem puts_of (b a : Go.Act) (L : List Nat) (hd : b.defers = a.defers) (hs : b.tmps.size = a.tmps.size) (h : ∀ s, s ∉ L → slot b s = slot a s) (k : Nat) :
    ∃ f : Nat → Value, f k = slot b k ∧ b = L.foldl (fun x d => x.put (some d) (f d)) a := ⟨slot b, rfl, old_puts b a L hd hs h⟩
theorem own_step {e : TypeId} {w wr p : World} {v0 : Value} {xs : List UInt8} (HF : Fr [] w wr) (ho : OwnB e w.heap.size wr v0 xs) (h : Fr v0.ownBlock.toList wr p) : Fr [] w p :=
  HF.then h fun x hx => .inr (by have := ho.lt x (by simpa using hx); omega)
theorem bs_step {e : TypeId} {w wr p : World} {v0 v : Value} {xs ys : List UInt8} (hb : Bs (fun b => w.heap.size ≤ b) wr v ys) (ho : OwnB e w.heap.size wr v0 xs) (h : Fr v0.ownBlock.toList wr p) : Bs (fun b => w.heap.size ≤ b) p v ys :=
  hb.keep h fun b hx => (ho.lt b (by simpa using hx)).1
theorem grown_fr {w w' : World} {v : Value} (h : w.grownBy w' v.ownBlock) : Fr v.ownBlock.toList w w' := Fr.grown h fun k hk => by simp [hk]
theorem r_not {e te : TypeId} {base : Nat} {w : World} {v0 : Value} {xs : List UInt8} (ho : OwnB e base w v0 xs) {r : Nat} {c : Array Value} (h : At w r (.cells c te)) (hne : te ≠ e) : r ∉ v0.ownBlock.toList := by
  have := own_ne_ty' ho h hne
  simpa using this
theorem range7r {w : World} {b : Nat} {x : ActP} {bv : Value} (h : At w b (actO x bv 99)) : w.rangeAt b 7 [.int .i64 x.p0, .int .i64 x.p1, .int .i64 x.p2, .int .i64 x.p3, .int .i64 x.p4, .int .i64 x.p5] := by
  intro j v hj
  have hl : j < 6 := by
    rcases Nat.lt_or_ge j 6 with h | h
    · exact h
    · rw [List.getElem?_eq_none (by simpa using h)] at hj; cases hj
  have hc : j = 0 ∨ j = 1 ∨ j = 2 ∨ j = 3 ∨ j = 4 ∨ j = 5 := by omega
  obtain ⟨-, -, -, -, -, -, -, q0, q1, q2, q3, q4, q5, -⟩ := actCells h
  rcases hc with rfl | rfl | rfl | rfl | rfl | rfl
  · rw [← hj]; exact q0
  · rw [← hj]; exact q1
  · rw [← hj]; exact q2
  · rw [← hj]; exact q3
  · rw [← hj]; exact q4
  · rw [← hj]; exact q5
end Go.Proofs.YtbohmnblegljkaaDoor
namespace Go.Proofs.YtbohmnblegljkaaDoor
open Go.RowKit Go.Bl
set_option linter.unusedVariables false

set_option maxRecDepth 1000000 in
set_option maxHeartbeats 8000000 in
theorem renc_round_o (w0 wr : World) (a : Go.Act) (hsz : a.tmps.size = 144) (hd : a.defers = []) (N j b off cap : Nat) (x : ActP) (bo : Option Addr) (bn bc : Nat) (v0 : Value) (xs : List UInt8)
    (h11 : slot a 11 = .slice (some ⟨b, off, none⟩) N cap) (h12 : slot a 12 = .int .i64 N) (h13 : slot a 13 = .int .i64 j) (hj : j < N) (hN : N ≤ 30) (hcell : wr.rangeAt b (off + j * 16) (avC (x, .slice bo bn bc)))
    (hbx : Bs (fun b => w0.heap.size ≤ b) wr (.slice bo bn bc) x.bytes) (h4 : slot a 4 = v0) (hown : OwnB 5 w0.heap.size wr v0 xs) (hlen : xs.length ≤ 3000000) (hnl : x.name.size ≤ 1000) (hby : x.bytes.length ≤ 70000) (hF : Fr [] w0 wr) (hg : 0 ≤ x.kind ∧ x.kind ≤ 255) (hk : x.kind ≠ 10 ∧ x.kind ≠ 1 ∧ x.kind ≠ 9 ∧ x.kind ≠ 13) (Q : Exit → Go.Act → World → Prop)
    (hQ : ∀ (c : Go.Act) (p : World), c.defers = [] → c.tmps.size = 144 → slot c 11 = slot a 11 → slot c 12 = slot a 12 → slot c 13 = .int .i64 ((j : Int) + 1) → OwnB 5 w0.heap.size p (slot c 4) (xs ++ entryL (plainA x)) → Fr [] w0 p → Q .normal c p) : Code.wp Tryd.prog encBody Q a wr := by
  rw [h11, h12] at hQ
  have HA0 := Lib.hid (show At (wr.alloc (actO x (.slice bo bn bc) 99)) wr.heap.size (actO x (.slice bo bn bc) 99) from At.new rfl)
  have HF0 := Lib.hid (show Fr [] w0 (wr.alloc (actO x (.slice bo bn bc) 99)) from Fr.al hF)
  have HO0 := Lib.hid (hown.keep (Fr.alloc (S := []) wr (actO x (.slice bo bn bc) 99)) (by simp))
  have BX0 := Lib.hid (hbx.keep (Fr.alloc (S := []) wr (actO x (.slice bo bn bc) 99)) (by simp))
  have HC := Lib.hid hcell
  have HQ := Lib.hid hQ
  have HK := Lib.hid hk
  have HL := Lib.hid hlen
  have z0 : (wr.alloc (actO x (.slice bo bn bc) 99)).cell? ⟨wr.heap.size, 0, none⟩ = some (.int .i64 x.kind) := (actCells HA0.out).1
  have g0 := hg.1
  have g1 := hg.2
  rw [frame144 a hsz hd, h4, h11, h12, h13]
  clear hcell hQ hown hbx hF hk hlen h4 h11 h12 h13 hg
  unfold actO at z0
  conv => arg 2; whnf
  go_wp2_with (first | (refine wpl_load_row (.tmp 15) rfl rfl b (off + j * 16) (actC x (.slice bo bn bc)) rfl HC.out Tryd.underlying99 rfl (by kernel_rfl) ?_) | (refine wpl_store_new (.tmp 6) (.tmp 16) rfl rfl (actC x (.slice bo bn bc)) rfl rfl (by kernel_rfl) rfl (by simp [actC, Value.oneCell']) ?_))
  refine renc_7 _ _ rfl w0.heap.size v0 xs x (.slice bo bn bc) wr.heap.size rfl HO0.out (by have := HF0.out.size; exact this) (by have := HL.out; omega) rfl HA0.out (r_not HO0.out HA0.out (by decide)) _ ?_
  intro b7 p7 h1 h2 h3 ho hf
  obtain ⟨f7, e7, eb⟩ := puts_of b7 _ _ h1 h2 h3 4
  rw [← e7] at ho
  clear h1 h2 h3 e7
  subst eb
  simp only [List.foldl_cons, List.foldl_nil]
  simp only [Go.Act.put, List.setIfInBounds_toArray, List.set_cons_succ, List.set_cons_zero]
  generalize f7 4 = v7 at ho ⊢
  have HA := Lib.hid (HA0.out.keep hf (r_not HO0.out HA0.out (by decide)))
  have BX := Lib.hid (bs_step BX0.out HO0.out hf)
  have HF := Lib.hid (own_step HF0.out HO0.out hf)
  have HO := Lib.hid ho
  clear HA0 BX0 HF0 HO0 hf ho z0
  have z0 := (actCells HA.out).1
  have t10 : (x.kind == 10) = false := by have := HK.out; rw [beq_eq_false_iff_ne]; omega
  have t1 : (x.kind == 1) = false := by have := HK.out; rw [beq_eq_false_iff_ne]; omega
  have t9 : (x.kind == 9) = false := by have := HK.out; rw [beq_eq_false_iff_ne]; omega
  have t13 : (x.kind == 13) = false := by have := HK.out; rw [beq_eq_false_iff_ne]; omega
  go_wp2
  refine HQ.out _ _ rfl rfl rfl rfl (by go_num) ?_ HF.out
  have := HO.out
  rw [ref_o x HK.out.1 HK.out.2.1 (by have := HK.out; omega)]
  exact this
end Go.Proofs.YtbohmnblegljkaaDoor
namespace Go.Proofs.YtbohmnblegljkaaDoor
open Go.RowKit Go.Bl
set_option linter.unusedVariables false

set_option maxRecDepth 1000000 in
set_option maxHeartbeats 8000000 in
theorem renc_round_10 (w0 wr : World) (a : Go.Act) (hsz : a.tmps.size = 144) (hd : a.defers = []) (N j b off cap : Nat) (x : ActP) (bo : Option Addr) (bn bc : Nat) (v0 : Value) (xs : List UInt8)
    (h11 : slot a 11 = .slice (some ⟨b, off, none⟩) N cap) (h12 : slot a 12 = .int .i64 N) (h13 : slot a 13 = .int .i64 j) (hj : j < N) (hN : N ≤ 30) (hcell : wr.rangeAt b (off + j * 16) (avC (x, .slice bo bn bc)))
    (hbx : Bs (fun b => w0.heap.size ≤ b) wr (.slice bo bn bc) x.bytes) (h4 : slot a 4 = v0) (hown : OwnB 5 w0.heap.size wr v0 xs) (hlen : xs.length ≤ 3000000) (hnl : x.name.size ≤ 1000) (hby : x.bytes.length ≤ 70000) (hF : Fr [] w0 wr) (hg : 0 ≤ x.kind ∧ x.kind ≤ 255) (hk : x.kind = 10) (Q : Exit → Go.Act → World → Prop)
    (hQ : ∀ (c : Go.Act) (p : World), c.defers = [] → c.tmps.size = 144 → slot c 11 = slot a 11 → slot c 12 = slot a 12 → slot c 13 = .int .i64 ((j : Int) + 1) → OwnB 5 w0.heap.size p (slot c 4) (xs ++ entryL (plainA x)) → Fr [] w0 p → Q .normal c p) : Code.wp Tryd.prog encBody Q a wr := by
  rw [h11, h12] at hQ
  have HA0 := Lib.hid (show At (wr.alloc (actO x (.slice bo bn bc) 99)) wr.heap.size (actO x (.slice bo bn bc) 99) from At.new rfl)
  have HF0 := Lib.hid (show Fr [] w0 (wr.alloc (actO x (.slice bo bn bc) 99)) from Fr.al hF)
  have HO0 := Lib.hid (hown.keep (Fr.alloc (S := []) wr (actO x (.slice bo bn bc) 99)) (by simp))
  have BX0 := Lib.hid (hbx.keep (Fr.alloc (S := []) wr (actO x (.slice bo bn bc) 99)) (by simp))
  have HC := Lib.hid hcell
  have HQ := Lib.hid hQ
  have HK := Lib.hid hk
  have HL := Lib.hid hlen
  have z0 : (wr.alloc (actO x (.slice bo bn bc) 99)).cell? ⟨wr.heap.size, 0, none⟩ = some (.int .i64 x.kind) := (actCells HA0.out).1
  have g0 := hg.1
  have g1 := hg.2
  rw [frame144 a hsz hd, h4, h11, h12, h13]
  clear hcell hQ hown hbx hF hk hlen h4 h11 h12 h13 hg
  unfold actO at z0
  conv => arg 2; whnf
  go_wp2_with (first | (refine wpl_load_row (.tmp 15) rfl rfl b (off + j * 16) (actC x (.slice bo bn bc)) rfl HC.out Tryd.underlying99 rfl (by kernel_rfl) ?_) | (refine wpl_store_new (.tmp 6) (.tmp 16) rfl rfl (actC x (.slice bo bn bc)) rfl rfl (by kernel_rfl) rfl (by simp [actC, Value.oneCell']) ?_))
  refine renc_7 _ _ rfl w0.heap.size v0 xs x (.slice bo bn bc) wr.heap.size rfl HO0.out (by have := HF0.out.size; exact this) (by have := HL.out; omega) rfl HA0.out (r_not HO0.out HA0.out (by decide)) _ ?_
  intro b7 p7 h1 h2 h3 ho hf
  obtain ⟨f7, e7, eb⟩ := puts_of b7 _ _ h1 h2 h3 4
  rw [← e7] at ho
  clear h1 h2 h3 e7
  subst eb
  simp only [List.foldl_cons, List.foldl_nil]
  simp only [Go.Act.put, List.setIfInBounds_toArray, List.set_cons_succ, List.set_cons_zero]
  generalize f7 4 = v7 at ho ⊢
  have HA := Lib.hid (HA0.out.keep hf (r_not HO0.out HA0.out (by decide)))
  have BX := Lib.hid (bs_step BX0.out HO0.out hf)
  have HF := Lib.hid (own_step HF0.out HO0.out hf)
  have HO := Lib.hid ho
  clear HA0 BX0 HF0 HO0 hf ho z0
  have z0 := (actCells HA.out).1
  have t10 : (x.kind == 10) = true := by have := HK.out; rw [beq_iff_eq]; omega
  have t1 : (x.kind == 1) = false := by have := HK.out; rw [beq_eq_false_iff_ne]; omega
  have t9 : (x.kind == 9) = false := by have := HK.out; rw [beq_eq_false_iff_ne]; omega
  have t13 : (x.kind == 13) = false := by have := HK.out; rw [beq_eq_false_iff_ne]; omega
  go_wp2
  refine renc_9 _ _ rfl w0.heap.size v7 (xs ++ entBase x) x (.slice bo bn bc) wr.heap.size rfl HO.out (by have := HF.out.size; exact this) (by have := HL.out; simp [entBase, be2]; omega) rfl HA.out (r_not HO.out HA.out (by decide)) _ ?_
  intro b9 p9 h1 h2 h3 ho hf
  obtain ⟨f9, e9, eb⟩ := puts_of b9 _ _ h1 h2 h3 4
  rw [← e9] at ho
  clear h1 h2 h3 e9
  subst eb
  simp only [List.foldl_cons, List.foldl_nil]
  simp only [Go.Act.put, List.setIfInBounds_toArray, List.set_cons_succ, List.set_cons_zero]
  generalize f9 4 = v9 at ho ⊢
  replace HA := Lib.hid (HA.out.keep hf (r_not HO.out HA.out (by decide)))
  replace BX := Lib.hid (bs_step BX.out HO.out hf)
  replace HF := Lib.hid (own_step HF.out HO.out hf)
  replace HO := Lib.hid ho
  clear hf ho z0
  have z0 := (actCells HA.out).1
  go_wp2
  refine HQ.out _ _ rfl rfl rfl rfl (by go_num) ?_ HF.out
  have := HO.out
  rw [ref_10 x HK.out]
  rw [List.append_assoc] at this
  exact this
end Go.Proofs.YtbohmnblegljkaaDoor
namespace Go.Proofs.YtbohmnblegljkaaDoor
open Go.RowKit Go.Bl
set_option linter.unusedVariables false

set_option maxRecDepth 1000000 in
set_option maxHeartbeats 8000000 in
theorem renc_round_9 (w0 wr : World) (a : Go.Act) (hsz : a.tmps.size = 144) (hd : a.defers = []) (N j b off cap : Nat) (x : ActP) (bo : Option Addr) (bn bc : Nat) (v0 : Value) (xs : List UInt8)
    (h11 : slot a 11 = .slice (some ⟨b, off, none⟩) N cap) (h12 : slot a 12 = .int .i64 N) (h13 : slot a 13 = .int .i64 j) (hj : j < N) (hN : N ≤ 30) (hcell : wr.rangeAt b (off + j * 16) (avC (x, .slice bo bn bc)))
    (hbx : Bs (fun b => w0.heap.size ≤ b) wr (.slice bo bn bc) x.bytes) (h4 : slot a 4 = v0) (hown : OwnB 5 w0.heap.size wr v0 xs) (hlen : xs.length ≤ 3000000) (hnl : x.name.size ≤ 1000) (hby : x.bytes.length ≤ 70000) (hF : Fr [] w0 wr) (hg : 0 ≤ x.kind ∧ x.kind ≤ 255) (hk : x.kind = 9) (Q : Exit → Go.Act → World → Prop)
    (hQ : ∀ (c : Go.Act) (p : World), c.defers = [] → c.tmps.size = 144 → slot c 11 = slot a 11 → slot c 12 = slot a 12 → slot c 13 = .int .i64 ((j : Int) + 1) → OwnB 5 w0.heap.size p (slot c 4) (xs ++ entryL (plainA x)) → Fr [] w0 p → Q .normal c p) : Code.wp Tryd.prog encBody Q a wr := by
  rw [h11, h12] at hQ
  have HA0 := Lib.hid (show At (wr.alloc (actO x (.slice bo bn bc) 99)) wr.heap.size (actO x (.slice bo bn bc) 99) from At.new rfl)
  have HF0 := Lib.hid (show Fr [] w0 (wr.alloc (actO x (.slice bo bn bc) 99)) from Fr.al hF)
  have HO0 := Lib.hid (hown.keep (Fr.alloc (S := []) wr (actO x (.slice bo bn bc) 99)) (by simp))
  have BX0 := Lib.hid (hbx.keep (Fr.alloc (S := []) wr (actO x (.slice bo bn bc) 99)) (by simp))
  have HC := Lib.hid hcell
  have HQ := Lib.hid hQ
  have HK := Lib.hid hk
  have HL := Lib.hid hlen
  have z0 : (wr.alloc (actO x (.slice bo bn bc) 99)).cell? ⟨wr.heap.size, 0, none⟩ = some (.int .i64 x.kind) := (actCells HA0.out).1
  have g0 := hg.1
  have g1 := hg.2
  rw [frame144 a hsz hd, h4, h11, h12, h13]
  clear hcell hQ hown hbx hF hk hlen h4 h11 h12 h13 hg
  unfold actO at z0
  conv => arg 2; whnf
  go_wp2_with (first | (refine wpl_load_row (.tmp 15) rfl rfl b (off + j * 16) (actC x (.slice bo bn bc)) rfl HC.out Tryd.underlying99 rfl (by kernel_rfl) ?_) | (refine wpl_store_new (.tmp 6) (.tmp 16) rfl rfl (actC x (.slice bo bn bc)) rfl rfl (by kernel_rfl) rfl (by simp [actC, Value.oneCell']) ?_))
  refine renc_7 _ _ rfl w0.heap.size v0 xs x (.slice bo bn bc) wr.heap.size rfl HO0.out (by have := HF0.out.size; exact this) (by have := HL.out; omega) rfl HA0.out (r_not HO0.out HA0.out (by decide)) _ ?_
  intro b7 p7 h1 h2 h3 ho hf
  obtain ⟨f7, e7, eb⟩ := puts_of b7 _ _ h1 h2 h3 4
  rw [← e7] at ho
  clear h1 h2 h3 e7
  subst eb
  simp only [List.foldl_cons, List.foldl_nil]
  simp only [Go.Act.put, List.setIfInBounds_toArray, List.set_cons_succ, List.set_cons_zero]
  generalize f7 4 = v7 at ho ⊢
  have HA := Lib.hid (HA0.out.keep hf (r_not HO0.out HA0.out (by decide)))
  have BX := Lib.hid (bs_step BX0.out HO0.out hf)
  have HF := Lib.hid (own_step HF0.out HO0.out hf)
  have HO := Lib.hid ho
  clear HA0 BX0 HF0 HO0 hf ho z0
  have z0 := (actCells HA.out).1
  have t10 : (x.kind == 10) = false := by have := HK.out; rw [beq_eq_false_iff_ne]; omega
  have t1 : (x.kind == 1) = false := by have := HK.out; rw [beq_eq_false_iff_ne]; omega
  have t9 : (x.kind == 9) = true := by have := HK.out; rw [beq_iff_eq]; omega
  have t13 : (x.kind == 13) = false := by have := HK.out; rw [beq_eq_false_iff_ne]; omega
  have LL := Lib.hid (show ((xs ++ entBase x)).length + 2 + x.bytes.length ≤ 100000000 by have := HL.out; simp [entBase, be2]; omega)
  have hb0 : bn = x.bytes.length := by
    obtain ⟨a0, cp, h, -⟩ := BX.out
    cases h
    rfl
  have HBN := Lib.hid hb0
  have z6 := (actCells HA.out).2.2.2.2.2.2.1
  by_cases hcut : 65535 < bn
  · have BY := Lib.hid (BX.out.take 65535 (by omega))
    have hbc : 65535 ≤ bc := by
      obtain ⟨a0, cp, h, h', -⟩ := BX.out
      cases h
      omega
    clear hb0
    have hs := HF.out.size
    go_wp2_with fail
    refine (put_any _ _ 2 (by decide) (by decide)).mono ?_
    rintro e p8 ⟨u8, rfl, ho, hf⟩
    have H8 := Lib.hid (HO.out.keep hf (by simp))
    have F8 := Lib.hid (HF.out.trans hf)
    have Y8 := Lib.hid (BY.out.keep hf (by simp))
    have P8 := Lib.hid (ho.bs (A := fun b => False) (by simp))
    obtain ⟨xo, xn, xc, rfl⟩ := bs_shape P8.out
    have hs8 := F8.out.size
    clear ho hf HO HF BY HA
    go_wp2_with (at_builtin; refine wpl_append_bs (A := fun _ => False) (base := w0.heap.size) Tryd.underlying59 Tryd.infoByte rfl (.tmp 135) (.tmp 138) rfl rfl rfl H8.out P8.out (by have := LL.out; simp [beK_len] at this ⊢; omega) hs8 ?_)
    intro v9 p9 h5 h6
    have H9 := Lib.hid h5
    have F9 := Lib.hid (show Fr [] w0 p9 from OwnB.fr H8.out F8.out h6 (Nat.le_refl _))
    have Y9 := Lib.hid (Y8.out.keep (grown_fr h6) fun b hb => (H8.out.lt b (by simpa using hb)).1)
    have hs9 := F9.out.size
    clear h5 h6 H8 F8 Y8 P8
    go_wp2_with (at_builtin; refine wpl_append_bs (A := fun b => w0.heap.size ≤ b) (base := w0.heap.size) Tryd.underlying59 Tryd.infoByte rfl (.tmp 139) (.tmp 140) rfl rfl rfl H9.out Y9.out (by have := LL.out; simp [beK_len] at this ⊢; omega) hs9 ?_)
    intro v10 p10 h5 h6
    have H10 := Lib.hid h5
    have F10 := Lib.hid (show Fr [] w0 p10 from OwnB.fr H9.out F9.out h6 (Nat.le_refl _))
    clear h5 h6 H9 F9 Y9
    go_wp2
    refine HQ.out _ _ rfl rfl rfl rfl (by go_num) ?_ F10.out
    have h := H10.out
    have hbn := HBN.out
    show OwnB 5 w0.heap.size p10 v10 _
    rw [ref_9 x (by have := HK.out; omega)]
    rw [List.length_take, Nat.min_eq_left (by omega)]
    simpa [beK_two, hbn] using h
  · have BY := BX
    clear hb0
    have hs := HF.out.size
    go_wp2_with fail
    refine (put_any _ _ 2 (by decide) (by decide)).mono ?_
    rintro e p8 ⟨u8, rfl, ho, hf⟩
    have H8 := Lib.hid (HO.out.keep hf (by simp))
    have F8 := Lib.hid (HF.out.trans hf)
    have Y8 := Lib.hid (BY.out.keep hf (by simp))
    have P8 := Lib.hid (ho.bs (A := fun b => False) (by simp))
    obtain ⟨xo, xn, xc, rfl⟩ := bs_shape P8.out
    have hs8 := F8.out.size
    clear ho hf HO HF BY HA
    go_wp2_with (at_builtin; refine wpl_append_bs (A := fun _ => False) (base := w0.heap.size) Tryd.underlying59 Tryd.infoByte rfl (.tmp 135) (.tmp 138) rfl rfl rfl H8.out P8.out (by have := LL.out; simp [beK_len] at this ⊢; omega) hs8 ?_)
    intro v9 p9 h5 h6
    have H9 := Lib.hid h5
    have F9 := Lib.hid (show Fr [] w0 p9 from OwnB.fr H8.out F8.out h6 (Nat.le_refl _))
    have Y9 := Lib.hid (Y8.out.keep (grown_fr h6) fun b hb => (H8.out.lt b (by simpa using hb)).1)
    have hs9 := F9.out.size
    clear h5 h6 H8 F8 Y8 P8
    go_wp2_with (at_builtin; refine wpl_append_bs (A := fun b => w0.heap.size ≤ b) (base := w0.heap.size) Tryd.underlying59 Tryd.infoByte rfl (.tmp 139) (.tmp 140) rfl rfl rfl H9.out Y9.out (by have := LL.out; simp [beK_len] at this ⊢; omega) hs9 ?_)
    intro v10 p10 h5 h6
    have H10 := Lib.hid h5
    have F10 := Lib.hid (show Fr [] w0 p10 from OwnB.fr H9.out F9.out h6 (Nat.le_refl _))
    clear h5 h6 H9 F9 Y9
    go_wp2
    refine HQ.out _ _ rfl rfl rfl rfl (by go_num) ?_ F10.out
    have h := H10.out
    have hbn := HBN.out
    show OwnB 5 w0.heap.size p10 v10 _
    rw [ref_9 x (by have := HK.out; omega)]
    rw [List.take_of_length_le (by omega)]
    simpa [beK_two, hbn] using h
end Go.Proofs.YtbohmnblegljkaaDoor
namespace Go.Proofs.YtbohmnblegljkaaDoor
open Go.RowKit Go.Bl
set_option linter.unusedVariables false

set_option maxRecDepth 1000000 in
set_option maxHeartbeats 8000000 in
theorem renc_round_13 (w0 wr : World) (a : Go.Act) (hsz : a.tmps.size = 144) (hd : a.defers = []) (N j b off cap : Nat) (x : ActP) (bo : Option Addr) (bn bc : Nat) (v0 : Value) (xs : List UInt8)
    (h11 : slot a 11 = .slice (some ⟨b, off, none⟩) N cap) (h12 : slot a 12 = .int .i64 N) (h13 : slot a 13 = .int .i64 j) (hj : j < N) (hN : N ≤ 30) (hcell : wr.rangeAt b (off + j * 16) (avC (x, .slice bo bn bc)))
    (hbx : Bs (fun b => w0.heap.size ≤ b) wr (.slice bo bn bc) x.bytes) (h4 : slot a 4 = v0) (hown : OwnB 5 w0.heap.size wr v0 xs) (hlen : xs.length ≤ 3000000) (hnl : x.name.size ≤ 1000) (hby : x.bytes.length ≤ 70000) (hF : Fr [] w0 wr) (hg : 0 ≤ x.kind ∧ x.kind ≤ 255) (hk : x.kind = 13) (Q : Exit → Go.Act → World → Prop)
    (hQ : ∀ (c : Go.Act) (p : World), c.defers = [] → c.tmps.size = 144 → slot c 11 = slot a 11 → slot c 12 = slot a 12 → slot c 13 = .int .i64 ((j : Int) + 1) → OwnB 5 w0.heap.size p (slot c 4) (xs ++ entryL (plainA x)) → Fr [] w0 p → Q .normal c p) : Code.wp Tryd.prog encBody Q a wr := by
  rw [h11, h12] at hQ
  have HA0 := Lib.hid (show At (wr.alloc (actO x (.slice bo bn bc) 99)) wr.heap.size (actO x (.slice bo bn bc) 99) from At.new rfl)
  have HF0 := Lib.hid (show Fr [] w0 (wr.alloc (actO x (.slice bo bn bc) 99)) from Fr.al hF)
  have HO0 := Lib.hid (hown.keep (Fr.alloc (S := []) wr (actO x (.slice bo bn bc) 99)) (by simp))
  have BX0 := Lib.hid (hbx.keep (Fr.alloc (S := []) wr (actO x (.slice bo bn bc) 99)) (by simp))
  have HC := Lib.hid hcell
  have HQ := Lib.hid hQ
  have HK := Lib.hid hk
  have HL := Lib.hid hlen
  have z0 : (wr.alloc (actO x (.slice bo bn bc) 99)).cell? ⟨wr.heap.size, 0, none⟩ = some (.int .i64 x.kind) := (actCells HA0.out).1
  have g0 := hg.1
  have g1 := hg.2
  rw [frame144 a hsz hd, h4, h11, h12, h13]
  clear hcell hQ hown hbx hF hk hlen h4 h11 h12 h13 hg
  unfold actO at z0
  conv => arg 2; whnf
  go_wp2_with (first | (refine wpl_load_row (.tmp 15) rfl rfl b (off + j * 16) (actC x (.slice bo bn bc)) rfl HC.out Tryd.underlying99 rfl (by kernel_rfl) ?_) | (refine wpl_store_new (.tmp 6) (.tmp 16) rfl rfl (actC x (.slice bo bn bc)) rfl rfl (by kernel_rfl) rfl (by simp [actC, Value.oneCell']) ?_))
  refine renc_7 _ _ rfl w0.heap.size v0 xs x (.slice bo bn bc) wr.heap.size rfl HO0.out (by have := HF0.out.size; exact this) (by have := HL.out; omega) rfl HA0.out (r_not HO0.out HA0.out (by decide)) _ ?_
  intro b7 p7 h1 h2 h3 ho hf
  obtain ⟨f7, e7, eb⟩ := puts_of b7 _ _ h1 h2 h3 4
  rw [← e7] at ho
  clear h1 h2 h3 e7
  subst eb
  simp only [List.foldl_cons, List.foldl_nil]
  simp only [Go.Act.put, List.setIfInBounds_toArray, List.set_cons_succ, List.set_cons_zero]
  generalize f7 4 = v7 at ho ⊢
  have HA := Lib.hid (HA0.out.keep hf (r_not HO0.out HA0.out (by decide)))
  have BX := Lib.hid (bs_step BX0.out HO0.out hf)
  have HF := Lib.hid (own_step HF0.out HO0.out hf)
  have HO := Lib.hid ho
  clear HA0 BX0 HF0 HO0 hf ho z0
  have z0 := (actCells HA.out).1
  have t10 : (x.kind == 10) = false := by have := HK.out; rw [beq_eq_false_iff_ne]; omega
  have t1 : (x.kind == 1) = false := by have := HK.out; rw [beq_eq_false_iff_ne]; omega
  have t9 : (x.kind == 9) = false := by have := HK.out; rw [beq_eq_false_iff_ne]; omega
  have t13 : (x.kind == 13) = true := by have := HK.out; rw [beq_iff_eq]; omega
  have LL := Lib.hid (show ((xs ++ entBase x)).length + 2 + x.bytes.length ≤ 100000000 by have := HL.out; simp [entBase, be2]; omega)
  have hb0 : bn = x.bytes.length := by
    obtain ⟨a0, cp, h, -⟩ := BX.out
    cases h
    rfl
  have HBN := Lib.hid hb0
  have z6 := (actCells HA.out).2.2.2.2.2.2.1
  by_cases hcut : 65535 < bn
  · have BY := Lib.hid (BX.out.take 65535 (by omega))
    have hbc : 65535 ≤ bc := by
      obtain ⟨a0, cp, h, h', -⟩ := BX.out
      cases h
      omega
    clear hb0
    have hs := HF.out.size
    go_wp2_with fail
    refine (put_any _ _ 2 (by decide) (by decide)).mono ?_
    rintro e p8 ⟨u8, rfl, ho, hf⟩
    have H8 := Lib.hid (HO.out.keep hf (by simp))
    have F8 := Lib.hid (HF.out.trans hf)
    have Y8 := Lib.hid (BY.out.keep hf (by simp))
    have P8 := Lib.hid (ho.bs (A := fun b => False) (by simp))
    obtain ⟨xo, xn, xc, rfl⟩ := bs_shape P8.out
    have hs8 := F8.out.size
    clear ho hf HO HF BY HA
    go_wp2_with (at_builtin; refine wpl_append_bs (A := fun _ => False) (base := w0.heap.size) Tryd.underlying59 Tryd.infoByte rfl (.tmp 135) (.tmp 138) rfl rfl rfl H8.out P8.out (by have := LL.out; simp [beK_len] at this ⊢; omega) hs8 ?_)
    intro v9 p9 h5 h6
    have H9 := Lib.hid h5
    have F9 := Lib.hid (show Fr [] w0 p9 from OwnB.fr H8.out F8.out h6 (Nat.le_refl _))
    have Y9 := Lib.hid (Y8.out.keep (grown_fr h6) fun b hb => (H8.out.lt b (by simpa using hb)).1)
    have hs9 := F9.out.size
    clear h5 h6 H8 F8 Y8 P8
    go_wp2_with (at_builtin; refine wpl_append_bs (A := fun b => w0.heap.size ≤ b) (base := w0.heap.size) Tryd.underlying59 Tryd.infoByte rfl (.tmp 139) (.tmp 140) rfl rfl rfl H9.out Y9.out (by have := LL.out; simp [beK_len] at this ⊢; omega) hs9 ?_)
    intro v10 p10 h5 h6
    have H10 := Lib.hid h5
    have F10 := Lib.hid (show Fr [] w0 p10 from OwnB.fr H9.out F9.out h6 (Nat.le_refl _))
    clear h5 h6 H9 F9 Y9
    go_wp2
    refine HQ.out _ _ rfl rfl rfl rfl (by go_num) ?_ F10.out
    have h := H10.out
    have hbn := HBN.out
    show OwnB 5 w0.heap.size p10 v10 _
    rw [ref_9 x (by have := HK.out; omega)]
    rw [List.length_take, Nat.min_eq_left (by omega)]
    simpa [beK_two, hbn] using h
  · have BY := BX
    clear hb0
    have hs := HF.out.size
    go_wp2_with fail
    refine (put_any _ _ 2 (by decide) (by decide)).mono ?_
    rintro e p8 ⟨u8, rfl, ho, hf⟩
    have H8 := Lib.hid (HO.out.keep hf (by simp))
    have F8 := Lib.hid (HF.out.trans hf)
    have Y8 := Lib.hid (BY.out.keep hf (by simp))
    have P8 := Lib.hid (ho.bs (A := fun b => False) (by simp))
    obtain ⟨xo, xn, xc, rfl⟩ := bs_shape P8.out
    have hs8 := F8.out.size
    clear ho hf HO HF BY HA
    go_wp2_with (at_builtin; refine wpl_append_bs (A := fun _ => False) (base := w0.heap.size) Tryd.underlying59 Tryd.infoByte rfl (.tmp 135) (.tmp 138) rfl rfl rfl H8.out P8.out (by have := LL.out; simp [beK_len] at this ⊢; omega) hs8 ?_)
    intro v9 p9 h5 h6
    have H9 := Lib.hid h5
    have F9 := Lib.hid (show Fr [] w0 p9 from OwnB.fr H8.out F8.out h6 (Nat.le_refl _))
    have Y9 := Lib.hid (Y8.out.keep (grown_fr h6) fun b hb => (H8.out.lt b (by simpa using hb)).1)
    have hs9 := F9.out.size
    clear h5 h6 H8 F8 Y8 P8
    go_wp2_with (at_builtin; refine wpl_append_bs (A := fun b => w0.heap.size ≤ b) (base := w0.heap.size) Tryd.underlying59 Tryd.infoByte rfl (.tmp 139) (.tmp 140) rfl rfl rfl H9.out Y9.out (by have := LL.out; simp [beK_len] at this ⊢; omega) hs9 ?_)
    intro v10 p10 h5 h6
    have H10 := Lib.hid h5
    have F10 := Lib.hid (show Fr [] w0 p10 from OwnB.fr H9.out F9.out h6 (Nat.le_refl _))
    clear h5 h6 H9 F9 Y9
    go_wp2
    refine HQ.out _ _ rfl rfl rfl rfl (by go_num) ?_ F10.out
    have h := H10.out
    have hbn := HBN.out
    show OwnB 5 w0.heap.size p10 v10 _
    rw [ref_9 x (by have := HK.out; omega)]
    rw [List.take_of_length_le (by omega)]
    simpa [beK_two, hbn] using h
end Go.Proofs.YtbohmnblegljkaaDoor
