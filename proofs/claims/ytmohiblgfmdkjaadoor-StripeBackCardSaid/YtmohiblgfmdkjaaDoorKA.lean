/-
  Layer 6, Bent: the written frame. (printed by genbn.py)
  Rows of bytes of one's own, each apart from the others.
  Layer 6, Bent: the blocks are copied. (printed by genbn.py)
  Layer 6, Bent: in which group a place lies. (printed by genbn.py)
  Layer 6, Bent: a block is changed. (printed by genbn.py)
  Layer 6, Bent: one hit after another. (printed by genbn.py)
  Layer 6, Bent: no group bears more than 32. (printed by genbn.py)
  Layer 6, Bent, walked. (printed by genbn.py)
-/
import Derived.Test.YtmohiblgfmdkjaaDoorGB
import Derived.Test.YtmohiblgfmdkjaaDoorGN
import Derived.Test.YtmohiblgfmdkjaaDoorHR
import Derived.Test.YtmohiblgfmdkjaaDoorJO
import Derived.Test.YtmohiblgfmdkjaaDoorHW
import Derived.Test.YtmohiblgfmdkjaaDoorHY
import Derived.Test.YtmohiblgfmdkjaaDoorKH
import Derived.Test.YtmohiblgfmdkjaaDoorKE
import Derived.Test.YtmohiblgfmdkjaaDoorJH
import Derived.OwnWalk
namespace Go.Proofs.YtmohiblgfmdkjaaDoor
open Go.RowKit Go.Bl
set_option linter.unusedVariables false
set_option maxRecDepth 100000 in
theorem frame165 (a : Go.Act) (hs : a.tmps.size = 165) (hd : a.defers = []) : a = ⟨(slot a 0 :: slot a 1 :: slot a 2 :: slot a 3 :: slot a 4 :: slot a 5 :: slot a 6 :: slot a 7 :: slot a 8 :: slot a 9 :: slot a 10 :: slot a 11 :: slot a 12 :: slot a 13 :: slot a 14 :: slot a 15 :: slot a 16 :: slot a 17 :: slot a 18 :: slot a 19 :: slot a 20 :: slot a 21 :: slot a 22 :: slot a 23 :: slot a 24 :: slot a 25 :: slot a 26 :: slot a 27 :: slot a 28 :: slot a 29 :: slot a 30 :: slot a 31 :: slot a 32 :: slot a 33 :: slot a 34 :: slot a 35 :: slot a 36 :: slot a 37 :: slot a 38 :: slot a 39 :: slot a 40 :: slot a 41 :: slot a 42 :: slot a 43 :: slot a 44 :: slot a 45 :: slot a 46 :: slot a 47 :: slot a 48 :: slot a 49 :: slot a 50 :: slot a 51 :: slot a 52 :: slot a 53 :: slot a 54 :: slot a 55 :: slot a 56 :: slot a 57 :: slot a 58 :: slot a 59 :: slot a 60 :: slot a 61 :: slot a 62 :: slot a 63 :: slot a 64 :: slot a 65 :: slot a 66 :: slot a 67 :: slot a 68 :: slot a 69 :: slot a 70 :: slot a 71 :: slot a 72 :: slot a 73 :: slot a 74 :: slot a 75 :: slot a 76 :: slot a 77 :: slot a 78 :: slot a 79 :: slot a 80 :: slot a 81 :: slot a 82 :: slot a 83 :: slot a 84 :: slot a 85 :: slot a 86 :: slot a 87 :: slot a 88 :: slot a 89 :: slot a 90 :: slot a 91 :: slot a 92 :: slot a 93 :: slot a 94 :: slot a 95 :: slot a 96 :: slot a 97 :: slot a 98 :: slot a 99 :: slot a 100 :: slot a 101 :: slot a 102 :: slot a 103 :: slot a 104 :: slot a 105 :: slot a 106 :: slot a 107 :: slot a 108 :: slot a 109 :: slot a 110 :: slot a 111 :: slot a 112 :: slot a 113 :: slot a 114 :: slot a 115 :: slot a 116 :: slot a 117 :: slot a 118 :: slot a 119 :: slot a 120 :: slot a 121 :: slot a 122 :: slot a 123 :: slot a 124 :: slot a 125 :: slot a 126 :: slot a 127 :: slot a 128 :: slot a 129 :: slot a 130 :: slot a 131 :: slot a 132 :: slot a 133 :: slot a 134 :: slot a 135 :: slot a 136 :: slot a 137 :: slot a 138 :: slot a 139 :: slot a 140 :: slot a 141 :: slot a 142 :: slot a 143 :: slot a 144 :: slot a 145 :: slot a 146 :: slot a 147 :: slot a 148 :: slot a 149 :: slot a 150 :: slot a 151 :: slot a 152 :: slot a 153 :: slot a 154 :: slot a 155 :: slot a 156 :: slot a 157 :: slot a 158 :: slot a 159 :: slot a 160 :: slot a 161 :: slot a 162 :: slot a 163 :: slot a 164 :: []).toArray, []⟩ := frameX a 165 hs hd
theorem is_cellB {A : Nat → Prop} {w : World} {a : Option Addr} {n c : Nat} {l : List Int} (h : Is A w (.slice a n c) l) (j : Nat) (x : Int) (hx : l[j]? = some x) : ∃ b off, a = some ⟨b, off, none⟩ ∧ w.cell? ⟨b, off + j, none⟩ = some (.int .i64 x) := by
  obtain ⟨a', cap', e, -, -, hh⟩ := h.shape
  cases e
  obtain ⟨hj, e⟩ := List.getElem?_eq_some_iff.1 hx
  obtain ⟨b, off, rfl, -, hc⟩ := hh (by omega)
  exact ⟨b, off, rfl, by rw [hc j hj, List.getD_eq_getElem?_getD, hx]; rfl⟩
end Go.Proofs.YtmohiblgfmdkjaaDoor
namespace Go.Proofs.YtmohiblgfmdkjaaDoor
open Go.RowKit Go.Bl
set_option linter.unusedVariables false
structure Brw (base : Nat) (w : World) (vs : List Value) (rows : List (List UInt8)) : Prop where
  len : vs.length = rows.length
  ap : ∀ (i j : Nat) u v b, vs[i]? = some u → vs[j]? = some v → u.ownBlock = some b → v.ownBlock = some b → i = j
  at_ : ∀ (i : Nat) v r, vs[i]? = some v → rows[i]? = some r → OwnB 5 base w v r
theorem Brw.nil (base : Nat) (w : World) : Brw base w [] [] := ⟨rfl, fun i j u v b h => by simp at h, fun i v r h => by simp at h⟩
theorem Brw.row {base : Nat} {w : World} {vs : List Value} {rows : List (List UInt8)} (h : Brw base w vs rows) {i : Nat} {v : Value} (hv : vs[i]? = some v) : ∃ r, rows[i]? = some r := by
  have := (List.getElem?_eq_some_iff.1 hv).1
  exact ⟨_, List.getElem?_eq_getElem (by rw [← h.len]; exact this)⟩
theorem Brw.val {base : Nat} {w : World} {vs : List Value} {rows : List (List UInt8)} (h : Brw base w vs rows) {i : Nat} {r : List UInt8} (hr : rows[i]? = some r) : ∃ v, vs[i]? = some v := by
  have := (List.getElem?_eq_some_iff.1 hr).1
  exact ⟨_, List.getElem?_eq_getElem (by rw [h.len]; exact this)⟩
theorem Brw.keep {base : Nat} {w w' : World} {S : List Nat} {vs : List Value} {rows : List (List UInt8)} (h : Brw base w vs rows) (hf : Fr S w w') (hS : ∀ v ∈ vs, ∀ b, v.ownBlock = some b → b ∉ S) : Brw base w' vs rows :=
  ⟨h.len, h.ap, fun i v r hv hr => own_keep (h.at_ i v r hv hr) hf (hS v (List.mem_of_getElem? hv))⟩
theorem Brw.keep0 {base : Nat} {w w' : World} {vs : List Value} {rows : List (List UInt8)} (h : Brw base w vs rows) (hf : Fr [] w w') : Brw base w' vs rows := h.keep hf (by simp)
/-- over a frame that turns no block of bytes of one's own -/
theorem Brw.keepT {base : Nat} {w w' : World} {b : Nat} {c : Array Value} {te : TypeId} {fz : Nat × Nat} {vs : List Value} {rows : List (List UInt8)} (h : Brw base w vs rows) (hf : Fr [b] w w') (hb : w.heap[b]? = some (.cells c te fz)) (hne : te ≠ 5) : Brw base w' vs rows :=
  h.keep hf fun v hv x hx => by
    obtain ⟨i, hi⟩ := List.mem_iff_getElem?.1 hv
    obtain ⟨r, hr⟩ := h.row hi
    simp only [List.mem_singleton]
    rintro rfl
    exact own_neT (h.at_ i v r hi hr) hb hne hx
/-- over a growth of a row of rows -/
theorem Brw.grown {base base' : Nat} {w w' : World} {o : Value} {us : List Value} {vs : List Value} {rows : List (List UInt8)} (h : Brw base w vs rows) (ho : OwnV 22 base' w o us) (hg : w.grownBy w' o.ownBlock) : Brw base w' vs rows :=
  h.keep (Fr.grown (S := o.ownBlock.toList) hg fun k hk => by simp [hk]) fun v hv x hx => by
    obtain ⟨i, hi⟩ := List.mem_iff_getElem?.1 hv
    obtain ⟨r, hr⟩ := h.row hi
    rcases ho.2 with ⟨rfl, -⟩ | ⟨g, cap, cur, rfl, -, hh, -⟩
    · simp [Value.ownBlock]
    · simp only [Value.ownBlock, Option.toList_some, List.mem_singleton]
      rintro rfl
      exact own_neT (h.at_ i v r hi hr) hh (by decide) hx
theorem Brw.lt {base : Nat} {w : World} {vs : List Value} {rows : List (List UInt8)} (h : Brw base w vs rows) {v : Value} (hv : v ∈ vs) {b : Nat} (hb : v.ownBlock = some b) : base ≤ b ∧ b < w.heap.size := by
  obtain ⟨i, hi⟩ := List.mem_iff_getElem?.1 hv
  obtain ⟨r, hr⟩ := h.row hi
  exact World.ownsRow.lt (h.at_ i v r hi hr) b hb
/-- one row more, whose block is new -/
theorem Brw.snoc {base : Nat} {w : World} {vs : List Value} {rows : List (List UInt8)} (h : Brw base w vs rows) {v : Value} {r : List UInt8} (hv : OwnB 5 base w v r) (hn : ∀ u ∈ vs, ∀ b, u.ownBlock = some b → v.ownBlock ≠ some b) : Brw base w (vs ++ [v]) (rows ++ [r]) := by
  have hl := h.len
  refine ⟨by simp [hl], fun i j u x b hi hj hu hx => ?_, fun i x y hx hy => ?_⟩
  · rcases Nat.lt_or_ge i vs.length with h1 | h1 <;> rcases Nat.lt_or_ge j vs.length with h2 | h2
    · rw [List.getElem?_append_left h1] at hi
      rw [List.getElem?_append_left h2] at hj
      exact h.ap i j u x b hi hj hu hx
    · rw [List.getElem?_append_left h1] at hi
      rw [List.getElem?_append_right h2] at hj
      have : j - vs.length = 0 := by have := (List.getElem?_eq_some_iff.1 hj).1; simp at this; omega
      rw [this] at hj; simp at hj; subst hj
      exact absurd hx (hn u (List.mem_of_getElem? hi) b hu)
    · rw [List.getElem?_append_right h1] at hi
      rw [List.getElem?_append_left h2] at hj
      have : i - vs.length = 0 := by have := (List.getElem?_eq_some_iff.1 hi).1; simp at this; omega
      rw [this] at hi; simp at hi; subst hi
      exact absurd hu (hn x (List.mem_of_getElem? hj) b hx)
    · rw [List.getElem?_append_right h1] at hi
      rw [List.getElem?_append_right h2] at hj
      have := (List.getElem?_eq_some_iff.1 hi).1
      have := (List.getElem?_eq_some_iff.1 hj).1
      simp at *; omega
  · rcases Nat.lt_or_ge i vs.length with h1 | h1
    · rw [List.getElem?_append_left h1] at hx
      rw [List.getElem?_append_left (by omega)] at hy
      exact h.at_ i x y hx hy
    · rw [List.getElem?_append_right h1] at hx
      rw [List.getElem?_append_right (by omega)] at hy
      have : i - vs.length = 0 := by have := (List.getElem?_eq_some_iff.1 hx).1; simp at this; omega
      rw [this] at hx
      rw [show i - rows.length = 0 by omega] at hy
      simp at hx hy
      subst hx hy
      exact hv
/-- a row is gone -/
theorem Brw.gone {base : Nat} {w : World} {vs : List Value} {rows : List (List UInt8)} (h : Brw base w vs rows) (p : Nat) : Brw base w (vs.set p (.slice none 0 0)) (rows.set p []) := by
  refine ⟨by simp [h.len], fun i j u x b hi hj hu hx => ?_, fun i x y hx hy => ?_⟩
  · rw [List.getElem?_set] at hi hj
    split at hi
    · split at hi
      · cases hi; simp [Value.ownBlock] at hu
      · cases hi
    · split at hj
      · split at hj
        · cases hj; simp [Value.ownBlock] at hx
        · cases hj
      · exact h.ap i j u x b hi hj hu hx
  · rw [List.getElem?_set] at hx hy
    split at hx
    · rename_i e
      subst e
      rw [if_pos rfl] at hy
      split at hx
      · cases hx
        split at hy
        · cases hy; exact OwnB.nil _ _ _
        · cases hy
      · cases hx
    · rename_i e
      rw [if_neg e] at hy
      exact h.at_ i x y hx hy
/-- one row is written -/
theorem Brw.write {base : Nat} {w w' : World} {vs : List Value} {rows : List (List UInt8)} (h : Brw base w vs rows) {p b : Nat} {v : Value} {r' : List UInt8} (hv : vs[p]? = some v) (hb : v.ownBlock = some b) (hf : Fr [b] w w') (hr : OwnB 5 base w' v r') : Brw base w' vs (rows.set p r') := by
  refine ⟨by simp [h.len], h.ap, fun i x y hx hy => ?_⟩
  by_cases hi : i = p
  · subst hi
    rw [hv] at hx; cases hx
    have hl := (List.getElem?_eq_some_iff.1 hv).1
    rw [List.getElem?_set_self (by rw [← h.len]; exact hl)] at hy
    cases hy
    exact hr
  · rw [List.getElem?_set_ne (Ne.symm hi)] at hy
    refine own_keep (h.at_ i x y hx hy) hf fun g hg hm => ?_
    simp only [List.mem_singleton] at hm
    subst hm
    exact hi (h.ap i p x v g hx hv hg hb)
/-- they can be read -/
theorem Brw.rdb {base : Nat} {w : World} {vs : List Value} {rows : List (List UInt8)} {u : Value} (h : Brw base w vs rows) (ho : OwnV 22 base w u vs) : ∃ ls : List (Value × List UInt8), RdB (fun _ => False) w u ls ∧ ls.map (·.2) = rows ∧ ls.length = rows.length := by
  have hl := h.len
  refine ⟨vs.zip rows, ⟨?_, fun x hx => ?_⟩, ?_, by simp [hl]⟩
  · rw [show (vs.zip rows).map (·.1) = vs from List.map_fst_zip (by omega)]
    exact OwnV.vs ho (by simp)
  · obtain ⟨i, hi⟩ := List.mem_iff_getElem?.1 hx
    rw [List.getElem?_zip_eq_some] at hi
    exact (h.at_ i _ _ hi.1 hi.2).bs (by simp)
  · exact List.map_snd_zip (by omega)
end Go.Proofs.YtmohiblgfmdkjaaDoor
namespace Go.Proofs.YtmohiblgfmdkjaaDoor
open Go.RowKit Go.Bl
set_option linter.unusedVariables false
theorem ownB_some {e : TypeId} {base : Nat} {w : World} {v : Value} {xs : List UInt8} (h : OwnB e base w v xs) (h0 : 0 < xs.length) : ∃ g cp, v = .slice (some ⟨g, 0, none⟩) xs.length cp ∧ base ≤ g ∧ g < w.heap.size := by
  rcases h.2 with ⟨-, he⟩ | ⟨g, cap, cur, rfl, hg, hh, -⟩
  · omega
  · exact ⟨g, cap, rfl, hg, lt_of_heap hh⟩
noncomputable def bnB1 : Code := ((Tryd.f8.body.bind (findLoop 6)).getD .skip)
set_option maxRecDepth 1000000 in
set_option maxHeartbeats 8000000 in
theorem bn1_round (wr : World) (a : Go.Act) (hsz : a.tmps.size = 165) (hd : a.defers = []) (hv shv ov : Value) (vb vo N vc i Z : Nat) (w0 : World) (x : Value) (xs : List UInt8) (vs : List Value) (rows : List (List UInt8)) (h2 : slot a 2 = hv) (h8 : slot a 8 = shv) (h10 : slot a 10 = ov) (h37 : slot a 37 = .slice (some ⟨vb, vo, none⟩) N vc) (h38 : slot a 38 = .int .i64 (N : Int)) (h39 : slot a 39 = .int .i64 (i : Int)) (hi : i < N) (hN : N ≤ 1000) (hvl : vs.length = i) (hxl : xs.length = 8) (hc : wr.cell? ⟨vb, vo + i, none⟩ = some x) (hx : Bs (fun _ => False) wr x xs) (hZ : w0.heap.size = Z) (hf : Fr [] w0 wr) (ho : OwnV 22 Z wr ov vs) (hr : Brw Z wr vs rows) (Q : Exit → Go.Act → World → Prop)
    (hq : ∀ (c : Go.Act) (w' : World) (ov' v : Value), c.defers = [] → c.tmps.size = 165 → slot c 2 = hv → slot c 8 = shv → slot c 10 = ov' → slot c 37 = .slice (some ⟨vb, vo, none⟩) N vc → slot c 38 = .int .i64 (N : Int) → slot c 39 = .int .i64 ((i : Int) + 1) → Fr [] w0 w' → OwnV 22 Z w' ov' (vs ++ [v]) → Brw Z w' (vs ++ [v]) (rows ++ [xs]) → Q .normal c w') : Code.wp Tryd.prog bnB1 Q a wr := by
  have HQ := Lib.hid hq
  rw [frame165 a hsz hd, h2, h8, h10, h37, h38, h39]
  clear hq h2 h8 h10 h37 h38 h39 hsz hd
  conv => arg 2; whnf
  have hii : (i : Int) < N := by omega
  obtain ⟨xa, xc, e, x2, x3, -⟩ := id hx
  rw [hxl] at e x2
  subst e
  have HX := Lib.hid (Bs.keep hx (Fr.alloc (S := []) wr (.cells #[] 5)) (by simp))
  have HE := Lib.hid (OwnB.empty 5 wr.heap.size wr (Nat.le_refl _))
  have HC := Lib.hid hc
  have HXL := Lib.hid hxl
  have HVL := Lib.hid hvl
  have HZ := Lib.hid hZ
  have HF := Lib.hid hf
  have HO := Lib.hid ho
  have HR := Lib.hid hr
  have HSZ := Lib.hid (show wr.heap.size ≤ (wr.alloc (.cells #[] 5)).heap.size by simp)
  have hc2 := HC.out
  clear hx hc hxl hvl hZ hf ho hr
  go_wp2_with (at_builtin; refine wpl_append_bs (A := fun _ => False) (base := wr.heap.size) (xs := []) (ys := xs) Tryd.underlying22 Tryd.infoByte rfl (.tmp 44) (.tmp 45) rfl rfl rfl HE.out HX.out (by have := HXL.out; simp; omega) HSZ.out ?_)
  intro v2 w2 h2 h3
  have HF2 := Lib.hid (show Fr [] wr w2 from OwnB.fr HE.out (Fr.alloc _ _) h3 (Nat.le_refl _))
  obtain ⟨g, cp, e, hg1, hg2⟩ := ownB_some h2 (by have := HXL.out; omega)
  rw [HXL.out] at e
  subst e
  clear hc2
  obtain ⟨W2, hW2⟩ : ∃ W2, w2.heap.size = W2 := ⟨_, rfl⟩
  have f3 : Fr [] w2 (w2.alloc (.cells #[.slice (some ⟨g, 0, none⟩) 8 cp] 22)) := Fr.alloc _ _
  have HL := Lib.hid (show (w2.alloc (.cells #[.slice (some ⟨g, 0, none⟩) 8 cp] 22)).heap[W2]? = some (.cells #[.slice (some ⟨g, 0, none⟩) 8 cp] 22 (0, 0)) from heap_alloc_at hW2.symm)
  have HF3 := Lib.hid (HF2.out.trans f3)
  have hwz : Z ≤ wr.heap.size := by have := HF.out.size; have := HZ.out; omega
  have HB3 := Lib.hid (show OwnB 5 Z (w2.alloc (.cells #[.slice (some ⟨g, 0, none⟩) 8 cp] 22)) (.slice (some ⟨g, 0, none⟩) 8 cp) xs from (OwnB.base h2 hwz).keep f3 (by simp))
  have HO3 := Lib.hid (HO.out.keep0 HF3.out)
  have HR3 := Lib.hid (HR.out.keep0 HF3.out)
  have hs3 : Z ≤ (w2.alloc (.cells #[.slice (some ⟨g, 0, none⟩) 8 cp] 22)).heap.size := by have := HF3.out.size; omega
  have HNEW := Lib.hid (show ∀ u ∈ vs, ∀ b, u.ownBlock = some b → (Value.slice (some ⟨g, 0, none⟩) 8 cp).ownBlock ≠ some b from fun u hu b hb he => by
    have := (HR.out.lt hu hb).2
    simp [Value.ownBlock] at he
    omega)
  clear h2 h3 f3 HE HX HSZ hg1 hg2
  go_wp2_with (at_builtin; refine wpl_append_1 Tryd.underlying25 Tryd.infoBytes rfl rfl (.tmp 43) (.tmp 47) rfl rfl rfl HL.out rfl HO3.out (by have := HVL.out; omega) (by have := HVL.out; unfold maxLen; omega) hs3 ?_)
  intro v4 w4 h4 h5
  have HO4 := Lib.hid h4
  have HR4 := Lib.hid ((HR3.out.snoc HB3.out HNEW.out).grown HO3.out h5)
  have HF4 := Lib.hid (show Fr [] w0 w4 from OwnV.fr HO3.out (HF.out.trans HF3.out) h5 (by have := HZ.out; omega))
  clear h4 h5
  go_wp2
  exact HQ.out _ _ _ _ rfl rfl rfl rfl rfl rfl rfl (by go_num) HF4.out HO4.out HR4.out
set_option maxRecDepth 1000000 in
set_option maxHeartbeats 8000000 in
theorem bn1_exit (wr : World) (a : Go.Act) (hsz : a.tmps.size = 165) (hd : a.defers = []) (hv shv ov va : Value) (N : Nat) (h2 : slot a 2 = hv) (h8 : slot a 8 = shv) (h10 : slot a 10 = ov) (h37 : slot a 37 = va) (h38 : slot a 38 = .int .i64 (N : Int)) (h39 : slot a 39 = .int .i64 (N : Int)) (hN : N ≤ 1000) (Q : Exit → Go.Act → World → Prop)
    (hq : ∀ c : Go.Act, c.defers = [] → c.tmps.size = 165 → slot c 2 = hv → slot c 8 = shv → slot c 10 = ov → Q (.exit 0) c wr) : Code.wp Tryd.prog bnB1 Q a wr := by
  have HQ := Lib.hid hq
  rw [frame165 a hsz hd, h2, h8, h10, h37, h38, h39]
  clear hq h2 h8 h10 h37 h38 h39 hsz hd
  conv => arg 2; whnf
  have h1 : ¬ (N : Int) < N := by omega
  go_wp2
  exact HQ.out _ rfl rfl rfl rfl rfl
set_option maxRecDepth 1000000 in
set_option maxHeartbeats 8000000 in
theorem bn1_loop (w0 : World) (a : Go.Act) (hsz : a.tmps.size = 165) (hd : a.defers = []) (wa : World) (hv shv ov va : Value) (N : Nat) (ls : List (Value × List UInt8)) (bs : List (List UInt8)) (h2 : slot a 2 = hv) (h8_ : slot a 8 = shv) (h10 : slot a 10 = ov) (h37 : slot a 37 = va) (h38 : slot a 38 = .int .i64 (N : Int)) (h39 : slot a 39 = .int .i64 0) (hN : N ≤ 1000) (hl : bs.length = N) (h8 : ∀ b ∈ bs, b.length = 8) (hr : RdB (fun _ => False) w0 va ls) (hls : ls.map (·.2) = bs) (hf0 : Fr [] w0 wa) (ho : OwnV 22 w0.heap.size wa ov []) (Q : Exit → Go.Act → World → Prop)
    (hq : ∀ (c : Go.Act) (w' : World) (ov : Value) (vs : List Value), c.defers = [] → c.tmps.size = 165 → slot c 2 = hv → slot c 8 = shv → slot c 10 = ov → Fr [] w0 w' → OwnV 22 w0.heap.size w' ov vs → Brw w0.heap.size w' vs bs → Q (.exit 0) c w') : Code.wp Tryd.prog (Code.loop bnB1) Q a wa := by
  refine wp_loop (fun a w => a.tmps.size = 165 ∧ a.defers = [] ∧ slot a 2 = hv ∧ slot a 8 = shv ∧ slot a 37 = va ∧ slot a 38 = .int .i64 (N : Int) ∧ Fr [] w0 w ∧ ∃ (i : Nat) (ov : Value) (vs : List Value), i ≤ N ∧ slot a 10 = ov ∧ slot a 39 = .int .i64 (i : Int) ∧ OwnV 22 w0.heap.size w ov vs ∧ Brw w0.heap.size w vs (bs.take i)) (fun a _ => N - kN (slot a 39)) ⟨hsz, hd, h2, h8_, h37, h38, hf0, 0, ov, [], by omega, h10, h39, ho, Brw.nil _ _⟩ ?_
  clear h2 h8_ h10 h37 h38 h39 hsz hd hf0 ho
  rintro a wr ⟨hsz, hd, h2, h8_, h37, h38, hf, i, ov, vs, hi, h10, h39, ho, hb⟩
  have hll : ls.length = N := by rw [← hl, ← hls, List.length_map]
  by_cases hiN : i < N
  · obtain ⟨x, hx⟩ : ∃ x, ls[i]? = some x := ⟨_, List.getElem?_eq_getElem (by omega)⟩
    have hr2 := hr.keep hf (by simp)
    obtain ⟨aa, cap, e, -, -⟩ := rdb_shape hr
    rw [hll] at e
    subst e
    obtain ⟨vb, vo, e, hcell⟩ := rdb_cell hr2 i x hx
    subst e
    have hbi : bs[i]? = some x.2 := by rw [← hls, List.getElem?_map, hx]; rfl
    have hxl := h8 x.2 (List.mem_of_getElem? hbi)
    have hvl : vs.length = i := by rw [hb.len, List.length_take]; omega
    refine bn1_round wr a hsz hd hv shv ov vb vo N cap i _ w0 x.1 x.2 vs (bs.take i) h2 h8_ h10 h37 h38 h39 hiN hN hvl hxl hcell.1 hcell.2 rfl hf ho hb _ ?_
    intro c w1 ov' v kd ks q2 q8 q10 q37 q38 q39 hf1 ho1 hb1
    refine ⟨⟨ks, kd, q2, q8, q37, q38, hf1, i + 1, ov', _, by omega, q10, by rw [q39]; rfl, ho1, ?_⟩, ?_⟩
    · rw [List.take_add_one, hbi]
      exact hb1
    · rw [q39, h39]
      simp [kN]; omega
  · obtain rfl : i = N := by omega
    refine bn1_exit wr a hsz hd hv shv ov va i h2 h8_ h10 h37 h38 h39 hN _ ?_
    intro c kd ks q2 q8 q10
    rw [List.take_of_length_le (by omega)] at hb
    exact hq c wr ov vs kd ks q2 q8 q10 hf ho hb
end Go.Proofs.YtmohiblgfmdkjaaDoor
namespace Go.Proofs.YtmohiblgfmdkjaaDoor
open Go.RowKit Go.Bl
set_option linter.unusedVariables false
noncomputable def bnB3 : Code := ((Tryd.f8.body.bind (findLoop 17)).getD .skip)
set_option maxRecDepth 1000000 in
set_option maxHeartbeats 8000000 in
theorem bn3_up (wr : World) (a : Go.Act) (hsz : a.tmps.size = 165) (hd : a.defers = []) (ov sv lv bv hv : Value) (SL sc p M mi : Nat) (sb so g k t : Nat) (h8 : slot a 8 = .slice (some ⟨sb, so, none⟩) SL sc) (h10 : slot a 10 = ov) (h13 : slot a 13 = sv) (h14 : slot a 14 = lv) (h16 : slot a 16 = bv) (h17 : slot a 17 = .int .i64 (p : Int)) (h56 : slot a 56 = hv) (h57 : slot a 57 = .int .i64 (M : Int)) (h58 : slot a 58 = .int .i64 (mi : Int)) (h18 : slot a 18 = .int .i64 (g : Int)) (h19 : slot a 19 = .int .i64 (t : Int)) (hg : g + 1 < SL) (hS : SL ≤ 10) (hk : k ≤ 1000) (ht : t ≤ 100000) (hc : wr.cell? ⟨sb, so + g, none⟩ = some (.int .i64 (k : Int))) (h : k + 32 ≤ t) (Q : Exit → Go.Act → World → Prop)
    (hq : ∀ c : Go.Act, c.defers = [] → c.tmps.size = 165 → slot c 8 = .slice (some ⟨sb, so, none⟩) SL sc → slot c 10 = ov → slot c 13 = sv → slot c 14 = lv → slot c 16 = bv → slot c 17 = .int .i64 (p : Int) → slot c 56 = hv → slot c 57 = .int .i64 (M : Int) → slot c 58 = .int .i64 (mi : Int) → slot c 18 = .int .i64 ((g : Int) + 1) → slot c 19 = .int .i64 ((t : Int) - ((k : Int) + 32)) → Q .normal c wr) : Code.wp Tryd.prog bnB3 Q a wr := by
  have HQ := Lib.hid hq
  rw [frame165 a hsz hd, h8, h10, h13, h14, h16, h17, h56, h57, h58, h18, h19]
  clear hq h8 h10 h13 h14 h16 h17 h56 h57 h58 h18 h19 hsz hd
  conv => arg 2; whnf
  have h1 : (g : Int) < (SL : Int) - 1 := by omega
  have h2 : (k : Int) + 32 ≤ t := by omega
  go_wp2
  exact HQ.out _ rfl rfl rfl rfl rfl rfl rfl rfl rfl rfl rfl (by go_num) (by go_num)
set_option maxRecDepth 1000000 in
set_option maxHeartbeats 8000000 in
theorem bn3_last (wr : World) (a : Go.Act) (hsz : a.tmps.size = 165) (hd : a.defers = []) (ov sv lv bv hv : Value) (SL sc p M mi : Nat) (sa : Option Addr) (g t : Nat) (h8 : slot a 8 = .slice sa SL sc) (h10 : slot a 10 = ov) (h13 : slot a 13 = sv) (h14 : slot a 14 = lv) (h16 : slot a 16 = bv) (h17 : slot a 17 = .int .i64 (p : Int)) (h56 : slot a 56 = hv) (h57 : slot a 57 = .int .i64 (M : Int)) (h58 : slot a 58 = .int .i64 (mi : Int)) (h18 : slot a 18 = .int .i64 (g : Int)) (h19 : slot a 19 = .int .i64 (t : Int)) (hg : g + 1 = SL) (hS : SL ≤ 10) (Q : Exit → Go.Act → World → Prop)
    (hq : ∀ c : Go.Act, c.defers = [] → c.tmps.size = 165 → slot c 8 = .slice sa SL sc → slot c 10 = ov → slot c 13 = sv → slot c 14 = lv → slot c 16 = bv → slot c 17 = .int .i64 (p : Int) → slot c 56 = hv → slot c 57 = .int .i64 (M : Int) → slot c 58 = .int .i64 (mi : Int) → slot c 18 = .int .i64 (g : Int) → Q (.exit 4) c wr) : Code.wp Tryd.prog bnB3 Q a wr := by
  have HQ := Lib.hid hq
  rw [frame165 a hsz hd, h8, h10, h13, h14, h16, h17, h56, h57, h58, h18, h19]
  clear hq h8 h10 h13 h14 h16 h17 h56 h57 h58 h18 h19 hsz hd
  conv => arg 2; whnf
  have h1 : ¬ (g : Int) < (SL : Int) - 1 := by omega
  go_wp2
  exact HQ.out _ rfl rfl rfl rfl rfl rfl rfl rfl rfl rfl rfl rfl
set_option maxRecDepth 1000000 in
set_option maxHeartbeats 8000000 in
theorem bn3_stop (wr : World) (a : Go.Act) (hsz : a.tmps.size = 165) (hd : a.defers = []) (ov sv lv bv hv : Value) (SL sc p M mi : Nat) (sb so g k t : Nat) (h8 : slot a 8 = .slice (some ⟨sb, so, none⟩) SL sc) (h10 : slot a 10 = ov) (h13 : slot a 13 = sv) (h14 : slot a 14 = lv) (h16 : slot a 16 = bv) (h17 : slot a 17 = .int .i64 (p : Int)) (h56 : slot a 56 = hv) (h57 : slot a 57 = .int .i64 (M : Int)) (h58 : slot a 58 = .int .i64 (mi : Int)) (h18 : slot a 18 = .int .i64 (g : Int)) (h19 : slot a 19 = .int .i64 (t : Int)) (hg : g + 1 < SL) (hS : SL ≤ 10) (hk : k ≤ 1000) (ht : t ≤ 100000) (hc : wr.cell? ⟨sb, so + g, none⟩ = some (.int .i64 (k : Int))) (h : ¬ k + 32 ≤ t) (Q : Exit → Go.Act → World → Prop)
    (hq : ∀ c : Go.Act, c.defers = [] → c.tmps.size = 165 → slot c 8 = .slice (some ⟨sb, so, none⟩) SL sc → slot c 10 = ov → slot c 13 = sv → slot c 14 = lv → slot c 16 = bv → slot c 17 = .int .i64 (p : Int) → slot c 56 = hv → slot c 57 = .int .i64 (M : Int) → slot c 58 = .int .i64 (mi : Int) → slot c 18 = .int .i64 (g : Int) → Q (.exit 4) c wr) : Code.wp Tryd.prog bnB3 Q a wr := by
  have HQ := Lib.hid hq
  rw [frame165 a hsz hd, h8, h10, h13, h14, h16, h17, h56, h57, h58, h18, h19]
  clear hq h8 h10 h13 h14 h16 h17 h56 h57 h58 h18 h19 hsz hd
  conv => arg 2; whnf
  have h1 : (g : Int) < (SL : Int) - 1 := by omega
  have h2 : ¬ (k : Int) + 32 ≤ t := by omega
  go_wp2
  exact HQ.out _ rfl rfl rfl rfl rfl rfl rfl rfl rfl rfl rfl rfl
set_option maxRecDepth 1000000 in
set_option maxHeartbeats 8000000 in
theorem bn3_loop (w5 : World) (a : Go.Act) (hsz : a.tmps.size = 165) (hd : a.defers = []) (sa : Option Addr) (ov sv lv bv hv : Value) (SL sc p M mi : Nat) (sh : List Nat) (off : Nat → Nat) (h8 : slot a 8 = .slice sa SL sc) (h10 : slot a 10 = ov) (h13 : slot a 13 = sv) (h14 : slot a 14 = lv) (h16 : slot a 16 = bv) (h17 : slot a 17 = .int .i64 (p : Int)) (h56 : slot a 56 = hv) (h57 : slot a 57 = .int .i64 (M : Int)) (h58 : slot a 58 = .int .i64 (mi : Int)) (h18 : slot a 18 = .int .i64 0) (h19 : slot a 19 = .int .i64 (p : Int)) (hS : SL ≤ 10) (hl : sh.length = SL) (h1 : 1 ≤ SL) (hp : p ≤ 100000) (hk : ∀ i k : Nat, sh[i]? = some k → k ≤ 1000) (ho : off 0 = 0) (hup : ∀ i k : Nat, sh[i]? = some k → off (i + 1) = off i + (k + 32)) (hpl : p < off SL) (hI : Is (fun _ => False) w5 (.slice sa SL sc) (sh.map fun k : Nat => (k : Int))) (Q : Exit → Go.Act → World → Prop)
    (hq : ∀ (c : Go.Act) (g : Nat), c.defers = [] → c.tmps.size = 165 → slot c 8 = .slice sa SL sc → slot c 10 = ov → slot c 13 = sv → slot c 14 = lv → slot c 16 = bv → slot c 17 = .int .i64 (p : Int) → slot c 56 = hv → slot c 57 = .int .i64 (M : Int) → slot c 58 = .int .i64 (mi : Int) → slot c 18 = .int .i64 (g : Int) → g < SL → off g ≤ p → p < off (g + 1) → Q (.exit 4) c w5) : Code.wp Tryd.prog (Code.loop bnB3) Q a w5 := by
  refine wp_loop (fun a w => w = w5 ∧ a.tmps.size = 165 ∧ a.defers = [] ∧ slot a 8 = .slice sa SL sc ∧ slot a 10 = ov ∧ slot a 13 = sv ∧ slot a 14 = lv ∧ slot a 16 = bv ∧ slot a 17 = .int .i64 (p : Int) ∧ slot a 56 = hv ∧ slot a 57 = .int .i64 (M : Int) ∧ slot a 58 = .int .i64 (mi : Int) ∧ ∃ g : Nat, g < SL ∧ off g ≤ p ∧ slot a 18 = .int .i64 (g : Int) ∧ slot a 19 = .int .i64 ((p - off g : Nat) : Int)) (fun a _ => SL - kN (slot a 18)) ⟨rfl, hsz, hd, h8, h10, h13, h14, h16, h17, h56, h57, h58, 0, by omega, by omega, h18, by rw [h19, ho]; rfl⟩ ?_
  clear h8 h10 h13 h14 h16 h17 h56 h57 h58 h18 h19 hsz hd
  rintro a wr ⟨rfl, hsz, hd, h8, h10, h13, h14, h16, h17, h56, h57, h58, g, hg, hog, h18, h19⟩
  obtain ⟨k, hx⟩ : ∃ k, sh[g]? = some k := ⟨_, List.getElem?_eq_getElem (by omega)⟩
  have hkb := hk g k hx
  have hoff := hup g k hx
  obtain ⟨sb, so, e, hc⟩ := is_cellB hI g (k : Int) (by rw [List.getElem?_map, hx]; rfl)
  subst e
  by_cases hl1 : g + 1 < SL
  · by_cases hle : k + 32 ≤ p - off g
    · refine bn3_up wr a hsz hd ov sv lv bv hv SL sc p M mi sb so g k (p - off g) h8 h10 h13 h14 h16 h17 h56 h57 h58 h18 h19 hl1 hS hkb (by omega) hc hle _ ?_
      intro c kd ks q8 q10 q13 q14 q16 q17 q56 q57 q58 q18 q19
      refine ⟨⟨rfl, ks, kd, q8, q10, q13, q14, q16, q17, q56, q57, q58, g + 1, by omega, by omega, by rw [q18]; rfl, by rw [q19]; congr 1; omega⟩, ?_⟩
      rw [q18, h18]
      simp [kN]; omega
    · refine bn3_stop wr a hsz hd ov sv lv bv hv SL sc p M mi sb so g k (p - off g) h8 h10 h13 h14 h16 h17 h56 h57 h58 h18 h19 hl1 hS hkb (by omega) hc hle _ ?_
      intro c kd ks q8 q10 q13 q14 q16 q17 q56 q57 q58 q18
      exact hq c g kd ks q8 q10 q13 q14 q16 q17 q56 q57 q58 q18 hg hog (by omega)
  · refine bn3_last wr a hsz hd ov sv lv bv hv SL sc p M mi _ g (p - off g) h8 h10 h13 h14 h16 h17 h56 h57 h58 h18 h19 (by omega) hS _ ?_
    intro c kd ks q8 q10 q13 q14 q16 q17 q56 q57 q58 q18
    exact hq c g kd ks q8 q10 q13 q14 q16 q17 q56 q57 q58 q18 hg hog (by rw [show g + 1 = SL by omega]; exact hpl)
end Go.Proofs.YtmohiblgfmdkjaaDoor
namespace Go.Proofs.YtmohiblgfmdkjaaDoor
open Go.RowKit Go.Bl
set_option linter.unusedVariables false

noncomputable def bn4_xorR : Code := ((Tryd.f8.body.bind (findRegionC 28)).getD .skip)
set_option maxRecDepth 1000000 in
set_option maxHeartbeats 8000000 in
theorem bn4_xor (w : World) (a : Go.Act) (hsz : a.tmps.size = 165) (ob N oc rb cp hb p j base : Nat) (y : UInt8) (xs : List UInt8) (hp : p < N) (hN : N ≤ 1000) (hj : j < 8) (hl : xs.length = 8) (hor : ob ≠ rb) (hhr : hb ≠ rb) (h10 : slot a 10 = .slice (some ⟨ob, 0, none⟩) N oc) (h17 : slot a 17 = .int .i64 (p : Int)) (h20 : slot a 20 = .int .i64 (j : Int)) (h16 : slot a 16 = .pointer (some ⟨hb, 0, none⟩)) (hO : OwnB 5 base w (.slice (some ⟨rb, 0, none⟩) 8 cp) xs) (hc : w.cell? ⟨ob, p, none⟩ = some (.slice (some ⟨rb, 0, none⟩) 8 cp)) (hy : w.cell? ⟨hb, 2 + j, none⟩ = some (.int .u8 (y.toNat : Int))) (Q : Exit → Go.Act → World → Prop)
    (hQ : ∀ (b : Go.Act) (p_ : World), b.defers = a.defers → b.tmps.size = a.tmps.size → (∀ s, s ∉ ([128, 129, 130, 131, 132, 133, 134, 135, 136, 137, 138, 139, 140, 141, 142, 143, 144, 145] : List Nat) → slot b s = slot a s) → Fr [rb] w p_ → OwnB 5 base p_ (.slice (some ⟨rb, 0, none⟩) 8 cp) (xs.set j (xs.getD j 0 ^^^ y)) → Q .normal b p_) : Code.wp Tryd.prog bn4_xorR Q a w := by
  conv => arg 2; whnf
  refine wp_region_chain (by kernel_rfl) (by kernel_rfl) [some 128, some 129, some 130, some 131, some 132, some 133, some 134, some 135, some 136, some 137, some 138, some 139, some 140, some 141, some 142, some 143, some 144, some 145, none] [18] [.rd (.slice (some ⟨ob, 0, none⟩) N oc) 1, .rd (.int .i64 (p : Int)) 1, .rd (.pointer (some ⟨ob, p, none⟩)) 1, .rd (.slice (some ⟨rb, 0, none⟩) 8 cp) 1, .rd (.int .i64 (j : Int)) 1, .rd (.slice (some ⟨ob, 0, none⟩) N oc) 1, .rd (.int .i64 (p : Int)) 1, .rd (.pointer (some ⟨ob, p, none⟩)) 1, .rd (.slice (some ⟨rb, 0, none⟩) 8 cp) 1, .rd (.int .i64 (j : Int)) 1, .rd (.pointer (some ⟨rb, j, none⟩)) 1, .rd (.int .u8 ((xs.getD j 0).toNat : Int)) 0, .rd (.int .i64 (j : Int)) 1, .rd (.pointer (some ⟨hb, 2, none⟩)) 1, .rd (.pointer (some ⟨hb, 2 + j, none⟩)) 1, .rd (.int .u8 (y.toNat : Int)) 1, .rd (.int .u8 ((xs.getD j 0 ^^^ y).toNat : Int)) 1, .rd (.pointer (some ⟨rb, j, none⟩)) 1, .st 0] (fun j => undef) (fun s p => Fr [rb] w p ∧ OwnB 5 base p (.slice (some ⟨rb, 0, none⟩) 8 cp) (if s ≤ 0 then xs else (xs.set j (xs.getD j 0 ^^^ y)))) (by kernel_rfl) (by rfl) (by rw [hsz]; rfl) (by kernel_rfl) (by kernel_rfl) (by decide) ?_ ⟨?_, ?_, ?_, ?_, ?_, ?_, ?_, ?_, ?_, ?_, ?_, ?_, ?_, ?_, ?_, ?_, ?_, ?_, ?_, trivial⟩ ?_
  · intro w1 hw1
    exact ⟨hw1.weak, by rw [if_pos (by decide)]; exact hO.keep hw1 (by simp)⟩
  · refine ⟨⟨128, rfl⟩, .inl rfl, fun b q s hs hS h => ?_⟩
    have e0 : b.eval (.tmp 10) = .slice (some ⟨ob, 0, none⟩) N oc := (h.old 10 (by decide)).trans h10
    have ec : ∀ v, b.eval (.const v) = v := fun _ => rfl
    obtain ⟨ρ, hρ⟩ : ∃ ρ, b.eval = ρ := ⟨_, rfl⟩
    rw [hρ] at e0 ec ⊢
    exact ⟨_, by simp only [List.getElem?_toArray, List.getElem?_cons_succ, List.getElem?_cons_zero]; rfl, rfl, by unfold execOp; simp [go_sem, e0, ec]⟩
  · refine ⟨⟨129, rfl⟩, .inl rfl, fun b q s hs hS h => ?_⟩
    have e0 : b.eval (.tmp 17) = .int .i64 (p : Int) := (h.old 17 (by decide)).trans h17
    have ec : ∀ v, b.eval (.const v) = v := fun _ => rfl
    obtain ⟨ρ, hρ⟩ : ∃ ρ, b.eval = ρ := ⟨_, rfl⟩
    rw [hρ] at e0 ec ⊢
    exact ⟨_, by simp only [List.getElem?_toArray, List.getElem?_cons_succ, List.getElem?_cons_zero]; rfl, rfl, by unfold execOp; simp [go_sem, e0, ec]⟩
  · refine ⟨⟨130, rfl⟩, .inl rfl, fun b q s hs hS h => ?_⟩
    have e0 := (show b.eval (.tmp 128) = .slice (some ⟨ob, 0, none⟩) N oc from h.rd 0 _ _ 128 (by kernel_rfl) rfl rfl)
    have e1 := (show b.eval (.tmp 129) = .int .i64 (p : Int) from h.rd 1 _ _ 129 (by kernel_rfl) rfl rfl)
    have ec : ∀ v, b.eval (.const v) = v := fun _ => rfl
    obtain ⟨ρ, hρ⟩ : ∃ ρ, b.eval = ρ := ⟨_, rfl⟩
    rw [hρ] at e0 e1 ec ⊢
    exact ⟨_, by simp only [List.getElem?_toArray, List.getElem?_cons_succ, List.getElem?_cons_zero]; rfl, rfl, by unfold execOp; simp [go_sem, e0, e1, ec, show (p : Int) < N by omega, show p < N by omega]⟩
  · refine ⟨⟨131, rfl⟩, .inl rfl, fun b q s hs hS h => ?_⟩
    have e0 := (show b.eval (.tmp 130) = .pointer (some ⟨ob, p, none⟩) from h.rd 2 _ _ 130 (by kernel_rfl) rfl rfl)
    have c0 := (show q.cell? ⟨ob, p, none⟩ = some (.slice (some ⟨rb, 0, none⟩) 8 cp) from cell_keep hS.1 (by simpa using hor) hc)
    have ec : ∀ v, b.eval (.const v) = v := fun _ => rfl
    obtain ⟨ρ, hρ⟩ : ∃ ρ, b.eval = ρ := ⟨_, rfl⟩
    rw [hρ] at e0 ec ⊢
    exact ⟨_, by simp only [List.getElem?_toArray, List.getElem?_cons_succ, List.getElem?_cons_zero]; rfl, rfl, by unfold execOp; simp [go_sem, e0, ec, c0]⟩
  · refine ⟨⟨132, rfl⟩, .inl rfl, fun b q s hs hS h => ?_⟩
    have e0 : b.eval (.tmp 20) = .int .i64 (j : Int) := (h.old 20 (by decide)).trans h20
    have ec : ∀ v, b.eval (.const v) = v := fun _ => rfl
    obtain ⟨ρ, hρ⟩ : ∃ ρ, b.eval = ρ := ⟨_, rfl⟩
    rw [hρ] at e0 ec ⊢
    exact ⟨_, by simp only [List.getElem?_toArray, List.getElem?_cons_succ, List.getElem?_cons_zero]; rfl, rfl, by unfold execOp; simp [go_sem, e0, ec]⟩
  · refine ⟨⟨133, rfl⟩, .inl rfl, fun b q s hs hS h => ?_⟩
    have e0 : b.eval (.tmp 10) = .slice (some ⟨ob, 0, none⟩) N oc := (h.old 10 (by decide)).trans h10
    have ec : ∀ v, b.eval (.const v) = v := fun _ => rfl
    obtain ⟨ρ, hρ⟩ : ∃ ρ, b.eval = ρ := ⟨_, rfl⟩
    rw [hρ] at e0 ec ⊢
    exact ⟨_, by simp only [List.getElem?_toArray, List.getElem?_cons_succ, List.getElem?_cons_zero]; rfl, rfl, by unfold execOp; simp [go_sem, e0, ec]⟩
  · refine ⟨⟨134, rfl⟩, .inl rfl, fun b q s hs hS h => ?_⟩
    have e0 : b.eval (.tmp 17) = .int .i64 (p : Int) := (h.old 17 (by decide)).trans h17
    have ec : ∀ v, b.eval (.const v) = v := fun _ => rfl
    obtain ⟨ρ, hρ⟩ : ∃ ρ, b.eval = ρ := ⟨_, rfl⟩
    rw [hρ] at e0 ec ⊢
    exact ⟨_, by simp only [List.getElem?_toArray, List.getElem?_cons_succ, List.getElem?_cons_zero]; rfl, rfl, by unfold execOp; simp [go_sem, e0, ec]⟩
  · refine ⟨⟨135, rfl⟩, .inl rfl, fun b q s hs hS h => ?_⟩
    have e0 := (show b.eval (.tmp 133) = .slice (some ⟨ob, 0, none⟩) N oc from h.rd 5 _ _ 133 (by kernel_rfl) rfl rfl)
    have e1 := (show b.eval (.tmp 134) = .int .i64 (p : Int) from h.rd 6 _ _ 134 (by kernel_rfl) rfl rfl)
    have ec : ∀ v, b.eval (.const v) = v := fun _ => rfl
    obtain ⟨ρ, hρ⟩ : ∃ ρ, b.eval = ρ := ⟨_, rfl⟩
    rw [hρ] at e0 e1 ec ⊢
    exact ⟨_, by simp only [List.getElem?_toArray, List.getElem?_cons_succ, List.getElem?_cons_zero]; rfl, rfl, by unfold execOp; simp [go_sem, e0, e1, ec, show (p : Int) < N by omega, show p < N by omega]⟩
  · refine ⟨⟨136, rfl⟩, .inl rfl, fun b q s hs hS h => ?_⟩
    have e0 := (show b.eval (.tmp 135) = .pointer (some ⟨ob, p, none⟩) from h.rd 7 _ _ 135 (by kernel_rfl) rfl rfl)
    have c0 := (show q.cell? ⟨ob, p, none⟩ = some (.slice (some ⟨rb, 0, none⟩) 8 cp) from cell_keep hS.1 (by simpa using hor) hc)
    have ec : ∀ v, b.eval (.const v) = v := fun _ => rfl
    obtain ⟨ρ, hρ⟩ : ∃ ρ, b.eval = ρ := ⟨_, rfl⟩
    rw [hρ] at e0 ec ⊢
    exact ⟨_, by simp only [List.getElem?_toArray, List.getElem?_cons_succ, List.getElem?_cons_zero]; rfl, rfl, by unfold execOp; simp [go_sem, e0, ec, c0]⟩
  · refine ⟨⟨137, rfl⟩, .inl rfl, fun b q s hs hS h => ?_⟩
    have e0 : b.eval (.tmp 20) = .int .i64 (j : Int) := (h.old 20 (by decide)).trans h20
    have ec : ∀ v, b.eval (.const v) = v := fun _ => rfl
    obtain ⟨ρ, hρ⟩ : ∃ ρ, b.eval = ρ := ⟨_, rfl⟩
    rw [hρ] at e0 ec ⊢
    exact ⟨_, by simp only [List.getElem?_toArray, List.getElem?_cons_succ, List.getElem?_cons_zero]; rfl, rfl, by unfold execOp; simp [go_sem, e0, ec]⟩
  · refine ⟨⟨138, rfl⟩, .inl rfl, fun b q s hs hS h => ?_⟩
    have e0 := (show b.eval (.tmp 136) = .slice (some ⟨rb, 0, none⟩) 8 cp from h.rd 8 _ _ 136 (by kernel_rfl) rfl rfl)
    have e1 := (show b.eval (.tmp 137) = .int .i64 (j : Int) from h.rd 9 _ _ 137 (by kernel_rfl) rfl rfl)
    have ec : ∀ v, b.eval (.const v) = v := fun _ => rfl
    obtain ⟨ρ, hρ⟩ : ∃ ρ, b.eval = ρ := ⟨_, rfl⟩
    rw [hρ] at e0 e1 ec ⊢
    exact ⟨_, by simp only [List.getElem?_toArray, List.getElem?_cons_succ, List.getElem?_cons_zero]; rfl, rfl, by unfold execOp; simp [go_sem, e0, e1, ec, show (j : Int) < 8 by omega, show j < 8 by omega]⟩
  · refine ⟨⟨139, rfl⟩, .inr ⟨18, rfl, by kernel_rfl⟩, fun b q s hs hS h => ?_⟩
    have e0 := (show b.eval (.tmp 138) = .pointer (some ⟨rb, j, none⟩) from h.rd 10 _ _ 138 (by kernel_rfl) rfl rfl)
    have c0 := (show q.cell? ⟨rb, j, none⟩ = some (.int .u8 ((xs.getD j 0).toNat : Int)) from by have hA := hS.2; rw [if_pos hs] at hA; exact own_cellB hA (by omega))
    have ec : ∀ v, b.eval (.const v) = v := fun _ => rfl
    obtain ⟨ρ, hρ⟩ : ∃ ρ, b.eval = ρ := ⟨_, rfl⟩
    rw [hρ] at e0 ec ⊢
    exact ⟨_, by simp only [List.getElem?_toArray, List.getElem?_cons_succ, List.getElem?_cons_zero]; rfl, rfl, by unfold execOp; simp [go_sem, e0, ec, c0]⟩
  · refine ⟨⟨140, rfl⟩, .inl rfl, fun b q s hs hS h => ?_⟩
    have e0 : b.eval (.tmp 20) = .int .i64 (j : Int) := (h.old 20 (by decide)).trans h20
    have ec : ∀ v, b.eval (.const v) = v := fun _ => rfl
    obtain ⟨ρ, hρ⟩ : ∃ ρ, b.eval = ρ := ⟨_, rfl⟩
    rw [hρ] at e0 ec ⊢
    exact ⟨_, by simp only [List.getElem?_toArray, List.getElem?_cons_succ, List.getElem?_cons_zero]; rfl, rfl, by unfold execOp; simp [go_sem, e0, ec]⟩
  · refine ⟨⟨141, rfl⟩, .inl rfl, fun b q s hs hS h => ?_⟩
    have e0 : b.eval (.tmp 16) = .pointer (some ⟨hb, 0, none⟩) := (h.old 16 (by decide)).trans h16
    have ec : ∀ v, b.eval (.const v) = v := fun _ => rfl
    obtain ⟨ρ, hρ⟩ : ∃ ρ, b.eval = ρ := ⟨_, rfl⟩
    rw [hρ] at e0 ec ⊢
    exact ⟨_, by simp only [List.getElem?_toArray, List.getElem?_cons_succ, List.getElem?_cons_zero]; rfl, rfl, by unfold execOp; simp [go_sem, e0, ec]⟩
  · refine ⟨⟨142, rfl⟩, .inl rfl, fun b q s hs hS h => ?_⟩
    have e0 := (show b.eval (.tmp 141) = .pointer (some ⟨hb, 2, none⟩) from h.rd 13 _ _ 141 (by kernel_rfl) rfl rfl)
    have e1 := (show b.eval (.tmp 140) = .int .i64 (j : Int) from h.rd 12 _ _ 140 (by kernel_rfl) rfl rfl)
    have ec : ∀ v, b.eval (.const v) = v := fun _ => rfl
    obtain ⟨ρ, hρ⟩ : ∃ ρ, b.eval = ρ := ⟨_, rfl⟩
    rw [hρ] at e0 e1 ec ⊢
    exact ⟨_, by simp only [List.getElem?_toArray, List.getElem?_cons_succ, List.getElem?_cons_zero]; rfl, rfl, by unfold execOp; simp [go_sem, e0, e1, ec, show (j : Int) < 8 by omega, show j < 8 by omega]⟩
  · refine ⟨⟨143, rfl⟩, .inl rfl, fun b q s hs hS h => ?_⟩
    have e0 := (show b.eval (.tmp 142) = .pointer (some ⟨hb, 2 + j, none⟩) from h.rd 14 _ _ 142 (by kernel_rfl) rfl rfl)
    have c0 := (show q.cell? ⟨hb, 2 + j, none⟩ = some (.int .u8 (y.toNat : Int)) from cell_keep hS.1 (by simpa using hhr) hy)
    have ec : ∀ v, b.eval (.const v) = v := fun _ => rfl
    obtain ⟨ρ, hρ⟩ : ∃ ρ, b.eval = ρ := ⟨_, rfl⟩
    rw [hρ] at e0 ec ⊢
    exact ⟨_, by simp only [List.getElem?_toArray, List.getElem?_cons_succ, List.getElem?_cons_zero]; rfl, rfl, by unfold execOp; simp [go_sem, e0, ec, c0]⟩
  · refine ⟨⟨144, rfl⟩, .inl rfl, fun b q s hs hS h => ?_⟩
    have e0 := (show b.eval (.tmp 139) = .int .u8 ((xs.getD j 0).toNat : Int) from h.rd 11 _ _ 139 (by kernel_rfl) rfl rfl)
    have e1 := (show b.eval (.tmp 143) = .int .u8 (y.toNat : Int) from h.rd 15 _ _ 143 (by kernel_rfl) rfl rfl)
    have ec : ∀ v, b.eval (.const v) = v := fun _ => rfl
    obtain ⟨ρ, hρ⟩ : ∃ ρ, b.eval = ρ := ⟨_, rfl⟩
    rw [hρ] at e0 e1 ec ⊢
    exact ⟨_, by simp only [List.getElem?_toArray, List.getElem?_cons_succ, List.getElem?_cons_zero]; rfl, rfl, by unfold execOp; simp [go_sem, e0, e1, ec, u8_xor_u]⟩
  · refine ⟨⟨145, rfl⟩, .inl rfl, fun b q s hs hS h => ?_⟩
    have e0 := (show b.eval (.tmp 131) = .slice (some ⟨rb, 0, none⟩) 8 cp from h.rd 3 _ _ 131 (by kernel_rfl) rfl rfl)
    have e1 := (show b.eval (.tmp 132) = .int .i64 (j : Int) from h.rd 4 _ _ 132 (by kernel_rfl) rfl rfl)
    have ec : ∀ v, b.eval (.const v) = v := fun _ => rfl
    obtain ⟨ρ, hρ⟩ : ∃ ρ, b.eval = ρ := ⟨_, rfl⟩
    rw [hρ] at e0 e1 ec ⊢
    exact ⟨_, by simp only [List.getElem?_toArray, List.getElem?_cons_succ, List.getElem?_cons_zero]; rfl, rfl, by unfold execOp; simp [go_sem, e0, e1, ec, show (j : Int) < 8 by omega, show j < 8 by omega]⟩
  · refine ⟨rfl, .inl rfl, fun b q hS h => ?_⟩
    have e0 := (show b.eval (.tmp 145) = .pointer (some ⟨rb, j, none⟩) from h.rd 17 _ _ 145 (by kernel_rfl) rfl rfl)
    have e1 := (show b.eval (.tmp 144) = .int .u8 ((xs.getD j 0 ^^^ y).toNat : Int) from h.rd 16 _ _ 144 (by kernel_rfl) rfl rfl)
    obtain ⟨hf, hO⟩ := hS
    rw [if_pos (by decide)] at hO
    obtain ⟨cur, hA, hl, -, hset⟩ := own_blk hO
    refine opV_mono (K := fun _ p' => Fr [rb] w p' ∧ OwnB 5 base p' (.slice (some ⟨rb, 0, none⟩) 8 cp) (xs.set j (xs.getD j 0 ^^^ y))) (fun v p' hv => ⟨by show Fr [rb] w p' ∧ OwnB 5 base p' (.slice (some ⟨rb, 0, none⟩) 8 cp) (if 0 + 1 ≤ 0 then xs else (xs.set j (xs.getD j 0 ^^^ y))); rw [if_neg (by decide)]; exact hv, .inl rfl⟩) ?_
    refine opV_of_wpl (K := fun _ p' => Fr [rb] w p' ∧ OwnB 5 base p' (.slice (some ⟨rb, 0, none⟩) 8 cp) (xs.set j (xs.getD j 0 ^^^ y))) _ (by simp only [List.getElem?_toArray, List.getElem?_cons_succ, List.getElem?_cons_zero]; rfl) ?_
    refine wpl_store_one (.tmp 145) (.tmp 144) rfl rfl (.int .u8 ((xs.getD j 0 ^^^ y).toNat : Int)) e0 e1 hA (by omega) (by kernel_rfl) rfl ?_
    intro p1 f1 a1 _
    exact ⟨rfl, rfl, hf.trans f1, hset p1 j _ a1⟩
  · intro b q h1 h2 h3 h4 h5
    exact hQ b q h1 h2 (fun s hs => h3 s (fun hm => hs (by simpa using hm))) h4.1 (by have := h4.2; rwa [if_neg (by decide)] at this)
noncomputable def bnB4 : Code := ((Tryd.f8.body.bind (findLoop 26)).getD .skip)
set_option maxRecDepth 1000000 in
set_option maxHeartbeats 8000000 in
theorem bn4_round (wr : World) (a : Go.Act) (hsz : a.tmps.size = 165) (hd : a.defers = []) (shv sv lv hv : Value) (ob N oc hb rb cp p g M mi : Nat) (j base : Nat) (y : UInt8) (xs : List UInt8) (h8 : slot a 8 = shv) (h10 : slot a 10 = .slice (some ⟨ob, 0, none⟩) N oc) (h13 : slot a 13 = sv) (h14 : slot a 14 = lv) (h16 : slot a 16 = .pointer (some ⟨hb, 0, none⟩)) (h17 : slot a 17 = .int .i64 (p : Int)) (h18 : slot a 18 = .int .i64 (g : Int)) (h56 : slot a 56 = hv) (h57 : slot a 57 = .int .i64 (M : Int)) (h58 : slot a 58 = .int .i64 (mi : Int)) (h124 : slot a 124 = .int .i64 8) (h125 : slot a 125 = .int .i64 (j : Int)) (hj : j < 8) (hpN : p < N) (hN : N ≤ 1000) (hrl : xs.length = 8) (hor : ob ≠ rb) (hhr : hb ≠ rb) (hc : wr.cell? ⟨ob, p, none⟩ = some (.slice (some ⟨rb, 0, none⟩) 8 cp)) (hy : wr.cell? ⟨hb, 2 + j, none⟩ = some (.int .u8 (y.toNat : Int))) (hO : OwnB 5 base wr (.slice (some ⟨rb, 0, none⟩) 8 cp) xs) (Q : Exit → Go.Act → World → Prop)
    (hq : ∀ (c : Go.Act) (w' : World), c.defers = [] → c.tmps.size = 165 → slot c 8 = shv → slot c 10 = .slice (some ⟨ob, 0, none⟩) N oc → slot c 13 = sv → slot c 14 = lv → slot c 16 = .pointer (some ⟨hb, 0, none⟩) → slot c 17 = .int .i64 (p : Int) → slot c 18 = .int .i64 (g : Int) → slot c 56 = hv → slot c 57 = .int .i64 (M : Int) → slot c 58 = .int .i64 (mi : Int) → slot c 124 = .int .i64 8 → slot c 125 = .int .i64 ((j : Int) + 1) → OwnB 5 base w' (.slice (some ⟨rb, 0, none⟩) 8 cp) (xs.set j (xs.getD j 0 ^^^ y)) → Fr [rb] wr w' → Q .normal c w') : Code.wp Tryd.prog bnB4 Q a wr := by
  have HQ := Lib.hid hq
  rw [frame165 a hsz hd, h8, h10, h13, h14, h16, h17, h18, h56, h57, h58, h124, h125]
  clear hq h8 h10 h13 h14 h16 h17 h18 h56 h57 h58 h124 h125 hsz hd
  conv => arg 2; whnf
  have hji : (j : Int) < 8 := by omega
  have HO := Lib.hid hO
  have HC := Lib.hid hc
  have HY := Lib.hid hy
  have HRL := Lib.hid hrl
  clear hO hc hy hrl
  go_wp2
  refine bn4_xor wr _ rfl ob N oc rb cp hb p j base y xs hpN hN hj HRL.out hor hhr rfl rfl rfl rfl HO.out HC.out HY.out _ ?_
  intro b q q1 q2 q3 hf ho
  obtain ⟨f, hb2⟩ := putsX b _ _ q1 q2 q3
  have HF9 := Lib.hid hf
  have HO9 := Lib.hid ho
  clear q1 q2 q3 hf ho HO HC HY
  subst hb2
  simp only [List.foldl_cons, List.foldl_nil, Go.Act.put, List.setIfInBounds_toArray, List.set_cons_succ, List.set_cons_zero]
  go_wp2
  exact HQ.out _ _ rfl rfl rfl rfl rfl rfl rfl rfl rfl rfl rfl rfl rfl (by go_num) HO9.out HF9.out
set_option maxRecDepth 1000000 in
set_option maxHeartbeats 8000000 in
theorem bn4_exit (wr : World) (a : Go.Act) (hsz : a.tmps.size = 165) (hd : a.defers = []) (shv sv lv hv : Value) (ob N oc hb rb cp p g M mi : Nat) (h8 : slot a 8 = shv) (h10 : slot a 10 = .slice (some ⟨ob, 0, none⟩) N oc) (h13 : slot a 13 = sv) (h14 : slot a 14 = lv) (h16 : slot a 16 = .pointer (some ⟨hb, 0, none⟩)) (h17 : slot a 17 = .int .i64 (p : Int)) (h18 : slot a 18 = .int .i64 (g : Int)) (h56 : slot a 56 = hv) (h57 : slot a 57 = .int .i64 (M : Int)) (h58 : slot a 58 = .int .i64 (mi : Int)) (h124 : slot a 124 = .int .i64 8) (h125 : slot a 125 = .int .i64 8)  (Q : Exit → Go.Act → World → Prop)
    (hq : ∀ c : Go.Act, c.defers = [] → c.tmps.size = 165 → slot c 8 = shv → slot c 10 = .slice (some ⟨ob, 0, none⟩) N oc → slot c 13 = sv → slot c 14 = lv → slot c 16 = .pointer (some ⟨hb, 0, none⟩) → slot c 17 = .int .i64 (p : Int) → slot c 18 = .int .i64 (g : Int) → slot c 56 = hv → slot c 57 = .int .i64 (M : Int) → slot c 58 = .int .i64 (mi : Int) → slot c 124 = .int .i64 8 → Q (.exit 6) c wr) : Code.wp Tryd.prog bnB4 Q a wr := by
  have HQ := Lib.hid hq
  rw [frame165 a hsz hd, h8, h10, h13, h14, h16, h17, h18, h56, h57, h58, h124, h125]
  clear hq h8 h10 h13 h14 h16 h17 h18 h56 h57 h58 h124 h125 hsz hd
  conv => arg 2; whnf
  have h1 : ¬ (8 : Int) < 8 := by omega
  go_wp2
  exact HQ.out _ rfl rfl rfl rfl rfl rfl rfl rfl rfl rfl rfl rfl rfl
def xorL (xs ys : List UInt8) (j : Nat) : List UInt8 := (List.range j).foldl (fun l i => l.set i (l.getD i 0 ^^^ ys.getD i 0)) xs
theorem xorL_len (xs ys : List UInt8) : ∀ j, (xorL xs ys j).length = xs.length
  | 0 => rfl
  | j + 1 => by
    unfold xorL
    rw [List.range_succ, List.foldl_append]
    simp only [List.foldl_cons, List.foldl_nil, List.length_set]
    exact xorL_len xs ys j
theorem xorL_up (xs ys : List UInt8) (j : Nat) : xorL xs ys (j + 1) = (xorL xs ys j).set j ((xorL xs ys j).getD j 0 ^^^ ys.getD j 0) := by
  unfold xorL
  rw [List.range_succ, List.foldl_append]
  rfl
set_option maxRecDepth 1000000 in
set_option maxHeartbeats 8000000 in
theorem bn4_loop (w0 : World) (a : Go.Act) (hsz : a.tmps.size = 165) (hd : a.defers = []) (shv sv lv hv : Value) (ob N oc hb rb cp p g M mi : Nat) (base : Nat) (xs ys : List UInt8) (h8 : slot a 8 = shv) (h10 : slot a 10 = .slice (some ⟨ob, 0, none⟩) N oc) (h13 : slot a 13 = sv) (h14 : slot a 14 = lv) (h16 : slot a 16 = .pointer (some ⟨hb, 0, none⟩)) (h17 : slot a 17 = .int .i64 (p : Int)) (h18 : slot a 18 = .int .i64 (g : Int)) (h56 : slot a 56 = hv) (h57 : slot a 57 = .int .i64 (M : Int)) (h58 : slot a 58 = .int .i64 (mi : Int)) (h124 : slot a 124 = .int .i64 8) (h125 : slot a 125 = .int .i64 0) (hpN : p < N) (hN : N ≤ 1000) (hrl : xs.length = 8) (hor : ob ≠ rb) (hhr : hb ≠ rb) (hc : w0.cell? ⟨ob, p, none⟩ = some (.slice (some ⟨rb, 0, none⟩) 8 cp)) (hyl : ys.length = 8) (hy : ∀ j, j < 8 → w0.cell? ⟨hb, 2 + j, none⟩ = some (.int .u8 ((ys.getD j 0).toNat : Int))) (hO : OwnB 5 base w0 (.slice (some ⟨rb, 0, none⟩) 8 cp) xs) (Q : Exit → Go.Act → World → Prop)
    (hq : ∀ (c : Go.Act) (w' : World), c.defers = [] → c.tmps.size = 165 → slot c 8 = shv → slot c 10 = .slice (some ⟨ob, 0, none⟩) N oc → slot c 13 = sv → slot c 14 = lv → slot c 16 = .pointer (some ⟨hb, 0, none⟩) → slot c 17 = .int .i64 (p : Int) → slot c 18 = .int .i64 (g : Int) → slot c 56 = hv → slot c 57 = .int .i64 (M : Int) → slot c 58 = .int .i64 (mi : Int) → slot c 124 = .int .i64 8 → OwnB 5 base w' (.slice (some ⟨rb, 0, none⟩) 8 cp) (xorL xs ys 8) → Fr [rb] w0 w' → Q (.exit 6) c w') : Code.wp Tryd.prog (Code.loop bnB4) Q a w0 := by
  refine wp_loop (fun a w => a.tmps.size = 165 ∧ a.defers = [] ∧ slot a 8 = shv ∧ slot a 10 = .slice (some ⟨ob, 0, none⟩) N oc ∧ slot a 13 = sv ∧ slot a 14 = lv ∧ slot a 16 = .pointer (some ⟨hb, 0, none⟩) ∧ slot a 17 = .int .i64 (p : Int) ∧ slot a 18 = .int .i64 (g : Int) ∧ slot a 56 = hv ∧ slot a 57 = .int .i64 (M : Int) ∧ slot a 58 = .int .i64 (mi : Int) ∧ slot a 124 = .int .i64 8 ∧ Fr [rb] w0 w ∧ ∃ j : Nat, j ≤ 8 ∧ slot a 125 = .int .i64 (j : Int) ∧ OwnB 5 base w (.slice (some ⟨rb, 0, none⟩) 8 cp) (xorL xs ys j)) (fun a _ => 8 - kN (slot a 125)) ⟨hsz, hd, h8, h10, h13, h14, h16, h17, h18, h56, h57, h58, h124, Fr.refl _ _, 0, by omega, h125, hO⟩ ?_
  clear h8 h10 h13 h14 h16 h17 h18 h56 h57 h58 h124 h125 hsz hd hO
  rintro a wr ⟨hsz, hd, h8, h10, h13, h14, h16, h17, h18, h56, h57, h58, h124, hf, j, hj, h125, hO⟩
  by_cases hj8 : j < 8
  · refine bn4_round wr a hsz hd shv sv lv hv ob N oc hb rb cp p g M mi j base (ys.getD j 0) (xorL xs ys j) h8 h10 h13 h14 h16 h17 h18 h56 h57 h58 h124 h125 hj8 hpN hN (by rw [xorL_len]; exact hrl) hor hhr (cell_keep hf (by simpa using hor) hc) (cell_keep hf (by simpa using hhr) (hy j hj8)) hO _ ?_
    intro c w1 kd ks q8 q10 q13 q14 q16 q17 q18 q56 q57 q58 q124 q125 ho hf1
    refine ⟨⟨ks, kd, q8, q10, q13, q14, q16, q17, q18, q56, q57, q58, q124, hf.trans hf1, j + 1, by omega, by rw [q125]; rfl, by rw [xorL_up]; exact ho⟩, ?_⟩
    rw [q125, h125]
    simp [kN]; omega
  · obtain rfl : j = 8 := by omega
    refine bn4_exit wr a hsz hd shv sv lv hv ob N oc hb rb cp p g M mi h8 h10 h13 h14 h16 h17 h18 h56 h57 h58 h124 h125 _ ?_
    intro c kd ks q8 q10 q13 q14 q16 q17 q18 q56 q57 q58 q124
    exact hq c wr kd ks q8 q10 q13 q14 q16 q17 q18 q56 q57 q58 q124 hO hf
end Go.Proofs.YtmohiblgfmdkjaaDoor
namespace Go.Proofs.YtmohiblgfmdkjaaDoor
open Go.RowKit Go.Bl
set_option linter.unusedVariables false
theorem pl_at3 (pl : Int) (n : Nat) (h0 : 0 < n) (hn : n ≤ 1000) : ∃ p : Nat, p < n ∧ wrap64 ((IntKind.u64.wrap pl).tmod n) = p := by
  have h := wrap_u64_nonneg pl
  rw [Int.tmod_eq_emod_of_nonneg h]
  have h1 := Int.emod_nonneg (IntKind.u64.wrap pl) (show (n : Int) ≠ 0 by omega)
  have h2 := Int.emod_lt_of_pos (IntKind.u64.wrap pl) (show (0 : Int) < n by omega)
  refine ⟨((IntKind.u64.wrap pl) % (n : Int)).toNat, by omega, ?_⟩
  unfold wrap64
  omega
theorem boolC_setB (bs : List Bool) (p : Nat) : (boolC bs).setIfInBounds p (.bool true) = boolC (bs.set p true) := by
  unfold boolC
  rw [List.setIfInBounds_toArray, List.map_set]
def natC (l : List Nat) : Array Value := (l.map fun k : Nat => iv (k : Int)).toArray
theorem natC_set (l : List Nat) (g v : Nat) : (natC l).setIfInBounds g (.int .i64 (v : Int)) = natC (l.set g v) := by
  unfold natC
  rw [List.setIfInBounds_toArray, List.map_set]
  rfl
theorem natC_size (l : List Nat) : (natC l).size = l.length := by simp [natC]
theorem natC_get {l : List Nat} {g v : Nat} (h : l[g]? = some v) : (natC l)[g]? = some (.int .i64 (v : Int)) := by
  unfold natC
  rw [List.getElem?_toArray, List.getElem?_map, h]
  rfl
theorem boolC_get {l : List Bool} {p : Nat} {b : Bool} (h : l[p]? = some b) : (boolC l)[p]? = some (.bool b) := by
  unfold boolC
  rw [List.getElem?_toArray, List.getElem?_map, h]
  rfl
theorem nodup_le {l : List Nat} {n : Nat} (h : l.Nodup) (hl : ∀ p ∈ l, p < n) : l.length ≤ n := by
  have e : l.length = ((List.range n).filter fun p => decide (p ∈ l)).length := by
    refine ((List.perm_ext_iff_of_nodup h (List.nodup_range.sublist List.filter_sublist)).2 fun p => ?_).length_eq
    rw [List.mem_filter, List.mem_range]
    exact ⟨fun h => ⟨hl p h, by simpa using h⟩, fun h => by simpa using h.2⟩
  have := List.length_filter_le (fun p => decide (p ∈ l)) (List.range n)
  rw [List.length_range] at this
  omega
theorem BentI.load_le {bs out : List (List UInt8)} {sh : List Nat} {seen : List Bool} {load gs hs : List Nat} (h : BentI bs out sh seen load gs hs) {g v : Nat} (hv : load[g]? = some v) : v ≤ 2 * bs.length := by
  have h1 := h.ld g v hv
  have h2 := nodup_le h.nd h.lt
  rw [List.length_append] at h2
  have h3 := List.length_filter_le (fun p => decide (offN sh g ≤ p) && decide (p < offN sh (g + 1))) gs
  have h4 := List.length_filter_le (fun p => decide (offN sh g ≤ p) && decide (p < offN sh (g + 1))) hs
  omega
/-- what stands at the head of each round -/
structure BSt (w0 : World) (Z N oc ob sb lb : Nat) (sh : List Nat) (bs : List (List UInt8)) (w : World) (vs : List Value) (out : List (List UInt8)) (seen : List Bool) (load gs hs : List Nat) : Prop where
  fr : Fr [] w0 w
  ov : OwnV 22 Z w (.slice (some ⟨ob, 0, none⟩) N oc) vs
  br : Brw Z w vs out
  sn : At w sb (.cells (boolC seen) 4)
  ld : At w lb (.cells (natC load) 3)
  bi : BentI bs out sh seen load gs hs
def BOk (w0 : World) (Z N oc ob sb lb : Nat) (sh : List Nat) (bs : List (List UInt8)) (w : World) : Prop := ∃ vs out seen load gs hs, BSt w0 Z N oc ob sb lb sh bs w vs out seen load gs hs
theorem ne_blk {w : World} {a b : Nat} {c d : Array Value} {t u : TypeId} {f g : Nat × Nat} (h : At w a (.cells c t f)) (k : At w b (.cells d u g)) (hne : t ≠ u) : a ≠ b := by
  rintro rfl
  have := h.symm.trans k
  simp at this
  exact hne this.2.1
theorem own_some {w : World} {e : TypeId} {base g n cp : Nat} {us : List Value} (h : OwnV e base w (.slice (some ⟨g, 0, none⟩) n cp) us) : base ≤ g ∧ us.length = n := by
  refine ⟨OwnV.blk h (by simp [Value.ownBlock]), ?_⟩
  rcases h.2 with ⟨h2, -⟩ | ⟨g', cap', cur, he, -⟩
  · cases h2
  · simp only [Value.slice.injEq] at he
    exact he.2.1.symm
theorem hit_size (x : HitP) : (hitC x).toArray.size = 10 := by simp [hitC_ten]
theorem hit_one (x : HitP) : (hitC x).toArray.all (·.oneCell') = true := by
  have h : ∀ v ∈ hitC x, v.oneCell' = true := fun v hv => by
    unfold hitC at hv
    rcases List.mem_cons.1 hv with h | h
    · rw [h]; rfl
    · rcases List.mem_cons.1 h with h | h
      · rw [h]; rfl
      · exact u8v_one _ _ h
  rw [List.all_toArray]
  exact List.all_eq_true.2 h
noncomputable def bnB2 : Code := ((Tryd.f8.body.bind (findLoop 13)).getD .skip)
set_option maxRecDepth 1000000 in
set_option maxHeartbeats 8000000 in
theorem bn2_round (wr : World) (a : Go.Act) (hsz : a.tmps.size = 165) (hd : a.defers = []) (sa : Option Addr) (SL sc ob N oc sb lb M hc hbq hoq mi Z : Nat) (w0 : World) (x : HitP) (sh : List Nat) (bs : List (List UInt8)) (h8 : slot a 8 = .slice sa SL sc) (h10 : slot a 10 = .slice (some ⟨ob, 0, none⟩) N oc) (h13 : slot a 13 = .slice (some ⟨sb, 0, none⟩) N N) (h14 : slot a 14 = .slice (some ⟨lb, 0, none⟩) SL SL) (h56 : slot a 56 = .slice (some ⟨hbq, hoq, none⟩) M hc) (h57 : slot a 57 = .int .i64 (M : Int)) (h58 : slot a 58 = .int .i64 (mi : Int)) (hmi : mi < M) (hM : M ≤ 80) (hN : N ≤ 1000) (h0N : 0 < N) (hS : SL ≤ 10) (h1S : 1 ≤ SL) (hsl : sh.length = SL) (hbl : bs.length = N) (hk : ∀ i k : Nat, sh[i]? = some k → k ≤ 1000) (hto : offN sh SL = N) (hZ : w0.heap.size = Z) (hsI : Is (fun _ => False) w0 (.slice sa SL sc) (sh.map fun k : Nat => (k : Int))) (hxr : wr.rangeAt hbq (hoq + mi * 10) (hitC x)) (hsb : Z ≤ sb) (hlb : Z ≤ lb) (hst : BOk w0 Z N oc ob sb lb sh bs wr) (Q : Exit → Go.Act → World → Prop)
    (hq : ∀ (c : Go.Act) (w' : World), c.defers = [] → c.tmps.size = 165 → slot c 8 = .slice sa SL sc → slot c 10 = .slice (some ⟨ob, 0, none⟩) N oc → slot c 13 = .slice (some ⟨sb, 0, none⟩) N N → slot c 14 = .slice (some ⟨lb, 0, none⟩) SL SL → slot c 56 = .slice (some ⟨hbq, hoq, none⟩) M hc → slot c 57 = .int .i64 (M : Int) → slot c 58 = .int .i64 ((mi : Int) + 1) → BOk w0 Z N oc ob sb lb sh bs w' → Q .normal c w') : Code.wp Tryd.prog bnB2 Q a wr := by
  have HQ := Lib.hid hq
  rw [frame165 a hsz hd, h8, h10, h13, h14, h56, h57, h58]
  clear hq h8 h10 h13 h14 h56 h57 h58 hsz hd
  conv => arg 2; whnf
  have hmii : (mi : Int) < M := by omega
  obtain ⟨p, hpN, hpe⟩ := pl_at3 x.place N h0N hN
  obtain ⟨HC, hHC⟩ : ∃ HC, (hitC x).toArray = HC := ⟨_, rfl⟩
  have hs10 := hit_size x
  have hone := hit_one x
  have HXR := Lib.hid (show wr.rangeAt hbq (hoq + mi * 10) HC.toList by rw [← hHC]; exact hxr)
  have hg0 : HC[0]? = some (.int .i64 x.place) := by rw [← hHC]; rfl
  have hg1 : HC[1]? = some (.bool x.gone) := by rw [← hHC]; rfl
  have hgy : ∀ j, j < 8 → HC[2 + j]? = some (.int .u8 ((x.by_.getD j 0).toNat : Int)) := fun j hj => by
    rw [← hHC, List.getElem?_toArray]
    unfold hitC
    rw [show 2 + j = j + 1 + 1 by omega, List.getElem?_cons_succ, List.getElem?_cons_succ, List.getElem?_map, List.getD_eq_getElem?_getD, List.getElem?_eq_getElem (by have := x.eight; omega)]
    rfl
  rw [hHC] at hs10 hone
  clear hHC hxr
  have HS10 := Lib.hid (show (Tryd.prog.info? 106).map (·.size) = some HC.size by rw [hs10]; kernel_rfl)
  have HSZ10 := Lib.hid (show 10 = HC.size from hs10.symm)
  have HONE := Lib.hid hone
  have HGY := Lib.hid hgy
  have hy8 := x.eight
  obtain ⟨XP, hXP⟩ : ∃ v, x.place = v := ⟨_, rfl⟩
  obtain ⟨XG, hXG⟩ : ∃ v, x.gone = v := ⟨_, rfl⟩
  obtain ⟨XY, hXY⟩ : ∃ v, x.by_ = v := ⟨_, rfl⟩
  rw [hXP] at hpe hg0
  rw [hXG] at hg1
  rw [hXY] at HGY hy8
  have HY8 := Lib.hid hy8
  clear hs10 hone hgy hXP hXG hXY hy8
  obtain ⟨vs, out, seen, load, gs, hs, HT⟩ := hst
  have fa : Fr [] wr (wr.alloc (.cells HC 106)) := Fr.alloc _ _
  have HF1 := Lib.hid (HT.fr.trans fa)
  have HO1 := Lib.hid (HT.ov.keep0 fa)
  have HR1 := Lib.hid (HT.br.keep0 fa)
  have HN1 := Lib.hid (HT.sn.keep0 fa)
  have HL1 := Lib.hid (HT.ld.keep0 fa)
  have HB := Lib.hid HT.bi
  have HBX := Lib.hid (show At (wr.alloc (.cells HC 106)) wr.heap.size (.cells HC 106) from At.new rfl)
  have HI1 := Lib.hid (hsI.keep0 HF1.out)
  have hx0 : (wr.alloc (.cells HC 106)).cell? ⟨wr.heap.size, 0, none⟩ = some (.int .i64 XP) := by rw [HBX.out.cell 0]; exact hg0
  have HX1 := Lib.hid (show (wr.alloc (.cells HC 106)).cell? ⟨wr.heap.size, 1, none⟩ = some (.bool XG) by rw [HBX.out.cell 1]; exact hg1)
  have HXY := Lib.hid (show ∀ j, j < 8 → (wr.alloc (.cells HC 106)).cell? ⟨wr.heap.size, 2 + j, none⟩ = some (.int .u8 ((XY.getD j 0).toNat : Int)) from fun j hj => by rw [HBX.out.cell (2 + j)]; exact HGY.out j hj)
  have HSL := Lib.hid hsl
  have HBL := Lib.hid hbl
  have HK := Lib.hid hk
  have HTO := Lib.hid hto
  have HZ := Lib.hid hZ
  clear hsl hbl hk hto hZ hsI hg0 hg1 HGY fa HT
  go_wp2_with (first | (refine wpl_load_mid (.tmp 60) rfl rfl hbq (hoq + mi * 10) HC rfl HXR.out Tryd.underlying106 rfl (by exact HS10.out) ?_) | (refine wpl_store_new (.tmp 16) (.tmp 61) rfl rfl HC rfl rfl HS10.out HSZ10.out HONE.out ?_))
  obtain ⟨w1, hw1⟩ : ∃ w1, wr.alloc (.cells HC 106) = w1 := ⟨_, rfl⟩
  obtain ⟨hb, hhb⟩ : ∃ hb, wr.heap.size = hb := ⟨_, rfl⟩
  rw [hw1] at HF1 HO1 HR1 HN1 HL1 HBX HI1 HX1 HXY ⊢
  rw [hhb] at HBX HX1 HXY ⊢
  rw [hpe]
  clear hx0 hpe hw1 hhb HXR
  refine bn3_loop _ _ rfl rfl sa (.slice (some ⟨ob, 0, none⟩) N oc) (.slice (some ⟨sb, 0, none⟩) N N) (.slice (some ⟨lb, 0, none⟩) SL SL) (.pointer (some ⟨hb, 0, none⟩)) (.slice (some ⟨hbq, hoq, none⟩) M hc) SL sc p M mi sh (offN sh) rfl rfl rfl rfl rfl rfl rfl rfl rfl rfl rfl hS HSL.out h1S (by omega) HK.out rfl (offN_up sh) (by rw [HTO.out]; exact hpN) HI1.out _ ?_
  intro c g kd ks q8 q10 q13 q14 q16 q17 q56 q57 q58 q18 hgS hog hog2
  rw [frame165 c ks kd, q8, q10, q13, q14, q16, q17, q18, q56, q57, q58]
  clear ks kd q8 q10 q13 q14 q16 q17 q18 q56 q57 q58
  have hpi : (p : Int) < N := by omega
  have hgi : (g : Int) < SL := by omega
  have HOG := Lib.hid hog
  have HOG2 := Lib.hid hog2
  clear hog hog2
  obtain ⟨sbit, hsbit⟩ : ∃ b, seen[p]? = some b := ⟨_, List.getElem?_eq_getElem (by rw [HB.out.sl, HBL.out]; exact hpN)⟩
  have hcs : w1.cell? ⟨sb, p, none⟩ = some (.bool sbit) := by rw [HN1.out.cell p]; exact boolC_get hsbit
  cases sbit with
  | true =>
    clear hsbit
    have HEND := Lib.hid (show BOk w0 Z N oc ob sb lb sh bs w1 from ⟨vs, out, seen, load, gs, hs, HF1.out, HO1.out, HR1.out, HN1.out, HL1.out, HB.out⟩)
    clear HB HF1 HO1 HR1 HN1 HL1 HBX HI1 HX1 HXY
    go_wp2
    exact HQ.out _ _ rfl rfl rfl rfl rfl rfl rfl rfl (by go_num) HEND.out
  | false =>
    have HSB := Lib.hid hsbit
    have hpg : p ∉ gs := fun h => HB.out.fresh hsbit (List.mem_append_left _ h)
    obtain ⟨row, hrow⟩ : ∃ r, out[p]? = some r := ⟨_, List.getElem?_eq_getElem (by rw [HB.out.ol, HBL.out]; exact hpN)⟩
    have hrl := HB.out.len p hpg row hrow
    obtain ⟨v, hv⟩ := HR1.out.val hrow
    obtain ⟨rb, cp, e, hrb, -⟩ := ownB_some (HR1.out.at_ p v row hv hrow) (by omega)
    rw [hrl] at e
    subst e
    obtain ⟨lv, hlv⟩ : ∃ v, load[g]? = some v := ⟨_, List.getElem?_eq_getElem (by rw [HB.out.ll, HSL.out]; exact hgS)⟩
    have hlvb := HB.out.load_le hlv
    rw [HBL.out] at hlvb
    have hco : w1.cell? ⟨ob, p, none⟩ = some (.slice (some ⟨rb, 0, none⟩) 8 cp) := own_cellV HO1.out hv
    have hnsz : p < (boolC seen).size := by rw [boolC_len, HB.out.sl, HBL.out]; exact hpN
    have HV := Lib.hid hv
    have HROW := Lib.hid hrow
    have HRL := Lib.hid hrl
    have HLV := Lib.hid hlv
    have HNSZ := Lib.hid hnsz
    clear hsbit hpg hv hrow hrl hlv hnsz
    have hsbw : sb ≠ hb := ne_blk HN1.out HBX.out (by decide)
    have hlbw : lb ≠ hb := ne_blk HL1.out HBX.out (by decide)
    have hsl2 : sb ≠ lb := ne_blk HN1.out HL1.out (by decide)
    go_wp2_with (refine wpl_store_one (.tmp 108) (.const (.bool true)) rfl rfl (.bool true) rfl rfl HN1.out HNSZ.out (by kernel_rfl) rfl ?_)
    intro w2 f2 a2 s2
    rw [boolC_setB] at a2
    have HN2 := Lib.hid a2
    have HO2 := Lib.hid (show OwnV 22 Z w2 (.slice (some ⟨ob, 0, none⟩) N oc) vs from own_keep HO1.out f2 (fun x hx hm => by
      simp only [List.mem_singleton] at hm
      subst hm
      exact own_neT HO1.out HN1.out (by decide) hx))
    have HR2 := Lib.hid (HR1.out.keepT f2 HN1.out (by decide))
    have HL2 := Lib.hid (HL1.out.keep f2 (by simpa using hsl2.symm))
    have HBX2 := Lib.hid (HBX.out.keep f2 (by simpa using hsbw.symm))
    have HF2 := Lib.hid (HF1.out.then f2 (by intro b hb; simp at hb; subst hb; exact .inr (by rw [HZ.out]; exact hsb)))
    have HX2 := Lib.hid (cell_keep f2 (by simpa using hsbw.symm) HX1.out)
    have HXY2 := Lib.hid (fun j hj => cell_keep f2 (by simpa using hsbw.symm) (HXY.out j hj))
    clear hco hcs f2 a2 s2 HN1 HO1 HR1 HL1 HBX HF1 HX1 HXY
    have hco : w2.cell? ⟨ob, p, none⟩ = some (.slice (some ⟨rb, 0, none⟩) 8 cp) := own_cellV HO2.out HV.out
    have hx1 := HX2.out
    cases XG with
    | true =>
      obtain ⟨cur, k1, k2, -, k4⟩ := own_blkV HO2.out
      have HK1 := Lib.hid k1
      have HK2 := Lib.hid (show p < cur.size by have := (own_some HO2.out).2; omega)
      have HK4 := Lib.hid k4
      have hobs : ob ≠ sb := ne_blk k1 HN2.out (by decide)
      have hobl : ob ≠ lb := ne_blk k1 HL2.out (by decide)
      have hobZ := (own_some HO2.out).1
      clear k1 k2 k4
      go_wp2_with (refine wpl_store_one (.tmp 113) (.const (.slice none 0 0)) rfl rfl (.slice none 0 0) rfl rfl HK1.out HK2.out (by kernel_rfl) rfl ?_)
      intro w3 f3 a3 s3
      have HO3 := Lib.hid (HK4.out w3 p (.slice none 0 0) a3)
      have HR3 := Lib.hid ((HR2.out.keepT f3 HK1.out (by decide)).gone p)
      have HN3 := Lib.hid (HN2.out.keep f3 (by simpa using hobs.symm))
      have HL3 := Lib.hid (HL2.out.keep f3 (by simpa using hobl.symm))
      have HF3 := Lib.hid (HF2.out.then f3 (by intro b hb; simp at hb; subst hb; exact .inr (by rw [HZ.out]; exact hobZ)))
      clear hco hx1 f3 a3 s3 HK1 HK2 HK4 HO2 HR2 HN2 HL2 HF2 HX2 HXY2 HBX2
      have hcl : w3.cell? ⟨lb, g, none⟩ = some (.int .i64 (lv : Int)) := by rw [HL3.out.cell g]; exact natC_get HLV.out
      have HLSZ := Lib.hid (show g < (natC load).size by rw [natC_size, HB.out.ll, HSL.out]; exact hgS)
      go_wp2_with (refine wpl_store_one (.tmp 119) (.tmp 118) rfl rfl (.int .i64 ((lv : Int) + 1)) rfl rfl HL3.out HLSZ.out (by kernel_rfl) rfl ?_)
      intro w4 f4 a4 s4
      rw [show ((lv : Int) + 1) = ((lv + 1 : Nat) : Int) by omega, natC_set] at a4
      have HEND := Lib.hid (show BOk w0 Z N oc ob sb lb sh bs w4 from ⟨_, _, _, _, _, _, HF3.out.then f4 (by intro b hb; simp at hb; subst hb; exact .inr (by rw [HZ.out]; exact hlb)), own_keep HO3.out f4 (fun x hx hm => by
        simp only [List.mem_singleton] at hm
        subst hm
        exact own_neT HO3.out HL3.out (by decide) hx), HR3.out.keepT f4 HL3.out (by decide), HN3.out.keep f4 (by simpa using hsl2), a4, HB.out.gone' HSB.out HOG.out HOG2.out HLV.out⟩)
      clear hcl f4 a4 s4 HO3 HR3 HN3 HL3 HF3 HB
      go_wp2
      exact HQ.out _ _ rfl rfl rfl rfl rfl rfl rfl rfl (by go_num) HEND.out
    | false =>
      have hrbo : ob ≠ rb := fun e => by
        obtain ⟨cur, k1, -⟩ := own_blkV HO2.out
        exact own_neT (HR2.out.at_ p _ row HV.out HROW.out) k1 (by decide) (by rw [e]; rfl)
      have hrbh : hb ≠ rb := fun e => own_neT (HR2.out.at_ p _ row HV.out HROW.out) HBX2.out (by decide) (by rw [e]; rfl)
      have hrbs : sb ≠ rb := fun e => own_neT (HR2.out.at_ p _ row HV.out HROW.out) HN2.out (by decide) (by rw [e]; rfl)
      have hrbl : lb ≠ rb := fun e => own_neT (HR2.out.at_ p _ row HV.out HROW.out) HL2.out (by decide) (by rw [e]; rfl)
      have HCO := Lib.hid hco
      go_wp2
      refine bn4_loop w2 _ rfl rfl (.slice sa SL sc) (.slice (some ⟨sb, 0, none⟩) N N) (.slice (some ⟨lb, 0, none⟩) SL SL) (.slice (some ⟨hbq, hoq, none⟩) M hc) ob N oc hb rb cp p g M mi Z row XY rfl rfl rfl rfl rfl rfl rfl rfl rfl rfl rfl rfl hpN hN HRL.out hrbo hrbh HCO.out HY8.out HXY2.out (HR2.out.at_ p _ row HV.out HROW.out) _ ?_
      intro c w3 kd ks q8 q10 q13 q14 q16 q17 q18 q56 q57 q58 q124 ho hf
      rw [frame165 c ks kd, q8, q10, q13, q14, q16, q17, q18, q56, q57, q58, q124]
      clear ks kd q8 q10 q13 q14 q16 q17 q18 q56 q57 q58 q124
      have HR3 := Lib.hid (HR2.out.write HV.out rfl hf ho)
      have HO3 := Lib.hid (show OwnV 22 Z w3 (.slice (some ⟨ob, 0, none⟩) N oc) vs from own_keep HO2.out hf (fun x hx hm => by
        simp only [List.mem_singleton] at hm
        subst hm
        simp [Value.ownBlock] at hx
        exact hrbo hx))
      have HN3 := Lib.hid (HN2.out.keep hf (by simpa using hrbs))
      have HL3 := Lib.hid (HL2.out.keep hf (by simpa using hrbl))
      have HF3 := Lib.hid (HF2.out.then hf (by intro b hb; simp at hb; subst hb; exact .inr (by rw [HZ.out]; exact hrb)))
      clear hco hx1 ho hf HO2 HR2 HN2 HL2 HF2 HX2 HXY2 HBX2 HCO
      have hcl : w3.cell? ⟨lb, g, none⟩ = some (.int .i64 (lv : Int)) := by rw [HL3.out.cell g]; exact natC_get HLV.out
      have HLSZ := Lib.hid (show g < (natC load).size by rw [natC_size, HB.out.ll, HSL.out]; exact hgS)
      go_wp2_with (refine wpl_store_one (.tmp 152) (.tmp 151) rfl rfl (.int .i64 ((lv : Int) + 2)) rfl rfl HL3.out HLSZ.out (by kernel_rfl) rfl ?_)
      intro w4 f4 a4 s4
      rw [show ((lv : Int) + 2) = ((lv + 2 : Nat) : Int) by omega, natC_set] at a4
      have HEND := Lib.hid (show BOk w0 Z N oc ob sb lb sh bs w4 from ⟨_, _, _, _, _, _, HF3.out.then f4 (by intro b hb; simp at hb; subst hb; exact .inr (by rw [HZ.out]; exact hlb)), own_keep HO3.out f4 (fun x hx hm => by
        simp only [List.mem_singleton] at hm
        subst hm
        exact own_neT HO3.out HL3.out (by decide) hx), HR3.out.keepT f4 HL3.out (by decide), HN3.out.keep f4 (by simpa using hsl2), a4, HB.out.hit' (by rw [xorL_len]; exact HRL.out) HSB.out HOG.out HOG2.out HLV.out⟩)
      clear hcl f4 a4 s4 HO3 HR3 HN3 HL3 HF3 HB
      go_wp2
      exact HQ.out _ _ rfl rfl rfl rfl rfl rfl rfl rfl (by go_num) HEND.out
set_option maxRecDepth 1000000 in
set_option maxHeartbeats 8000000 in
theorem bn2_exit (wr : World) (a : Go.Act) (hsz : a.tmps.size = 165) (hd : a.defers = []) (sa ha : Option Addr) (SL sc ob N oc sb lb M hc : Nat) (h8 : slot a 8 = .slice sa SL sc) (h10 : slot a 10 = .slice (some ⟨ob, 0, none⟩) N oc) (h13 : slot a 13 = .slice (some ⟨sb, 0, none⟩) N N) (h14 : slot a 14 = .slice (some ⟨lb, 0, none⟩) SL SL) (h56 : slot a 56 = .slice ha M hc) (h57 : slot a 57 = .int .i64 (M : Int)) (h58 : slot a 58 = .int .i64 (M : Int)) (hM : M ≤ 80) (Q : Exit → Go.Act → World → Prop)
    (hq : ∀ c : Go.Act, c.defers = [] → c.tmps.size = 165 → slot c 10 = .slice (some ⟨ob, 0, none⟩) N oc → slot c 14 = .slice (some ⟨lb, 0, none⟩) SL SL → Q (.exit 2) c wr) : Code.wp Tryd.prog bnB2 Q a wr := by
  have HQ := Lib.hid hq
  rw [frame165 a hsz hd, h8, h10, h13, h14, h56, h57, h58]
  clear hq h8 h10 h13 h14 h56 h57 h58 hsz hd
  conv => arg 2; whnf
  have h1 : ¬ (M : Int) < M := by omega
  go_wp2
  exact HQ.out _ rfl rfl rfl rfl
set_option maxRecDepth 1000000 in
set_option maxHeartbeats 8000000 in
theorem bn2_loop (w0 : World) (a : Go.Act) (hsz : a.tmps.size = 165) (hd : a.defers = []) (wa : World) (sa ha : Option Addr) (SL sc ob N oc sb lb M hc Z : Nat) (l : List HitP) (sh : List Nat) (bs : List (List UInt8)) (h8 : slot a 8 = .slice sa SL sc) (h10 : slot a 10 = .slice (some ⟨ob, 0, none⟩) N oc) (h13 : slot a 13 = .slice (some ⟨sb, 0, none⟩) N N) (h14 : slot a 14 = .slice (some ⟨lb, 0, none⟩) SL SL) (h56 : slot a 56 = .slice ha M hc) (h57 : slot a 57 = .int .i64 (M : Int)) (h58 : slot a 58 = .int .i64 0) (hM : M ≤ 80) (hN : N ≤ 1000) (h0N : 0 < N) (hS : SL ≤ 10) (h1S : 1 ≤ SL) (hsl : sh.length = SL) (hbl : bs.length = N) (hk : ∀ i k : Nat, sh[i]? = some k → k ≤ 1000) (hto : offN sh SL = N) (hZ : w0.heap.size = Z) (hsI : Is (fun _ => False) w0 (.slice sa SL sc) (sh.map fun k : Nat => (k : Int))) (hl : l.length = M) (hH : RdH w0 (.slice ha M hc) l) (hsb : Z ≤ sb) (hlb : Z ≤ lb) (hst : BOk w0 Z N oc ob sb lb sh bs wa) (Q : Exit → Go.Act → World → Prop)
    (hq : ∀ (c : Go.Act) (w' : World), c.defers = [] → c.tmps.size = 165 → slot c 10 = .slice (some ⟨ob, 0, none⟩) N oc → slot c 14 = .slice (some ⟨lb, 0, none⟩) SL SL → BOk w0 Z N oc ob sb lb sh bs w' → Q (.exit 2) c w') : Code.wp Tryd.prog (Code.loop bnB2) Q a wa := by
  refine wp_loop (fun a w => a.tmps.size = 165 ∧ a.defers = [] ∧ slot a 8 = .slice sa SL sc ∧ slot a 10 = .slice (some ⟨ob, 0, none⟩) N oc ∧ slot a 13 = .slice (some ⟨sb, 0, none⟩) N N ∧ slot a 14 = .slice (some ⟨lb, 0, none⟩) SL SL ∧ slot a 56 = .slice ha M hc ∧ slot a 57 = .int .i64 (M : Int) ∧ BOk w0 Z N oc ob sb lb sh bs w ∧ ∃ mi : Nat, mi ≤ M ∧ slot a 58 = .int .i64 (mi : Int)) (fun a _ => M - kN (slot a 58)) ⟨hsz, hd, h8, h10, h13, h14, h56, h57, hst, 0, by omega, h58⟩ ?_
  clear h8 h10 h13 h14 h56 h57 h58 hsz hd hst
  rintro a wr ⟨hsz, hd, h8, h10, h13, h14, h56, h57, hst, mi, hmi, h58⟩
  by_cases hm : mi < M
  · obtain ⟨x, hx⟩ : ∃ x, l[mi]? = some x := ⟨_, List.getElem?_eq_getElem (by omega)⟩
    have hfr : Fr [] w0 wr := by
      obtain ⟨_, _, _, _, _, _, h⟩ := hst
      exact h.fr
    obtain ⟨hbq, hoq, e, hxr⟩ := (hH.keep hfr).range mi x hx
    subst e
    refine bn2_round wr a hsz hd sa SL sc ob N oc sb lb M hc hbq hoq mi Z w0 x sh bs h8 h10 h13 h14 h56 h57 h58 hm hM hN h0N hS h1S hsl hbl hk hto hZ hsI hxr hsb hlb hst _ ?_
    intro c w1 kd ks q8 q10 q13 q14 q56 q57 q58 hst1
    refine ⟨⟨ks, kd, q8, q10, q13, q14, q56, q57, hst1, mi + 1, by omega, by rw [q58]; rfl⟩, ?_⟩
    rw [q58, h58]
    simp [kN]; omega
  · obtain rfl : mi = M := by omega
    refine bn2_exit wr a hsz hd sa ha SL sc ob N oc sb lb mi hc h8 h10 h13 h14 h56 h57 h58 hM _ ?_
    intro c kd ks q10 q14
    exact hq c wr kd ks q10 q14 hst
end Go.Proofs.YtmohiblgfmdkjaaDoor
namespace Go.Proofs.YtmohiblgfmdkjaaDoor
open Go.RowKit Go.Bl
set_option linter.unusedVariables false
noncomputable def bnB5 : Code := ((Tryd.f8.body.bind (findLoop 33)).getD .skip)
set_option maxRecDepth 1000000 in
set_option maxHeartbeats 8000000 in
theorem bn5_ok (wr : World) (a : Go.Act) (hsz : a.tmps.size = 165) (hd : a.defers = []) (ov : Value) (LL lc lb lo i v : Nat) (h10 : slot a 10 = ov) (h154 : slot a 154 = .slice (some ⟨lb, lo, none⟩) LL lc) (h155 : slot a 155 = .int .i64 (LL : Int)) (h156 : slot a 156 = .int .i64 (i : Int)) (hi : i < LL) (hL : LL ≤ 10) (hv : v ≤ 100000) (hc : wr.cell? ⟨lb, lo + i, none⟩ = some (.int .i64 (v : Int))) (h : v ≤ 32) (Q : Exit → Go.Act → World → Prop)
    (hq : ∀ c : Go.Act, c.defers = [] → c.tmps.size = 165 → slot c 10 = ov → slot c 154 = .slice (some ⟨lb, lo, none⟩) LL lc → slot c 155 = .int .i64 (LL : Int) → slot c 156 = .int .i64 ((i : Int) + 1) → Q .normal c wr) : Code.wp Tryd.prog bnB5 Q a wr := by
  have HQ := Lib.hid hq
  rw [frame165 a hsz hd, h10, h154, h155, h156]
  clear hq h10 h154 h155 h156 hsz hd
  conv => arg 2; whnf
  have h1 : (i : Int) < LL := by omega
  have h2 : ¬ (32 : Int) < v := by omega
  go_wp2
  exact HQ.out _ rfl rfl rfl rfl rfl (by go_num)
set_option maxRecDepth 1000000 in
set_option maxHeartbeats 8000000 in
theorem bn5_bad (wr : World) (a : Go.Act) (hsz : a.tmps.size = 165) (hd : a.defers = []) (ov : Value) (LL lc lb lo i v : Nat) (h10 : slot a 10 = ov) (h154 : slot a 154 = .slice (some ⟨lb, lo, none⟩) LL lc) (h155 : slot a 155 = .int .i64 (LL : Int)) (h156 : slot a 156 = .int .i64 (i : Int)) (hi : i < LL) (hL : LL ≤ 10) (hv : v ≤ 100000) (hc : wr.cell? ⟨lb, lo + i, none⟩ = some (.int .i64 (v : Int))) (h : 32 < v) (Q : Exit → Go.Act → World → Prop)
    (hr : ∀ c : Go.Act, c.defers = [] → c.tmps.size = 165 → slot c 6 = ov → slot c 7 = .bool false → Q .ret c wr) : Code.wp Tryd.prog bnB5 Q a wr := by
  have HR := Lib.hid hr
  rw [frame165 a hsz hd, h10, h154, h155, h156]
  clear hr h10 h154 h155 h156 hsz hd
  conv => arg 2; whnf
  have h1 : (i : Int) < LL := by omega
  have h2 : (32 : Int) < v := by omega
  go_wp2
  exact HR.out _ rfl rfl rfl rfl
set_option maxRecDepth 1000000 in
set_option maxHeartbeats 8000000 in
theorem bn5_exit (wr : World) (a : Go.Act) (hsz : a.tmps.size = 165) (hd : a.defers = []) (ov : Value) (la : Option Addr) (LL lc : Nat) (h10 : slot a 10 = ov) (h154 : slot a 154 = .slice la LL lc) (h155 : slot a 155 = .int .i64 (LL : Int)) (h156 : slot a 156 = .int .i64 (LL : Int))  (Q : Exit → Go.Act → World → Prop)
    (hq : ∀ c : Go.Act, c.defers = [] → c.tmps.size = 165 → slot c 10 = ov → Q (.exit 8) c wr) : Code.wp Tryd.prog bnB5 Q a wr := by
  have HQ := Lib.hid hq
  rw [frame165 a hsz hd, h10, h154, h155, h156]
  clear hq h10 h154 h155 h156 hsz hd
  conv => arg 2; whnf
  have h1 : ¬ (LL : Int) < LL := by omega
  go_wp2
  exact HQ.out _ rfl rfl rfl
set_option maxRecDepth 1000000 in
set_option maxHeartbeats 8000000 in
theorem bn5_loop (w5 : World) (a : Go.Act) (hsz : a.tmps.size = 165) (hd : a.defers = []) (ov : Value) (la : Option Addr) (LL lc : Nat) (load : List Nat) (h10 : slot a 10 = ov) (h154 : slot a 154 = .slice la LL lc) (h155 : slot a 155 = .int .i64 (LL : Int)) (h156 : slot a 156 = .int .i64 0) (hL : LL ≤ 10) (hl : load.length = LL) (hv : ∀ g v : Nat, load[g]? = some v → v ≤ 100000) (hI : Is (fun _ => False) w5 (.slice la LL lc) (load.map fun k : Nat => (k : Int))) (Q : Exit → Go.Act → World → Prop)
    (hq : ∀ c : Go.Act, c.defers = [] → c.tmps.size = 165 → slot c 10 = ov → (∀ g v : Nat, load[g]? = some v → v ≤ 32) → Q (.exit 8) c w5)
    (hr : ∀ c : Go.Act, c.defers = [] → c.tmps.size = 165 → slot c 6 = ov → slot c 7 = .bool false → Q .ret c w5) : Code.wp Tryd.prog (Code.loop bnB5) Q a w5 := by
  refine wp_loop (fun a w => w = w5 ∧ a.tmps.size = 165 ∧ a.defers = [] ∧ slot a 10 = ov ∧ slot a 154 = .slice la LL lc ∧ slot a 155 = .int .i64 (LL : Int) ∧ ∃ q : Nat, q ≤ LL ∧ slot a 156 = .int .i64 (q : Int) ∧ ∀ g v : Nat, g < q → load[g]? = some v → v ≤ 32) (fun a _ => LL - kN (slot a 156)) ⟨rfl, hsz, hd, h10, h154, h155, 0, by omega, h156, (fun g v h => absurd h (by omega))⟩ ?_
  clear h10 h154 h155 h156 hsz hd
  rintro a wr ⟨rfl, hsz, hd, h10, h154, h155, q, hqz, h156, hall⟩
  by_cases hqn : q < LL
  · obtain ⟨v, hx⟩ : ∃ v, load[q]? = some v := ⟨_, List.getElem?_eq_getElem (by omega)⟩
    have hvb := hv q v hx
    obtain ⟨lb, lo, e, hc⟩ := is_cellB hI q (v : Int) (by rw [List.getElem?_map, hx]; rfl)
    subst e
    by_cases h32 : v ≤ 32
    · refine bn5_ok wr a hsz hd ov LL lc lb lo q v h10 h154 h155 h156 hqn hL hvb hc h32 _ ?_
      intro c kd ks q10 q154 q155 q156
      refine ⟨⟨rfl, ks, kd, q10, q154, q155, q + 1, by omega, by rw [q156]; rfl, fun g v' hg hg2 => ?_⟩, ?_⟩
      · rcases Nat.lt_or_ge g q with h | h
        · exact hall g v' h hg2
        · obtain rfl : g = q := by omega
          rw [hx] at hg2
          cases hg2
          exact h32
      · rw [q156, h156]
        simp [kN]; omega
    · refine bn5_bad wr a hsz hd ov LL lc lb lo q v h10 h154 h155 h156 hqn hL hvb hc (by omega) _ ?_
      intro c kd ks q6 q7
      exact hr c kd ks q6 q7
  · obtain rfl : q = LL := by omega
    refine bn5_exit wr a hsz hd ov la q lc h10 h154 h155 h156 _ ?_
    intro c kd ks q10
    exact hq c kd ks q10 (fun g v hg => hall g v (by have := (List.getElem?_eq_some_iff.1 hg).1; omega) hg)
end Go.Proofs.YtmohiblgfmdkjaaDoor
namespace Go.Proofs.YtmohiblgfmdkjaaDoor
open Go.RowKit Go.Bl
set_option linter.unusedVariables false
theorem made_rep (z : Value) (n : Nat) : madeCells #[z] n = (List.replicate n z).toArray := by
  apply Array.ext
  · simp [madeCells]
  · intro i h1 h2
    simp [madeCells, Nat.mod_one]
theorem nat_is {w : World} {lb n : Nat} {load : List Nat} (h : At w lb (.cells (natC load) 3)) (hl : load.length = n) (hn : n ≤ 1000) : Is (fun _ => False) w (.slice (some ⟨lb, 0, none⟩) n n) (load.map fun k : Nat => (k : Int)) := by
  have e : (load.map fun k : Nat => (k : Int)).map iv = (natC load).toList := by
    unfold natC
    rw [List.map_map]
    rfl
  refine ⟨some ⟨lb, 0, none⟩, n, ?_, ?_, ?_, ?_⟩
  · rw [List.length_map, List.length_map, hl]
  · rw [List.length_map, List.length_map, hl]; exact Nat.le_refl _
  · unfold maxLen; omega
  · rw [e]
    exact Row.of_block h (by simp)
def bentP (w : World) (bs : List (List UInt8)) (sh : List Nat) (e : Ending) (w' : World) : Prop := ∃ (Z : Nat) (u : Value) (vs : List Value) (out : List (List UInt8)) (seen : List Bool) (load gs hs : List Nat) (ok : Bool), e = .returned (.tuple #[u, .bool ok]) ∧ OwnV 22 Z w' u vs ∧ Brw Z w' vs out ∧ BentI bs out sh seen load gs hs ∧ (ok = true → ∀ g v : Nat, load[g]? = some v → v ≤ 32) ∧ Fr [] w w'
set_option maxRecDepth 1000000 in
set_option maxHeartbeats 8000000 in
theorem bent_any (w : World) (v hv : Value) (ls : List (Value × List UInt8)) (bs : List (List UInt8)) (size : Int) (l : List HitP) (hr : RdB (fun _ => False) w v ls) (hls : ls.map (·.2) = bs) (h8 : ∀ b ∈ bs, b.length = 8) (h0 : 0 ≤ size) (h2 : size ≤ 2000) (hbl : offN (shZ size) (shZ size).length = bs.length) (hH : RdH w hv l) (hM : l.length ≤ 80) :
    Calls Tryd.prog 8 #[v, .int .i64 size, hv] w (bentP w bs (shZ size)) := by
  suffices H : ∀ Q : Ending → World → Prop, (∀ e w', bentP w bs (shZ size) e w' → Q e w') → Calls Tryd.prog 8 #[v, .int .i64 size, hv] w Q from H _ fun _ _ h => h
  intro Q hQ
  have HQ := Lib.hid hQ
  have HR := Lib.hid hr
  have HLS := Lib.hid hls
  have H8 := Lib.hid h8
  have HSHP := Lib.hid (rshape_ok w size h0 h2)
  have hmap := shZ_map size h2
  have hsl := shZ_len h2
  have hoff := shZ_off h2
  have HAT := Lib.hid (fun i k (h : (shZ size)[i]? = some k) => (show k ≤ 1000 from by have := (shZ_at h2 h).2; omega))
  have h33 : 32 ≤ offN (shZ size) (shZ size).length := by
    have e := offN_all (shZ size)
    omega
  obtain ⟨sh, hsh⟩ : ∃ s, shZ size = s := ⟨_, rfl⟩
  rw [hsh] at hmap hsl hoff HAT h33 hbl HQ
  obtain ⟨SL, hSL⟩ : ∃ n, sh.length = n := ⟨_, rfl⟩
  rw [hSL] at hsl hoff h33 hbl
  have HSL := Lib.hid hSL
  have HMAP := Lib.hid hmap
  obtain ⟨N, hN⟩ : ∃ n, bs.length = n := ⟨_, rfl⟩
  rw [hN] at hbl
  rw [hbl] at hoff h33
  have HN := Lib.hid hN
  have HOFF := Lib.hid hbl
  have hll : ls.length = N := by rw [← hN, ← hls, List.length_map]
  obtain ⟨va, vc, e, c2, c3⟩ := rdb_shape hr
  subst e
  rw [hll] at c2 HR ⊢
  obtain ⟨M, hMM⟩ : ∃ n, l.length = n := ⟨_, rfl⟩
  rw [hMM] at hM
  have HMM := Lib.hid hMM
  obtain ⟨ha, hc, e, d2, d3, -⟩ := id hH
  subst e
  rw [hMM] at d2 ⊢
  have HH := Lib.hid (show RdH w (.slice ha M hc) l by rw [← hMM]; exact hH)
  unfold maxLen at c3 d3
  have hN0 : 0 < N := by omega
  have hN1 : N ≤ 1000 := by omega
  have hnn : ¬ ((N : Int) = 0) := by omega
  obtain ⟨i0, hi, hz, hsz1, hby⟩ := info_bytes Tryd.infoBool
  obtain ⟨i1, hi1, hz1, hsz11, hby1⟩ := info_bytes Tryd.infoInt
  obtain ⟨hS1, hS2⟩ := hsl
  clear hQ hr hls h8 hmap hSL hN hbl hll hMM hH hsh hoff h33
  go_enter Tryd.func8, Tryd.ntmps8
  go_wp2_with (go_at_call 34; fail)
  refine HSHP.out.mono ?_
  rintro e w1 ⟨sv, rfl, hs, hf⟩
  have hs2 := hs.is (A := fun _ => False) (by simp)
  rw [← HMAP.out] at hs2
  obtain ⟨sa, sc, e, -⟩ := hs2.shape
  subst e
  rw [List.length_map, HSL.out] at hs2 ⊢
  have HIS := Lib.hid hs2
  have HF1 := Lib.hid hf
  have HR1 := Lib.hid (HR.out.keep hf (by simp))
  have HH1 := Lib.hid (HH.out.keep hf)
  have HO1 := Lib.hid (OwnV.lit 22 w1.heap.size w1 #[] (Nat.le_refl _) (by simp [maxLen]))
  have HFA := Lib.hid (show Fr [] w1 (w1.alloc (.cells #[] 22)) from Fr.alloc _ _)
  clear hs hs2 hf HSHP HR HH
  go_wp2
  refine bn1_loop w1 _ rfl rfl (w1.alloc (.cells #[] 22)) (.slice ha M hc) (.slice sa SL sc) (.slice (some ⟨w1.heap.size, 0, none⟩) 0 0) (.slice va N vc) N ls bs rfl rfl rfl rfl rfl rfl hN1 HN.out H8.out HR1.out HLS.out HFA.out HO1.out _ ?_
  intro c w2 ov vs kd ks q2 q8 q10 hf2 ho2 hb2
  have hvl : vs.length = N := by rw [hb2.len, HN.out]
  obtain ⟨ob, oc, e⟩ : ∃ ob oc, ov = .slice (some ⟨ob, 0, none⟩) N oc := by
    rcases ho2.2 with ⟨-, he⟩ | ⟨g, cap, cur, rfl, -⟩
    · omega
    · exact ⟨g, cap, by rw [hvl]⟩
  subst e
  have HF2 := Lib.hid hf2
  have HO2 := Lib.hid ho2
  have HB2 := Lib.hid hb2
  rw [frame165 c ks kd, q2, q8, q10]
  clear ks kd q2 q8 q10 hf2 ho2 hb2 hvl HO1 HFA HR1
  go_wp2_with (first | (refine wpList_make_row _ rfl (.tmp 51) (.tmp 51) 103 rfl 4 i0 (.bool false) Tryd.underlying103 hi hz hsz1 rfl .i64 .i64 N rfl rfl (by rw [hby]; omega) (by omega) ?_) | (refine wpList_make_row _ rfl (.tmp 54) (.tmp 54) 32 rfl 3 i1 (.int .i64 0) Tryd.underlying32 hi1 hz1 hsz11 rfl .i64 .i64 SL rfl rfl (by rw [hby1]; omega) (by omega) ?_))
  have f3 : Fr [] w2 (w2.alloc (.cells (madeCells #[.bool false] N) 4)) := Fr.alloc _ _
  have f4 : Fr [] (w2.alloc (.cells (madeCells #[.bool false] N) 4)) ((w2.alloc (.cells (madeCells #[.bool false] N) 4)).alloc (.cells (madeCells #[.int .i64 0] SL) 3)) := Fr.alloc _ _
  have hA3 : At (w2.alloc (.cells (madeCells #[.bool false] N) 4)) w2.heap.size (.cells (boolC (List.replicate N false)) 4) := by
    rw [made_rep]
    unfold boolC
    rw [List.map_replicate]
    exact At.new rfl
  have HA4 := Lib.hid (hA3.keep0 f4)
  have HL4 := Lib.hid (show At ((w2.alloc (.cells (madeCells #[.bool false] N) 4)).alloc (.cells (madeCells #[.int .i64 0] SL) 3)) (w2.heap.size + 1) (.cells (natC (List.replicate SL 0)) 3) by
    rw [made_rep (n := SL)]
    unfold natC
    rw [List.map_replicate]
    exact At.new (by simp))
  have hw2 := HF2.out.size
  have HST := Lib.hid (show BOk w1 w1.heap.size N oc ob w2.heap.size (w2.heap.size + 1) sh bs ((w2.alloc (.cells (madeCells #[.bool false] N) 4)).alloc (.cells (madeCells #[.int .i64 0] SL) 3)) from
    ⟨vs, bs, List.replicate N false, List.replicate SL 0, [], [], (HF2.out.trans f3).trans f4, HO2.out.keep0 (f3.trans f4), HB2.out.keep0 (f3.trans f4), HA4.out, HL4.out, by rw [← HN.out, ← HSL.out]; exact BentI.start H8.out⟩)
  clear f3 f4 hA3 HA4 HL4 HO2 HB2 HF2 hi hz hsz1 hby hi1 hz1 hsz11 hby1
  go_wp2
  refine bn2_loop w1 _ rfl rfl _ sa ha SL sc ob N oc w2.heap.size (w2.heap.size + 1) M hc w1.heap.size l sh bs rfl rfl rfl rfl rfl rfl rfl hM hN1 hN0 (by omega) hS1 HSL.out HN.out HAT.out HOFF.out rfl HIS.out HMM.out HH1.out hw2 (by omega) HST.out _ ?_
  intro c w5 kd ks q10 q14 hst
  obtain ⟨vs5, out, seen, load, gs, hs, hst⟩ := hst
  have HT := Lib.hid hst
  rw [frame165 c ks kd, q10, q14]
  clear ks kd q10 q14 hst HST HIS HH1
  have HLL := Lib.hid (show load.length = SL by rw [HT.out.bi.ll, HSL.out])
  go_wp2
  refine bn5_loop w5 _ rfl rfl (.slice (some ⟨ob, 0, none⟩) N oc) (some ⟨w2.heap.size + 1, 0, none⟩) SL SL load rfl rfl rfl rfl (by omega) HLL.out (fun g v h => by have := HT.out.bi.load_le h; rw [HN.out] at this; omega) (nat_is HT.out.ld HLL.out (by omega)) _ ?_ ?_
  · intro c kd ks q10 hall
    rw [frame165 c ks kd, q10]
    have HALL := Lib.hid hall
    clear ks kd q10 hall
    go_wp2
    exact HQ.out _ _ ⟨_, _, vs5, out, seen, load, gs, hs, true, rfl, HT.out.ov, HT.out.br, HT.out.bi, fun _ => HALL.out, HF1.out.trans HT.out.fr⟩
  · intro c kd ks q6 q7
    rw [frame165 c ks kd, q6, q7]
    clear ks kd q6 q7
    go_wp2
    exact HQ.out _ _ ⟨_, _, vs5, out, seen, load, gs, hs, false, rfl, HT.out.ov, HT.out.br, HT.out.bi, (fun h => by cases h), HF1.out.trans HT.out.fr⟩
end Go.Proofs.YtmohiblgfmdkjaaDoor
