/-
  Layer 22, the law's Of: a path is copied. (printed by genof.py)
  Layer 22, the law's Of: all that is shown is copied. (printed by genof.py)
  Layer 22, the law's Of, walked. (printed by genof.py)
-/
import Derived.Test.YtmohiblgfmdkjaaDoorLtr
import Derived.Test.YtmohiblgfmdkjaaDoorGB
import Derived.Test.YtmohiblgfmdkjaaDoorBs0
namespace Go.Proofs.YtmohiblgfmdkjaaDoor
open Go.RowKit Go.Bl
set_option linter.unusedVariables false
set_option maxRecDepth 100000 in
theorem frame60 (a : Go.Act) (hs : a.tmps.size = 60) (hd : a.defers = []) : a = ⟨(slot a 0 :: slot a 1 :: slot a 2 :: slot a 3 :: slot a 4 :: slot a 5 :: slot a 6 :: slot a 7 :: slot a 8 :: slot a 9 :: slot a 10 :: slot a 11 :: slot a 12 :: slot a 13 :: slot a 14 :: slot a 15 :: slot a 16 :: slot a 17 :: slot a 18 :: slot a 19 :: slot a 20 :: slot a 21 :: slot a 22 :: slot a 23 :: slot a 24 :: slot a 25 :: slot a 26 :: slot a 27 :: slot a 28 :: slot a 29 :: slot a 30 :: slot a 31 :: slot a 32 :: slot a 33 :: slot a 34 :: slot a 35 :: slot a 36 :: slot a 37 :: slot a 38 :: slot a 39 :: slot a 40 :: slot a 41 :: slot a 42 :: slot a 43 :: slot a 44 :: slot a 45 :: slot a 46 :: slot a 47 :: slot a 48 :: slot a 49 :: slot a 50 :: slot a 51 :: slot a 52 :: slot a 53 :: slot a 54 :: slot a 55 :: slot a 56 :: slot a 57 :: slot a 58 :: slot a 59 :: []).toArray, []⟩ := frameX a 60 hs hd
theorem own_neK {e te : TypeId} {base s : Nat} {w : World} {v : Value} {rs : List (List Value)} (h : OwnK e base s w v rs) {b : Nat} {c : Array Value} {fz : Nat × Nat} (hb : w.heap[b]? = some (.cells c te fz)) (hne : te ≠ e) : v.ownBlock ≠ some b := own_neT h.1 hb hne
theorem Tryd.infoArr : (Tryd.prog.info? 64).map (fun i => (i.zero, i.size, i.bytes)) = some (some (.agg (List.replicate 32 (Value.int .u8 0)).toArray), 32, 32) := by kernel_rfl
theorem digC_len {d : List UInt8} (h : d.length = 32) : (digC d).length = 32 := by simp [digC, h]
theorem digC_one (d : List UInt8) : ∀ u ∈ digC d, u.oneCell' = true := u8v_one d
theorem digC_all (d : List UInt8) : (digC d).toArray.all (·.oneCell') = true := by
  rw [List.all_toArray]
  exact List.all_eq_true.2 (digC_one d)
noncomputable def ofB2 : Code := ((Tryd.f14.body.bind (findLoop 7)).getD .skip)
set_option maxRecDepth 1000000 in
set_option maxHeartbeats 8000000 in
theorem of2_round (wr : World) (a : Go.Act) (hsz : a.tmps.size = 60) (hd : a.defers = []) (p1 p2 p3 v27 v28 v29 : Value) (tb DN dc : Nat) (db dof j Z : Nat) (w0 : World) (pl : Int) (svv pv : Value) (rs : List (List Value)) (r : List UInt8) (h1 : slot a 1 = p1) (h2 : slot a 2 = p2) (h3 : slot a 3 = p3) (h6 : slot a 6 = .pointer (some ⟨tb, 0, none⟩)) (h27 : slot a 27 = v27) (h28 : slot a 28 = v28) (h29 : slot a 29 = v29) (h39 : slot a 39 = .slice (some ⟨db, dof, none⟩) DN dc) (h40 : slot a 40 = .int .i64 (DN : Int)) (h41 : slot a 41 = .int .i64 (j : Int)) (hj : j < DN) (hD : DN ≤ 1000) (hr : r.length = 32) (hrl : rs.length = j) (hrg : wr.rangeAt db (dof + j * 32) (digC r)) (hZ : w0.heap.size = Z) (hf : Fr [] w0 wr) (htZ : Z ≤ tb) (ht : At wr tb (.cells #[.int .i64 pl, svv, pv] 122)) (ho : OwnK 64 Z 32 wr pv rs) (Q : Exit → Go.Act → World → Prop)
    (hq : ∀ (c : Go.Act) (w' : World) (pv' : Value), c.defers = [] → c.tmps.size = 60 → slot c 1 = p1 → slot c 2 = p2 → slot c 3 = p3 → slot c 6 = .pointer (some ⟨tb, 0, none⟩) → slot c 27 = v27 → slot c 28 = v28 → slot c 29 = v29 → slot c 39 = .slice (some ⟨db, dof, none⟩) DN dc → slot c 40 = .int .i64 (DN : Int) → slot c 41 = .int .i64 ((j : Int) + 1) → Fr [] w0 w' → At w' tb (.cells #[.int .i64 pl, svv, pv'] 122) → OwnK 64 Z 32 w' pv' (rs ++ [digC r]) → Q .normal c w') : Code.wp Tryd.prog ofB2 Q a wr := by
  have HQ := Lib.hid hq
  rw [frame60 a hsz hd, h1, h2, h3, h6, h27, h28, h29, h39, h40, h41]
  clear hq h1 h2 h3 h6 h27 h28 h29 h39 h40 h41 hsz hd
  conv => arg 2; whnf
  have hji : (j : Int) < DN := by omega
  obtain ⟨va, vcap, e⟩ := ho.shape
  subst e
  rw [hrl] at ho ht
  obtain ⟨D, hD_⟩ : ∃ D, digC r = D := ⟨_, rfl⟩
  have hDl := digC_len hr
  have hD1 := digC_one r
  have hDa := digC_all r
  rw [hD_] at hDl hD1 hDa HQ hrg
  have HRG := Lib.hid hrg
  have HDL := Lib.hid hDl
  have HD1 := Lib.hid hD1
  have HDA := Lib.hid hDa
  have HSZ := Lib.hid (show (Tryd.prog.info? 65).map (·.size) = some D.toArray.size by rw [List.size_toArray, hDl]; kernel_rfl)
  have HSL := Lib.hid (show (Tryd.prog.info? 65).map (·.size) = some D.length by rw [hDl]; kernel_rfl)
  have HSA := Lib.hid (show (Tryd.prog.info? 64).map (·.size) = some D.length by rw [hDl]; kernel_rfl)
  have H32 := Lib.hid (show 32 = D.toArray.size by rw [List.size_toArray, hDl])
  have HRL := Lib.hid hrl
  have HZ := Lib.hid hZ
  have HF := Lib.hid hf
  have HT := Lib.hid ht
  have HO := Lib.hid ho
  have f1 : Fr [] wr (wr.alloc (.cells D.toArray 65)) := Fr.alloc _ _
  have f2 : Fr [] (wr.alloc (.cells D.toArray 65)) ((wr.alloc (.cells D.toArray 65)).alloc (.cells D.toArray 64)) := Fr.alloc _ _
  have HB8 := Lib.hid (range_of (At.new rfl : At (wr.alloc (.cells D.toArray 65)) wr.heap.size (.cells D.toArray 65)))
  have ct : (wr.alloc (.cells D.toArray 65)).cell? ⟨tb, 2, none⟩ = some (.slice va j vcap) := by rw [(ht.keep0 f1).cell 2]; rfl
  have HO2 := Lib.hid (ho.keep0 (f1.trans f2))
  have HT2 := Lib.hid (ht.keep0 (f1.trans f2))
  have HF2 := Lib.hid (hf.trans (f1.trans f2))
  have HL2 := Lib.hid (show ((wr.alloc (.cells D.toArray 65)).alloc (.cells D.toArray 64)).heap[(wr.alloc (.cells D.toArray 65)).heap.size]? = some (.cells D.toArray 64 (0, 0)) from heap_alloc_at rfl)
  have hs2 : Z ≤ ((wr.alloc (.cells D.toArray 65)).alloc (.cells D.toArray 64)).heap.size := by have := HF2.out.size; omega
  clear hr hD_ hDl hD1 hDa hrg hrl hZ hf ht ho f1 f2
  go_wp2_with (first | (refine wpl_load_k (.tmp 43) rfl rfl db (dof + j * 32) D rfl HRG.out Tryd.underlying65 rfl HSL.out ?_) | (refine wpl_store_new (.tmp 8) (.tmp 44) rfl rfl D.toArray rfl rfl HSZ.out H32.out HDA.out ?_) | (refine wpl_load_k (.tmp 8) rfl rfl wr.heap.size 0 D rfl HB8.out Tryd.underlying65 rfl HSL.out ?_) | (refine wpl_build_k Tryd.underlying120 Tryd.infoArr (by decide) (by decide) rfl (.tmp 47) rfl D rfl HDL.out ?_) | (at_builtin; refine wpl_append_k Tryd.underlying120 Tryd.infoArr rfl (by decide) rfl (.tmp 46) (.tmp 48) rfl rfl rfl HL2.out HDL.out HD1.out HO2.out (by have := HRL.out; omega) (by have := HRL.out; unfold maxLen; omega) hs2 ?_))
  intro v3 w3 h3 h4
  have HT3 := Lib.hid (HT2.out.grown h4 (own_neK HO2.out HT2.out (by decide)))
  have HO3 := Lib.hid h3
  have HF3 := Lib.hid (show Fr [] w0 w3 from OwnK.fr HF2.out HO2.out h4 (by have := HZ.out; omega))
  have HONE := Lib.hid (show v3.oneCell' = true by obtain ⟨a, c, e⟩ := h3.shape; rw [e]; rfl)
  clear h3 h4 ct HO2 HT2 HF2 HL2 HB8 hs2
  go_wp2_with (refine wpl_store_one (.tmp 50) (.tmp 49) rfl rfl v3 rfl rfl HT3.out (by simp) (by kernel_rfl) HONE.out ?_)
  intro w4 f4 a4 s4
  have HT4 := Lib.hid (show At w4 tb (.cells #[.int .i64 pl, svv, v3] 122) from a4)
  have HO4 := Lib.hid (HO3.out.keep f4 (fun g hg hm => by
    simp only [List.mem_singleton] at hm
    subst hm
    exact own_neK HO3.out HT3.out (by decide) hg))
  have HF4 := Lib.hid (HF3.out.then f4 (by intro b hb; simp at hb; subst hb; exact .inr (by have := HZ.out; omega)))
  clear f4 a4 s4 HT3 HO3 HF3 HONE
  go_wp2
  exact HQ.out _ _ _ rfl rfl rfl rfl rfl rfl rfl rfl rfl rfl rfl (by go_num) HF4.out HT4.out HO4.out
set_option maxRecDepth 1000000 in
set_option maxHeartbeats 8000000 in
theorem of2_exit (wr : World) (a : Go.Act) (hsz : a.tmps.size = 60) (hd : a.defers = []) (p1 p2 p3 v27 v28 v29 : Value) (tb DN dc : Nat) (da : Option Addr) (h1 : slot a 1 = p1) (h2 : slot a 2 = p2) (h3 : slot a 3 = p3) (h6 : slot a 6 = .pointer (some ⟨tb, 0, none⟩)) (h27 : slot a 27 = v27) (h28 : slot a 28 = v28) (h29 : slot a 29 = v29) (h39 : slot a 39 = .slice da DN dc) (h40 : slot a 40 = .int .i64 (DN : Int)) (h41 : slot a 41 = .int .i64 (DN : Int)) (hD : DN ≤ 1000) (Q : Exit → Go.Act → World → Prop)
    (hq : ∀ c : Go.Act, c.defers = [] → c.tmps.size = 60 → slot c 1 = p1 → slot c 2 = p2 → slot c 3 = p3 → slot c 6 = .pointer (some ⟨tb, 0, none⟩) → slot c 27 = v27 → slot c 28 = v28 → slot c 29 = v29 → Q (.exit 2) c wr) : Code.wp Tryd.prog ofB2 Q a wr := by
  have HQ := Lib.hid hq
  rw [frame60 a hsz hd, h1, h2, h3, h6, h27, h28, h29, h39, h40, h41]
  clear hq h1 h2 h3 h6 h27 h28 h29 h39 h40 h41 hsz hd
  conv => arg 2; whnf
  have h1 : ¬ (DN : Int) < DN := by omega
  go_wp2
  exact HQ.out _ rfl rfl rfl rfl rfl rfl rfl rfl rfl
set_option maxRecDepth 1000000 in
set_option maxHeartbeats 8000000 in
theorem of2_loop (w0 : World) (a : Go.Act) (hsz : a.tmps.size = 60) (hd : a.defers = []) (wa : World) (p1 p2 p3 v27 v28 v29 : Value) (tb DN dc : Nat) (da : Option Addr) (Z : Nat) (pl : Int) (svv : Value) (ds : List (List UInt8)) (h1 : slot a 1 = p1) (h2 : slot a 2 = p2) (h3 : slot a 3 = p3) (h6 : slot a 6 = .pointer (some ⟨tb, 0, none⟩)) (h27 : slot a 27 = v27) (h28 : slot a 28 = v28) (h29 : slot a 29 = v29) (h39 : slot a 39 = .slice da DN dc) (h40 : slot a 40 = .int .i64 (DN : Int)) (h41 : slot a 41 = .int .i64 0) (hD : DN ≤ 1000) (hl : ds.length = DN) (h32 : ∀ d ∈ ds, d.length = 32) (hr : RdK (fun _ => False) 32 w0 (.slice da DN dc) (ds.map digC)) (hZ : w0.heap.size = Z) (hf0 : Fr [] w0 wa) (htZ : Z ≤ tb) (ht : At wa tb (.cells #[.int .i64 pl, svv, .slice none 0 0] 122)) (Q : Exit → Go.Act → World → Prop)
    (hq : ∀ (c : Go.Act) (w' : World) (pv : Value), c.defers = [] → c.tmps.size = 60 → slot c 1 = p1 → slot c 2 = p2 → slot c 3 = p3 → slot c 6 = .pointer (some ⟨tb, 0, none⟩) → slot c 27 = v27 → slot c 28 = v28 → slot c 29 = v29 → Fr [] w0 w' → At w' tb (.cells #[.int .i64 pl, svv, pv] 122) → OwnK 64 Z 32 w' pv (ds.map digC) → Q (.exit 2) c w') : Code.wp Tryd.prog (Code.loop ofB2) Q a wa := by
  refine wp_loop (fun a w => a.tmps.size = 60 ∧ a.defers = [] ∧ slot a 1 = p1 ∧ slot a 2 = p2 ∧ slot a 3 = p3 ∧ slot a 6 = .pointer (some ⟨tb, 0, none⟩) ∧ slot a 27 = v27 ∧ slot a 28 = v28 ∧ slot a 29 = v29 ∧ slot a 39 = .slice da DN dc ∧ slot a 40 = .int .i64 (DN : Int) ∧ Fr [] w0 w ∧ ∃ (j : Nat) (pv : Value), j ≤ DN ∧ slot a 41 = .int .i64 (j : Int) ∧ At w tb (.cells #[.int .i64 pl, svv, pv] 122) ∧ OwnK 64 Z 32 w pv ((ds.take j).map digC)) (fun a _ => DN - kN (slot a 41)) ⟨hsz, hd, h1, h2, h3, h6, h27, h28, h29, h39, h40, hf0, 0, _, by omega, h41, ht, OwnK.nil _ _ _ _⟩ ?_
  clear h1 h2 h3 h6 h27 h28 h29 h39 h40 h41 hsz hd hf0 ht
  rintro a wr ⟨hsz, hd, h1, h2, h3, h6, h27, h28, h29, h39, h40, hf, j, pv, hj, h41, ht, ho⟩
  by_cases hjD : j < DN
  · obtain ⟨d, hx⟩ : ∃ d, ds[j]? = some d := ⟨_, List.getElem?_eq_getElem (by omega)⟩
    obtain ⟨db, dof, e, -, hrg⟩ := (hr.keep0 hf).range (by decide) j (digC d) (by rw [List.getElem?_map, hx]; rfl)
    subst e
    refine of2_round wr a hsz hd p1 p2 p3 v27 v28 v29 tb DN dc db dof j Z w0 pl svv pv _ d h1 h2 h3 h6 h27 h28 h29 h39 h40 h41 hjD hD (h32 d (List.mem_of_getElem? hx)) (by rw [List.length_map, List.length_take]; omega) hrg hZ hf htZ ht ho _ ?_
    intro c w1 pv' kd ks q1 q2 q3 q6 q27 q28 q29 q39 q40 q41 hf1 ht1 ho1
    refine ⟨⟨ks, kd, q1, q2, q3, q6, q27, q28, q29, q39, q40, hf1, j + 1, pv', by omega, by rw [q41]; rfl, ht1, ?_⟩, ?_⟩
    · rw [List.take_add_one, hx, List.map_append]
      exact ho1
    · rw [q41, h41]
      simp [kN]; omega
  · obtain rfl : j = DN := by omega
    refine of2_exit wr a hsz hd p1 p2 p3 v27 v28 v29 tb j dc da h1 h2 h3 h6 h27 h28 h29 h39 h40 h41 hD _ ?_
    intro c kd ks q1 q2 q3 q6 q27 q28 q29
    rw [List.take_of_length_le (by omega)] at ho
    exact hq c wr pv kd ks q1 q2 q3 q6 q27 q28 q29 hf ht ho
end Go.Proofs.YtmohiblgfmdkjaaDoor
namespace Go.Proofs.YtmohiblgfmdkjaaDoor
open Go.RowKit Go.Bl
set_option linter.unusedVariables false
/-- what has been copied -/
structure OfI (Z : Nat) (w : World) (l l' : List ShV) (k : Nat) : Prop where
  len : l'.length = k
  p : ∀ (i : Nat) x y, l'[i]? = some x → l[i]? = some y → x.p = y.p ∧ x.sv = y.sv
  own : ∀ x ∈ l', OwnK 64 Z 32 w x.pv (x.p.path.map digC)
theorem OfI.keep {Z : Nat} {w w' : World} {l l' : List ShV} {k : Nat} (h : OfI Z w l l' k) (hf : Fr [] w w') : OfI Z w' l l' k := ⟨h.len, h.p, fun x hx => (h.own x hx).keep0 hf⟩
theorem OfI.grown {Z : Nat} {w w' : World} {l l' : List ShV} {k : Nat} {base s : Nat} {o : Value} {rs : List (List Value)} (h : OfI Z w l l' k) (ho : OwnK 122 base s w o rs) (hg : w.grownBy w' o.ownBlock) : OfI Z w' l l' k := ⟨h.len, h.p, fun x hx => (h.own x hx).keep (Fr.grown (S := o.ownBlock.toList) hg fun k hk => by simp [hk]) fun g hg' hm => by
  rcases ho.1.2 with ⟨rfl, -⟩ | ⟨q, cap, cur, rfl, -, hh, -⟩
  · simp [Value.ownBlock] at hm
  · simp only [Value.ownBlock, Option.toList_some, List.mem_singleton] at hm
    subst hm
    exact own_neK (h.own x hx) hh (by decide) hg'⟩
theorem OfI.store {Z : Nat} {w w' : World} {l l' : List ShV} {k b : Nat} {c : Array Value} (h : OfI Z w l l' k) (hf : Fr [b] w w') (hb : At w b (.cells c 55)) : OfI Z w' l l' k := ⟨h.len, h.p, fun x hx => (h.own x hx).keep hf fun g hg hm => by
  simp only [List.mem_singleton] at hm
  subst hm
  exact own_neK (h.own x hx) hb (by decide) hg⟩
theorem OfI.snoc {Z : Nat} {w : World} {l l' : List ShV} {k : Nat} (h : OfI Z w l l' k) {x y : ShV} (hy : l[k]? = some y) (hp : x.p = y.p) (hs : x.sv = y.sv) (ho : OwnK 64 Z 32 w x.pv (x.p.path.map digC)) : OfI Z w l (l' ++ [x]) (k + 1) := by
  refine ⟨by simp [h.len], fun i a b ha hb => ?_, fun a ha => ?_⟩
  · rcases Nat.lt_or_ge i l'.length with hi | hi
    · rw [List.getElem?_append_left hi] at ha
      exact h.p i a b ha hb
    · rw [List.getElem?_append_right hi] at ha
      have : i - l'.length = 0 := by have := (List.getElem?_eq_some_iff.1 ha).1; simp at this; omega
      rw [this] at ha
      simp at ha
      subst ha
      have hik : i = k := by have := h.len; omega
      subst hik
      rw [hy] at hb
      cases hb
      exact ⟨hp, hs⟩
  · rcases List.mem_append.1 ha with ha | ha
    · exact h.own a ha
    · simp at ha; subst ha; exact ho
theorem Tryd.infoRsh : (Tryd.prog.info? 122).map (fun i => (i.zero, i.size, i.bytes)) = some (some (.agg #[.int .i64 0, .slice none 0 0, .slice none 0 0]), 3, 56) := by kernel_rfl
noncomputable def ofB1 : Code := ((Tryd.f14.body.bind (findLoop 3)).getD .skip)
set_option maxRecDepth 1000000 in
set_option maxHeartbeats 8000000 in
theorem of1_round (wr : World) (a : Go.Act) (hsz : a.tmps.size = 60) (hd : a.defers = []) (p1 p2 : Value) (wb xb xo SN sc k Z : Nat) (w0 : World) (kd id ob fr co cd : Int) (pa ba : Option Addr) (PN pc BN bc : Nat) (svv : Value) (l l1 : List ShV) (x : ShV) (h1 : slot a 1 = p1) (h2 : slot a 2 = p2) (h3 : slot a 3 = .pointer (some ⟨wb, 0, none⟩)) (h27 : slot a 27 = .slice (some ⟨xb, xo, none⟩) SN sc) (h28 : slot a 28 = .int .i64 (SN : Int)) (h29 : slot a 29 = .int .i64 (k : Int)) (hk : k < SN) (hSN : SN ≤ 30) (hx : l[k]? = some x) (hrg : wr.rangeAt xb (xo + k * 3) (shC x)) (hs1 : Bs (fun _ => False) w0 x.sv x.p.stored) (hs2 : RdK (fun _ => False) 32 w0 x.pv (x.p.path.map digC)) (h32 : ∀ d ∈ x.p.path, d.length = 32) (hpl : x.p.path.length ≤ 40) (hZ : w0.heap.size = Z) (hf : Fr [] w0 wr) (hwb : Z ≤ wb) (ht : At wr wb (.cells #[.int .i64 kd, .int .i64 id, .int .i64 ob, .slice pa PN pc, svv, .int .i64 fr, .int .i64 co, .slice ba BN bc, .int .i64 cd] 55)) (ho : OwnK 122 Z 3 wr svv (l1.map shC)) (hI : OfI Z wr l l1 k) (Q : Exit → Go.Act → World → Prop)
    (hq : ∀ (c : Go.Act) (w' : World) (svv' : Value) (x' : ShV), c.defers = [] → c.tmps.size = 60 → slot c 1 = p1 → slot c 2 = p2 → slot c 3 = .pointer (some ⟨wb, 0, none⟩) → slot c 27 = .slice (some ⟨xb, xo, none⟩) SN sc → slot c 28 = .int .i64 (SN : Int) → slot c 29 = .int .i64 ((k : Int) + 1) → Fr [] w0 w' → At w' wb (.cells #[.int .i64 kd, .int .i64 id, .int .i64 ob, .slice pa PN pc, svv', .int .i64 fr, .int .i64 co, .slice ba BN bc, .int .i64 cd] 55) → OwnK 122 Z 3 w' svv' ((l1 ++ [x']).map shC) → OfI Z w' l (l1 ++ [x']) (k + 1) → Q .normal c w') : Code.wp Tryd.prog ofB1 Q a wr := by
  have HQ := Lib.hid hq
  rw [frame60 a hsz hd, h1, h2, h3, h27, h28, h29]
  clear hq h1 h2 h3 h27 h28 h29 hsz hd
  conv => arg 2; whnf
  have hki : (k : Int) < SN := by omega
  obtain ⟨ka, kc, e⟩ := ho.shape
  rw [List.length_map, hI.len] at e
  subst e
  obtain ⟨ta, tc, e1, -⟩ := hs1
  obtain ⟨ua, uc, e2, -⟩ := hs2.shape
  rw [List.length_map] at e2
  obtain ⟨XN, hXN⟩ : ∃ n, x.p.stored.length = n := ⟨_, rfl⟩
  obtain ⟨YN, hYN⟩ : ∃ n, x.p.path.length = n := ⟨_, rfl⟩
  obtain ⟨XP, hXP⟩ : ∃ n, x.p.place = n := ⟨_, rfl⟩
  rw [hXN] at e1
  rw [hYN] at e2 hpl
  have HRG := Lib.hid (show wr.rangeAt xb (xo + k * 3) [.int .i64 XP, .slice ta XN tc, .slice ua YN uc] by
    have h := hrg
    unfold shC at h
    rwa [e1, e2, hXP] at h)
  have hs2r := hs2.keep0 hf
  rw [e2] at hs2r
  have HS2 := Lib.hid hs2r
  have HX := Lib.hid hx
  have HE := Lib.hid (And.intro e1 (And.intro hXP hYN))
  have H32 := Lib.hid h32
  have HZ := Lib.hid hZ
  have HF := Lib.hid hf
  have HT := Lib.hid ht
  have HO := Lib.hid ho
  have HI := Lib.hid hI
  have f1 : Fr [] wr (wr.alloc (.cells #[.int .i64 XP, .slice ta XN tc, .slice ua YN uc] 114)) := Fr.alloc _ _
  have f2 : Fr [] (wr.alloc (.cells #[.int .i64 XP, .slice ta XN tc, .slice ua YN uc] 114)) ((wr.alloc (.cells #[.int .i64 XP, .slice ta XN tc, .slice ua YN uc] 114)).alloc (.cells #[.int .i64 XP, .slice ta XN tc, .slice none 0 0] 122)) := Fr.alloc _ _
  have HF2 := Lib.hid (f1.trans f2)
  have HTB := Lib.hid (show At ((wr.alloc (.cells #[.int .i64 XP, .slice ta XN tc, .slice ua YN uc] 114)).alloc (.cells #[.int .i64 XP, .slice ta XN tc, .slice none 0 0] 122)) (wr.heap.size + 1) (.cells #[.int .i64 XP, .slice ta XN tc, .slice none 0 0] 122) from At.new (by simp))
  clear hx hrg hs2 e1 e2 hXN hYN hXP h32 hZ hf ht ho hI f1 f2 hs2r
  go_wp2_with (first | (refine wpl_load_k (.tmp 31) rfl rfl xb (xo + k * 3) [.int .i64 XP, .slice ta XN tc, .slice ua YN uc] rfl HRG.out Tryd.underlying114 rfl (by kernel_rfl) ?_) | (refine wpl_store_new (.tmp 5) (.tmp 32) rfl rfl #[.int .i64 XP, .slice ta XN tc, .slice ua YN uc] rfl rfl (by kernel_rfl) rfl (by rfl) ?_) | (refine wpl_store_new (.tmp 6) (.tmp 37) rfl rfl #[.int .i64 XP, .slice ta XN tc, .slice none 0 0] rfl rfl (by kernel_rfl) rfl (by rfl) ?_))
  refine of2_loop wr _ rfl rfl _ p1 p2 (.pointer (some ⟨wb, 0, none⟩)) (.slice (some ⟨xb, xo, none⟩) SN sc) (.int .i64 (SN : Int)) (.int .i64 (k : Int)) (wr.heap.size + 1) YN uc ua wr.heap.size XP (.slice ta XN tc) x.p.path rfl rfl rfl (by first | rfl | simp) rfl rfl rfl rfl rfl rfl (by omega) HE.out.2.2 H32.out HS2.out rfl HF2.out (by omega) HTB.out _ ?_
  intro c w3 pv kd ks q1 q2 q3 q6 q27 q28 q29 hf3 ht3 ho3
  obtain ⟨va, vcap, e⟩ := ho3.shape
  rw [List.length_map, HE.out.2.2] at e
  subst e
  rw [frame60 c ks kd, q1, q2, q3, q6, q27, q28, q29]
  clear ks kd q1 q2 q3 q6 q27 q28 q29 HF2 HTB HRG
  obtain ⟨WR, hWR⟩ : ∃ n, wr.heap.size = n := ⟨_, rfl⟩
  have HWR := Lib.hid hWR
  rw [hWR] at ht3 ho3 ⊢
  have HW0 := Lib.hid (show Z ≤ WR by have := HF.out.size; have := HZ.out; omega)
  have HF3 := Lib.hid (HF.out.trans hf3)
  have HT3 := Lib.hid (HT.out.keep0 hf3)
  have HO3 := Lib.hid (HO.out.keep0 hf3)
  have HI3 := Lib.hid (HI.out.keep hf3)
  have HP3 := Lib.hid (show OwnK 64 Z 32 w3 (.slice va YN vcap) (x.p.path.map digC) from ho3.base HW0.out)
  have HRB := Lib.hid (range_of (c := [.int .i64 XP, .slice ta XN tc, .slice va YN vcap]) ht3)
  have c4 := HT3.out.cell 4
  simp only [List.getElem?_toArray, List.getElem?_cons_succ, List.getElem?_cons_zero] at c4
  have f4 : Fr [] w3 (w3.alloc (.cells ([.int .i64 XP, .slice ta XN tc, .slice va YN vcap] : List Value).toArray 122)) := Fr.alloc _ _
  have HO4 := Lib.hid (HO3.out.keep0 f4)
  have HT4 := Lib.hid (HT3.out.keep0 f4)
  have HI4 := Lib.hid (HI3.out.keep f4)
  have HP4 := Lib.hid (HP3.out.keep0 f4)
  have HF4 := Lib.hid (HF3.out.trans f4)
  have HL4 := Lib.hid (show (w3.alloc (.cells ([.int .i64 XP, .slice ta XN tc, .slice va YN vcap] : List Value).toArray 122)).heap[w3.heap.size]? = some (.cells ([.int .i64 XP, .slice ta XN tc, .slice va YN vcap] : List Value).toArray 122 (0, 0)) from heap_alloc_at rfl)
  have HON := Lib.hid (show ∀ u ∈ ([.int .i64 XP, .slice ta XN tc, .slice va YN vcap] : List Value), u.oneCell' = true from fun u hu => by
    simp only [List.mem_cons, List.not_mem_nil, or_false] at hu
    rcases hu with rfl | rfl | rfl <;> rfl)
  have hs4 : Z ≤ (w3.alloc (.cells ([.int .i64 XP, .slice ta XN tc, .slice va YN vcap] : List Value).toArray 122)).heap.size := by have := HF4.out.size; have := HZ.out; omega
  have HLL := Lib.hid (show (l1.map shC).length = k by rw [List.length_map, HI.out.len])
  clear hf3 ht3 ho3 hWR f4 HF HT HO HI HS2
  go_wp2_with (first | (refine wpl_load_k (.tmp 6) rfl rfl (WR + 1) 0 [.int .i64 XP, .slice ta XN tc, .slice va YN vcap] rfl HRB.out Tryd.underlying122 rfl (by kernel_rfl) ?_) | (refine wpl_build_k Tryd.underlying53 Tryd.infoRsh (by decide) (by decide) rfl (.tmp 54) rfl [.int .i64 XP, .slice ta XN tc, .slice va YN vcap] rfl rfl ?_) | (at_builtin; refine wpl_append_k Tryd.underlying53 Tryd.infoRsh rfl (by decide) rfl (.tmp 53) (.tmp 55) rfl rfl rfl HL4.out rfl HON.out HO4.out (by have := HLL.out; omega) (by have := HLL.out; unfold maxLen; omega) hs4 ?_))
  intro v5 w5 h5 h6
  have HT5 := Lib.hid (HT4.out.grown h6 (own_neK HO4.out HT4.out (by decide)))
  have HI5 := Lib.hid (HI4.out.grown HO4.out h6)
  have HP5 := Lib.hid (HP4.out.keep (Fr.grown (S := (Value.slice ka k kc).ownBlock.toList) h6 fun k hk => by simp [hk]) (fun g hg hm => by
    rcases HO4.out.1.2 with ⟨e, -⟩ | ⟨q, cap, cur, e, -, hh, -⟩
    · rw [e] at hm; simp [Value.ownBlock] at hm
    · rw [e] at hm
      simp only [Value.ownBlock, Option.toList_some, List.mem_singleton] at hm
      subst hm
      exact own_neK HP4.out hh (by decide) hg))
  have HO5 := Lib.hid h5
  have HF5 := Lib.hid (show Fr [] w0 w5 from OwnK.fr HF4.out HO4.out h6 (by have := HZ.out; omega))
  have HONE := Lib.hid (show v5.oneCell' = true by obtain ⟨a, c, e⟩ := h5.shape; rw [e]; rfl)
  clear h5 h6 c4 HO4 HT4 HI4 HP4 HF4 HL4 HON hs4 HRB HO3 HT3 HI3 HP3 HF3
  go_wp2_with (refine wpl_store_one (.tmp 57) (.tmp 56) rfl rfl v5 rfl rfl HT5.out (by simp) (by kernel_rfl) HONE.out ?_)
  intro w6 f6 a6 s6
  have HT6 := Lib.hid (show At w6 wb (.cells #[.int .i64 kd, .int .i64 id, .int .i64 ob, .slice pa PN pc, v5, .int .i64 fr, .int .i64 co, .slice ba BN bc, .int .i64 cd] 55) from a6)
  have HO6 := Lib.hid (HO5.out.keep f6 (fun g hg hm => by
    simp only [List.mem_singleton] at hm
    subst hm
    exact own_neK HO5.out HT5.out (by decide) hg))
  have HI6 := Lib.hid (HI5.out.store f6 HT5.out)
  have HP6 := Lib.hid (HP5.out.keep f6 (fun g hg hm => by
    simp only [List.mem_singleton] at hm
    subst hm
    exact own_neK HP5.out HT5.out (by decide) hg))
  have HF6 := Lib.hid (HF5.out.then f6 (by intro b hb; simp at hb; subst hb; exact .inr (by have := HZ.out; omega)))
  clear f6 a6 s6 HT5 HO5 HI5 HP5 HF5 HONE
  go_wp2
  refine HQ.out _ _ v5 ⟨x.p, .slice ta XN tc, .slice va YN vcap⟩ rfl rfl rfl rfl rfl rfl rfl (by go_num) HF6.out HT6.out ?_ ?_
  · have h := HO6.out
    rw [List.map_append]
    have e : shC ⟨x.p, .slice ta XN tc, .slice va YN vcap⟩ = [.int .i64 XP, .slice ta XN tc, .slice va YN vcap] := by unfold shC; rw [HE.out.2.1]
    rw [List.map_cons, List.map_nil, e]
    exact h
  · exact HI6.out.snoc HX.out rfl HE.out.1.symm HP6.out
set_option maxRecDepth 1000000 in
set_option maxHeartbeats 8000000 in
theorem of1_exit (wr : World) (a : Go.Act) (hsz : a.tmps.size = 60) (hd : a.defers = []) (p1 p2 : Value) (wb SN sc : Nat) (sa : Option Addr) (h1 : slot a 1 = p1) (h2 : slot a 2 = p2) (h3 : slot a 3 = .pointer (some ⟨wb, 0, none⟩)) (h27 : slot a 27 = .slice sa SN sc) (h28 : slot a 28 = .int .i64 (SN : Int)) (h29 : slot a 29 = .int .i64 (SN : Int)) (hSN : SN ≤ 30) (Q : Exit → Go.Act → World → Prop)
    (hq : ∀ c : Go.Act, c.defers = [] → c.tmps.size = 60 → slot c 1 = p1 → slot c 2 = p2 → slot c 3 = .pointer (some ⟨wb, 0, none⟩) → Q (.exit 0) c wr) : Code.wp Tryd.prog ofB1 Q a wr := by
  have HQ := Lib.hid hq
  rw [frame60 a hsz hd, h1, h2, h3, h27, h28, h29]
  clear hq h1 h2 h3 h27 h28 h29 hsz hd
  conv => arg 2; whnf
  have h1 : ¬ (SN : Int) < SN := by omega
  go_wp2
  exact HQ.out _ rfl rfl rfl rfl rfl
set_option maxRecDepth 1000000 in
set_option maxHeartbeats 8000000 in
theorem of1_loop (w0 : World) (a : Go.Act) (hsz : a.tmps.size = 60) (hd : a.defers = []) (wa : World) (p1 p2 : Value) (wb SN sc : Nat) (sa : Option Addr) (Z : Nat) (kd id ob fr co cd : Int) (pa ba : Option Addr) (PN pc BN bc : Nat) (l : List ShV) (h1 : slot a 1 = p1) (h2 : slot a 2 = p2) (h3 : slot a 3 = .pointer (some ⟨wb, 0, none⟩)) (h27 : slot a 27 = .slice sa SN sc) (h28 : slot a 28 = .int .i64 (SN : Int)) (h29 : slot a 29 = .int .i64 0) (hSN : SN ≤ 30) (hl : l.length = SN) (hS : RdSh (fun _ => False) w0 (.slice sa SN sc) l) (hb : ∀ x ∈ l, x.p.path.length ≤ 40) (h32 : ∀ x ∈ l, ∀ d ∈ x.p.path, d.length = 32) (hZ : w0.heap.size = Z) (hf0 : Fr [] w0 wa) (hwb : Z ≤ wb) (ht : At wa wb (.cells #[.int .i64 kd, .int .i64 id, .int .i64 ob, .slice pa PN pc, .slice none 0 0, .int .i64 fr, .int .i64 co, .slice ba BN bc, .int .i64 cd] 55)) (Q : Exit → Go.Act → World → Prop)
    (hq : ∀ (c : Go.Act) (w' : World) (svv : Value) (l1 : List ShV), c.defers = [] → c.tmps.size = 60 → slot c 1 = p1 → slot c 2 = p2 → slot c 3 = .pointer (some ⟨wb, 0, none⟩) → Fr [] w0 w' → At w' wb (.cells #[.int .i64 kd, .int .i64 id, .int .i64 ob, .slice pa PN pc, svv, .int .i64 fr, .int .i64 co, .slice ba BN bc, .int .i64 cd] 55) → OwnK 122 Z 3 w' svv (l1.map shC) → OfI Z w' l l1 SN → Q (.exit 0) c w') : Code.wp Tryd.prog (Code.loop ofB1) Q a wa := by
  refine wp_loop (fun a w => a.tmps.size = 60 ∧ a.defers = [] ∧ slot a 1 = p1 ∧ slot a 2 = p2 ∧ slot a 3 = .pointer (some ⟨wb, 0, none⟩) ∧ slot a 27 = .slice sa SN sc ∧ slot a 28 = .int .i64 (SN : Int) ∧ Fr [] w0 w ∧ ∃ (k : Nat) (svv : Value) (l1 : List ShV), k ≤ SN ∧ slot a 29 = .int .i64 (k : Int) ∧ At w wb (.cells #[.int .i64 kd, .int .i64 id, .int .i64 ob, .slice pa PN pc, svv, .int .i64 fr, .int .i64 co, .slice ba BN bc, .int .i64 cd] 55) ∧ OwnK 122 Z 3 w svv (l1.map shC) ∧ OfI Z w l l1 k) (fun a _ => SN - kN (slot a 29)) ⟨hsz, hd, h1, h2, h3, h27, h28, hf0, 0, _, [], by omega, h29, ht, OwnK.nil _ _ _ _, ⟨rfl, (fun i x y h => by simp at h), (fun x h => by simp at h)⟩⟩ ?_
  clear h1 h2 h3 h27 h28 h29 hsz hd hf0 ht
  rintro a wr ⟨hsz, hd, h1, h2, h3, h27, h28, hf, k, svv, l1, hk, h29, ht, ho, hI⟩
  by_cases hkS : k < SN
  · obtain ⟨x, hx⟩ : ∃ x, l[k]? = some x := ⟨_, List.getElem?_eq_getElem (by omega)⟩
    have hm := List.mem_of_getElem? hx
    obtain ⟨xb, xo, e, -, hrg⟩ := (hS.keep0 hf).1.range (by decide) k (shC x) (by rw [List.getElem?_map, hx]; rfl)
    subst e
    refine of1_round wr a hsz hd p1 p2 wb xb xo SN sc k Z w0 kd id ob fr co cd pa ba PN pc BN bc svv l l1 x h1 h2 h3 h27 h28 h29 hkS hSN hx hrg (hS.2 x hm).1 (hS.2 x hm).2 (h32 x hm) (hb x hm) hZ hf hwb ht ho hI _ ?_
    intro c w1 svv' x' kd' ks q1 q2 q3 q27 q28 q29 hf1 ht1 ho1 hI1
    refine ⟨⟨ks, kd', q1, q2, q3, q27, q28, hf1, k + 1, svv', _, by omega, by rw [q29]; rfl, ht1, ho1, hI1⟩, ?_⟩
    rw [q29, h29]
    simp [kN]; omega
  · obtain rfl : k = SN := by omega
    refine of1_exit wr a hsz hd p1 p2 wb k sc sa h1 h2 h3 h27 h28 h29 hSN _ ?_
    intro c kd' ks q1 q2 q3
    exact hq c wr svv l1 kd' ks q1 q2 q3 hf ht ho hI
end Go.Proofs.YtmohiblgfmdkjaaDoor
namespace Go.Proofs.YtmohiblgfmdkjaaDoor
open Go.RowKit Go.Bl
set_option linter.unusedVariables false
set_option maxRecDepth 1000000 in
set_option maxHeartbeats 8000000 in
theorem of22_any (w : World) (kd id ob fr co cd : Int) (pa sa ba : Option Addr) (PN pc SN sc BN bc : Nat) (l : List ShV) (hSN : SN ≤ 30) (hl : l.length = SN) (hS : RdSh (fun _ => False) w (.slice sa SN sc) l) (hb : ∀ x ∈ l, x.p.path.length ≤ 40) (h32 : ∀ x ∈ l, ∀ d ∈ x.p.path, d.length = 32) :
    Calls Tryd.prog 14 #[.agg (letC kd id ob (.slice pa PN pc) (.slice sa SN sc) fr co (.slice ba BN bc) cd)] w fun e w' => ∃ (sa' : Option Addr) (sc' : Nat) (l1 : List ShV), e = .returned (.agg (letC kd id ob (.slice pa PN pc) (.slice sa' SN sc') fr co (.slice ba BN bc) cd)) ∧ OwnK 122 w.heap.size 3 w' (.slice sa' SN sc') (l1.map shC) ∧ OfI w.heap.size w' l l1 SN ∧ Fr [] w w' := by
  have HS := Lib.hid hS
  have HL := Lib.hid hl
  have HB := Lib.hid hb
  have H32 := Lib.hid h32
  obtain ⟨Z, hZ⟩ : ∃ Z, w.heap.size = Z := ⟨_, rfl⟩
  have HZ := Lib.hid hZ
  have f2 : Fr [] w (((w.alloc (.cells (letC kd id ob (.slice pa PN pc) (.slice sa SN sc) fr co (.slice ba BN bc) cd) 40)).alloc (.cells #[.int .i64 0, .int .i64 0, .int .i64 0, .slice none 0 0, .slice none 0 0, .int .i64 0, .int .i64 0, .slice none 0 0, .int .i64 0] 55)).alloc (.cells #[.int .i64 kd, .int .i64 id, .int .i64 ob, .slice pa PN pc, .slice none 0 0, .int .i64 fr, .int .i64 co, .slice ba BN bc, .int .i64 cd] 55)) := ((Fr.alloc _ _).trans (Fr.alloc _ _)).trans (Fr.alloc _ _)
  have HF2 := Lib.hid f2
  have HF1 := Lib.hid (show Fr [] w ((w.alloc (.cells (letC kd id ob (.slice pa PN pc) (.slice sa SN sc) fr co (.slice ba BN bc) cd) 40)).alloc (.cells #[.int .i64 0, .int .i64 0, .int .i64 0, .slice none 0 0, .slice none 0 0, .int .i64 0, .int .i64 0, .slice none 0 0, .int .i64 0] 55)) from (Fr.alloc _ _).trans (Fr.alloc _ _))
  have HR1 := Lib.hid (show At ((w.alloc (.cells (letC kd id ob (.slice pa PN pc) (.slice sa SN sc) fr co (.slice ba BN bc) cd) 40)).alloc (.cells #[.int .i64 0, .int .i64 0, .int .i64 0, .slice none 0 0, .slice none 0 0, .int .i64 0, .int .i64 0, .slice none 0 0, .int .i64 0] 55)) (Z + 1) (.cells #[.int .i64 0, .int .i64 0, .int .i64 0, .slice none 0 0, .slice none 0 0, .int .i64 0, .int .i64 0, .slice none 0 0, .int .i64 0] 55) from At.new (by simp [hZ]))
  have HT2 := Lib.hid (show At (((w.alloc (.cells (letC kd id ob (.slice pa PN pc) (.slice sa SN sc) fr co (.slice ba BN bc) cd) 40)).alloc (.cells #[.int .i64 0, .int .i64 0, .int .i64 0, .slice none 0 0, .slice none 0 0, .int .i64 0, .int .i64 0, .slice none 0 0, .int .i64 0] 55)).alloc (.cells #[.int .i64 kd, .int .i64 id, .int .i64 ob, .slice pa PN pc, .slice none 0 0, .int .i64 fr, .int .i64 co, .slice ba BN bc, .int .i64 cd] 55)) (Z + 2) (.cells #[.int .i64 kd, .int .i64 id, .int .i64 ob, .slice pa PN pc, .slice none 0 0, .int .i64 fr, .int .i64 co, .slice ba BN bc, .int .i64 cd] 55) from At.new (by simp [hZ]))
  have hA1 : At ((w.alloc (.cells (letC kd id ob (.slice pa PN pc) (.slice sa SN sc) fr co (.slice ba BN bc) cd) 40)).alloc (.cells #[.int .i64 0, .int .i64 0, .int .i64 0, .slice none 0 0, .slice none 0 0, .int .i64 0, .int .i64 0, .slice none 0 0, .int .i64 0] 55)) Z (.cells (letC kd id ob (.slice pa PN pc) (.slice sa SN sc) fr co (.slice ba BN bc) cd) 40) := (At.new hZ.symm).al
  have c0 : ((w.alloc (.cells (letC kd id ob (.slice pa PN pc) (.slice sa SN sc) fr co (.slice ba BN bc) cd) 40)).alloc (.cells #[.int .i64 0, .int .i64 0, .int .i64 0, .slice none 0 0, .slice none 0 0, .int .i64 0, .int .i64 0, .slice none 0 0, .int .i64 0] 55)).cell? ⟨Z, 0, none⟩ = some (.int .i64 kd) := hA1.cell 0
  have c1 : ((w.alloc (.cells (letC kd id ob (.slice pa PN pc) (.slice sa SN sc) fr co (.slice ba BN bc) cd) 40)).alloc (.cells #[.int .i64 0, .int .i64 0, .int .i64 0, .slice none 0 0, .slice none 0 0, .int .i64 0, .int .i64 0, .slice none 0 0, .int .i64 0] 55)).cell? ⟨Z, 1, none⟩ = some (.int .i64 id) := hA1.cell 1
  have c2 : ((w.alloc (.cells (letC kd id ob (.slice pa PN pc) (.slice sa SN sc) fr co (.slice ba BN bc) cd) 40)).alloc (.cells #[.int .i64 0, .int .i64 0, .int .i64 0, .slice none 0 0, .slice none 0 0, .int .i64 0, .int .i64 0, .slice none 0 0, .int .i64 0] 55)).cell? ⟨Z, 2, none⟩ = some (.int .i64 ob) := hA1.cell 2
  have c3 : ((w.alloc (.cells (letC kd id ob (.slice pa PN pc) (.slice sa SN sc) fr co (.slice ba BN bc) cd) 40)).alloc (.cells #[.int .i64 0, .int .i64 0, .int .i64 0, .slice none 0 0, .slice none 0 0, .int .i64 0, .int .i64 0, .slice none 0 0, .int .i64 0] 55)).cell? ⟨Z, 3, none⟩ = some (.slice pa PN pc) := hA1.cell 3
  have c5 : ((w.alloc (.cells (letC kd id ob (.slice pa PN pc) (.slice sa SN sc) fr co (.slice ba BN bc) cd) 40)).alloc (.cells #[.int .i64 0, .int .i64 0, .int .i64 0, .slice none 0 0, .slice none 0 0, .int .i64 0, .int .i64 0, .slice none 0 0, .int .i64 0] 55)).cell? ⟨Z, 5, none⟩ = some (.int .i64 fr) := hA1.cell 5
  have c6 : ((w.alloc (.cells (letC kd id ob (.slice pa PN pc) (.slice sa SN sc) fr co (.slice ba BN bc) cd) 40)).alloc (.cells #[.int .i64 0, .int .i64 0, .int .i64 0, .slice none 0 0, .slice none 0 0, .int .i64 0, .int .i64 0, .slice none 0 0, .int .i64 0] 55)).cell? ⟨Z, 6, none⟩ = some (.int .i64 co) := hA1.cell 6
  have c7 : ((w.alloc (.cells (letC kd id ob (.slice pa PN pc) (.slice sa SN sc) fr co (.slice ba BN bc) cd) 40)).alloc (.cells #[.int .i64 0, .int .i64 0, .int .i64 0, .slice none 0 0, .slice none 0 0, .int .i64 0, .int .i64 0, .slice none 0 0, .int .i64 0] 55)).cell? ⟨Z, 7, none⟩ = some (.slice ba BN bc) := hA1.cell 7
  have c8 : ((w.alloc (.cells (letC kd id ob (.slice pa PN pc) (.slice sa SN sc) fr co (.slice ba BN bc) cd) 40)).alloc (.cells #[.int .i64 0, .int .i64 0, .int .i64 0, .slice none 0 0, .slice none 0 0, .int .i64 0, .int .i64 0, .slice none 0 0, .int .i64 0] 55)).cell? ⟨Z, 8, none⟩ = some (.int .i64 cd) := hA1.cell 8
  have c4 : (((w.alloc (.cells (letC kd id ob (.slice pa PN pc) (.slice sa SN sc) fr co (.slice ba BN bc) cd) 40)).alloc (.cells #[.int .i64 0, .int .i64 0, .int .i64 0, .slice none 0 0, .slice none 0 0, .int .i64 0, .int .i64 0, .slice none 0 0, .int .i64 0] 55)).alloc (.cells #[.int .i64 kd, .int .i64 id, .int .i64 ob, .slice pa PN pc, .slice none 0 0, .int .i64 fr, .int .i64 co, .slice ba BN bc, .int .i64 cd] 55)).cell? ⟨Z, 4, none⟩ = some (.slice sa SN sc) := (hA1.al).cell 4
  clear hS hl hb h32 f2 hA1
  go_enter Tryd.func14, Tryd.ntmps14
  go_wp2_with (refine wpl_store_new (.tmp 3) (.tmp 25) rfl rfl #[.int .i64 kd, .int .i64 id, .int .i64 ob, .slice pa PN pc, .slice none 0 0, .int .i64 fr, .int .i64 co, .slice ba BN bc, .int .i64 cd] rfl rfl (by kernel_rfl) rfl (by rfl) ?_)
  refine of1_loop ((w.alloc (.cells (letC kd id ob (.slice pa PN pc) (.slice sa SN sc) fr co (.slice ba BN bc) cd) 40)).alloc (.cells #[.int .i64 0, .int .i64 0, .int .i64 0, .slice none 0 0, .slice none 0 0, .int .i64 0, .int .i64 0, .slice none 0 0, .int .i64 0] 55)) _ rfl rfl _ (.pointer (some ⟨Z, 0, none⟩)) (.pointer (some ⟨Z + 1, 0, none⟩)) (Z + 2) SN sc sa (Z + 2) kd id ob fr co cd pa ba PN pc BN bc l rfl rfl rfl rfl rfl rfl hSN HL.out (HS.out.keep0 HF1.out) HB.out H32.out (by simp [HZ.out]) (Fr.alloc _ _) (Nat.le_refl _) HT2.out _ ?_
  intro c w3 svv l1 kd' ks q1 q2 q3 hf3 ht3 ho3 hI3
  obtain ⟨sa', sc', e⟩ := ho3.shape
  rw [List.length_map, hI3.len] at e
  subst e
  rw [frame60 c ks kd', q1, q2, q3]
  have HRG := Lib.hid (range_of (c := [.int .i64 kd, .int .i64 id, .int .i64 ob, .slice pa PN pc, .slice sa' SN sc', .int .i64 fr, .int .i64 co, .slice ba BN bc, .int .i64 cd]) ht3)
  have HO := Lib.hid ho3
  have HI := Lib.hid hI3
  have HF3 := Lib.hid (HF1.out.trans hf3)
  have HR3 := Lib.hid (HR1.out.keep0 hf3)
  clear kd' ks q1 q2 q3 hf3 ht3 ho3 hI3 c0 c1 c2 c3 c4 c5 c6 c7 c8 HT2
  go_wp2_with (first | (refine wpl_load_k (.tmp 3) rfl rfl (Z + 2) 0 [.int .i64 kd, .int .i64 id, .int .i64 ob, .slice pa PN pc, .slice sa' SN sc', .int .i64 fr, .int .i64 co, .slice ba BN bc, .int .i64 cd] rfl HRG.out Tryd.underlying55 rfl (by kernel_rfl) ?_) | (refine wpl_store_at (.tmp 2) (.tmp 59) rfl rfl #[.int .i64 kd, .int .i64 id, .int .i64 ob, .slice pa PN pc, .slice sa' SN sc', .int .i64 fr, .int .i64 co, .slice ba BN bc, .int .i64 cd] rfl rfl (by kernel_rfl) HR3.out (by simp) (by simp [Value.oneCell']) ?_))
  intro w4 f4 a4 s4
  have hA4 : At w4 (Z + 1) (.cells #[.int .i64 kd, .int .i64 id, .int .i64 ob, .slice pa PN pc, .slice sa' SN sc', .int .i64 fr, .int .i64 co, .slice ba BN bc, .int .i64 cd] 55) := a4
  have HRES := Lib.hid (range_of (c := [.int .i64 kd, .int .i64 id, .int .i64 ob, .slice pa PN pc, .slice sa' SN sc', .int .i64 fr, .int .i64 co, .slice ba BN bc, .int .i64 cd]) hA4)
  have HO4 := Lib.hid (show OwnK 122 w.heap.size 3 w4 (.slice sa' SN sc') (l1.map shC) from (HO.out.base (by have := HZ.out; omega)).keep f4 (fun g hg hm => by
    simp only [List.mem_singleton] at hm
    subst hm
    exact own_neK HO.out HR3.out (by decide) hg))
  have HI4 := Lib.hid (show OfI w.heap.size w4 l l1 SN from ⟨HI.out.len, HI.out.p, fun x hx => ((HI.out.own x hx).base (by have := HZ.out; omega)).keep f4 (fun g hg hm => by
    simp only [List.mem_singleton] at hm
    subst hm
    exact own_neK (HI.out.own x hx) HR3.out (by decide) hg)⟩)
  have HF4 := Lib.hid (show Fr [] w w4 from HF3.out.then f4 (by intro b hb; simp at hb; subst hb; exact .inr (by have := HZ.out; omega)))
  clear f4 a4 s4 hA4 HRG HO HI HF3 HR3
  go_wp2
  refine bodyPost_ret (results_cell (d := _) rfl _ _ (Z + 1) _ rfl HRES.out Tryd.underlying55 rfl (by kernel_rfl)) rfl ?_
  exact ⟨sa', sc', l1, rfl, HO4.out, HI4.out, HF4.out⟩
end Go.Proofs.YtmohiblgfmdkjaaDoor
