import Derived.Lib.Overlaps
import Derived.Test.YtdloaifdpajcjaaGreatDoorGW
set_option linter.unusedVariables false
set_option linter.unusedSimpArgs false
set_option maxRecDepth 1000000
set_option maxHeartbeats 8000000
namespace Go.Proofs.YtdloaifdpajcjaaGreatDoor
open Go.RowKit Go.Bl
def Vj (j : Nat) (x : List UInt8) : UInt8 := x.getD j 0
def ZR (j n k : Nat) (ls : List (Value × List UInt8)) : List UInt8 := (ls.take k).map (fun x => Vj j x.2) ++ List.replicate (n - k) 0
theorem qch (j n k : Nat) (ls : List (Value × List UInt8)) (x : Value × List UInt8) (hx : ls[k]? = some x) (hn : ls.length = n) : (ZR j n k ls).set k (Vj j x.2) = ZR j n (k + 1) ls := by
 have hk : k < ls.length := (List.getElem?_eq_some_iff.1 hx).1
 unfold ZR
 rw [List.take_add_one, hx, show n - k = (n - (k + 1)) + 1 by omega, List.replicate_succ]
 have hl : ((ls.take k).map (fun x => Vj j x.2)).length = k := by simp; omega
 rw [List.set_append_right _ _ Y54, hl, Nat.sub_self]
 simp
theorem qd2 (j n k : Nat) (ls : List (Value × List UInt8)) (hn : ls.length = n) (hk : k <= n) : (ZR j n k ls).length = n := by
 simp [ZR]; omega
theorem L4 (A : Nat -> Prop) (w : World) (v : Value) (ls : List (Value × List UInt8)) (j : Nat) (hr : RdB A w v ls) (hj : j < 8) (h8 : ∀ x ∈ ls, x.2.length = 8) (hl : ls.length <= 1000) :
  Calls Tryz.prog 204 #[v, .int .i64 j] w fun e w' => ∃ u, e = .returned u /\ qt 5 w.heap.size w' u (ls.map fun x => Vj j x.2) /\ Fr [] w w' := by
 have HR := Hdq hr
 have H8 := Hdq h8
 obtain ⟨a, cap, rfl, c2, c3⟩ := JR hr
 unfold maxLen at c3
 obtain ⟨i0, hi, hz, hsz, hby⟩ := jw Tryz.infoByte
 obtain ⟨N, hN⟩ := exq (ls.length)
 rw [hN] at HR c2 hl ⊢
 have HN := Hdq hN
 clear hN hr h8
 have hmod : ((j : Int) % 8 + 8) % 8 = j := by omega
 have HA := Hdq (show At (w.alloc (.cells (madeCells #[.int .u8 0] N) 5)) w.heap.size (.cells ((ZR j N 0 ls).map u8v).toArray 5) by rw [QX]; simp only [ZR, List.take_zero, List.map_nil, List.nil_append, Nat.sub_zero]; exact At.new rfl)
 go_enter Tryz.func204, Tryz.ntmps204
 go_wp2_with (refine wpList_make_row _ rfl (.tmp 13) (.tmp 13) 22 rfl 5 i0 (.int .u8 0) Tryz.underlying22 hi hz hsz rfl .i64 .i64 N rfl rfl (by rw [hby]; omega) Y54 ?_)
 obtain ⟨w2, hw2⟩ := exq (w.alloc (.cells (madeCells #[.int .u8 0] N) 5))
 have HF := Hdq (show Fr [] w w2 by rw [<- hw2]; exact Fr.alloc _ _)
 rw [hw2] at HA ⊢
 clear hw2 hi hz hsz hby
 go_wp2
 try rw [hmod]
 clear hmod
 go_loopw [17] (fun i wr => ∃ k : Nat, k <= N /\ i = .int .i64 k /\ Hid (At wr w.heap.size (.cells ((ZR j N k ls).map u8v).toArray 5)) /\ Hid (Fr [] w wr)) (fun i _ => N - (intOf i).toNat)
 case atStart => exact ⟨0, by omega, rfl, HA.out, HF.out⟩
 case round =>
  clear HA HF
  obtain ⟨k, hk, rfl, HA, HF⟩ := hrel
  by_cases hkn : k < N
  ·obtain ⟨x, hx⟩ : ∃ x, ls[k]? = some x := ⟨_, List.getElem?_eq_getElem Y59⟩
   obtain ⟨b, off, rfl, hc, hbx⟩ := W7 (HR.out.keep HF.out Y85) k x hx
   have h8x := H8.out x (List.mem_of_getElem? hx)
   have HS := Hdq (qch j N k ls x hx HN.out)
   have hcl := qd2 j N k ls HN.out hk
   obtain ⟨bo, bn, bc, hbv⟩ := zR hbx
   obtain ⟨xv, xs⟩ := x
   simp only at hbv hc hbx h8x HS
   subst hbv
   obtain rfl : bn = 8 := by
    obtain ⟨a', c', e, -⟩ := hbx
    cases e
    exact h8x
   obtain ⟨z, hz⟩ : ∃ z, xs[j]? = some z := ⟨_, List.getElem?_eq_getElem Y54⟩
   obtain ⟨xb, xo, rfl, hcz⟩ := vS hbx j z hz
   have HZ := Hdq (show Vj j xs = z by unfold Vj; rw [List.getD_eq_getElem?_getD, hz]; rfl)
   obtain ⟨cur, hcur⟩ := exq (ZR j N k ls)
   rw [hcur] at HA HS hcl
   clear hx hbx h8x hz hcur
   go_wp2_with (refine qw (.tmp 31) (.tmp 30) rfl rfl (.int .u8 (z.toNat : Int)) rfl rfl HA.out (by simp [hcl]; omega) Y55 rfl ?_)
   intro w3 f3 a3 _
   have HA2 := Hdq (show At w3 w.heap.size (.cells ((ZR j N (k + 1) ls).map u8v).toArray 5) by
    rw [<- HS.out, HZ.out, List.map_set]
    simpa [u8v] using a3)
   have HF2 := Hdq (HF.out.then f3 Y61)
   clear f3 a3 HA HF hc hcz
   go_wp2
   go_roundw
   case rel => exact ⟨k + 1, by omega, by go_num, HA2.out, HF2.out⟩
   case measure => simp [intOf]; omega
  ·obtain rfl : k = N := by omega
   have HO := Hdq (show qt 5 w.heap.size wr (.slice (some ⟨w.heap.size, 0, none⟩) k k) (ls.map fun x => Vj j x.2) from by
    have h := HA.out
    have hn := HN.out
    have hR : ZR j k k ls = ls.map fun x => Vj j x.2 := by
     unfold ZR
     rw [List.take_of_length_le Y54, Nat.sub_self]
     simp
    rw [hR] at h
    refine ⟨by simp, .inr ⟨w.heap.size, k, _, by simp [hn], Nat.le_refl _, h, by simp [hn], by simp [maxLen]; omega, by simp [hn], ?_⟩⟩
    rw [List.take_of_length_le (by simp [hn])])
   exact Y7
def sl8 (b : Nat) : Value := .slice (some ⟨b, 0, none⟩) 8 8
structure Rws (base : Nat) (w : World) (bs : List Nat) (rows : List (List UInt8)) : Prop where
 len : bs.length = rows.length
 nd : bs.Nodup
 lo : ∀ b ∈ bs, base <= b
 at_ : ∀ (i b : Nat) (r : List UInt8), bs[i]? = some b -> rows[i]? = some r -> At w b (.cells (r.map u8v).toArray 5)
theorem Rws.nil (base : Nat) (w : World) : Rws base w [] [] := ⟨rfl, List.nodup_nil, fun b h => by simp at h, fun i b r h => by simp at h⟩
theorem Rws.keep {base : Nat} {w w' : World} {S : List Nat} {bs : List Nat} {rows : List (List UInt8)} (h : Rws base w bs rows) (hf : Fr S w w') (hS : ∀ b ∈ bs, b ∉ S) : Rws base w' bs rows :=
 ⟨h.len, h.nd, h.lo, fun i b r hb hr => (h.at_ i b r hb hr).keep hf (hS b (List.mem_of_getElem? hb))⟩
theorem Rws.lt {base : Nat} {w : World} {bs : List Nat} {rows : List (List UInt8)} (h : Rws base w bs rows) : ∀ b ∈ bs, b < w.heap.size := fun b hb => by
 obtain ⟨i, hi, rfl⟩ := List.getElem_of_mem hb
 have h2 : i < rows.length := by rw [<- h.len]; exact hi
 exact (h.at_ i _ _ (List.getElem?_eq_getElem hi) (List.getElem?_eq_getElem h2)).lt
theorem Rws.snoc {base : Nat} {w : World} {bs : List Nat} {rows : List (List UInt8)} (h : Rws base w bs rows) {b : Nat} {r : List UInt8} (hb : b ∉ bs) (hl : base <= b) (hA : At w b (.cells (r.map u8v).toArray 5)) : Rws base w (bs ++ [b]) (rows ++ [r]) := by
 refine ⟨by simp [h.len], List.nodup_append.2 ⟨h.nd, by simp, fun x hx y hy => by simp at hy; subst hy; intro e; exact hb (e ▸ hx)⟩, fun x hx => ?_, fun i x y hx hy => ?_⟩
 ·rcases List.mem_append.1 hx with hx | hx
  ·exact h.lo x hx
  ·simp at hx; subst hx; exact hl
 ·have hlen := h.len
  rcases Nat.lt_or_ge i bs.length with hi | hi
  ·rw [List.getElem?_append_left hi] at hx
   rw [List.getElem?_append_left Y54] at hy
   exact h.at_ i x y hx hy
  ·rw [List.getElem?_append_right hi] at hx
   rw [List.getElem?_append_right Y54] at hy
   have : i - bs.length = 0 := by
    have := (List.getElem?_eq_some_iff.1 hx).1
    simp at this; omega
   rw [this] at hx
   rw [show i - rows.length = 0 by omega] at hy
   simp at hx hy
   subst hx hy
   exact hA
theorem Rws.set {base : Nat} {w w' : World} {bs : List Nat} {rows : List (List UInt8)} (h : Rws base w bs rows) (i b j : Nat) (r : List UInt8) (c : UInt8) (hb : bs[i]? = some b) (hr : rows[i]? = some r) (hf : Fr [b] w w') (hA : At w' b (.cells ((r.set j c).map u8v).toArray 5)) :
  Rws base w' bs (rows.set i (r.set j c)) := by
 refine ⟨by simp [h.len], h.nd, h.lo, fun k x y hx hy => ?_⟩
 by_cases hk : k = i
 ·subst hk
  rw [hb] at hx; cases hx
  have hl := (List.getElem?_eq_some_iff.1 hr).1
  rw [List.getElem?_set_self hl] at hy
  cases hy
  exact hA
 ·rw [List.getElem?_set_ne (Ne.symm hk)] at hy
  refine (h.at_ k x y hx hy).keep hf ?_
  simp only [List.mem_singleton]
  intro e
  subst e
  have h1 := (List.getElem?_eq_some_iff.1 hx).1
  exact hk ((List.getElem?_inj h1 h.nd).1 (by rw [hx, hb]))
theorem Tryz.infoBytes : (Tryz.prog.info? 22).map (fun i => (i.zero, i.size, i.bytes)) = some (some (.slice none 0 0), 1, 24) := by kernel_rfl
theorem qbO (n : Nat) : madeCells #[.slice none 0 0] n = (List.replicate n (Value.slice none 0 0)).toArray := by
 apply Array.ext
 ·simp [madeCells]
 ·intro i h1 h2
  simp [madeCells, Nat.mod_one]
theorem qbT (w : World) (n : Nat) (hn : n <= 1000) :
  Calls Tryz.prog 202 #[.int .i64 n] w fun e w' => ∃ (g : Nat) (bs : List Nat), e = .returned (.slice (some ⟨g, 0, none⟩) n n) /\ w.heap.size <= g /\ g ∉ bs /\ At w' g (.cells (bs.map sl8).toArray 22) /\ Rws w.heap.size w' bs (List.replicate n (List.replicate 8 0)) /\ Fr [] w w' := by
 obtain ⟨i1, hi1, hz1, hsz1, hby1⟩ := jw Tryz.infoBytes
 obtain ⟨i0, hi, hz, hsz, hby⟩ := jw Tryz.infoByte
 have HA := Hdq (show At (w.alloc (.cells (madeCells #[.slice none 0 0] n) 22)) w.heap.size (.cells ((([] : List Nat).map sl8) ++ List.replicate (n - 0) (Value.slice none 0 0)).toArray 22) by rw [qbO]; exact At.new rfl)
 go_enter Tryz.func202, Tryz.ntmps202
 go_wp2_with (refine wpList_make_row _ rfl (.tmp 5) (.tmp 5) 35 rfl 22 i1 (.slice none 0 0) Tryz.underlying35 hi1 hz1 hsz1 rfl .i64 .i64 n rfl rfl (by rw [hby1]; omega) Y54 ?_)
 obtain ⟨w2, hw2⟩ := exq (w.alloc (.cells (madeCells #[.slice none 0 0] n) 22))
 have HF := Hdq (show Fr [] w w2 by rw [<- hw2]; exact Fr.alloc _ _)
 rw [hw2] at HA ⊢
 clear hw2 hi1 hz1 hsz1 hby1
 go_wp2
 go_loopw [9] (fun i wr => ∃ k : Nat, k <= n /\ i = .int .i64 k /\ ∃ bs : List Nat, bs.length = k /\ Hid (w.heap.size ∉ bs) /\ Hid (At wr w.heap.size (.cells (bs.map sl8 ++ List.replicate (n - k) (Value.slice none 0 0)).toArray 22)) /\ Hid (Rws w.heap.size wr bs (List.replicate k (List.replicate 8 0))) /\ Hid (Fr [] w wr)) (fun i _ => n - (intOf i).toNat)
 case atStart => exact ⟨0, by omega, rfl, [], rfl, (show w.heap.size ∉ ([] : List Nat) from by simp), HA.out, Rws.nil _ _, HF.out⟩
 case round =>
  clear HA HF
  obtain ⟨k, hk, rfl, bs, hbl, HN, HA, HR, HF⟩ := hrel
  by_cases hkn : k < n
  ·have hgl := HA.out.lt
   have hA1 : At (wr.alloc (.cells (madeCells #[.int .u8 0] 8) 5)) w.heap.size (.cells (bs.map sl8 ++ List.replicate (n - k) (Value.slice none 0 0)).toArray 22) := HA.out.al
   have hcz : (bs.map sl8 ++ List.replicate (n - k) (Value.slice none 0 0)).length = n := by simp [hbl]; omega
   have HB := Hdq (show At (wr.alloc (.cells (madeCells #[.int .u8 0] 8) 5)) wr.heap.size (.cells ((List.replicate 8 (0 : UInt8)).map u8v).toArray 5) by rw [QX]; exact At.new rfl)
   have HR1 := Hdq (HR.out.keep (Fr.alloc (S := []) wr (.cells (madeCells #[.int .u8 0] 8) 5)) Y85)
   have HF1 := Hdq (show Fr [] w (wr.alloc (.cells (madeCells #[.int .u8 0] 8) 5)) from Fr.al HF.out)
   have HNB := Hdq (show wr.heap.size ∉ bs from fun h => by have := HR.out.lt _ h; omega)
   have HSET := Hdq (show (bs.map sl8 ++ List.replicate (n - k) (Value.slice none 0 0)).set k (sl8 wr.heap.size) = (bs ++ [wr.heap.size]).map sl8 ++ List.replicate (n - (k + 1)) (Value.slice none 0 0) by
    rw [show n - k = (n - (k + 1)) + 1 by omega, List.replicate_succ, List.set_append_right _ _ Y57]
    simp [hbl])
   obtain ⟨cur, hcur⟩ := exq ((bs.map sl8 ++ List.replicate (n - k) (Value.slice none 0 0)))
   rw [hcur] at hA1 hcz HSET
   clear hcur
   have HA1 := Hdq hA1
   clear hA1 HA
   go_wp2_with (first | (refine wpList_make_row _ rfl (.const (.int .i64 8)) (.const (.int .i64 8)) 22 rfl 5 i0 (.int .u8 0) Tryz.underlying22 hi hz hsz rfl .i64 .i64 8 rfl rfl (by rw [hby]; omega) Y54 ?_) | (refine qw (.tmp 15) (.tmp 14) rfl rfl (sl8 wr.heap.size) rfl rfl HA1.out (by simp [hcz]; omega) Y55 rfl ?_))
   intro w3 f3 a3 _
   have HA3 := Hdq (show At w3 w.heap.size (.cells ((bs ++ [wr.heap.size]).map sl8 ++ List.replicate (n - (k + 1)) (Value.slice none 0 0)).toArray 22) by
    rw [<- HSET.out]
    simpa using a3)
   have HR3 := Hdq (show Rws w.heap.size w3 (bs ++ [wr.heap.size]) (List.replicate (k + 1) (List.replicate 8 0)) from by
    rw [List.replicate_succ']
    exact (HR1.out.keep f3 (fun b hb => by simp only [List.mem_singleton]; intro e; exact HN.out (e ▸ hb))).snoc HNB.out Y54 (HB.out.keep f3 Y57))
   have HF3 := Hdq (HF1.out.then f3 Y61)
   have HN3 := Hdq (show w.heap.size ∉ bs ++ [wr.heap.size] from fun h => by
    rcases List.mem_append.1 h with h | h
    ·exact HN.out h
    ·simp at h; omega)
   clear f3 a3 HR1 HF1 HA1 HB HSET HR HF
   go_wp2
   go_roundw
   case rel => exact ⟨k + 1, by omega, by go_num, bs ++ [wr.heap.size], by simp [hbl], HN3.out, HA3.out, HR3.out, HF3.out⟩
   case measure => simp [intOf]; omega
  ·obtain rfl : k = n := by omega
   have HA2 := Hdq (show At wr w.heap.size (.cells (bs.map sl8).toArray 22) by have := HA.out; simpa using this)
   clear HA
   go_wp2
   go_ret
   exact ⟨_, bs, rfl, Nat.le_refl _, HN.out, HA2.out, HR.out, HF.out⟩
theorem qag (A : Nat -> Prop) (w : World) (v : Value) (us : List Value) (hb : Vs A w v us) (h1 : ∀ u ∈ us, u.oneCell' = true) (hl : us.length <= 100000) :
   Calls Tryz.prog 241 #[v] w fun e w' => ∃ v', e = .returned v' /\ ja 22 w.heap.size w' v' us /\ Fr [] w w' := by
  obtain ⟨a, cap, rfl, h2, h3, h4⟩ := hb
  cases a with
  | none =>
    have hx : us = [] := by
      rcases h4 with h | ⟨b, off, c, e, fz, h, _⟩
      · exact h
      · cases h
    subst hx
    have hn : ∀ w, (binOp .eql 35 (.slice none 0 cap) (.slice none 0 0)).run Tryz.prog w = .ok (.bool true) w := fun w => @Lib.run_eql_slice_nil Tryz.prog w 35 22 none 0 cap 0 0 Tryz.underlying35
    go_enter Tryz.func241, Tryz.ntmps241
    go_wp2
    go_ret
    exact ⟨_, rfl, ja.nil _ _ _, Fr.refl _ _⟩
  | some ad =>
    have hn : ∀ w, (binOp .eql 35 (.slice (some ad) us.length cap) (.slice none 0 0)).run Tryz.prog w = .ok (.bool false) w := fun w => @Lib.run_eql_slice_nil Tryz.prog w 35 22 (some ad) _ cap 0 0 Tryz.underlying35
    have h0 : ja 22 w.heap.size (w.alloc (.cells #[] 22)) (.slice (some ⟨w.heap.size, 0, none⟩) 0 0) [] := ja.lit 22 w.heap.size w #[] (Nat.le_refl _) Y86
    go_enter Tryz.func241, Tryz.ntmps241
    go_wp2_with (at_builtin; refine uB (A := A) (ys := us) (base := w.heap.size) Tryz.underlying35 Tryz.infoBytes rfl rfl (.tmp 5) (.tmp 6) rfl rfl rfl h0 (Vs.keep ⟨some ad, cap, rfl, h2, h3, h4⟩ (Fr.alloc (S := []) _ _) Y85) h1 ?h63 ?hl ?hb ?_)
    case h63 => simp [maxLen]; omega
    case hl => simp; omega
    case hb => simp
    intro v' w' h5 h6
    go_wp2
    go_ret
    exact ⟨_, rfl, h5, h0.fr (Fr.alloc _ _) h6 (Nat.le_refl _)⟩
theorem XF {P : Program} (w : World) {ops : Array Oper} {rest : List Oper} {o : Oper} {a : Go.Act} {Q : Exit -> Go.Act -> World -> Prop} (hgd : o.guard = none) (d s : Operand) (t t' : TypeId)
  (ho : o.op = .call { callee := .builtin .copy, args := #[d, s], argTypes := #[t, t'] }) (v u : Value) (hd : a.eval d = v) (hs : a.eval s = u) {v' : Value} {w' : World}
  (hr : (Builtin.copy_ #[t, t'] o.type #[v, u]).run P w = .ok v' w') (h : wpList P ops Q rest (a.put o.dst v') w') : wpList P ops Q (o :: rest) a w := by
 refine wpList_plain hgd fun K hK => ?_
 unfold Oper.wp execOp
 simp only [ho, resolve, invoke, builtin, Sem.run_bind, Sem.run_pure, Result.andThen_ok, List.map_toArray, List.map_cons, List.map_nil, hd, hs, hr]
 exact hK _ _ h
theorem UK {P : Program} {ops : Array Oper} {o : Oper} {a : Go.Act} {w : World} {K : Go.Act -> World -> Prop} {Q : Exit -> Go.Act -> World -> Prop} {E : Prop}
  (hg : o.guard = none) (d x : Operand) (dT sT : TypeId) (hop : o.op = Op.call { callee := Callee.builtin Builtin.copy, args := #[d, x], argTypes := #[dT, sT] })
  (v u : Value) (hd : a.eval d = v) (hx : a.eval x = u) {v' : Value} {w' : World} (hr : (Builtin.copy_ #[dT, sT] o.type #[v, u]).run P w = .ok v' w') (hK : K (a.put o.dst v') w') :
  if Region.wanted o (yielded ops a.tmps) = true then Oper.wp P o a w K Q else E := by
 have hw : Region.wanted o (yielded ops a.tmps) = true := by simp [Region.wanted, hg]
 rw [if_pos hw]
 unfold Oper.wp
 simp [execOp, hop, resolve, invoke, builtin, hd, hx, hr, Result.andThen]
 exact hK
theorem zo {b e : Nat} : ∀ (vs : List Value) (o : Nat) (w : World) (c : Array Value), At w b (.cells c e) -> o + vs.length <= c.size ->
  ∃ c', At (w.setCells b o vs) b (.cells c' e) /\ c'.size = c.size /\ (∀ j, j < vs.length -> c'[o + j]? = vs[j]?) /\ ∀ k, (k < o ∨ o + vs.length <= k) -> c'[k]? = c[k]?
 | [], o, w, c, h, hl => ⟨c, h, rfl, fun j hj => by simp at hj, fun _ _ => rfl⟩
 | v :: r, o, w, c, h, hl => by
  simp only [List.length_cons] at hl
  have h1 : At (w.setCell ⟨b, o, none⟩ v) b (.cells (c.setIfInBounds o v) e) := QA h o v
  obtain ⟨c', a1, a2, a3, a4⟩ := zo r (o + 1) _ _ h1 Y57
  refine ⟨c', a1, by rw [a2]; simp, fun j hj => ?_, fun k hk => ?_⟩
  ·cases j with
   | zero =>
    rw [Nat.add_zero, a4 o (.inl Y54)]
    simp [show o < c.size by omega]
   | succ j =>
    have := a3 j Y74
    rw [show o + (j + 1) = o + 1 + j by omega, this]
    rfl
  ·simp only [List.length_cons] at hk
   rw [a4 k Y54, Array.getElem?_setIfInBounds]
   rw [if_neg Y54]
theorem zd {b : Nat} : ∀ (vs : List Value) (o : Nat) (w : World), Fr [b] w (w.setCells b o vs)
 | [], o, w => Fr.refl _ _
 | v :: r, o, w => (Fr.setCell w ⟨b, o, none⟩ v Y85).trans (zd r (o + 1) _)
theorem KL {w : World} {b : Nat} {c : Array Value} {e : TypeId} (h : At w b (.cells c e)) : w.shape? b = some (e, c.size) := by
 have h' : w.heap[b]? = some (.cells c e (0, 0)) := h
 simp [World.shape?, h']
theorem Tryz.sizeBytes (w : World) : (Go.sizeOf 22).run Tryz.prog w = .ok 1 w := by kernel_rfl
theorem qeT (w : World) (b n c vb : Nat) (us : List Value) (x : Value) (cur : Array Value) (hB : At w b (.cells cur 22)) (hcs : cur.size = c) (ht : cur.toList.take n = us) (hul : us.length = n) (hn : 1 <= n) (hroom : n + 1 <= c) (hc63 : c <= 9223372036854775807) (hne : vb ≠ b) {vc : Nat} {vcur : Array Value} (hV : At w vb (.cells vcur 22)) (hvs : vcur.size = vc) (hv1 : 1 <= vc) (hvx : vcur[0]? = some x) (h1x : x.oneCell' = true) (h1 : ∀ u ∈ us, u.oneCell' = true) :
  Calls Tryz.prog 240 #[.slice (some ⟨b, 0, none⟩) n c, .int .i64 0, .slice (some ⟨vb, 0, none⟩) 1 vc] w fun e w' => e = .returned (.slice (some ⟨b, 0, none⟩) (n + 1) c) /\ w' = (w.drew.setCells b 1 us).setCells b 0 [x] := by
 have hov : ∀ lb cb, (callFunc 257 #[.slice (some ⟨vb, 0, none⟩) 1 vc, .slice (some ⟨b, 1, none⟩) lb cb]).run Tryz.prog w = .ok (.value (.bool false)) w := fun lb cb => by
  rw [run_callFunc_extern Tryz.func257 Y55 Y55 Y55 (e := Extern.SlicesOverlaps.overlaps #[35, 35] #[4]) Y55,
   Lib.run_overlaps_apart w 35 4 22 Tryz.underlying35 1 Tryz.sizeBytes ⟨vb, 0, none⟩ ⟨b, 1, none⟩ 1 vc lb cb hne 22 22 vcur.size c (KL hV) (by rw [KL hB, hcs]) Y54 (vN hV _) (vN hV _)]
  rfl
 have hsz : (Tryz.prog.info? 22).map (·.size) = some 1 := by kernel_rfl
 have hcell : ∀ j v, us[j]? = some v -> w.cell? ⟨b, j, none⟩ = some v := fun j v hj => by
  exact Y35
 have hsome : ∀ j, j < c -> (w.cell? ⟨b, j, none⟩).isSome = true := fun j hj => by rw [qM hB, Array.getElem?_eq_getElem Y54]; rfl
 have hfz : ∀ j, w.frozen? ⟨b, j, none⟩ = false := fun j => vN hB j
 have hcp1 : ∀ ty dc sc, (Builtin.copy_ #[35, 35] ty #[.slice (some ⟨b, 1, none⟩) n dc, .slice (some ⟨b, 0, none⟩) (n + 1) sc]).run Tryz.prog w.drew = .ok (goInt us.length) (w.drew.setCells b 1 us) := fun ty dc sc =>
  run_copy_cells w.drew _ _ ty 22 b 1 n dc ⟨b, 0, none⟩ (n + 1) sc us Tryz.underlying35 hsz (by rw [hul]; simp only [Nat.min_def]; split <;> omega)
   (fun j v hj => by rw [Addr.add_lit, Nat.zero_add]; exact hcell j v hj)
   (fun j hj => hsome (1 + j) Y54) (fun j hj => hfz (1 + j)) h1
 obtain ⟨W1, hW1⟩ : ∃ W1, W1 = w.drew.setCells b 1 us := ⟨_, rfl⟩
 obtain ⟨c1, k1, k2, k3, k4⟩ := zo (w := w.drew) us 1 (b := b) (e := 22) cur hB Y54
 have hV1 : At W1 vb (.cells vcur 22) := by
  rw [hW1]
  exact (zd (b := b) us 1 w.drew).keep (b := vb) hV (by simpa using hne)
 rw [<- hW1] at k1
 have hcp2 : ∀ ty dc, (Builtin.copy_ #[35, 35] ty #[.slice (some ⟨b, 0, none⟩) (n + 1) dc, .slice (some ⟨vb, 0, none⟩) 1 vc]).run Tryz.prog W1 = .ok (goInt [x].length) (W1.setCells b 0 [x]) := fun ty dc =>
  run_copy_cells W1 _ _ ty 22 b 0 (n + 1) dc ⟨vb, 0, none⟩ 1 vc [x] Tryz.underlying35 hsz (by simp only [List.length_cons, List.length_nil, Nat.min_def]; split <;> omega)
   (fun j v hj => by
    have hj0 : j = 0 := by have := (List.getElem?_eq_some_iff.1 hj).1; simpa using this
    subst hj0
    rw [Addr.add_lit, Nat.add_zero, qM hV1, hvx]
    simpa using hj)
   (fun j hj => by rw [qM k1, Array.getElem?_eq_getElem (by simp at hj; omega)]; rfl) (fun j hj => vN k1 _) (fun v hv => by simp at hv; subst hv; exact h1x)
 rw [<- hW1] at hcp1
 have hz2 : ¬ ((0 : Int) = (n : Int)) := by omega
 have hroomi : ¬ ((c : Int) < (n : Int) + 1) := by omega
 have hb3 : (1 : Int) <= (n : Int) + 1 := by omega
 have hw1 : IntKind.i64.wrap 1 = 1 := by decide
 have hb4 : ¬ (c = 1) := by omega
 have hb5 : ¬ (c = 0) := by omega
 have hb6 : (0 : Int) <= (n : Int) + 1 := by omega
 have hb7 : n + 1 - 1 = n := by omega
 have HW1 := Hdq hW1
 clear hsome hcell k1 k2 k3 k4 hV1 hW1
 go_enter Tryz.func240, Tryz.ntmps240
 go_wp2_with (simp only [hov])
 go_region_law (refine UK rfl _ _ 35 35 rfl _ _ (by simp [Act.eval, Act.put]) (by simp [Act.eval, Act.put]) (hcp1 _ _ _) ?_)
 go_wp2_with (refine XF _ rfl _ _ 35 35 rfl _ _ rfl rfl (hcp2 _ _) ?_)
 go_ret
 first | exact ⟨rfl, rfl⟩ | exact ⟨rfl, by rw [HW1.out]⟩
theorem qdY (w : World) (b n c vb : Nat) (us : List Value) (x : Value) (cur : Array Value) (hB : At w b (.cells cur 22)) (ht : cur.toList.take n = us) (hul : us.length = n) (hn : 1 <= n) (hl : n <= 1000) (hnc : n <= c) (hroom : c < n + 1) {vc : Nat} {vcur : Array Value} (hV : At w vb (.cells vcur 22)) (hvs : vcur.size = vc) (hv1 : 1 <= vc) (hvx : vcur[0]? = some x) (h1x : x.oneCell' = true) (h1 : ∀ u ∈ us, u.oneCell' = true) :
  Calls Tryz.prog 240 #[.slice (some ⟨b, 0, none⟩) n c, .int .i64 0, .slice (some ⟨vb, 0, none⟩) 1 vc] w fun e w' => ∃ G, n + 1 <= G /\ G <= maxLen /\ e = .returned (.slice (some ⟨w.heap.size, 0, none⟩) (n + 1) G) /\ ∃ c', c'.size = G /\ w' = (((w.alloc (.cells c' 22)).drew.setCells w.heap.size 0 [x]).drew).setCells w.heap.size 1 us := by
 obtain ⟨i0, hi0, hz0, hzs, hzb⟩ := jw Tryz.infoBytes
 have hz2 : ¬ ((0 : Int) = (n : Int)) := by omega
 have hz3 : (c : Int) < (n : Int) + 1 := by omega
 have hsz : (Tryz.prog.info? 22).map (·.size) = some 1 := by kernel_rfl
 have hbw : b < w.heap.size := qk hB
 have hvw : vb < w.heap.size := qk hV
 have hcell : ∀ j v, us[j]? = some v -> w.cell? ⟨b, j, none⟩ = some v := fun j v hj => by
  exact Y35
 have hkk : (n : Int) + 1 = ((n + 1 : Nat) : Int) := by omega
 have hold : (Builtin.firstCells i0.size 0 (.slice (some ⟨b, 0, none⟩) 0 c)).run Tryz.prog w.drew = .ok #[] w.drew := by
  exact run_firstCells_some w.drew i0.size 0 ⟨b, 0, none⟩ 0 c [] Y85 (fun j v hj => by simp at hj)
 have hrz : ∀ ty, (Builtin.append_ #[35, 3] ty #[.slice (some ⟨b, 0, none⟩) 0 c, .int .i64 ((n : Int) + 1)]).run Tryz.prog w =
   .ok (.slice (some ⟨w.heap.size, 0, none⟩) (n + 1) (grownCap w (n + 1) c 22)) (w.drew.alloc (.cells (#[] ++ Builtin.zeroCells (Value.slice none 0 0).cells (n + 1) ++ Builtin.zeroCells (Value.slice none 0 0).cells (grownCap w (n + 1) c 22 - (n + 1))) 22)) := fun ty => by
  have h := Lib.run_append_grow_zeros (P := Tryz.prog) w 35 3 ty 22 i0 _ .i64 .i64 Tryz.underlying35 Tryz.underlying3 hi0 hz0 (some ⟨b, 0, none⟩) 0 c [] hold (n + 1) Y54 Y54 Y54 Y54 (by rw [hzb]; omega) (by rw [hzb, Nat.zero_add]; exact growslice_fits hroom Y54)
  rw [Nat.zero_add] at h
  rw [hkk]
  exact h
 obtain ⟨G, hG⟩ : ∃ G, G = grownCap w (n + 1) c 22 := ⟨_, rfl⟩
 obtain ⟨ROW, hROW⟩ : ∃ ROW : Array Value, ROW = #[] ++ Builtin.zeroCells (Value.slice none 0 0).cells (n + 1) ++ Builtin.zeroCells (Value.slice none 0 0).cells (G - (n + 1)) := ⟨_, rfl⟩
 rw [<- hG, <- hROW] at hrz
 have hGn : n + 1 <= G := by rw [hG]; exact grownCap_ge w _ _ _
 have hG63 : G <= maxLen := by rw [hG]; exact grownCap_le_maxLen w (n + 1) c 22 (by unfold maxLen; omega)
 have hRl : ROW.size = G := by
  rw [hROW]
  simp [Builtin.zeroCells, Value.cells]
  omega
 obtain ⟨W1, hW1⟩ : ∃ W1, W1 = w.drew.alloc (.cells ROW 22) := ⟨_, rfl⟩
 rw [<- hW1] at hrz
 have A1 : At W1 w.heap.size (.cells ROW 22) := by rw [hW1]; exact At.new rfl
 have F1 : Fr [] w W1 := by rw [hW1]; exact (Fr.drew w).trans (Fr.alloc _ _)
 have hcpA : ∀ (W : World), (∀ x, W.cell? x = W1.cell? x) -> (∀ x, W.frozen? x = W1.frozen? x) -> ∀ ty dc, (Builtin.copy_ #[35, 35] ty #[.slice (some ⟨w.heap.size, 0, none⟩) (n + 1) dc, .slice (some ⟨vb, 0, none⟩) 1 vc]).run Tryz.prog W = .ok (goInt [x].length) (W.setCells w.heap.size 0 [x]) := fun W hWc hWf ty dc =>
  run_copy_cells W _ _ ty 22 w.heap.size 0 (n + 1) dc ⟨vb, 0, none⟩ 1 vc [x] Tryz.underlying35 hsz (by simp only [List.length_cons, List.length_nil, Nat.min_def]; split <;> omega)
   (fun j v hj => by
    have hj0 : j = 0 := by have := (List.getElem?_eq_some_iff.1 hj).1; simpa using this
    subst hj0
    rw [Addr.add_lit, hWc, Nat.add_zero, qM (hV.keep0 F1), hvx]
    simpa using hj)
   (fun j hj => by rw [hWc, qM A1, Array.getElem?_eq_getElem (by simp at hj; omega)]; rfl) (fun j hj => by rw [hWf]; exact vN A1 _) (fun v hv => by simp at hv; subst hv; exact h1x)
 obtain ⟨c2, k1, k2, k3, k4⟩ := zo [x] 0 W1 ROW A1 Y57
 have hbB : At (W1.setCells w.heap.size 0 [x]) b (.cells cur 22) := (zd (b := w.heap.size) [x] 0 W1).keep (b := b) (hB.keep0 F1) Y57
 have hcpB : ∀ (W : World), (∀ x', W.cell? x' = (W1.setCells w.heap.size 0 [x]).cell? x') -> (∀ x', W.frozen? x' = (W1.setCells w.heap.size 0 [x]).frozen? x') -> ∀ ty dc sc, (Builtin.copy_ #[35, 35] ty #[.slice (some ⟨w.heap.size, 1, none⟩) n dc, .slice (some ⟨b, 0, none⟩) n sc]).run Tryz.prog W = .ok (goInt us.length) (W.setCells w.heap.size 1 us) := fun W hWc hWf ty dc sc =>
  run_copy_cells W _ _ ty 22 w.heap.size 1 n dc ⟨b, 0, none⟩ n sc us Tryz.underlying35 hsz (by rw [hul]; simp only [Nat.min_def]; split <;> omega)
   (fun j v hj => by
    rw [Addr.add_lit, Nat.zero_add, hWc, qM hbB, <- qM hB]
    exact hcell j v hj)
   (fun j hj => by rw [hWc, qM k1, Array.getElem?_eq_getElem Y54]; rfl) (fun j hj => by rw [hWf]; exact vN k1 _) h1
 subst hW1
 have hE1 : ∀ x', ((w.alloc (.cells ROW 22)).drew).cell? x' = (w.drew.alloc (.cells ROW 22)).cell? x' := fun x' => rfl
 have hE2 : ∀ x', ((w.alloc (.cells ROW 22)).drew).frozen? x' = (w.drew.alloc (.cells ROW 22)).frozen? x' := fun x' => rfl
 have hF1 : ∀ x', (((w.alloc (.cells ROW 22)).drew.setCells w.heap.size 0 [x]).drew).cell? x' = ((w.drew.alloc (.cells ROW 22)).setCells w.heap.size 0 [x]).cell? x' := fun x' => rfl
 have hF2 : ∀ x', (((w.alloc (.cells ROW 22)).drew.setCells w.heap.size 0 [x]).drew).frozen? x' = ((w.drew.alloc (.cells ROW 22)).setCells w.heap.size 0 [x]).frozen? x' := fun x' => rfl
 have hGi : ¬ (G = 0) := by omega
 have hGim : ¬ (G = 1) := by omega
 have hci : ¬ (c = 0) := by omega
 have hb3 : (1 : Int) <= (n : Int) + 1 := by omega
 have hw1 : IntKind.i64.wrap 1 = 1 := by decide
 have hb6 : (0 : Int) <= (n : Int) + 1 := by omega
 have hb7 : n + 1 - 1 = n := by omega
 have hb8 : (0 : Int) <= (n : Int) := by omega
 have HG := Hdq hGn
 have HG2 := Hdq hG63
 have HRL := Hdq hRl
 clear hkk hold hROW hG hRl hcell k1 k2 k3 k4 hbB A1 F1 hGn hG63
 go_enter Tryz.func240, Tryz.ntmps240
 go_wp2_with (first
  | (at_builtin; refine Lib.wpList_append_run _ rfl _ _ _ _ rfl _ _ rfl rfl _ _ (hrz _) ?_)
  | (refine XF _ rfl _ _ 35 35 rfl _ _ rfl rfl (hcpA _ hE1 hE2 _ _) ?_))
 go_region_law (refine UK rfl _ _ 35 35 rfl (.slice (some ⟨w.heap.size, 1, none⟩) n (G - 1)) (.slice (some ⟨b, 0, none⟩) n c) (by simp [Act.eval, Act.put]) (by simp [Act.eval, Act.put]) (hcpB _ hF1 hF2 3 (G - 1) c) ?_)
 go_wp2
 go_ret
 exact ⟨G, HG.out, HG2.out, rfl, ROW, HRL.out, rfl⟩
theorem qeo (w : World) (Z g : Nat) (v : Value) (us : List Value) (x : Value) (hO : ja 22 Z w v us) (hn : 1 <= us.length) (hl : us.length <= 1000) {vc : Nat} {vcur : Array Value} (hV : At w g (.cells vcur 22)) (hvs : vcur.size = vc) (hv1 : 1 <= vc) (hvx : vcur[0]? = some x) (hap : ∀ q, v.ownBlock = some q -> g ≠ q) (hZ : Z <= w.heap.size) (h1 : ∀ u ∈ us, u.oneCell' = true) (h1x : x.oneCell' = true) :
  Calls Tryz.prog 240 #[v, .int .i64 0, .slice (some ⟨g, 0, none⟩) 1 vc] w fun e w' => ∃ v', e = .returned v' /\ ja 22 Z w' v' (x :: us) /\ Fr v.ownBlock.toList w w' /\ ∀ q, v'.ownBlock = some q -> v.ownBlock = some q ∨ q = w.heap.size := by
 obtain ⟨h0, h2⟩ := hO
 rcases h2 with ⟨rfl, h3⟩ | ⟨b, cap, cur, rfl, hb, hh, hnc, hm, hs, ht⟩
 ·omega
 ·rw [Nat.mul_one] at hs ht
  by_cases hroom : us.length + 1 <= cap
  ·refine (qeT w b us.length cap g us x cur hh hs ht rfl hn hroom hm (hap b rfl) hV hvs hv1 hvx h1x h1).mono ?_
   rintro e w' ⟨rfl, rfl⟩
   obtain ⟨c1, k1, k2, k3, k4⟩ := zo (w := w.drew) us 1 (b := b) (e := 22) cur hh Y54
   obtain ⟨c2, m1, m2, m3, m4⟩ := zo [x] 0 _ _ k1 Y57
   refine ⟨_, rfl, ⟨by simp, .inr ⟨b, cap, c2, rfl, hb, m1, hroom, hm, by rw [m2, k2, hs]; omega, ?_⟩⟩, ?_, fun q hq => .inl hq⟩
   ·apply List.ext_getElem?
    intro j
    simp only [List.length_cons, Nat.mul_one, List.getElem?_take, Array.getElem?_toList]
    by_cases hj : j < us.length + 1
    ·rw [if_pos hj]
     cases j with
     | zero => rw [m3 0 Y85]; rfl
     | succ j =>
      rw [m4 (j + 1) (.inr Y85), show j + 1 = 1 + j by omega, k3 j Y54]
      rw [show 1 + j = j + 1 by omega]
      rfl
    ·rw [if_neg hj, List.getElem?_eq_none Y57]
   ·exact (((Fr.drew w).trans (zd (b := b) us 1 w.drew)).trans (zd [x] 0 _)).mono (by simp [Value.ownBlock])
  ·refine (qdY w b us.length cap g us x cur hh ht rfl hn hl hnc Y54 hV hvs hv1 hvx h1x h1).mono ?_
   rintro e w' ⟨G, q1, q2, rfl, c', q3, rfl⟩
   have A0 : At (w.alloc (.cells c' 22)).drew w.heap.size (.cells c' 22) := At.new (w := w) rfl
   obtain ⟨c1, k1, k2, k3, k4⟩ := zo [x] 0 _ _ A0 Y57
   have A1 : At ((w.alloc (.cells c' 22)).drew.setCells w.heap.size 0 [x]).drew w.heap.size (.cells c1 22) := k1
   obtain ⟨c2, m1, m2, m3, m4⟩ := zo us 1 _ _ A1 Y54
   refine ⟨_, rfl, ⟨by simp, .inr ⟨w.heap.size, G, c2, rfl, hZ, m1, by simpa using q1, q2, by rw [m2, k2, q3]; omega, ?_⟩⟩, ?_, fun q hq => .inr (by simpa [Value.ownBlock] using hq.symm)⟩
   ·apply List.ext_getElem?
    intro j
    simp only [List.length_cons, Nat.mul_one, List.getElem?_take, Array.getElem?_toList]
    by_cases hj : j < us.length + 1
    ·rw [if_pos hj]
     cases j with
     | zero =>
      rw [m4 0 (.inl Y54)]
      have := k3 0 Y85
      simpa using this
     | succ j =>
      rw [show j + 1 = 1 + j by omega, m3 j Y54]
      rw [show 1 + j = j + 1 by omega]
      rfl
    ·rw [if_neg hj, List.getElem?_eq_none Y57]
   ·have f1 : Fr [] w (w.alloc (.cells c' 22)).drew := (Fr.alloc w _).trans (Fr.drew _)
    have f2 := zd (b := w.heap.size) [x] 0 (w.alloc (.cells c' 22)).drew
    have f3 := zd (b := w.heap.size) us 1 ((w.alloc (.cells c' 22)).drew.setCells w.heap.size 0 [x]).drew
    exact (((f1.then f2 (fun z hz => .inr (by simp at hz; omega))).trans (Fr.drew _)).then f3 (fun z hz => .inr (by simp at hz; omega))).weak
end Go.Proofs.YtdloaifdpajcjaaGreatDoor
