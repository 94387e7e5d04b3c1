import Derived.Test.YtdloaifdpajcjaaGreatDoorPD
import Derived.Maps.AppendAt
set_option linter.unusedVariables false
set_option linter.unusedSimpArgs false
namespace Go.Bl
open Go.RowKit
section
variable {α : Type} {P : Program} {X : Cx} {L : Pl} {F : Nat -> Prop} {β : Nat -> Option Bk} {σ : St} {a : Act} {w : World} {C : FuncId -> List RA -> RA -> List RA -> Prop} {b : α} {l : List Lc} {A : Nat -> Prop}
theorem L0 {t : TypeId} {k : TypeId -> TI -> RM α} (h : (qcQ X t k).runs C σ b l) : ∃ ti e te l', X.T t = some ti /\ ti.desc = .slice e /\ X.T e = some te /\ (k e te).runs C σ b l' := by
 obtain ⟨ti, ht, h⟩ := qm h
 cases hd : ti.desc with
 | slice e =>
  rw [hd] at h
  obtain ⟨te, he, h⟩ := qm h
  exact ⟨ti, e, te, l, ht, hd, he, h⟩
 | _ => rw [hd] at h; exact h.elim
theorem Lm (S : Sim L F β σ a w) {e s : Nat} {x : AV} {u : Value} {k : List PV -> List Nat -> RM α} {m : Nat -> TypeId -> List PV -> RM α} (hs : 0 < s) (hx : qq β (Mut L.A0 β σ) w x u) (h : (qeG e s x k m).runs C σ b l) :
  (∃ xs ns l' us, (k xs ns).runs C σ b l' /\ qe (Mut L.A0 β σ) w (xs.flatMap PV.cells) us /\ (∀ x ∈ xs, x.cells.length = s) /\ (∀ x ∈ xs, ∀ c ∈ x.cells, c.one = true) /\ w.ownsRow 0 e s u xs.length us /\
   (∀ b ∈ u.ownBlock.toList, ∃ n o k, n ∈ ns /\ σ.obj n = some o /\ o.sh = false /\ β n = some k /\ k.blk = some b) /\ (ns = [] -> xs = [])) ∨
  ∃ n e' xs l' k, (m n e' xs).runs C σ b l' /\ σ.obj n = some (.mrow e' xs false) /\ β n = some k /\ u = k.v := by
 unfold qeG at h
 split at h
 ·have := uc hx
  subst this
  exact .inl ⟨[], [], _, [], h, .nil, by simp, by simp, World.ownsRow_nil _ _ _ _, by simp [Value.ownBlock], fun _ => rfl⟩
 ·rename_i n
  obtain ⟨kk, hk, rfl⟩ := za hx
  obtain ⟨o, l2, ho, -, h⟩ := h
  rcases o with ⟨e', s', xs, _ | _⟩ | ⟨e', xs, _ | _⟩ | ⟨e', bs, _ | _⟩ | ⟨e', xs, _ | _⟩ | ⟨_, _, _⟩
  ·obtain ⟨h1, h⟩ := h
   obtain ⟨rfl, rfl⟩ := h1 ()
   obtain ⟨k', us, q1, q2, q3, q4, q5, q6, q7, q8, q9⟩ := (S.objs n _ ho).row_mem
   rw [hk] at q1; cases q1
   exact .inl ⟨xs, [n], _, us, h, q4, q5, q6, q8, fun b hb => ⟨n, _, kk, List.mem_cons_self, ho, rfl, hk, Q5 Y80⟩, by simp⟩
  ·exact Y8
  ·exact Y8
  ·exact Y8
  ·exact Y8
  ·exact Y8
  ·exact .inr ⟨n, e', xs, _, kk, h, ho, hk, rfl⟩
  ·exact Y8
  ·exact Y8
 ·exact Y8
theorem VA {e : TypeId} {i : TypeInfo} {z : Value} {t ty : TypeId} {size bytes : Nat} (ht : P.underlying t = some (.slice e)) (hi : P.info? e = some i) (hz : i.zero = some z) (hsize : i.size = size) (hby : i.bytes = bytes) (hzs : z.cells.size = size) (hsz : 0 < size)
  (v : Value) (n : Nat) (xs : List Value) (hown : w.ownsRow 0 e size v n xs) (ad : Option Addr) (m c : Nat) (news : List Value) (hl : news.length = m * size) (hnews : Row (fun _ => False) w ad news) (h1 : ∀ u ∈ news, u.oneCell' = true)
  (h63 : n + m <= maxLen) (hbytes : (n + m) * bytes <= 140737488355328) :
  ∃ v' w', (Builtin.append_ #[t, t] ty #[v, .slice ad m c]).run P w = .ok v' w' /\ w'.ownsRow 0 e size v' (n + m) (xs ++ news) /\ w.grownBy w' v.ownBlock /\ (v'.ownBlock = v.ownBlock ∨ v'.ownBlock = some w.heap.size) := by
 cases ad with
 | some ad =>
  obtain ⟨v', w', h1, h2, h3, -, h4⟩ := run_append_own_at (P := P) w 0 t ty e i z size bytes ht hi hz hsize hby hzs hsz v n xs hown ad m c news hl hnews.mem h1 h63 hbytes (Nat.zero_le _)
  exact ⟨v', w', h1, h2, h3, h4⟩
 | none =>
  have hn : news = [] := by
   rcases hnews with h | ⟨b, off, c, e, fz, h, _⟩
   ·exact h
   ·cases h
  subst hn
  have hm : m = 0 := by
   simp only [List.length_nil] at hl
   rcases Nat.eq_zero_or_pos m with h | h
   ·exact h
   ·have := Nat.mul_pos h hsz; omega
  subst hm
  refine ⟨v, w, ?_, by simpa using hown, ⟨rfl, rfl, rfl, Nat.le_refl _, fun _ _ _ => rfl⟩, .inl rfl⟩
  rcases hown.2 with ⟨rfl, rfl⟩ | ⟨g, cap, cur, rfl, _, _, hnc, _⟩
  ·simp [Builtin.append_, run_underlying ht, sizeOf, typeInfo, hi, Builtin.lenOf, Builtin.firstCells]
  ·simp [Builtin.append_, run_underlying ht, sizeOf, typeInfo, hi, Builtin.lenOf, Builtin.firstCells, hnc, storeCells]
theorem XP (hX : Cok P X L) (S : Sim L F β σ a w) {F' : Nat -> Prop} {d : Nat} (hd : d < L.N) (hF : F d) (hF' : ∀ n, F' n -> F n /\ n ≠ d) {t ty : TypeId} {s x : AV} {u v : Value} (hs : qq β (Mut L.A0 β σ) w s u) (hx : qq β (Mut L.A0 β σ) w x v) {out : Out}
    (h : (qa8 X d t s x).runs C σ out l) : ∃ v' w' β', (Builtin.append_ #[t, t] ty #[u, v]).run P w = .ok v' w' /\ Sim L F' β' (σ.put (some d) out) (a.put (some d) v') w' := by
  obtain ⟨ti, e, te, l1, ht, hdt, he, h⟩ := L0 h
  split at h
  · rename_i z hz hns
    obtain ⟨hs0, h⟩ := h
    have hs0 := hs0 ()
    obtain ⟨ys, l2, h, hy⟩ := yk hX.h S hx h
    obtain ⟨hu, -⟩ := hX.T t ti ht
    rw [hdt] at hu
    obtain ⟨-, i, hi, hi1, hi2, hi3⟩ := hX.T e te he
    obtain ⟨hi4, g2, g3⟩ := hi3 _ hz
    rcases Lm S hs0 hs h with ⟨xs, ns, l3, us, h, r1, r2, r3, r4, r5, r6⟩ | ⟨n, e', xs, l3, kk, hM, ho, hk, rfl⟩
    rotate_left
    · obtain ⟨hM1, hM⟩ := hM
      obtain ⟨rfl, m2, m3, m4, m5, m6, m7, m8⟩ := hM1 ()
      obtain ⟨rfl, -⟩ := hM
      obtain ⟨k', bs, g, cur, fz, q1, q2, rfl, q4, q5, q6, q7, q8, q9, q10⟩ := S.objs n _ ho
      rw [hk] at q1; cases q1
      rcases hy with ⟨q, rfl, rfl, rfl⟩ | ⟨ad, n', cap, sz, us', rfl, hn, hc, hm, hsz, hr, hw, ho', hR⟩
      · cases hns
      · have hyb := Jn m5
        rw [hyb] at hr
        rw [z8] at hr
        have := JV hr
        subst this
        have hz8 : z () = .int .u8 0 := by rw [hz] at m4; simpa using m4
        have hn2 : n' = (ys.map uV).length := by rw [hn, List.length_map]
        have hown : VN _ 0 w (.slice (some ⟨g, 0, none⟩) bs.length kk.cap) bs := ⟨g, kk.cap, cur, fz, rfl, Nat.zero_le _, q5, q6, q7, q8, q9, q10⟩
        have hBs : Bs (fun _ => False) w (.slice ad n' cap) (ys.map uV) := by
          rw [hn2]
          exact ⟨ad, cap, rfl, by rw [<- hn2]; exact hc, hm, hR⟩
        obtain ⟨v', w', q11, q12, q13, q14⟩ := VO (P := P) (w := w) 0 t ty _ i hu hi (by rw [hi4, hz8]) (by rw [hi1, m2]) (by rw [hi2, m3]) _ _ bs (ys.map uV) hown hBs (by simpa using m7) (Nat.zero_le _) (by simpa using m6)
        obtain ⟨g', cap', cur', fz', rfl, -, r1, r2, r3, r4, r5, r6⟩ := q12
        rw [q4]
        have e5 : X.h (List PV) (fun _ => bs.map u8P ++ ys) = (bs ++ ys.map uV).map u8P := by rw [hX.h, List.map_append, <- hyb]
        rw [e5]
        have hgg : w.heap.size <= g' ∨ g' ∈ [g] := by
          rcases q14 with h9 | h9
          · exact .inr (by simpa [Value.ownBlock] using h9)
          · exact .inl (by have : g' = w.heap.size := by simpa [Value.ownBlock] using h9
                           omega)
        obtain ⟨β', hs'⟩ := U1 S (F' := F') (d := d) (gone := [n]) (S0 := [g]) hd hF hF' (Fr.grown q13 fun k hk => by simp [Value.ownBlock] at hk; simp [hk]) (fun b hb => by simp at hb; subst hb; exact ⟨n, _, kk, by simp, ho, rfl, hk, by simp [Bk.blk, q4]⟩) (by simpa using m8) hgg r1 r2 r3 r4 r5 r6
        exact ⟨_, w', β', q11, hs'⟩
    obtain ⟨h1, h⟩ := h
    obtain ⟨h2, h3, h4, h5⟩ := h1 ()
    obtain ⟨rfl, -⟩ := h
    rcases hy with ⟨q, rfl, rfl, rfl⟩ | ⟨ad, n, cap, sz, us', rfl, hn, hc, hm, hsz, hr, hw, ho, hR⟩
    · cases hns
    · have hl' := hr.length
      rw [jq h2] at hl'
      obtain ⟨v', w', q1, q2, q3, q4⟩ := VA (P := P) (ty := ty) hu hi hi4 hi1 hi2 g3 hs0 u xs.length us r4 ad n cap us' (by rw [<- hl', hn]) hR (hr.ones (Qb ho)) (by rw [hn]; exact h4) (by rw [hn]; exact h3)
      have hcat : qhr X ns xs ys = xs ++ ys := by
        cases ns with
        | nil => rw [r6 rfl]; rfl
        | cons n ns => simp only [qhr]; rw [hX.h]
      rw [hcat]
      have hmem : ∀ x ∈ xs ++ ys, x ∈ xs ∨ x ∈ ys := fun x hx => List.mem_append.1 hx
      obtain ⟨β', hn'⟩ := S.newRow (F' := F') (S0 := u.ownBlock.toList) (gone := ns) (xs := xs ++ ys) (us := us ++ us') (e := e) (s := te.size) (v := v') (w' := w') hd hF hF' (Fr.grown q3 fun k hk => by simp [hk]) r5 h5 hs0 (by rw [List.flatMap_append]; exact r1.app hr)
        (fun x hx => (hmem x hx).elim (r2 x) (h2 x)) (fun x hx => (hmem x hx).elim (r3 x) (ho x)) (by rw [List.length_append, <- hn]; exact q2)
        (fun b hb => by
          rcases q4 with h | h
          · exact .inr (by rw [<- h, hb]; simp)
          · rw [h] at hb; cases hb; exact .inl (Nat.le_refl _))
      exact ⟨v', w', β', q1, hn'⟩
  ·exact Y8
theorem KK {γ : Type} {l : List γ} {k j : Nat} {v : γ} (h : (l.take k)[j]? = some v) : l[j]? = some v := by
 rw [List.getElem?_take] at h
 split at h
 ·exact h
 ·cases h
theorem Ld (hX : Cok P X L) (S : Sim L F β σ a w) {d : Nat} (hd : d < L.N) {t tS ty : TypeId} {x y : AV} {u v : Value} (hx : qq β (Mut L.A0 β σ) w x u) (hy : qq β (Mut L.A0 β σ) w y v) {out : Out} (h : (qgx X t x y).runs C σ out l) :
  ∃ r w', (Builtin.copy_ #[t, tS] ty #[u, v]).run P w = .ok r w' /\ Sim L F β (σ.put (some d) out) (a.put (some d) r) w' := by
 obtain ⟨ti, e, te, ht, hdt, he, h⟩ := uw h
 obtain ⟨hu, -⟩ := hX.T t ti ht
 rw [hdt] at hu
 obtain ⟨-, i, hi, hi1, -⟩ := hX.T e te he
 cases x with
 | sl n off len =>
  cases hns : qdc y with
  | false => simp only [hns] at h; exact h.elim
  | true =>
   simp only [hns] at h
   obtain ⟨o, l2, ho, -, h⟩ := h
   rcases o with ⟨e', s', xs, sh⟩ | ⟨e', xs, _ | _⟩ | ⟨e', bs, sh⟩ | ⟨_, _, _⟩ | ⟨_, _, _⟩
   ·exact Y8
   ·obtain ⟨ys, l3, h, hys⟩ := yk hX.h S hy h
    obtain ⟨h4, h⟩ := h
    obtain ⟨h4, h5, h6⟩ := h4 ()
    obtain ⟨rfl, -⟩ := h
    rw [hX.h, hX.h]
    obtain ⟨k, us, b, q1, q2, q3, q4, q5, q6, q7⟩ := S.objs n _ ho
    have hsz : (P.info? e).map (·.size) = some 1 := by rw [hi]; simp [hi1, h4]
    rcases hys with ⟨q, rfl, rfl, rfl⟩ | ⟨ad, m, cap, sz, us', rfl, hn, hc, hm, hs0, hr, hw, hone, hR⟩
    ·cases hns
    ·have hl := q3.length
     have hl' := hr.length
     rw [jq h6, Nat.mul_one] at hl'
     have fin : ∀ {w' : World} (cs : List Value), qe (Mut L.A0 β σ) w ((ys.flatMap PV.cells).take len) cs -> Fr [b] w w' -> w'.heap[b]? = some (.cells (splice off cs us).toArray e' (0, 0)) ->
       Sim L F β (σ.put (some d) ⟨some (.pv (.v (.int .i64 ((min ys.length len : Nat) : Int)))), [(n, some (.var e' (splice off ((ys.flatMap PV.cells).take len) xs) false))]⟩) (a.put (some d) (.int .i64 ((min ys.length len : Nat) : Int))) w' := by
      intro w' cs hcs hf hh
      have hb : k.blk = some b := by simp [Bk.blk, q5]
      have htl : ((ys.flatMap PV.cells).take len).length <= len := List.length_take_le _ _
      have S1 := S.upd (d := none) (v := undef) (o' := .var e' (splice off ((ys.flatMap PV.cells).take len) xs) false) (fun _ h => by cases h) ho rfl rfl q1 hb hf fun A' hst =>
       ⟨k, splice off cs us, b, q1, q2, (hcs.splice q3).stay hst, fun c hc => by
        rcases uu hc with h | h
        ·exact Qb hone c (List.mem_of_mem_take h)
        ·exact q4 c h, q5, hh, by rw [q7, jb Y54]⟩
      exact S1.val (d := some d) (x := some (.pv (.v (.int .i64 ((min ys.length len : Nat) : Int))))) (v := .int .i64 ((min ys.length len : Nat) : Int)) (fun s hs => by cases hs; exact hd) fun y hy => by cases hy; exact .pv (.v rfl)
     have hcsl : (us'.take len).length = min ys.length len := by rw [List.length_take, <- hl', Nat.min_comm]
     by_cases h0 : min m len = 0
     ·have hcs0 : us'.take len = [] := List.eq_nil_of_length_eq_zero (by rw [hcsl, <- hn]; exact h0)
      have hsp : splice off (us'.take len) us = us := by rw [hcs0]; simp [splice]
      have hgo : ∀ (dp : Option Addr) (dc : Nat), u = .slice dp len dc -> ∃ r w', (Builtin.copy_ #[t, tS] ty #[u, .slice ad m cap]).run P w = .ok r w' /\ Sim L F β (σ.put (some d) ⟨some (.pv (.v (.int .i64 ((min ys.length len : Nat) : Int)))), [(n, some (.var e' (splice off ((ys.flatMap PV.cells).take len) xs) false))]⟩) (a.put (some d) r) w' := by
       rintro dp dc rfl
       refine ⟨_, _, run_copy_none (P := P) w t tS ty e dp ad len dc m cap hu hsz h0, ?_⟩
       have := fin (w' := w) (us'.take len) (hr.take len) (Fr.refl _ _) (by rw [hsp]; exact q6)
       rw [<- hn, h0] at this
       rw [<- hn, h0]
       exact this
      cases hx with
      | sl hk hb' hc' hlc hm' => exact hgo _ _ rfl
      | sl0 => exact hgo _ _ rfl
     ·cases hx with
      | sl0 => simp at h0
      | @sl _ _ _ bk c kk hk hb' hc' hlc hm' =>
       rw [q1] at hk
       cases hk
       have hbk : bk = b := by simp [Bk.blk, q5] at hb'; exact hb'.symm
       subst hbk
       rcases hR with hR | ⟨b2, o2, c2, e2, fz2, rfl, -, hh2, hc2⟩
       ·exfalso; apply h0; rw [hn]; have : ys.length = 0 := by rw [hl', hR]; rfl
        omega
       ·have hR' : Row (fun _ => False) w (some ⟨b2, o2, none⟩) us' := .inr ⟨b2, o2, c2, e2, fz2, rfl, id, hh2, hc2⟩
        have hrun := run_copy_row (P := P) w t tS ty e bk (off * k.s) len c ⟨b2, o2, none⟩ m cap us.toArray e' (us'.take len) hu hsz q6 (by rw [hcsl, hn])
         (fun j v hv => hR'.mem j v (KK hv))
         (by rw [hcsl, q2, Nat.mul_one]; simp; omega) (fun v hv => (hr.ones (Qb hone)) v (List.mem_of_mem_take hv))
        refine ⟨_, _, hrun, ?_⟩
        rw [hcsl]
        refine fin (us'.take len) (hr.take len) ?_ ?_
        ·refine ⟨rfl, rfl, rfl, by simp [World.setRow], fun x hx hnx => setRow_other w bk x _ (by simp at hnx; exact hnx)⟩
        ·have := setRow_heap w bk us.toArray (us.toArray.toList.take (off * k.s) ++ us'.take len ++ us.toArray.toList.drop (off * k.s + (us'.take len).length)).toArray e' (0, 0) q6
         rw [q2, Nat.mul_one] at this
         rw [q2, Nat.mul_one]
         rw [hcsl] at this
         have e9 : splice off (us'.take len) us = us.toArray.toList.take off ++ us'.take len ++ us.toArray.toList.drop (off + min ys.length len) := by rw [splice, hcsl]
         rw [e9]
         exact this
   ·exact Y8
   ·exact Y8
   ·exact Y8
   ·exact Y8
 | _ => exact h.elim
theorem UZ (hX : ∀ α f, X.h α f = f ()) (S : Sim L F β σ a w) : ∀ {xs : List AV} {us : List Value} {as : List RA} {k : List Nat -> RM α} {l : List Lc}, qh β (Mut L.A0 β σ) w xs us -> (qdu X xs as k).runs C σ b l ->
  ∃ ns l', (k ns).runs C σ b l' /\ ∀ A', zF β (Mut L.A0 β σ) A' ns -> jz A' w as us []
 | [], _, [], k, l, .nil, h => ⟨[], l, h, fun A' hA => .nil⟩
 | x :: xs, _, .pv y :: as, k, l, .cons hx hxs, h => by
  obtain ⟨z, ns, l1, h, hz⟩ := zN hX S x4 hx h
  obtain ⟨h1, h'⟩ := h
  obtain ⟨ms, l2, h2, h3⟩ := UZ hX S hxs h'
  have h1 := h1 ()
  subst h1
  exact ⟨ns ++ ms, l2, h2, fun A' hA => .cons (b := []) (bs := []) (.pv (hz A' hA.app.1)) (h3 A' hA.app.2)⟩
 | [], _, _ :: _, _, _, _, h => h.elim
 | _ :: _, _, [], _, _, _, h => h.elim
 | _ :: _, _, .nil :: _, _, _, _, h => h.elim
 | _ :: _, _, .own _ _ _ :: _, _, _, _, h => h.elim
 | _ :: _, _, .tup _ :: _, _, _, _, h => h.elim
 | _ :: _, _, .any :: _, _, _, _, h => h.elim
 | _ :: _, _, .hp _ _ _ :: _, _, _, _, h => h.elim
 | _ :: _, _, .itr _ _ :: _, _, _, _, h => h.elim
def Up : Value -> Nat
 | .slice _ _ c => c
 | _ => 0
def uG (d : Nat) : Nat -> List RA -> List Value -> List New
 | k, .own e s xs :: r, u :: us => ⟨zg d k, ⟨u, s, Up u⟩, .row e s xs false⟩ :: uG d (k + 1) r us
 | k, _ :: r, _ :: us => uG d (k + 1) r us
 | _, _, _ => []
theorem xY (d : Nat) : ∀ (k : Nat) (rs : List RA) (us : List Value), rs.length = us.length -> okL rs = true -> (vq d k rs).2 = xd (uG d k rs us)
 | k, [], [], _, _ => rfl
 | k, .pv x :: rs, u :: us, h, ho => by simp only [vq, uG]; exact xY d (k + 1) rs us Y62 ho
 | k, .nil :: rs, u :: us, h, ho => by simp only [vq, uG]; exact xY d (k + 1) rs us Y62 ho
 | k, .own e s xs :: rs, u :: us, h, ho => by simp only [vq, uG, xd, List.map_cons]; rw [xY d (k + 1) rs us Y62 ho]; rfl
 | k, .hp _ _ _ :: rs, u :: us, h, ho => by cases ho
 | k, .itr _ _ :: rs, u :: us, h, ho => by cases ho
 | k, .tup _ :: rs, u :: us, h, ho => by cases ho
 | k, .any :: rs, u :: us, h, ho => by cases ho
 | k, _ :: _, [], h, _ => by cases h
 | k, [], _ :: _, h, _ => by cases h
theorem zB (d : Nat) : ∀ (k : Nat) (rs : List RA) (us : List Value) (x : New), x ∈ uG d k rs us -> ∃ j, k <= j /\ x.n = zg d j
 | k, .own e s xs :: rs, u :: us, x, h => by
  simp only [uG] at h
  rcases List.mem_cons.1 h with rfl | h
  ·exact ⟨k, Nat.le_refl _, rfl⟩
  ·obtain ⟨j, h1, h2⟩ := zB d (k + 1) rs us x h; exact ⟨j, by omega, h2⟩
 | k, .pv _ :: rs, u :: us, x, h => by obtain ⟨j, h1, h2⟩ := zB d (k + 1) rs us x h; exact ⟨j, by omega, h2⟩
 | k, .nil :: rs, u :: us, x, h => by obtain ⟨j, h1, h2⟩ := zB d (k + 1) rs us x h; exact ⟨j, by omega, h2⟩
 | k, .hp _ _ _ :: rs, u :: us, x, h => by obtain ⟨j, h1, h2⟩ := zB d (k + 1) rs us x h; exact ⟨j, by omega, h2⟩
 | k, .itr _ _ :: rs, u :: us, x, h => by obtain ⟨j, h1, h2⟩ := zB d (k + 1) rs us x h; exact ⟨j, by omega, h2⟩
 | k, .tup _ :: rs, u :: us, x, h => by obtain ⟨j, h1, h2⟩ := zB d (k + 1) rs us x h; exact ⟨j, by omega, h2⟩
 | k, .any :: rs, u :: us, x, h => by obtain ⟨j, h1, h2⟩ := zB d (k + 1) rs us x h; exact ⟨j, by omega, h2⟩
 | k, [], us, x, h => by cases us <;> cases h
 | k, r :: rs, [], x, h => by cases r <;> cases h
theorem zX (d : Nat) : ∀ (k : Nat) (rs : List RA) (us : List Value), ((uG d k rs us).map (·.n)).Nodup
 | k, .own e s xs :: rs, u :: us => by
  simp only [uG, List.map_cons, List.nodup_cons]
  refine ⟨fun h => ?_, zX d (k + 1) rs us⟩
  obtain ⟨x, h1, h2⟩ := List.mem_map.1 h
  obtain ⟨j, h3, h4⟩ := zB d (k + 1) rs us x h1
  rw [h4] at h2
  simp only [zg] at h2
  omega
 | k, .pv _ :: rs, u :: us => zX d (k + 1) rs us
 | k, .nil :: rs, u :: us => zX d (k + 1) rs us
 | k, .hp _ _ _ :: rs, u :: us => zX d (k + 1) rs us
 | k, .itr _ _ :: rs, u :: us => zX d (k + 1) rs us
 | k, .tup _ :: rs, u :: us => zX d (k + 1) rs us
 | k, .any :: rs, u :: us => zX d (k + 1) rs us
 | k, [], us => by cases us <;> simp [uG]
 | k, r :: rs, [] => by cases r <;> simp [uG]
structure XX (A : Nat -> Prop) (w : World) (bs : List Nat) (x : New) : Prop where
 sh : x.o.sh = false
 one : x.k.v.oneCell' = true
 blk : ∀ b, x.k.blk = some b -> b ∈ bs
 ob : ∀ β', β' x.n = some x.k -> zA β' A w x.n x.o
theorem Zx {A : Nat -> Prop} {e s n : Nat} {xs : List PV} {v : Value} {us : List Value} (hs : 0 < s) (h1 : qe A w (xs.flatMap PV.cells) us) (h2 : ∀ x ∈ xs, x.cells.length = s) (h3 : ∀ x ∈ xs, ∀ c ∈ x.cells, c.one = true) (h4 : w.ownsRow 0 e s v xs.length us) :
  XX A w v.ownBlock.toList ⟨n, ⟨v, s, Up v⟩, .row e s xs false⟩ := by
 rcases h4.2 with ⟨h, h0⟩ | ⟨g, cap, cur, hv, hg, hh, hn, hm, hz, ht⟩
 ·subst h
  exact ⟨rfl, rfl, fun b hb => by simp [Bk.blk] at hb, fun β' hb => ⟨_, us, hb, rfl, hs, h1, h2, h3, h4, fun b hb => by simp [Bk.blk] at hb⟩⟩
 ·subst hv
  exact ⟨rfl, rfl, fun b hb => by simp [Bk.blk] at hb; subst hb; simp [Value.ownBlock], fun β' hb => ⟨_, us, hb, rfl, hs, h1, h2, h3, h4, fun b hb => by simp [Bk.blk] at hb; subst hb; exact ⟨rfl, hm⟩⟩⟩
theorem z7 {A : Nat -> Prop} (d : Nat) : ∀ {rs : List RA} {us : List Value} {bs : List Nat} (k : Nat), jz A w rs us bs -> bs.Nodup -> (∀ x ∈ uG d k rs us, XX A w bs x) /\ ∀ x ∈ uG d k rs us, ∀ z ∈ uG d k rs us, ∀ b, x.k.blk = some b -> z.k.blk = some b -> x.n = z.n
 | [], _, _, k, .nil, _ => ⟨by simp [uG], by simp [uG]⟩
 | .pv x :: rs, _, _, k, .cons (.pv h) h2, hn => z7 d (k + 1) h2 hn
 | .nil :: rs, _, _, k, .cons .nil h2, hn => z7 d (k + 1) h2 hn
 | .any :: rs, _, _, k, .cons .any h2, hn => z7 d (k + 1) h2 hn
 | .tup xs :: rs, _, _, k, .cons (.tup h) h2, hn => by
  obtain ⟨h3, h4⟩ := z7 d (k + 1) h2 (List.nodup_append.1 hn).2.1
  exact ⟨fun x hx => ⟨(h3 x hx).sh, (h3 x hx).one, fun b hb => List.mem_append.2 (.inr ((h3 x hx).blk b hb)), (h3 x hx).ob⟩, h4⟩
 | .own e s xs :: rs, _, _, k, .cons (.own q1 q2 q3 q4 q5) h2, hn => by
  obtain ⟨h3, h4⟩ := z7 d (k + 1) h2 (List.nodup_append.1 hn).2.1
  have hb := Zx (n := zg d k) q1 q2 q3 q4 q5
  have hdis := (List.nodup_append.1 hn).2.2
  refine ⟨fun x hx => ?_, fun x hx z hz b hxb hzb => ?_⟩
  ·simp only [uG] at hx
   rcases List.mem_cons.1 hx with rfl | hx
   ·exact ⟨hb.sh, hb.one, fun b h => List.mem_append.2 (.inl (hb.blk b h)), hb.ob⟩
   ·exact ⟨(h3 x hx).sh, (h3 x hx).one, fun b h => List.mem_append.2 (.inr ((h3 x hx).blk b h)), (h3 x hx).ob⟩
  ·simp only [uG] at hx hz
   rcases List.mem_cons.1 hx with rfl | hx <;> rcases List.mem_cons.1 hz with rfl | hz
   ·rfl
   ·exact absurd rfl (hdis b (hb.blk b hxb) b ((h3 z hz).blk b hzb))
   ·exact absurd rfl (hdis b (hb.blk b hzb) b ((h3 x hx).blk b hxb))
   ·exact h4 x hx z hz b hxb hzb
theorem yP {β : Nat -> Option Bk} {A : Nat -> Prop} (d : Nat) : ∀ {rs : List RA} {us : List Value} {bs : List Nat} (k : Nat), jz A w rs us bs -> okL rs = true -> (∀ x ∈ uG d k rs us, β x.n = some x.k) -> qh β A w (vq d k rs).1 us
 | [], _, _, k, .nil, _, _ => .nil
 | .pv x :: rs, _, _, k, .cons (.pv h) h2, ho, hb => .cons (.pv h) (yP d (k + 1) h2 ho hb)
 | .nil :: rs, _, _, k, .cons .nil h2, ho, hb => .cons .nil (yP d (k + 1) h2 ho hb)
 | .own e s xs :: rs, u :: us, _, k, .cons (.own q1 q2 q3 q4 q5) h2, ho, hb =>
  .cons (.own (k := ⟨u, s, Up u⟩) (hb ⟨zg d k, ⟨u, s, Up u⟩, .row e s xs false⟩ (by simp [uG]))) (yP d (k + 1) h2 ho fun x hx => hb x (by simp only [uG]; exact List.mem_cons_of_mem _ hx))
 | .any :: rs, _, _, k, _, ho, _ => by cases ho
 | .tup xs :: rs, _, _, k, _, ho, _ => by cases ho
 | .hp _ _ _ :: rs, _, _, k, _, ho, _ => by cases ho
 | .itr _ _ :: rs, _, _, k, _, ho, _ => by cases ho
def bks (d : Nat) : RA -> Value -> List New
 | .own e s xs, u => [⟨d, ⟨u, s, Up u⟩, .row e s xs false⟩]
 | .tup xs, .tuple us => uG d 1 xs us.toList
 | _, _ => []
theorem jz.length {A : Nat -> Prop} : ∀ {rs : List RA} {us : List Value} {bs : List Nat}, jz A w rs us bs -> rs.length = us.length
 | _, _, _, .nil => rfl
 | _, _, _, .cons _ h => by simp [jz.length h]
theorem QL {A : Nat -> Prop} (d : Nat) {r : RA} {u : Value} {bs : List Nat} (h : uN A w r u bs) (ho : okR r = true) (hn : bs.Nodup) :
  (Qn d r).2 = xd (bks d r u) /\ ((bks d r u).map (·.n)).Nodup /\ (∀ x ∈ bks d r u, x.n % 1000 = d % 1000) /\ (∀ x ∈ bks d r u, XX A w bs x) /\ (∀ x ∈ bks d r u, ∀ z ∈ bks d r u, ∀ b, x.k.blk = some b -> z.k.blk = some b -> x.n = z.n) /\
   ∀ β : Nat -> Option Bk, (∀ x ∈ bks d r u, β x.n = some x.k) -> qq β A w (Qn d r).1 u := by
 cases h with
 | pv h => exact ⟨rfl, by simp [bks], by simp [bks], by simp [bks], by simp [bks], fun β _ => .pv h⟩
 | nil => exact ⟨rfl, by simp [bks], by simp [bks], by simp [bks], by simp [bks], fun β _ => .nil⟩
 | @own e s xs v us q1 q2 q3 q4 q5 =>
  refine ⟨rfl, by simp [bks], by simp [bks], fun x hx => ?_, fun x hx z hz b _ _ => ?_, fun β hb => ?_⟩
  ·simp only [bks, List.mem_singleton] at hx
   subst hx
   exact Zx q1 q2 q3 q4 q5
  ·simp only [bks, List.mem_singleton] at hx hz
   rw [hx, hz]
  ·exact .own (k := ⟨_, _, Up _⟩) (hb ⟨d, ⟨u, s, Up u⟩, .row e s xs false⟩ (by simp [bks]))
 | @tup xs us bs h =>
  have ho' : okL xs = true := ho
  have e : bks d (.tup xs) (.tuple us.toArray) = uG d 1 xs us := by simp [bks]
  rw [e]
  obtain ⟨h3, h4⟩ := z7 d 1 h hn
  refine ⟨xY d 1 xs us h.length ho', zX d 1 xs us, fun x hx => ?_, h3, h4, fun β hb => .tup (yP d 1 h ho' hb)⟩
  obtain ⟨j, -, hj⟩ := zB d 1 xs us x hx
  rw [hj, zg]
  omega
 | any => cases ho
theorem qh8 {A A' : Nat -> Prop} {w w' : World} {r : RA} {u : Value} {bs : List Nat} (h : uN A w r u bs) (hr : r.free = true) : uN A' w' r u bs := by
 cases h with
 | pv h => exact .pv (h.free hr)
 | @tup xs us bs h =>
  have key : ∀ {xs : List RA} {us : List Value} {bs : List Nat}, jz A w xs us bs -> Xx xs = true -> jz A' w' xs us bs := by
   intro xs
   induction xs with
   | nil => intro us bs h _; cases h; exact .nil
   | cons x xs ih =>
    intro us bs h hf
    cases x with
    | pv x =>
     simp only [Xx, Bool.and_eq_true] at hf
     cases h with
     | cons h1 h2 =>
      cases h1 with
      | pv h1 => exact .cons (.pv (h1.free hf.1)) (ih h2 hf.2)
    | _ => cases hf
  exact .tup (key h hr)
 | _ => cases hr
theorem Kq (σ : St) (sh : List (Nat × Option Ob)) (d : Nat) (y : Option AV) (q : List (Nat × Option Ob)) : (σ.more sh).put (some d) ⟨y, q⟩ = σ.put (some d) ⟨y, q ++ sh⟩ := by
 simp [St.put, St.more, List.append_assoc]
theorem UT (S : Sim L F β σ a w) {F' : Nat -> Prop} {d : Nat} {w' : World} {A : Nat -> Prop} {r : RA} {v : Value} {b1 b2 : List Nat} (hd : d < L.N) (hd1 : d < 1000) (hF : ∀ n, n % 1000 = d -> F n) (hF' : ∀ n, F' n -> F n /\ n % 1000 ≠ d) (hfr : Fr [] w w')
  (hr : uN (fun b => (A b /\ b ∉ ([] : List Nat)) ∨ b ∈ b1 ++ b2) w' r v b1) (hok : okR r = true) (hn : (b1 ++ b2).Nodup) (hb : ∀ b ∈ b1 ++ b2, (b ∈ ([] : List Nat) ∨ w.heap.size <= b) /\ b < w'.heap.size)
  (hA : r.free = true ∨ ∀ b, Mut L.A0 β σ b -> A b) : ∃ β', Sim L F' β' (σ.put (some d) ⟨some (Qn d r).1, (Qn d r).2⟩) (a.put (some d) v) w' := by
 obtain ⟨h1, h2, h3, h4, h5, h6⟩ := QL d hr hok (List.nodup_append.1 hn).1
 rw [h1]
 have hd2 : d % 1000 = d := Nat.mod_eq_of_lt hd1
 have hnew : ∀ x ∈ bks d r v, ∀ b, x.k.blk = some b -> b ∈ b1 /\ w.heap.size <= b := fun x hx b hxb => by
  have := (h4 x hx).blk b hxb
  refine ⟨this, ?_⟩
  rcases (hb b (List.mem_append.2 (.inl this))).1 with h | h
  ·cases h
  ·exact h
 have hst : ∀ A', (∀ b, A' b -> Mut L.A0 β σ b ∨ ∃ x ∈ bks d r v, x.k.blk = some b) -> r.free = true ∨ qQ (fun b => (A b /\ b ∉ ([] : List Nat)) ∨ b ∈ b1 ++ b2) A' w' w' := by
  intro A' hA'
  rcases hA with hA | hA
  ·exact .inl hA
  ·refine .inr ⟨fun _ _ _ => rfl, fun b _ h => ?_⟩
   rcases hA' b h with h | ⟨x, hx, hxb⟩
   ·exact .inl ⟨hA b h, by simp⟩
   ·exact .inr (List.mem_append.2 (.inl (hnew x hx b hxb).1))
 have hfree : r.free = true -> bks d r v = [] := by
  intro hf
  cases hr with
  | pv _ => rfl
  | nil => rfl
  | own _ _ _ _ _ => cases hf
  | any => rfl
  | @tup xs us bs h =>
   have : ∀ {xs : List RA} {k : Nat} {us : List Value}, Xx xs = true -> uG d k xs us = [] := by
    intro xs
    induction xs with
    | nil => intro k us _; cases us <;> rfl
    | cons x xs ih =>
     intro k us hf
     cases x with
     | pv x =>
      simp only [Xx, Bool.and_eq_true] at hf
      cases us with
      | nil => rfl
      | cons u us => exact ih hf.2
     | _ => cases hf
   show uG d 1 xs us.toArray.toList = []
   exact this hf
 have hn' := S.news (F' := F') (w' := w') (N := bks d r v) (gone := []) (S0 := []) (d := some d) (y := some (Qn d r).1) (v := v) (fun s hs => by cases hs; exact hd) hfr Y85 h2 (fun x hx => hF _ (by rw [h3 x hx, hd2]))
  (fun n hn => ⟨(hF' n hn).1, fun x hx e => (hF' n hn).2 (by rw [e, h3 x hx, hd2])⟩) (fun x hx => (h4 x hx).sh) (fun x hx => (h4 x hx).one) (fun x hx b hxb => .inl (hnew x hx b hxb).2) h5 Y85
  (fun A' hA' hs hg x hx => by
   rcases hst A' hA' with hf | hs'
   ·rw [hfree hf] at hx; cases hx
   ·exact ((h4 x hx).ob (jM β (bks d r v)) (j9 h2 hx)).mono (jp.refl _) hs' fun _ _ _ _ => rfl)
  (fun A' hA' hs hg z hz => by
   cases hz
   have hb' : ∀ x ∈ bks d r v, jM β (bks d r v) x.n = some x.k := fun x hx => j9 h2 hx
   rcases hst A' hA' with hf | hs'
   ·have hr2 := qh8 (A' := A') (w' := w') hr hf
    obtain ⟨-, -, -, -, -, h6'⟩ := QL d hr2 hok (List.nodup_append.1 hn).1
    exact h6' _ hb'
   ·exact (h6 _ hb').mono (jp.refl _) hs')
 simp only [List.map_nil, List.append_nil] at hn'
 exact ⟨_, hn'⟩
theorem qce (S : Sim L F β σ a w) {d : Nat} (hd : d < L.N) {f : FuncId} {n e s : Nat} {us zs : List PV} {r : RA} {vals : List Value} (ho : σ.obj n = some (.row e s us false)) (hxs : qh β (Mut L.A0 β σ) w [.own n] vals) (hlt : ∀ b, Mut L.A0 β σ b -> b < w.heap.size)
  (hcon : Con P L.G f [.own e s us] r [.own e s zs]) :
  Calls P f vals.toArray w fun e' w' => ∃ v, e' = .returned v /\ ∃ β', Sim L F β' (σ.put (some d) ⟨none, [(n, some (.row e s zs false))]⟩) (a.put (some d) v) w' := by
 cases hxs with
 | cons hx hn0 =>
  cases hn0
  cases hx with
  | @own _ k hk =>
   obtain ⟨k', ws, q1, q2, q3, q4, q5, q6, q7, q8⟩ := S.objs n _ ho
   rw [hk] at q1
   cases q1
   have hM : ∀ b ∈ k.v.ownBlock.toList, Mut L.A0 β σ b := fun b hb => .inr ⟨n, _, k, ho, rfl, hk, Q5 Y80⟩
   refine (hcon.2 w [k.v] (k.v.ownBlock.toList ++ []) (Mut L.A0 β σ) hlt (by simpa using hM) (by rw [List.append_nil]; cases k.v.ownBlock <;> simp) S.env (.cons (.own q3 q4 q5 q6 q7) .nil)).mono ?_
   rintro e' w' ⟨v, b1, b2, rfl, -, hr, -, -, hf⟩
   refine ⟨v, rfl, β, ?_⟩
   rw [List.append_nil] at hf hr
   cases hr with
   | @cons _ _ _ _ c1 c2 g1 g2 =>
    cases g2
    cases g1 with
    | @own _ _ _ _ us2 p1 p2 p3 p4 p5 =>
     rw [List.append_nil] at p2
     rcases p5.2 with ⟨hv, hu⟩ | ⟨g, cap, cur, hv, hg, hh, p6, p7, p8, p9⟩
     ·have hz : zs = [] := List.eq_nil_of_length_eq_zero hu
      have hu0 : us = [] := by
       rcases q7.2 with ⟨-, h⟩ | ⟨g, cap, cur, hv', -⟩
       ·exact List.eq_nil_of_length_eq_zero h
       ·rw [hv] at hv'; cases hv'
      subst hz hu0
      have hf' : Fr [] w w' := by rw [hv] at hf; exact hf
      have hn' := S.news (F' := F) (w' := w') (N := []) (gone := []) (S0 := []) (d := some d) (y := none) (v := v) (fun s hs => by cases hs; exact hd) hf' Y85 Y85 Y85 (fun n hn => ⟨hn, by simp⟩) Y85 Y85 Y85 Y85 Y85 Y85 Y85
      have e0 : jM β [] = β := by funext m; simp [jM, xd, qp]
      rw [e0] at hn'
      refine hn'.ext (fun s => rfl) fun m => ?_
      show St.obj ⟨_, [(n, some _)] ++ σ.objs⟩ m = St.obj ⟨_, _⟩ m
      simp only [St.obj, List.cons_append, List.nil_append, qp, xd, List.map_nil]
      by_cases hm : m = n
      ·subst hm
       rw [if_pos rfl]
       exact ho.symm
      ·rw [if_neg hm]
     ·have hb : k.blk = some g := by simp [Bk.blk, hv]
      have hob : k.v.ownBlock.toList = [g] := by simp [hv, Value.ownBlock]
      rw [hob] at hf
      refine S.upd2 (fun s hs => by cases hs; exact hd) ho rfl rfl hk hb hf fun hst => ?_
      refine ⟨k, us2, hk, q2, p1, p2.stay ⟨fun _ _ _ => rfl, fun b _ hb' => ?_⟩, p3, p4, p5, fun b hb' => ?_⟩
      ·by_cases hm : b ∈ k.v.ownBlock.toList
       ·exact .inr (by simp; exact .inr (by simpa using hm))
       ·exact .inl ⟨hb', hm⟩
      ·rw [hb] at hb'; cases hb'
       obtain ⟨q9, q10⟩ := q8 g hb
       have : zs.length = us.length := by
        rw [hv] at q9
        simp only [Value.slice.injEq] at q9
        exact q9.2.1
       rw [this]
       exact ⟨q9, q10⟩
theorem Ju : ∀ {l : List Nat} {n : Nat}, vd l n = true ↔ n ∈ l
 | [], n => by simp [vd]
 | x :: l, n => by simp [vd, Ju (l := l)]
theorem zP : ∀ {l : List Nat}, jH l = true -> l.Nodup
 | [], _ => List.nodup_nil
 | x :: l, h => by
  simp only [jH, Bool.and_eq_true, Bool.not_eq_true'] at h
  refine List.nodup_cons.2 ⟨fun hm => ?_, zP h.2⟩
  have := Ju.2 hm
  rw [h.1] at this; cases this
theorem qbG (S : Sim L F β σ a w) {F' : Nat -> Prop} {d : Nat} {w' : World} {A : Nat -> Prop} {r : RA} {v : Value} {b1 b2 : List Nat} (hd : d < L.N) (hd1 : d < 1000) (hF : ∀ n, n % 1000 = d -> F n) (hF' : ∀ n, F' n -> F n /\ n % 1000 ≠ d) {gs : List Nat} (hgs : ∀ g ∈ gs, (∃ o, σ.obj g = some o /\ o.sh = false) /\ g % 1000 ≠ d) {S0 : List Nat} (hS0 : ∀ b ∈ S0, ∃ g ∈ gs, ∃ k, β g = some k /\ k.blk = some b) (hfr : Fr S0 w w')
  (hr : uN (fun b => (A b /\ b ∉ S0) ∨ b ∈ b1 ++ b2) w' r v b1) (hok : okR r = true) (hn : (b1 ++ b2).Nodup) (hb : ∀ b ∈ b1 ++ b2, (b ∈ S0 ∨ w.heap.size <= b) /\ b < w'.heap.size)
  (hA : ∀ b, Mut L.A0 β σ b -> A b) : ∃ β', Sim L F' β' (σ.put (some d) ⟨some (Qn d r).1, (Qn d r).2 ++ gs.map fun g => (g, none)⟩) (a.put (some d) v) w' := by
 obtain ⟨h1, h2, h3, h4, h5, h6⟩ := QL d hr hok (List.nodup_append.1 hn).1
 rw [h1]
 have hd2 : d % 1000 = d := Nat.mod_eq_of_lt hd1
 have hnew : ∀ x ∈ bks d r v, ∀ b, x.k.blk = some b -> b ∈ b1 /\ (w.heap.size <= b ∨ b ∈ S0) := fun x hx b hxb => by
  have := (h4 x hx).blk b hxb
  exact ⟨this, (hb b (List.mem_append.2 (.inl this))).1.symm⟩
 have hst : ∀ A', (∀ b, A' b -> (Mut L.A0 β σ b /\ b ∉ S0) ∨ ∃ x ∈ bks d r v, x.k.blk = some b) -> qQ (fun b => (A b /\ b ∉ S0) ∨ b ∈ b1 ++ b2) A' w' w' := by
  intro A' hA'
  refine ⟨fun _ _ _ => rfl, fun b _ h => ?_⟩
  rcases hA' b h with h | ⟨x, hx, hxb⟩
  ·exact .inl ⟨hA b h.1, h.2⟩
  ·exact .inr (List.mem_append.2 (.inl (hnew x hx b hxb).1))
 have hn' := S.news2 (F' := F') (w' := w') (N := bks d r v) (gone := gs) (S0 := S0) (d := some d) (y := some (Qn d r).1) (v := v) (fun s hs => by cases hs; exact hd) hfr (fun b hb => by
   obtain ⟨g, hg, k, g1, g2⟩ := hS0 b hb
   obtain ⟨⟨o, g3, g4⟩, -⟩ := hgs g hg
   exact ⟨g, o, k, hg, g3, g4, g1, g2⟩) h2 (fun x hx => hF _ (by rw [h3 x hx, hd2]))
  (fun n hn => ⟨(hF' n hn).1, fun x hx e => (hF' n hn).2 (by rw [e, h3 x hx, hd2])⟩) (fun x hx => (h4 x hx).sh) (fun x hx => (h4 x hx).one) (fun x hx b hxb => (hnew x hx b hxb).2) h5
  (fun g hg x hx e => (hgs g hg).2 (by rw [e, h3 x hx, hd2]))
  (fun A' hA' hs hg x hx => ((h4 x hx).ob (jM β (bks d r v)) (j9 h2 hx)).mono (jp.refl _) (hst A' hA') fun _ _ _ _ => rfl)
  (fun A' hA' hs hg z hz => by
   cases hz
   have hb' : ∀ x ∈ bks d r v, jM β (bks d r v) x.n = some x.k := fun x hx => j9 h2 hx
   exact (h6 _ hb').mono (jp.refl _) (hst A' hA'))
 exact ⟨_, hn'⟩
def VQ (β : Nat -> Option Bk) : List Nat -> List Nat
 | [] => []
 | g :: gs => (match β g with | some k => k.v.ownBlock.toList | none => []) ++ VQ β gs
theorem Jg : ∀ {gs : List Nat} {b : Nat}, b ∈ VQ β gs -> ∃ g ∈ gs, ∃ k, β g = some k /\ k.blk = some b
 | g :: gs, b, h => by
  rcases List.mem_append.1 h with h | h
  ·cases hk : β g with
   | none => rw [hk] at h; cases h
   | some k => rw [hk] at h; exact ⟨g, List.mem_cons_self, k, hk, Q5 Y62⟩
  ·obtain ⟨g', h1, h2⟩ := Jg h
   exact ⟨g', List.mem_cons_of_mem _ h1, h2⟩
theorem Um (S : Sim L F β σ a w) : ∀ {gs : List Nat}, gs.Nodup -> (∀ g ∈ gs, ∃ o, σ.obj g = some o /\ o.sh = false) -> (VQ β gs).Nodup
 | [], _, _ => List.nodup_nil
 | g :: gs, hn, hg => by
  rw [List.nodup_cons] at hn
  refine List.nodup_append.2 ⟨?_, Um S hn.2 fun x hx => hg x (List.mem_cons_of_mem _ hx), ?_⟩
  ·cases β g with
   | none => exact List.nodup_nil
   | some k => cases h : k.v.ownBlock <;> simp [h]
  ·rintro x hx y hy rfl
   obtain ⟨g', h1, k', h2, h3⟩ := Jg hy
   cases hk : β g with
   | none => rw [hk] at hx; cases hx
   | some k =>
    rw [hk] at hx
    obtain ⟨o, q1, -⟩ := hg g List.mem_cons_self
    obtain ⟨o', q2, -⟩ := hg g' (List.mem_cons_of_mem _ h1)
    have := S.inj g g' o o' k k' x q1 q2 hk h2 (Q5 (by simpa using hx)) h3
    subst this
    exact hn.1 h1
theorem WV (hX : ∀ α f, X.h α f = f ()) (S : Sim L F β σ a w) : ∀ {xs : List AV} {us : List Value} {as : List RA} {k : List Nat -> List Nat -> RM α} {l : List Lc}, qh β (Mut L.A0 β σ) w xs us -> (KP X xs as k).runs C σ b l ->
  ∃ ns gs l', (k ns gs).runs C σ b l' /\ (∀ g ∈ gs, ∃ o, σ.obj g = some o /\ o.sh = false) /\ ∀ A', zF β (Mut L.A0 β σ) A' ns -> jz A' w as us (VQ β gs) := by
 intro xs
 induction xs with
 | nil =>
  intro us as k l hxs h
  cases hxs
  cases as with
  | nil => exact ⟨[], [], l, h, by simp, fun A' hA => .nil⟩
  | cons _ _ => exact h.elim
 | cons x xs ih =>
  intro us as k l hxs h
  cases hxs with
  | @cons _ u _ us hx hxs =>
   cases as with
   | nil => cases x <;> exact h.elim
   | cons r as =>
    have plain : ∀ y, r = .pv y -> (ZC X x4 x fun z ns => .chk (fun _ => z = y) (KP X xs as fun ms gs => k (ns ++ ms) gs)).runs C σ b l -> ∃ ns gs l', (k ns gs).runs C σ b l' /\ (∀ g ∈ gs, ∃ o, σ.obj g = some o /\ o.sh = false) /\ ∀ A', zF β (Mut L.A0 β σ) A' ns -> jz A' w (r :: as) (u :: us) (VQ β gs) := by
     rintro y rfl h
     obtain ⟨z, ns, l1, h, hz⟩ := zN hX S x4 hx h
     obtain ⟨h1, h'⟩ := h
     obtain ⟨ms, gs, l2, h2, h3, h4⟩ := ih hxs h'
     have h1 := h1 ()
     subst h1
     exact ⟨ns ++ ms, gs, l2, h2, h3, fun A' hA => .cons (b := []) (.pv (hz A' hA.app.1)) (h4 A' hA.app.2)⟩
    cases r with
    | pv y =>
     cases x with
     | _ => exact plain y rfl h
    | own e s ys =>
     cases x with
     | own n =>
      obtain ⟨o, l2, ho, -, h⟩ := h
      rcases o with ⟨e0, s0, us0, _ | _⟩ | ⟨e', xs', sh⟩ | ⟨e', bs', sh⟩ | ⟨_, _, _⟩ | ⟨_, _, _⟩
      ·obtain ⟨h4, h⟩ := h
       obtain ⟨rfl, rfl, rfl⟩ := h4 ()
       obtain ⟨ms, gs, l3, h2, h3, h5⟩ := ih hxs h
       cases hx with
       | @own _ kk hk =>
        obtain ⟨k', ws, q1, q2, q3, q4, q5, q6, q7, q8⟩ := S.objs n _ ho
        rw [hk] at q1
        cases q1
        refine ⟨ms, n :: gs, l3, h2, ?_, fun A' hA => ?_⟩
        ·intro g hg
         rcases List.mem_cons.1 hg with rfl | hg
         ·exact ⟨_, ho, rfl⟩
         ·exact h3 g hg
        ·have e1 : VQ β (n :: gs) = kk.v.ownBlock.toList ++ VQ β gs := by rw [VQ, hk]
         rw [e1]
         exact .cons (.own q3 (q4.stay ⟨fun _ _ _ => rfl, fun b _ hb => hA.sub b hb⟩) q5 q6 q7) (h5 A' hA)
      ·exact Y8
      ·exact Y8
      ·exact Y8
      ·exact Y8
      ·exact Y8
     | _ => exact h.elim
    | _ => cases x <;> exact h.elim
theorem Ll (hX : Cok P X L) (S : Sim L F β σ a w) {F' : Nat -> Prop} {d : Nat} (hd : d < L.N) (hd1 : d < 1000) (hF : ∀ n, n % 1000 = d -> F n) (hF' : ∀ n, F' n -> F n /\ n % 1000 ≠ d) {f : FuncId} {as outs : List RA} {r : RA} {xs : List AV} {us : List Value} (hxs : qh β (Mut L.A0 β σ) w xs us)
  (hlt : ∀ b, Mut L.A0 β σ b -> b < w.heap.size) (hcon : Con P L.G f as r outs) {out : Out} (h : (qdx X d xs as r).runs C σ out l) :
  Calls P f us.toArray w fun e w' => ∃ v, e = .returned v /\ ∃ β', Sim L F' β' (σ.put (some d) out) (a.put (some d) v) w' := by
 unfold qdx at h
 cases hok : okR r with
 | false => rw [hok] at h; exact h.elim
 | true =>
  rw [hok] at h
  obtain ⟨ns, gs, l2, h, hg, hp⟩ := WV hX.h S hxs h
  obtain ⟨sh, l3, h, hsh⟩ := zn h
  cases hc : jH gs && qc0 d gs sh with
  | false => simp only [hc] at h; exact h.elim
  | true =>
   simp only [hc] at h
   obtain ⟨rfl, -⟩ := h
   simp only [Bool.and_eq_true] at hc
   obtain ⟨hc1, hc2⟩ := hc
   have hc1 := zP hc1
   have hc2 : ∀ g ∈ gs, g % 1000 ≠ d /\ qp sh g = none := fun g hgg => by
    have := List.all_eq_true.1 hc2 g hgg
    simpa using this
   obtain ⟨S', hA⟩ := S.share hsh
   have hg' : ∀ g ∈ gs, ∃ o, (σ.more sh).obj g = some o /\ o.sh = false := fun g hgg => by
    obtain ⟨o, h1, h2⟩ := hg g hgg
    exact ⟨o, by rw [Xh hsh (hc2 g hgg).2]; exact h1, h2⟩
   have hM : ∀ b ∈ VQ β gs, Mut L.A0 β (σ.more sh) b := fun b hb => by
    obtain ⟨g, h1, k, h2, h3⟩ := Jg hb
    obtain ⟨o, h4, h5⟩ := hg' g h1
    exact .inr ⟨g, o, k, h4, h5, h2, h3⟩
   refine (hcon.2 w us (VQ β gs) (Mut L.A0 β (σ.more sh)) (fun b hb => hlt b (hA.sub b hb)) hM (Um S hc1 hg) S'.env (hp _ hA)).mono ?_
   rintro e' w' ⟨v, b1, b2, rfl, h1, -, h3, h4, h5⟩
   obtain ⟨β', hs⟩ := qbG S' (F' := F') hd hd1 hF hF' (fun g hgg => ⟨hg' g hgg, (hc2 g hgg).1⟩) (fun b hb => Jg hb) h5 h1 hok h3 h4 fun _ h => h
   rw [Kq, List.append_assoc] at hs
   exact ⟨v, rfl, β', hs⟩
theorem LF (hX : Cok P X L) (S : Sim L F β σ a w) {F' : Nat -> Prop} {d : Nat} (hd : d < L.N) (hd1 : d < 1000) (hF : ∀ n, n % 1000 = d -> F n) (hF' : ∀ n, F' n -> F n /\ n % 1000 ≠ d) {f : FuncId} {xs : List AV} {us : List Value} (hxs : qh β (Mut L.A0 β σ) w xs us)
  (hC : ∀ f as r ys, C f as r ys -> Con P L.G f as r ys) {out : Out} (h : (qbf X f d xs).runs C σ out l) :
  JW P f /\ Calls P f us.toArray w fun e w' => ∃ v, e = .returned v /\ ∃ β', Sim L F' β' (σ.put (some d) out) (a.put (some d) v) w' := by
 obtain ⟨as, r, outs, hc, h⟩ := h
 obtain ⟨hE, hcon, hhp, hit⟩ := hC f as r outs hc
 refine ⟨hE, ?_⟩
 have hlt : ∀ b, Mut L.A0 β σ b -> b < w.heap.size := by
  rintro b (h | ⟨n, o, k, h1, h2, h3, h4⟩)
  ·exact Nat.lt_of_lt_of_le (S.a0 b h).1 S.fr.size
  ·obtain ⟨k', h5, h6⟩ := (S.objs n o h1).bound
   rw [h3] at h5; cases h5
   exact h6 b h4
 have plain : (qen X d xs as r).runs C σ out l -> Calls P f us.toArray w fun e w' => ∃ v, e = .returned v /\ ∃ β', Sim L F' β' (σ.put (some d) out) (a.put (some d) v) w' := by
  intro h
  unfold qen at h
  cases hok : okR r with
  | false => simp only [hok] at h; exact h.elim
  | true =>
   simp only [hok] at h
   obtain ⟨ns, l2, h, hp⟩ := UZ hX.h S hxs h
   have go : ∀ (A : Nat -> Prop), zF β (Mut L.A0 β σ) A ns -> Calls P f us.toArray w fun e w' => ∃ v b1 b2, e = .returned v /\ uN (fun b => (A b /\ b ∉ ([] : List Nat)) ∨ b ∈ b1 ++ b2) w' r v b1 /\ (b1 ++ b2).Nodup /\ (∀ b ∈ b1 ++ b2, (b ∈ ([] : List Nat) ∨ w.heap.size <= b) /\ b < w'.heap.size) /\ Fr [] w w' := by
    intro A hA
    refine (hcon w us [] A (fun b hb => hlt b (hA.sub b hb)) Y85 Y85 (S.env.stay (hA.stays w)) (hp A hA)).mono ?_
    rintro e w' ⟨v, b1, b2, h1, h2, -, h3, h4, h5⟩
    exact ⟨v, b1, b2, h1, h2, h3, h4, h5⟩
   cases ns with
   | nil =>
    obtain ⟨rfl, -⟩ := h
    refine (go (Mut L.A0 β σ) ⟨fun _ h => h, by simp⟩).mono ?_
    rintro e w' ⟨v, b1, b2, h1, h2, h3, h4, h5⟩
    exact ⟨v, h1, UT S hd hd1 hF hF' h5 h2 hok h3 h4 (.inr fun _ h => h)⟩
   | cons n ns =>
    simp only at h
    cases hfr : r.free with
    | true =>
     rw [hfr] at h
     obtain ⟨rfl, -⟩ := h
     refine (go (fun b => Mut L.A0 β σ b /\ ∀ m ∈ n :: ns, ∀ k, β m = some k -> k.blk ≠ some b) ⟨fun _ h => h.1, fun m hm k b h1 h2 h3 => h3.2 m hm k h1 h2⟩).mono ?_
     rintro e w' ⟨v, b1, b2, h1, h2, h3, h4, h5⟩
     exact ⟨v, h1, UT S hd hd1 hF hF' h5 h2 hok h3 h4 (.inl hfr)⟩
    | false =>
     rw [hfr] at h
     obtain ⟨sh, l3, h, hsh⟩ := zn h
     obtain ⟨rfl, -⟩ := h
     obtain ⟨S', hA⟩ := S.share hsh
     refine (go _ hA).mono ?_
     rintro e w' ⟨v, b1, b2, h1, h2, h3, h4, h5⟩
     obtain ⟨β', hs⟩ := UT S' (F' := F') hd hd1 hF hF' h5 h2 hok h3 h4 (.inr fun _ h => h)
     rw [Kq] at hs
     exact ⟨v, h1, β', hs⟩
 dsimp only at h
 split at h
 ·rename_i ρ pre ys
  split at h
  ·rename_i ρ' post rs
   exact Wg hX S hd hd1 hF hF' hxs hlt (hhp ρ pre ys ρ' post rs rfl rfl) h
  ·exact Y8
 ·rename_i e s ys
  unfold qif at h
  split at h
  ·rename_i e' s' zs n
   obtain ⟨o, l2, ho, -, h⟩ := h
   dsimp only at h
   split at h
   ·rename_i e0 s0 us0
    obtain ⟨h4, h⟩ := h
    obtain ⟨rfl, rfl, rfl, rfl, rfl⟩ := h4 ()
    obtain ⟨rfl, -⟩ := h
    refine (qce (d := d) S hd ho hxs hlt ⟨hE, hcon, hhp, hit⟩).mono ?_
    rintro e w' ⟨v, h1, β', h2⟩
    exact ⟨v, h1, β', h2.fewer fun n hn => (hF' n hn).1⟩
   ·exact Y8
  ·exact Y8
 ·split at h
  ·exact Ll hX S hd hd1 hF hF' hxs hlt ⟨hE, hcon, hhp, hit⟩ h
  ·exact plain h
end
end Go.Bl
namespace Go.Bl
open Go.RowKit
section
variable {α : Type} {P : Program} {X : Cx} {L : Pl} {F : Nat -> Prop} {β : Nat -> Option Bk} {σ : St} {a : Act} {w : World} {C : FuncId -> List RA -> RA -> List RA -> Prop} {b : α} {l : List Lc} {A : Nat -> Prop}
theorem Qe (hX : Cok P X L) (S : Sim L F β σ a w) : ∀ {xs : List Operand} {k : List AV -> RM α} {l : List Lc}, (qeQ X xs k).runs C σ b l -> ∃ ys l', (k ys).runs C σ b l' /\ qh β (Mut L.A0 β σ) w ys (xs.map a.eval)
 | [], k, l, h => ⟨[], l, h, .nil⟩
 | x :: r, k, l, h => by
  obtain ⟨y, l1, hy, h⟩ := qr hX S h
  obtain ⟨ys, l2, h, h2⟩ := Qe hX S h
  exact ⟨_, l2, h, .cons hy h2⟩
theorem Xp (hX : Cok P X L) (S : Sim L F β σ a w) {x : Option Operand} {k : Option Int -> RM α} (h : (qhl X x k).runs C σ b l) : ∃ q kd l', (k q).runs C σ b l' /\ x.map a.eval = q.map fun n => Value.int kd n := by
 cases x with
 | none => exact ⟨none, .i64, l, h, rfl⟩
 | some x =>
  obtain ⟨y, l1, hy, h⟩ := qr hX S h
  obtain ⟨kd, n, rfl, h⟩ := zm h
  obtain ⟨e, -⟩ := qW hy
  exact ⟨some n, kd, _, h, by simp [e]⟩
theorem qx (hX : Cok P X L) (S : Sim L F β σ a w) {o : Oper} (hd : ∀ d, o.dst = some d -> d < L.N /\ d < 1000) {out : Out} {y : AV} {v : Value} (ho : out = ⟨some y, []⟩) (hy : qq β (Mut L.A0 β σ) w y v) (hr : (execOp a.eval o).run P w = .ok (.value v) w) :
  Qm P L (fun n => F n /\ ∀ d, o.dst = some d -> n % 1000 ≠ d) (σ.put o.dst out) a o w := by
 subst ho
 exact qc2 S (fun d h => (hd d h).1) (fun n h => h.1) hy hr
theorem yw {o : Oper} {d : Nat} {out : Out} {v : Value} {w' : World} (hdst : o.dst = some d) (hr : (execOp a.eval o).run P w = .ok (.value v) w')
  (h : ∃ β', Sim L (fun n => F n /\ n % 1000 ≠ d) β' (σ.put (some d) out) (a.put (some d) v) w') : Qm P L (fun n => F n /\ ∀ d, o.dst = some d -> n % 1000 ≠ d) (σ.put o.dst out) a o w := by
 unfold Qm
 rw [hr, hdst]
 obtain ⟨β', h⟩ := h
 exact ⟨β', h.fewer fun n hn => ⟨hn.1, hn.2 d rfl⟩⟩
theorem KX (ρ : Operand -> Value) {c : Call} {f : Operand} (hc : c.callee = .value f) {ty : TypeId} {fn : FuncId} {us zs : List Value} (hf : ρ f = .func (.func fn) us.toArray zs.toArray) (hE : JW P fn) :
  (do let d <- resolve ρ c ty; invoke d.target d.args : Sem Next).run P w = .ok (.enter fn ((us ++ c.args.toList.map ρ ++ zs).toArray)) w := by
 simp only [resolve, hc, hf, Deferred.ofValue, Sem.run_bind, Sem.run_pure, Result.andThen_ok, invoke]
 rw [hE]
 congr 2
 simp
theorem qe.avs {xs : List PV} {us : List Value} (h : qe A w xs us) : qh β A w (xs.map .pv) us := qh.pvs h
theorem Vp (hX : Cok P X L) (S : Sim L F β σ a w) {o : Oper} {out : Out} (h : (opM X o).runs C σ out l) (hd : ∀ d, o.dst = some d -> d < L.N /\ d < 1000) (hF : ∀ d, o.dst = some d -> ∀ n, n % 1000 = d -> F n)
  (hC : ∀ f as r ys, C f as r ys -> Con P L.G f as r ys) : Qm P L (fun n => F n /\ ∀ d, o.dst = some d -> n % 1000 ≠ d) (σ.put o.dst out) a o w := by
 obtain ⟨dst, op, ty, pos, aft, gd⟩ := o
 have hFd : ∀ d, dst = some d -> F d := fun d e => hF d e d (Nat.mod_eq_of_lt (hd d e).2)
 have hF' : ∀ d, dst = some d -> ∀ n, F n /\ n % 1000 ≠ d -> F n /\ n ≠ d := fun d e n hn => ⟨hn.1, fun h => hn.2 (by rw [h]; exact Nat.mod_eq_of_lt (hd d e).2)⟩
 cases op with
 | move x =>
  obtain ⟨y, l1, hy, h⟩ := qr hX S h
  exact qx hX S hd h.1 hy rfl
 | assign x =>
  obtain ⟨y, l1, hy, h⟩ := qr hX S h
  exact qx hX S hd h.1 hy rfl
 | pick c x y =>
  obtain ⟨q, l1, hq, h⟩ := qr hX S h
  split at h
  ·rename_i q
   obtain ⟨e, -⟩ := qW hq
   cases q with
   | true =>
    obtain ⟨z, l2, hz, h⟩ := qr (x := x) hX S h
    exact qx hX S hd h.1 hz (by simp [execOp, e, asBool])
   | false =>
    obtain ⟨z, l2, hz, h⟩ := qr (x := y) hX S h
    exact qx hX S hd h.1 hz (by simp [execOp, e, asBool])
  ·exact Y8
 | alloc t =>
  cases dst with
  | none => exact h.elim
  | some d =>
   obtain ⟨ti, ht, h⟩ := qm h
   split at h
   ·rename_i z hz
    obtain ⟨h1, -, -⟩ := xu (P := P) (w := w) hX ht hz
    exact yw rfl (by simp [execOp, Instr.alloc, h1, U3]) (YZ hX S (hd d rfl).1 (hFd d rfl) (hF' d rfl) ht hz h)
   ·exact Y8
 | box t x =>
  cases dst with
  | none => exact h.elim
  | some d =>
   obtain ⟨ti, ht, h⟩ := qm h
   obtain ⟨y, l1, hy, h⟩ := qr hX S h
   exact yw rfl (by simp [execOp, Instr.box, U3]) (qbI hX S (hd d rfl).1 (hFd d rfl) (hF' d rfl) hy h)
 | build t parts =>
  obtain ⟨ti, ht, h⟩ := qm h
  split at h
  ·rename_i z hz
   obtain ⟨ys, l1, h, hp⟩ := yv hX S h
   obtain ⟨y, ns, sh, v, rfl, h2, h3, h4⟩ := Kd hX S ht hz hp h
   exact VU S (fun d e => (hd d e).1) (fun n hn => hn.1) h2 (h3 _ (S.share h2).2) (by simp [execOp, h4])
  ·exact Y8
 | buildSlice t len parts =>
  cases dst with
  | none => exact h.elim
  | some d =>
   obtain ⟨ti, ht, h⟩ := qm h
   split at h
   ·rename_i e hdt
    obtain ⟨te, he, h⟩ := qm h
    split at h
    ·rename_i z hz
     obtain ⟨ys, l1, h, hp⟩ := yv hX S h
     obtain ⟨v, w', β', h1, h2⟩ := J8 hX S (hd d rfl).1 (hFd d rfl) (hF' d rfl) ht hdt he hz hp h
     exact yw rfl (by simp [execOp, h1]) ⟨β', h2⟩
    ·exact Y8
   ·exact Y8
 | load t x =>
  obtain ⟨p, l1, hp, h⟩ := qr hX S h
  obtain ⟨y, v, l2, h, hy, hr⟩ := VH hX S hp h
  exact qx hX S hd h.1 hy Y81
 | store t p x =>
  obtain ⟨q, l1, hq, h⟩ := qr hX S h
  obtain ⟨y, l2, hy, h⟩ := qr hX S h
  obtain ⟨os, w', l3, h, hr, hs⟩ := Wt hX S (d := dst) (fun d e => (hd d e).1) hq hy h
  obtain ⟨rfl, -⟩ := h
  unfold Qm
  have e : (execOp a.eval ⟨dst, .store t p x, ty, pos, aft, gd⟩).run P w = .ok .skip w' := by simp [execOp, hr]
  rw [e]
  exact ⟨β, (hs undef).fewer fun n hn => hn.1⟩
 | nilCheck x =>
  obtain ⟨y, l1, hy, h⟩ := qr hX S h
  split at h
  ·obtain ⟨k, bk, h1, h2, e⟩ := vF hy
   exact qx hX S hd h.1 hy (by simp [execOp, e])
  ·obtain ⟨ad, us, e, -⟩ := UX hy
   exact qx hX S hd h.1 hy (by simp [execOp, e])
  ·obtain ⟨us, zs, e, -⟩ := qdQ hy
   exact qx hX S hd h.1 hy (by simp [execOp, e])
  ·exact Y8
 | binOp op t x y yt =>
  obtain ⟨ti, ht, h⟩ := qm h
  obtain ⟨u, l1, hu, h⟩ := qr hX S h
  obtain ⟨v, l2, hv, h⟩ := qr hX S h
  obtain ⟨r, l3, h, h1, h2⟩ := qcy hX S ht hu hv h
  refine qx hX S hd h.1 (.pv (.v h1)) ?_
  show ((do eqGuard op t x y (a.eval x) (a.eval y); binOp op t (a.eval x) (a.eval y) : Sem Value) >>= fun r => (pure (.value r) : Sem Next)).run P w = _
  rw [Sem.run_bind, h2]
  rfl
 | unOp op t x =>
  obtain ⟨u, l1, hu, h⟩ := qr hX S h
  split at h
  ·obtain ⟨e, -⟩ := qW hu
   exact qx hX S hd h.1 (.pv (.v rfl)) (by simp [execOp, e, Op.unary, hX.h])
  ·obtain ⟨e, -⟩ := qW hu
   exact qx hX S hd h.1 (.pv (.v rfl)) (by simp [execOp, e, Op.unary, hX.h, Op.intArith])
  ·obtain ⟨e, -⟩ := qW hu
   exact qx hX S hd h.1 (.pv (.v rfl)) (by simp [execOp, e, Op.unary, hX.h, Op.intBits, yp])
  ·exact Y8
 | convert s t x =>
  obtain ⟨si, hs, h⟩ := qm h
  obtain ⟨ti, ht, h⟩ := qm h
  obtain ⟨u, l1, hu, h⟩ := qr hX S h
  rcases Ly hX S hs ht hu h with ⟨y, v, rfl, hv, hr⟩ | ⟨d, e, w', cap, cur, fz, bs, rfl, rfl, hr, hfr, c1, c2, c3, c4, c5, c6⟩
  ·exact qx hX S hd rfl hv Y81
  ·obtain ⟨β', hs'⟩ := U1 S (F' := fun n => F n /\ n % 1000 ≠ d) (gone := []) (S0 := []) (hd d rfl).1 (hFd d rfl) (hF' d rfl) hfr Y85 Y85 (.inl (Nat.le_refl _)) c1 c2 c3 c4 c5 c6
   exact yw rfl Y81 ⟨β', hs'⟩
 | makeMap t r =>
  cases r with
  | some _ => exact h.elim
  | none =>
   cases dst with
   | none => exact h.elim
   | some d =>
    obtain ⟨rfl, -⟩ := h
    exact yw rfl (by simp [execOp, run_makeMap]) (Ks S (hd d rfl).1 (hFd d rfl) (hF' d rfl))
 | lookup t m k ok =>
  obtain ⟨u, l1, hu, h⟩ := qr hX S h
  obtain ⟨v, l2, hv, h⟩ := qr hX S h
  obtain ⟨y, v', rfl, hy, hr⟩ := Yf hX S hu hv h
  exact qx hX S hd rfl hy Y81
 | mapUpdate t m k x =>
  obtain ⟨u, l1, hu, h⟩ := qr hX S h
  obtain ⟨v, l2, hv, h⟩ := qr hX S h
  obtain ⟨y, l3, hy, h⟩ := qr hX S h
  obtain ⟨w', hr, hs⟩ := Jw hX S (d := dst) (fun d e => (hd d e).1) hu hv hy h
  unfold Qm
  have e : (execOp a.eval ⟨dst, .mapUpdate t m k x, ty, pos, aft, gd⟩).run P w = .ok .skip w' := by simp [execOp, hr]
  rw [e]
  exact ⟨β, (hs undef).fewer fun n hn => hn.1⟩
 | insert t m k x =>
  obtain ⟨u, l1, hu, h⟩ := qr hX S h
  obtain ⟨v, l2, hv, h⟩ := qr hX S h
  obtain ⟨y, l3, hy, h⟩ := qr hX S h
  obtain ⟨w', hr, hs⟩ := Jw hX S (d := dst) (fun d e => (hd d e).1) hu hv hy h
  unfold Qm
  have e : (execOp a.eval ⟨dst, .insert t m k x, ty, pos, aft, gd⟩).run P w = .ok .skip w' := by simp [execOp, hr]
  rw [e]
  exact ⟨β, (hs undef).fewer fun n hn => hn.1⟩
 | sliceToArrayPointer t x =>
  obtain ⟨ti, ht, h⟩ := qm h
  split at h
  ·rename_i n e hdt
   obtain ⟨te, he, h⟩ := qm h
   obtain ⟨u, l1, hu, h⟩ := qr hX S h
   obtain ⟨y, v, h, hy, hr⟩ := Ko hX S ht hdt hu h
   exact qx hX S hd h hy Y81
  ·exact Y8
 | makeInterface t x =>
  obtain ⟨ti, ht, h⟩ := qm h
  have hu := jx (P := P) (w := w) hX ht
  have go : (evK X x fun a => Js X a fun y sh => (.ret ⟨some (.pv (.i t y)), sh⟩ : RM Out)).runs C σ out l -> (∀ ms, ti.desc ≠ .interface ms) -> Qm P L (fun n => F n /\ ∀ d, dst = some d -> n % 1000 ≠ d) (σ.put dst out) a ⟨dst, .makeInterface t x, ty, pos, aft, gd⟩ w := by
   intro h hne
   obtain ⟨u, l1, hu', h⟩ := qr hX S h
   obtain ⟨y, ns, sh, l2, h, h2, h3, h4⟩ := U5 hX.h S hu' h
   obtain ⟨rfl, -⟩ := h
   refine VU S (fun d e => (hd d e).1) (fun n hn => hn.1) h2 (.pv (.i h4)) ?_
   cases hdt : ti.desc with
   | interface ms => exact absurd hdt (hne ms)
   | _ => rw [hdt] at hu; simp [execOp, Instr.makeInterface, hu]
  split at h
  ·exact Y8
  ·rename_i hne
   exact go h fun ms e => hne ms e
 | makeFunc fn as bs =>
  obtain ⟨ys, l1, h, h1⟩ := Qe hX S h
  obtain ⟨zs, l2, h, h2⟩ := Qe hX S h
  refine qx hX S hd h.1 (.fn h1 h2) ?_
  simp [execOp, Instr.makeFunc]
  exact ⟨Array.ext' Y85, Array.ext' Y85⟩
 | makeSlice t x y =>
  cases dst with
  | none => exact h.elim
  | some d =>
   obtain ⟨ti, ht, h⟩ := qm h
   split at h
   ·rename_i e hdt
    obtain ⟨te, he, h⟩ := qm h
    split at h
    ·rename_i z hz
     obtain ⟨u, l1, hu, h⟩ := qr hX S h
     obtain ⟨v, l2, hv, h⟩ := qr hX S h
     obtain ⟨kn, n, eu, h⟩ := zm h
     obtain ⟨km, m, ev, h⟩ := zm h
     obtain ⟨hc, h⟩ := h
     obtain ⟨c1, c2, c3, c4, c5⟩ := hc ()
     obtain ⟨rfl, -⟩ := h
     rw [eu] at hu
     rw [ev] at hv
     obtain ⟨e1, -⟩ := qW hu
     obtain ⟨e2, -⟩ := qW hv
     obtain ⟨v, w', β', h1, h2⟩ := L3 (kn := kn) (km := km) hX S (hd d rfl).1 (hFd d rfl) (hF' d rfl) ht hdt he hz c1 c2 c3 c4 c5
     rw [hX.h]
     exact yw rfl (by simp [execOp, e1, e2, h1]) ⟨β', h2⟩
    ·exact Y8
   ·exact Y8
 | slice t x lo hi mx =>
  cases mx with
  | some z =>
   cases lo with
   | some _ => exact h.elim
   | none =>
    cases hi with
    | none => exact h.elim
    | some y =>
     obtain ⟨u, l1, hu, h⟩ := qr hX S h
     obtain ⟨v1, l2, hv1, h⟩ := qr hX S h
     obtain ⟨v2, l3, hv2, h⟩ := qr hX S h
     obtain ⟨kp, p, e3, h⟩ := zm (x := v1) h
     obtain ⟨kq, q, e4, h⟩ := zm (x := v2) h
     subst e3 e4
     obtain ⟨e1, -⟩ := qW hv1
     obtain ⟨e2, -⟩ := qW hv2
     obtain ⟨y', v, g1, g2, g3⟩ := X9 (kp := kp) (kq := kq) hX S hu h
     exact qx hX S hd g1 g2 (by simp [execOp, e1, e2, g3])
  | none =>
   obtain ⟨u, l1, hu, h⟩ := qr hX S h
   obtain ⟨q, kq, l2, h, e1⟩ := Xp hX S h
   obtain ⟨r, kr, l3, h, e2⟩ := Xp hX S h
   obtain ⟨y, v, l4, h, hy, hr⟩ := WY (kl := kq) (kh := kr) hX S hu h
   exact qx hX S hd h.1 hy (by simp [execOp, e1, e2, hr])
 | fieldAddr s x f =>
  obtain ⟨si, hs, h⟩ := qm h
  have hu := jx (P := P) (w := w) hX hs
  split at h
  ·rename_i fs hdt
   rw [hdt] at hu
   split at h
   ·rename_i fd hf
    obtain ⟨tf, hT, h⟩ := qm h
    obtain ⟨hc, h⟩ := h
    have hc := hc ()
    obtain ⟨u, l1, hu', h⟩ := qr hX S h
    have go : ∀ {ad : Addr}, a.eval x = .pointer (some ad) -> (execOp a.eval ⟨dst, .fieldAddr s x f, ty, pos, aft, gd⟩).run P w = .ok (.value (.pointer (some (ad.add fd.offset)))) w := by
     intro ad e
     simp [execOp, e, Instr.fieldAt, hu, hf, Instr.sureAddr, fieldPlace, run_sizeOf hX hT, hc]
    split at h
    ·obtain ⟨ad, us, e, g1, g2, g3⟩ := UX hu'
     refine qx hX S hd h.1 ?_ (go e)
     rw [hX.h]
     exact .pv (.p (g1.drop _) (fun c hc => g2 c (List.mem_of_mem_drop hc)) (Row.add g3 _))
    ·obtain ⟨kk, bk, hk, hb, e⟩ := vF hu'
     refine qx hX S hd h.1 ?_ (go e)
     rw [uA, Nat.add_assoc]
     exact .ref hk hb
    ·exact Y8
   ·exact Y8
  ·exact Y8
 | field t x f =>
  obtain ⟨ti, ht, h⟩ := qm h
  split at h
  ·rename_i fs hdt
   split at h
   ·rename_i fd hf
    obtain ⟨tf, hT, h⟩ := qm h
    obtain ⟨u, l1, hu, h⟩ := qr hX S h
    obtain ⟨y, v, h, hy, hr⟩ := KC hX S ht hdt hf hT hu h
    exact qx hX S hd h hy Y81
   ·exact Y8
  ·exact Y8
 | indexAddr t x i =>
  obtain ⟨u, l1, hu, h⟩ := qr hX S h
  obtain ⟨v, l2, hv, h⟩ := qr hX S h
  obtain ⟨kd, n, ev, h⟩ := zm h
  rw [ev] at hv
  obtain ⟨e, -⟩ := qW hv
  obtain ⟨y, v, l3, h, hy, hr⟩ := ZV (kd := kd) hX S hu h
  exact qx hX S hd h.1 hy (by simp [execOp, e, hr])
 | index t x i =>
  obtain ⟨u, l1, hu, h⟩ := qr hX S h
  obtain ⟨v, l2, hv, h⟩ := qr hX S h
  obtain ⟨kd, n, ev, h⟩ := zm h
  rw [ev] at hv
  obtain ⟨e, -⟩ := qW hv
  rcases u with ⟨x | xs | xs | xs | xs | ⟨t', x⟩ | ⟨fn, xs, ys⟩⟩ | _ | _ | _ | _ | _ | _ | _
  ·rcases x with _ | _ | _ | _ | q | _ | _ | _ | _ | _ | _ | _ | _ | _ | _
   case string =>
    obtain ⟨ti, ht, h⟩ := qm h
    have hut := jx (P := P) (w := w) hX ht
    split at h
    ·rename_i hdt
     rw [hdt] at hut
     obtain ⟨hc, h⟩ := h
     obtain ⟨c1, c2⟩ := hc ()
     obtain ⟨e2, -⟩ := qW hu
     have hlt : n.toNat < q.size := by omega
     refine qx hX S hd h.1 (.pv (.v rfl)) ?_
     have hg : q[n.toNat]? = some (q.data.toList.getD n.toNat 0) := by
      have h1 : n.toNat < q.data.size := hlt
      have h2 : q[n.toNat]? = some (q[n.toNat]'hlt) := by simp [hlt]
      rw [h2]
      simp [List.getD_eq_getElem?_getD, Array.getElem?_eq_getElem h1]
      rfl
     simp [execOp, e, e2, Instr.index, asIntOf, hut, c1, hg, hX.h]
    ·exact Y8
   all_goals exact h.elim
  ·exact Y8
  ·exact Y8
  ·obtain ⟨ti, ht, h⟩ := qm h
   split at h
   ·rename_i len e' hdt
    obtain ⟨te, he, h⟩ := qm h
    obtain ⟨hc, h⟩ := h
    obtain ⟨c1, c2⟩ := hc ()
    obtain ⟨y, v, h, hy, hr⟩ := Wk (kd := kd) hX S ht hdt he hu c1 c2 h
    exact qx hX S hd h hy (by simp [execOp, e, hr])
   ·exact Y8
  all_goals exact h.elim
 | extract x i =>
  obtain ⟨u, l1, hu, h⟩ := qr hX S h
  split at h
  ·obtain ⟨us, e, g1⟩ := qgp hu
   split at h
   ·rename_i y hy
    obtain ⟨v, h1, h2⟩ := g1.get hy
    exact qx hX S hd h.1 h2 (by simp [execOp, e, Instr.extract, h1])
   ·exact Y8
  ·obtain ⟨us, e, g1⟩ := qgz hu
   split at h
   ·rename_i y hy
    obtain ⟨v, h1, h2⟩ := g1.get hy
    exact qx hX S hd h.1 (.pv h2) (by simp [execOp, e, Instr.extract, h1])
   ·exact Y8
  ·exact Y8
 | call c =>
  obtain ⟨callee, args, ats⟩ := c
  obtain ⟨xs, l1, h, hxs⟩ := Qe hX S h
  cases callee with
  | builtin bi =>
   have hex : ∀ {o : Oper}, o.op = .call ⟨.builtin bi, args, ats⟩ -> ∃ cs, execOp a.eval o = builtin bi ats o.type cs (args.map a.eval) := by
    intro o ho
    exact ⟨_, by simp [execOp, ho, resolve, invoke]; rfl⟩
   have hl := hxs.length
   cases bi with
   | len =>
    rcases xs with _ | ⟨x, _ | ⟨x', xs⟩⟩
    ·exact Y8
    ·rcases hat : ats.toList with _ | ⟨t, _ | ⟨t', ts⟩⟩
     ·exact Y30
     ·rw [hat] at h
      generalize hus : args.toList.map a.eval = us at hxs
      cases hxs with
      | @cons _ u _ us hx hn =>
       cases hn
       obtain ⟨n, l2, h, hr⟩ := qbW (ty := ty) hX S hx h
       refine qx hX S hd h.1 (.pv (.v rfl)) ?_
       obtain ⟨cs, e⟩ := hex (o := ⟨dst, .call ⟨.builtin .len, args, ats⟩, ty, pos, aft, gd⟩) rfl
       rw [e, show args.map a.eval = #[u] from Array.ext' (by simpa using hus), show ats = #[t] from Array.ext' (by simpa using hat)]
       simp [builtin, hr]
     ·exact Y30
    ·exact Y8
   | append =>
    rcases xs with _ | ⟨x, _ | ⟨y, _ | ⟨z, xs⟩⟩⟩
    ·exact Y8
    ·exact Y8
    ·rcases hat : ats.toList with _ | ⟨t, _ | ⟨t', _ | ⟨t'', ts⟩⟩⟩
     ·exact Y30
     ·exact Y30
     ·rw [hat] at h
      cases dst with
      | none => exact h.elim
      | some d =>
       generalize hus : args.toList.map a.eval = us at hxs
       cases hxs with
       | @cons _ u _ us hx hn =>
        cases hn with
        | @cons _ v _ us hy hn =>
         cases hn
         obtain ⟨cs, e⟩ := hex (o := ⟨some d, .call ⟨.builtin .append, args, ats⟩, ty, pos, aft, gd⟩) rfl
         have hus2 : args.map a.eval = #[u, v] := Array.ext' (by simpa using hus)
         have hat2 : ats = #[t, t'] := Array.ext' (by simpa using hat)
         simp only at h
         cases htt : t' == t with
         | true =>
          rw [htt] at h
          have htt : t' = t := by simpa using htt
          subst htt
          obtain ⟨v', w', β', h1, h2⟩ := XP (ty := ty) hX S (hd d rfl).1 (hFd d rfl) (hF' d rfl) hx hy h
          exact yw rfl (by rw [e, hus2, hat2]; simp [builtin, h1]) ⟨β', h2⟩
         | false =>
          rw [htt] at h
          exact Y8
     ·exact Y30
    ·exact Y8
   | delete =>
    rcases xs with _ | ⟨x, _ | ⟨y, _ | ⟨z, xs⟩⟩⟩
    ·exact Y8
    ·exact Y8
    ·rcases hat : ats.toList with _ | ⟨t, _ | ⟨t', _ | ⟨t'', ts⟩⟩⟩
     ·exact Y30
     ·exact Y30
     ·rw [hat] at h
      generalize hus : args.toList.map a.eval = us at hxs
      cases hxs with
      | @cons _ u _ us hx hn =>
       cases hn with
       | @cons _ v _ us hy hn =>
        cases hn
        obtain ⟨cs, e⟩ := hex (o := ⟨dst, .call ⟨.builtin .delete, args, ats⟩, ty, pos, aft, gd⟩) rfl
        have hus2 : args.map a.eval = #[u, v] := Array.ext' (by simpa using hus)
        have hat2 : ats = #[t, t'] := Array.ext' (by simpa using hat)
        simp only at h
        obtain ⟨r, w', h1, h2⟩ := YA (t2 := t') (ty := ty) hX S (d := dst) (fun d e => (hd d e).1) hx hy h
        unfold Qm
        have e2 : (execOp a.eval ⟨dst, .call ⟨.builtin .delete, args, ats⟩, ty, pos, aft, gd⟩).run P w = .ok (.value r) w' := by rw [e, hus2, hat2]; simp [builtin, h1]
        rw [e2]
        exact ⟨β, (h2 r).fewer fun n hn => hn.1⟩
     ·exact Y30
    ·exact Y8
   | copy =>
    rcases xs with _ | ⟨x, _ | ⟨y, _ | ⟨z, xs⟩⟩⟩
    ·exact Y8
    ·exact Y8
    ·rcases hat : ats.toList with _ | ⟨t, _ | ⟨t', _ | ⟨t'', ts⟩⟩⟩
     ·exact Y30
     ·exact Y30
     ·rw [hat] at h
      cases dst with
      | none => exact h.elim
      | some d =>
       generalize hus : args.toList.map a.eval = us at hxs
       cases hxs with
       | @cons _ u _ us hx hn =>
        cases hn with
        | @cons _ v _ us hy hn =>
         cases hn
         obtain ⟨cs, e⟩ := hex (o := ⟨some d, .call ⟨.builtin .copy, args, ats⟩, ty, pos, aft, gd⟩) rfl
         have hus2 : args.map a.eval = #[u, v] := Array.ext' (by simpa using hus)
         have hat2 : ats = #[t, t'] := Array.ext' (by simpa using hat)
         simp only at h
         obtain ⟨r, w', h1, h2⟩ := Ld (tS := t') (ty := ty) hX S (hd d rfl).1 hx hy h
         exact yw rfl (by rw [e, hus2, hat2]; simp [builtin, h1]) ⟨β, h2.fewer fun n hn => hn.1⟩
     ·exact Y30
    ·exact Y8
   | min =>
    simp only at h
    split at h
    ·generalize hus : args.toList.map a.eval = us at hxs
     cases hxs with
     | @cons _ u _ us hx hn =>
      cases hn with
      | @cons _ v _ us hy hn =>
       cases hn
       obtain ⟨rfl, -⟩ := qW hx
       obtain ⟨rfl, -⟩ := qW hy
       obtain ⟨cs, e⟩ := hex (o := ⟨dst, .call ⟨.builtin .min, args, ats⟩, ty, pos, aft, gd⟩) rfl
       rw [show args.map a.eval = #[_, _] from Array.ext' (by simpa using hus)] at e
       exact qx hX S hd h.1 (.pv (.v rfl)) (by rw [e]; simp [builtin, Builtin.min_, Builtin.min2, hX.h])
    ·exact Y8
   | max =>
    simp only at h
    split at h
    ·generalize hus : args.toList.map a.eval = us at hxs
     cases hxs with
     | @cons _ u _ us hx hn =>
      cases hn with
      | @cons _ v _ us hy hn =>
       cases hn
       obtain ⟨rfl, -⟩ := qW hx
       obtain ⟨rfl, -⟩ := qW hy
       obtain ⟨cs, e⟩ := hex (o := ⟨dst, .call ⟨.builtin .max, args, ats⟩, ty, pos, aft, gd⟩) rfl
       rw [show args.map a.eval = #[_, _] from Array.ext' (by simpa using hus)] at e
       exact qx hX S hd h.1 (.pv (.v rfl)) (by rw [e]; simp [builtin, Builtin.max_, Builtin.max2, hX.h])
    ·exact Y8
   | _ => exact h.elim
  | value f =>
   cases dst with
   | none => exact h.elim
   | some d =>
    obtain ⟨g, l2, hg, h⟩ := qr hX S h
    have fin : ∀ {fn : FuncId} {ys : List AV} {us zs : List Value}, a.eval f = .func (.func fn) us.toArray zs.toArray -> qh β (Mut L.A0 β σ) w ys (us ++ args.toList.map a.eval ++ zs) -> (qbf X fn d ys).runs C σ out l2 ->
      Qm P L (fun n => F n /\ ∀ d', some d = some d' -> n % 1000 ≠ d') (σ.put (some d) out) a ⟨some d, .call ⟨.value f, args, ats⟩, ty, pos, aft, gd⟩ w := by
     intro fn ys us zs e hys h
     obtain ⟨hE, hcall⟩ := LF (F' := fun n => F n /\ ∀ d', some d = some d' -> n % 1000 ≠ d') hX S (hd d rfl).1 (hd d rfl).2 (hF d rfl) (fun n hn => ⟨hn.1, hn.2 d rfl⟩) hys hC h
     unfold Qm
     have hr := KX (P := P) (w := w) a.eval (c := ⟨.value f, args, ats⟩) (ty := ty) rfl e hE
     have e2 : (execOp a.eval ⟨some d, .call ⟨.value f, args, ats⟩, ty, pos, aft, gd⟩) = (do let d <- resolve a.eval ⟨.value f, args, ats⟩ ty; invoke d.target d.args : Sem Next) := rfl
     rw [e2, hr]
     refine hcall.mono ?_
     rintro e' w' ⟨v, rfl, h⟩
     exact h
    split at h
    ·obtain ⟨us, zs, e, g1, g2⟩ := qdQ hg
     exact fin e ((g1.app hxs).app g2) h
    ·obtain ⟨us, zs, e, g1, g2⟩ := qgG hg
     exact fin e ((g1.avs.app hxs).app g2.avs) h
    ·exact Y8
  | invoke _ _ => exact h.elim
 | _ => exact h.elim
end
end Go.Bl
