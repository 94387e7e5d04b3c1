import Derived.Test.YtnafknkchbfpaaaGreatDoorPD
import Derived.Maps.AppendAt
namespace Go.Bl
open Go.RowKit
set_option linter.unusedVariables false
section
variable {α : Type} {P : Program} {X : Cx} {L : Pl} {F : Nat -> Prop} {β : Nat -> Option Bk} {σ : St} {a : Act} {w : World} {C : FuncId -> List RA -> RA -> List RA -> Prop} {b : α} {l : List Lc} {A : Nat -> Prop}
theorem Ws {t : TypeId} {k : TypeId -> TI -> RM α} (h : (qbj X t k).runs C σ b l) : ∃ ti e te l', X.T t = some ti /\ ti.desc = .slice e /\ X.T e = some te /\ (k e te).runs C σ b l' := by
 obtain ⟨ti, ht, h⟩ := qr h
 cases hd : ti.desc with
 | slice e =>
  rw [hd] at h
  obtain ⟨te, he, h⟩ := qr h
  exact ⟨ti, e, te, l, ht, hd, he, h⟩
 | _ => rw [hd] at h; exact h.elim
theorem Wr (S : Sim L F β σ a w) {e s : Nat} {x : AV} {u : Value} {k : List PV -> List Nat -> RM α} (hs : 0 < s) (hx : qD β (Mut L.A0 β σ) w x u) (h : (qcA e s x k).runs C σ b l) :
  ∃ xs ns l' us, (k xs ns).runs C σ b l' /\ qj (Mut L.A0 β σ) w (xs.flatMap PV.cells) us /\ (∀ x ∈ xs, x.cells.length = s) /\ (∀ x ∈ xs, ∀ c ∈ x.cells, c.one = true) /\ w.ownsRow 0 e s u xs.length us /\
   (∀ b ∈ u.ownBlock.toList, ∃ n o k, n ∈ ns /\ σ.obj n = some o /\ o.sh = false /\ β n = some k /\ k.blk = some b) /\ (ns = [] -> xs = []) := by
 unfold qcA at h
 split at h
 ·have := xd hx
  subst this
  exact ⟨[], [], _, [], h, .nil, by simp, by simp, World.ownsRow_nil _ _ _ _, by simp [Value.ownBlock], fun _ => rfl⟩
 ·rename_i n
  obtain ⟨kk, hk, rfl⟩ := xr hx
  obtain ⟨o, l2, ho, -, h⟩ := h
  rcases o with ⟨e', s', xs, _ | _⟩ | ⟨e', xs, _ | _⟩ | ⟨e', bs, _ | _⟩
  ·obtain ⟨h1, h⟩ := h
   obtain ⟨rfl, rfl⟩ := h1 ()
   obtain ⟨k', us, q1, q2, q3, q4, q5, q6, q7, q8, q9⟩ := (S.objs n _ ho).row_mem
   rw [hk] at q1; cases q1
   exact ⟨xs, [n], _, us, h, q4, q5, q6, q8, fun b hb => ⟨n, _, kk, List.mem_cons_self, ho, rfl, hk, Vz Ya⟩, by simp⟩
  all_goals exact h.elim
 ·exact Y23
theorem Ut {e : TypeId} {i : TypeInfo} {z : Value} {t ty : TypeId} {size bytes : Nat} (ht : P.underlying t = some (.slice e)) (hi : P.info? e = some i) (hz : i.zero = some z) (hsize : i.size = size) (hby : i.bytes = bytes) (hzs : z.cells.size = size) (hsz : 0 < size)
  (v : Value) (n : Nat) (xs : List Value) (hown : w.ownsRow 0 e size v n xs) (ad : Option Addr) (m c : Nat) (news : List Value) (hl : news.length = m * size) (hnews : Row (fun _ => False) w ad news) (h1 : ∀ u ∈ news, u.oneCell' = true)
  (h63 : n + m <= maxLen) (hbytes : (n + m) * bytes <= 140737488355328) :
  ∃ v' w', (Builtin.append_ #[t, t] ty #[v, .slice ad m c]).run P w = .ok v' w' /\ w'.ownsRow 0 e size v' (n + m) (xs ++ news) /\ w.grownBy w' v.ownBlock /\ (v'.ownBlock = v.ownBlock ∨ v'.ownBlock = some w.heap.size) := by
 cases ad with
 | some ad =>
  obtain ⟨v', w', h1, h2, h3, -, h4⟩ := run_append_own_at (P := P) w 0 t ty e i z size bytes ht hi hz hsize hby hzs hsz v n xs hown ad m c news hl hnews.mem h1 h63 hbytes (Nat.zero_le _)
  exact ⟨v', w', h1, h2, h3, h4⟩
 | none =>
  have hn : news = [] := by
   rcases hnews with h | ⟨b, off, c, e, fz, h, _⟩
   ·exact h
   ·cases h
  subst hn
  have hm : m = 0 := by
   simp only [List.length_nil] at hl
   rcases Nat.eq_zero_or_pos m with h | h
   ·exact h
   ·have := Nat.mul_pos h hsz; omega
  subst hm
  refine ⟨v, w, ?_, by simpa using hown, ⟨rfl, rfl, rfl, Nat.le_refl _, fun _ _ _ => rfl⟩, .inl rfl⟩
  rcases hown.2 with ⟨rfl, rfl⟩ | ⟨g, cap, cur, rfl, _, _, hnc, _⟩
  ·simp [Builtin.append_, run_underlying ht, sizeOf, typeInfo, hi, Builtin.lenOf, Builtin.firstCells]
  ·simp [Builtin.append_, run_underlying ht, sizeOf, typeInfo, hi, Builtin.lenOf, Builtin.firstCells, hnc, storeCells]
theorem VO (hX : Cok P X L) (S : Sim L F β σ a w) {F' : Nat -> Prop} {d : Nat} (hd : d < L.N) (hF : F d) (hF' : ∀ n, F' n -> F n /\ n ≠ d) {t ty : TypeId} {s x : AV} {u v : Value} (hs : qD β (Mut L.A0 β σ) w s u) (hx : qD β (Mut L.A0 β σ) w x v) {out : Out}
  (h : (K0 X d t s x).runs C σ out l) : ∃ v' w' β', (Builtin.append_ #[t, t] ty #[u, v]).run P w = .ok v' w' /\ Sim L F' β' (σ.put (some d) out) (a.put (some d) v') w' := by
 obtain ⟨ti, e, te, l1, ht, hdt, he, h⟩ := Ws h
 split at h
 ·rename_i z hz hns
  obtain ⟨hs0, h⟩ := h
  have hs0 := hs0 ()
  obtain ⟨ys, l2, h, hy⟩ := Jz hX.h S hx h
  obtain ⟨hu, -⟩ := hX.T t ti ht
  rw [hdt] at hu
  obtain ⟨-, i, hi, hi1, hi2, hi3⟩ := hX.T e te he
  obtain ⟨hi4, g2, g3⟩ := hi3 _ hz
  obtain ⟨xs, ns, l3, us, h, r1, r2, r3, r4, r5, r6⟩ := Wr S hs0 hs h
  obtain ⟨h1, h⟩ := h
  obtain ⟨h2, h3, h4, h5⟩ := h1 ()
  obtain ⟨rfl, -⟩ := h
  rcases hy with ⟨q, rfl, rfl, rfl⟩ | ⟨ad, n, cap, sz, us', rfl, hn, hc, hm, hsz, hr, hw, ho, hR⟩
  ·cases hns
  ·have hl' := hr.length
   rw [jC h2] at hl'
   obtain ⟨v', w', q1, q2, q3, q4⟩ := Ut (P := P) (ty := ty) hu hi hi4 hi1 hi2 g3 hs0 u xs.length us r4 ad n cap us' (by rw [<- hl', hn]) hR (hr.ones (UU ho)) (by rw [hn]; exact h4) (by rw [hn]; exact h3)
   have hcat : qe5 X ns xs ys = xs ++ ys := by
    cases ns with
    | nil => rw [r6 rfl]; rfl
    | cons n ns => simp only [qe5]; rw [hX.h]
   rw [hcat]
   have hmem : ∀ x ∈ xs ++ ys, x ∈ xs ∨ x ∈ ys := fun x hx => List.mem_append.1 hx
   obtain ⟨β', hn'⟩ := S.newRow (F' := F') (S0 := u.ownBlock.toList) (gone := ns) (xs := xs ++ ys) (us := us ++ us') (e := e) (s := te.size) (v := v') (w' := w') hd hF hF' (Fr.grown q3 fun k hk => by simp [hk]) r5 h5 hs0 (by rw [List.flatMap_append]; exact r1.app hr)
    (fun x hx => (hmem x hx).elim (r2 x) (h2 x)) (fun x hx => (hmem x hx).elim (r3 x) (ho x)) (by rw [List.length_append, <- hn]; exact q2)
    (fun b hb => by
     rcases q4 with h | h
     ·exact .inr (by rw [<- h, hb]; simp)
     ·rw [h] at hb; cases hb; exact .inl (Nat.le_refl _))
   exact ⟨v', w', β', q1, hn'⟩
 ·exact Y23
theorem ZO (hX : ∀ α f, X.h α f = f ()) (S : Sim L F β σ a w) : ∀ {xs : List AV} {us : List Value} {as : List RA} {k : List Nat -> RM α} {l : List Lc}, qm β (Mut L.A0 β σ) w xs us -> (qbm X xs as k).runs C σ b l ->
  ∃ ns l', (k ns).runs C σ b l' /\ ∀ A', z8 β (Mut L.A0 β σ) A' ns -> jP A' w as us []
 | [], _, [], k, l, .nil, h => ⟨[], l, h, fun A' hA => .nil⟩
 | x :: xs, _, .pv y :: as, k, l, .cons hx hxs, h => by
  obtain ⟨z, ns, l1, h, hz⟩ := uP hX S ZZ hx h
  obtain ⟨h1, h'⟩ := h
  obtain ⟨ms, l2, h2, h3⟩ := ZO hX S hxs h'
  have h1 := h1 ()
  subst h1
  exact ⟨ns ++ ms, l2, h2, fun A' hA => .cons (b := []) (bs := []) (.pv (hz A' hA.app.1)) (h3 A' hA.app.2)⟩
 | [], _, _ :: _, _, _, _, h => h.elim
 | _ :: _, _, [], _, _, _, h => h.elim
 | _ :: _, _, .nil :: _, _, _, _, h => h.elim
 | _ :: _, _, .own _ _ _ :: _, _, _, _, h => h.elim
 | _ :: _, _, .tup _ :: _, _, _, _, h => h.elim
 | _ :: _, _, .any :: _, _, _, _, h => h.elim
 | _ :: _, _, .box _ _ :: _, _, _, _, h => h.elim
def Uc : Value -> Nat
 | .slice _ _ c => c
 | _ => 0
def ud (d : Nat) : Nat -> List RA -> List Value -> List New
 | k, .own e s xs :: r, u :: us => ⟨yb d k, ⟨u, s, Uc u⟩, .row e s xs false⟩ :: ud d (k + 1) r us
 | k, _ :: r, _ :: us => ud d (k + 1) r us
 | _, _, _ => []
theorem xu (d : Nat) : ∀ (k : Nat) (rs : List RA) (us : List Value), rs.length = us.length -> okL rs = true -> (uQ d k rs).2 = yM (ud d k rs us)
 | k, [], [], _, _ => rfl
 | k, .pv x :: rs, u :: us, h, ho => by simp only [uQ, ud]; exact xu d (k + 1) rs us Y85 ho
 | k, .nil :: rs, u :: us, h, ho => by simp only [uQ, ud]; exact xu d (k + 1) rs us Y85 ho
 | k, .own e s xs :: rs, u :: us, h, ho => by simp only [uQ, ud, yM, List.map_cons]; rw [xu d (k + 1) rs us Y85 ho]; rfl
 | k, .box _ _ :: rs, u :: us, h, ho => by cases ho
 | k, .tup _ :: rs, u :: us, h, ho => by cases ho
 | k, .any :: rs, u :: us, h, ho => by cases ho
 | k, _ :: _, [], h, _ => by cases h
 | k, [], _ :: _, h, _ => by cases h
theorem zy (d : Nat) : ∀ (k : Nat) (rs : List RA) (us : List Value) (x : New), x ∈ ud d k rs us -> ∃ j, k <= j /\ x.n = yb d j
 | k, .own e s xs :: rs, u :: us, x, h => by
  simp only [ud] at h
  rcases List.mem_cons.1 h with rfl | h
  ·exact ⟨k, Nat.le_refl _, rfl⟩
  ·obtain ⟨j, h1, h2⟩ := zy d (k + 1) rs us x h; exact ⟨j, by omega, h2⟩
 | k, .pv _ :: rs, u :: us, x, h => by obtain ⟨j, h1, h2⟩ := zy d (k + 1) rs us x h; exact ⟨j, by omega, h2⟩
 | k, .nil :: rs, u :: us, x, h => by obtain ⟨j, h1, h2⟩ := zy d (k + 1) rs us x h; exact ⟨j, by omega, h2⟩
 | k, .box _ _ :: rs, u :: us, x, h => by obtain ⟨j, h1, h2⟩ := zy d (k + 1) rs us x h; exact ⟨j, by omega, h2⟩
 | k, .tup _ :: rs, u :: us, x, h => by obtain ⟨j, h1, h2⟩ := zy d (k + 1) rs us x h; exact ⟨j, by omega, h2⟩
 | k, .any :: rs, u :: us, x, h => by obtain ⟨j, h1, h2⟩ := zy d (k + 1) rs us x h; exact ⟨j, by omega, h2⟩
 | k, [], us, x, h => by cases us <;> cases h
 | k, r :: rs, [], x, h => by cases r <;> cases h
theorem zS (d : Nat) : ∀ (k : Nat) (rs : List RA) (us : List Value), ((ud d k rs us).map (·.n)).Nodup
 | k, .own e s xs :: rs, u :: us => by
  simp only [ud, List.map_cons, List.nodup_cons]
  refine ⟨fun h => ?_, zS d (k + 1) rs us⟩
  obtain ⟨x, h1, h2⟩ := List.mem_map.1 h
  obtain ⟨j, h3, h4⟩ := zy d (k + 1) rs us x h1
  rw [h4] at h2
  simp only [yb] at h2
  omega
 | k, .pv _ :: rs, u :: us => zS d (k + 1) rs us
 | k, .nil :: rs, u :: us => zS d (k + 1) rs us
 | k, .box _ _ :: rs, u :: us => zS d (k + 1) rs us
 | k, .tup _ :: rs, u :: us => zS d (k + 1) rs us
 | k, .any :: rs, u :: us => zS d (k + 1) rs us
 | k, [], us => by cases us <;> simp [ud]
 | k, r :: rs, [] => by cases r <;> simp [ud]
structure VN (A : Nat -> Prop) (w : World) (bs : List Nat) (x : New) : Prop where
 sh : x.o.sh = false
 one : x.k.v.oneCell' = true
 blk : ∀ b, x.k.blk = some b -> b ∈ bs
 ob : ∀ β', β' x.n = some x.k -> xJ β' A w x.n x.o
theorem JS {A : Nat -> Prop} {e s n : Nat} {xs : List PV} {v : Value} {us : List Value} (hs : 0 < s) (h1 : qj A w (xs.flatMap PV.cells) us) (h2 : ∀ x ∈ xs, x.cells.length = s) (h3 : ∀ x ∈ xs, ∀ c ∈ x.cells, c.one = true) (h4 : w.ownsRow 0 e s v xs.length us) :
  VN A w v.ownBlock.toList ⟨n, ⟨v, s, Uc v⟩, .row e s xs false⟩ := by
 rcases h4.2 with ⟨h, h0⟩ | ⟨g, cap, cur, hv, hg, hh, hn, hm, hz, ht⟩
 ·subst h
  exact ⟨rfl, rfl, fun b hb => by simp [Bk.blk] at hb, fun β' hb => ⟨_, us, hb, rfl, hs, h1, h2, h3, h4, fun b hb => by simp [Bk.blk] at hb⟩⟩
 ·subst hv
  exact ⟨rfl, rfl, fun b hb => by simp [Bk.blk] at hb; subst hb; simp [Value.ownBlock], fun β' hb => ⟨_, us, hb, rfl, hs, h1, h2, h3, h4, fun b hb => by simp [Bk.blk] at hb; subst hb; exact ⟨rfl, hm⟩⟩⟩
theorem zv {A : Nat -> Prop} (d : Nat) : ∀ {rs : List RA} {us : List Value} {bs : List Nat} (k : Nat), jP A w rs us bs -> bs.Nodup -> (∀ x ∈ ud d k rs us, VN A w bs x) /\ ∀ x ∈ ud d k rs us, ∀ z ∈ ud d k rs us, ∀ b, x.k.blk = some b -> z.k.blk = some b -> x.n = z.n
 | [], _, _, k, .nil, _ => ⟨by simp [ud], by simp [ud]⟩
 | .pv x :: rs, _, _, k, .cons (.pv h) h2, hn => zv d (k + 1) h2 hn
 | .nil :: rs, _, _, k, .cons .nil h2, hn => zv d (k + 1) h2 hn
 | .any :: rs, _, _, k, .cons .any h2, hn => zv d (k + 1) h2 hn
 | .tup xs :: rs, _, _, k, .cons (.tup h) h2, hn => by
  obtain ⟨h3, h4⟩ := zv d (k + 1) h2 (List.nodup_append.1 hn).2.1
  exact ⟨fun x hx => ⟨(h3 x hx).sh, (h3 x hx).one, fun b hb => List.mem_append.2 (.inr ((h3 x hx).blk b hb)), (h3 x hx).ob⟩, h4⟩
 | .own e s xs :: rs, _, _, k, .cons (.own q1 q2 q3 q4 q5) h2, hn => by
  obtain ⟨h3, h4⟩ := zv d (k + 1) h2 (List.nodup_append.1 hn).2.1
  have hb := JS (n := yb d k) q1 q2 q3 q4 q5
  have hdis := (List.nodup_append.1 hn).2.2
  refine ⟨fun x hx => ?_, fun x hx z hz b hxb hzb => ?_⟩
  ·simp only [ud] at hx
   rcases List.mem_cons.1 hx with rfl | hx
   ·exact ⟨hb.sh, hb.one, fun b h => List.mem_append.2 (.inl (hb.blk b h)), hb.ob⟩
   ·exact ⟨(h3 x hx).sh, (h3 x hx).one, fun b h => List.mem_append.2 (.inr ((h3 x hx).blk b h)), (h3 x hx).ob⟩
  ·simp only [ud] at hx hz
   rcases List.mem_cons.1 hx with rfl | hx <;> rcases List.mem_cons.1 hz with rfl | hz
   ·rfl
   ·exact absurd rfl (hdis b (hb.blk b hxb) b ((h3 z hz).blk b hzb))
   ·exact absurd rfl (hdis b (hb.blk b hzb) b ((h3 x hx).blk b hxb))
   ·exact h4 x hx z hz b hxb hzb
theorem yx {β : Nat -> Option Bk} {A : Nat -> Prop} (d : Nat) : ∀ {rs : List RA} {us : List Value} {bs : List Nat} (k : Nat), jP A w rs us bs -> okL rs = true -> (∀ x ∈ ud d k rs us, β x.n = some x.k) -> qm β A w (uQ d k rs).1 us
 | [], _, _, k, .nil, _, _ => .nil
 | .pv x :: rs, _, _, k, .cons (.pv h) h2, ho, hb => .cons (.pv h) (yx d (k + 1) h2 ho hb)
 | .nil :: rs, _, _, k, .cons .nil h2, ho, hb => .cons .nil (yx d (k + 1) h2 ho hb)
 | .own e s xs :: rs, u :: us, _, k, .cons (.own q1 q2 q3 q4 q5) h2, ho, hb =>
  .cons (.own (k := ⟨u, s, Uc u⟩) (hb ⟨yb d k, ⟨u, s, Uc u⟩, .row e s xs false⟩ (by simp [ud]))) (yx d (k + 1) h2 ho fun x hx => hb x (by simp only [ud]; exact List.mem_cons_of_mem _ hx))
 | .any :: rs, _, _, k, _, ho, _ => by cases ho
 | .tup xs :: rs, _, _, k, _, ho, _ => by cases ho
 | .box _ _ :: rs, _, _, k, _, ho, _ => by cases ho
def bks (d : Nat) : RA -> Value -> List New
 | .own e s xs, u => [⟨d, ⟨u, s, Uc u⟩, .row e s xs false⟩]
 | .tup xs, .tuple us => ud d 1 xs us.toList
 | _, _ => []
theorem jP.length {A : Nat -> Prop} : ∀ {rs : List RA} {us : List Value} {bs : List Nat}, jP A w rs us bs -> rs.length = us.length
 | _, _, _, .nil => rfl
 | _, _, _, .cons _ h => by simp [jP.length h]
theorem ZI {A : Nat -> Prop} (d : Nat) {r : RA} {u : Value} {bs : List Nat} (h : uT A w r u bs) (ho : okR r = true) (hn : bs.Nodup) :
  (ZF d r).2 = yM (bks d r u) /\ ((bks d r u).map (·.n)).Nodup /\ (∀ x ∈ bks d r u, x.n % 1000 = d % 1000) /\ (∀ x ∈ bks d r u, VN A w bs x) /\ (∀ x ∈ bks d r u, ∀ z ∈ bks d r u, ∀ b, x.k.blk = some b -> z.k.blk = some b -> x.n = z.n) /\
   ∀ β : Nat -> Option Bk, (∀ x ∈ bks d r u, β x.n = some x.k) -> qD β A w (ZF d r).1 u := by
 cases h with
 | pv h => exact ⟨rfl, by simp [bks], by simp [bks], by simp [bks], by simp [bks], fun β _ => .pv h⟩
 | nil => exact ⟨rfl, by simp [bks], by simp [bks], by simp [bks], by simp [bks], fun β _ => .nil⟩
 | @own e s xs v us q1 q2 q3 q4 q5 =>
  refine ⟨rfl, by simp [bks], by simp [bks], fun x hx => ?_, fun x hx z hz b _ _ => ?_, fun β hb => ?_⟩
  ·simp only [bks, List.mem_singleton] at hx
   subst hx
   exact JS q1 q2 q3 q4 q5
  ·simp only [bks, List.mem_singleton] at hx hz
   rw [hx, hz]
  ·exact .own (k := ⟨_, _, Uc _⟩) (hb ⟨d, ⟨u, s, Uc u⟩, .row e s xs false⟩ (by simp [bks]))
 | @tup xs us bs h =>
  have ho' : okL xs = true := ho
  have e : bks d (.tup xs) (.tuple us.toArray) = ud d 1 xs us := by simp [bks]
  rw [e]
  obtain ⟨h3, h4⟩ := zv d 1 h hn
  refine ⟨xu d 1 xs us h.length ho', zS d 1 xs us, fun x hx => ?_, h3, h4, fun β hb => .tup (yx d 1 h ho' hb)⟩
  obtain ⟨j, -, hj⟩ := zy d 1 xs us x hx
  rw [hj, yb]
  omega
 | any => cases ho
theorem qfQ {A A' : Nat -> Prop} {w w' : World} {r : RA} {u : Value} {bs : List Nat} (h : uT A w r u bs) (hr : r.free = true) : uT A' w' r u bs := by
 cases h with
 | pv h => exact .pv (h.free hr)
 | @tup xs us bs h =>
  have key : ∀ {xs : List RA} {us : List Value} {bs : List Nat}, jP A w xs us bs -> U7 xs = true -> jP A' w' xs us bs := by
   intro xs
   induction xs with
   | nil => intro us bs h _; cases h; exact .nil
   | cons x xs ih =>
    intro us bs h hf
    cases x with
    | pv x =>
     simp only [U7, Bool.and_eq_true] at hf
     cases h with
     | cons h1 h2 =>
      cases h1 with
      | pv h1 => exact .cons (.pv (h1.free hf.1)) (ih h2 hf.2)
    | _ => cases hf
  exact .tup (key h hr)
 | _ => cases hr
theorem qcg (σ : St) (sh : List (Nat × Option Ob)) (d : Nat) (y : Option AV) (q : List (Nat × Option Ob)) : (σ.more sh).put (some d) ⟨y, q⟩ = σ.put (some d) ⟨y, q ++ sh⟩ := by
 simp [St.put, St.more, List.append_assoc]
theorem Za (S : Sim L F β σ a w) {F' : Nat -> Prop} {d : Nat} {w' : World} {A : Nat -> Prop} {r : RA} {v : Value} {b1 b2 : List Nat} (hd : d < L.N) (hd1 : d < 1000) (hF : ∀ n, n % 1000 = d -> F n) (hF' : ∀ n, F' n -> F n /\ n % 1000 ≠ d) (hfr : Fr [] w w')
  (hr : uT (fun b => (A b /\ b ∉ ([] : List Nat)) ∨ b ∈ b1 ++ b2) w' r v b1) (hok : okR r = true) (hn : (b1 ++ b2).Nodup) (hb : ∀ b ∈ b1 ++ b2, (b ∈ ([] : List Nat) ∨ w.heap.size <= b) /\ b < w'.heap.size)
  (hA : r.free = true ∨ ∀ b, Mut L.A0 β σ b -> A b) : ∃ β', Sim L F' β' (σ.put (some d) ⟨some (ZF d r).1, (ZF d r).2⟩) (a.put (some d) v) w' := by
 obtain ⟨h1, h2, h3, h4, h5, h6⟩ := ZI d hr hok (List.nodup_append.1 hn).1
 rw [h1]
 have hd2 : d % 1000 = d := Nat.mod_eq_of_lt hd1
 have hnew : ∀ x ∈ bks d r v, ∀ b, x.k.blk = some b -> b ∈ b1 /\ w.heap.size <= b := fun x hx b hxb => by
  have := (h4 x hx).blk b hxb
  refine ⟨this, ?_⟩
  rcases (hb b (List.mem_append.2 (.inl this))).1 with h | h
  ·cases h
  ·exact h
 have hst : ∀ A', (∀ b, A' b -> Mut L.A0 β σ b ∨ ∃ x ∈ bks d r v, x.k.blk = some b) -> r.free = true ∨ j8 (fun b => (A b /\ b ∉ ([] : List Nat)) ∨ b ∈ b1 ++ b2) A' w' w' := by
  intro A' hA'
  rcases hA with hA | hA
  ·exact .inl hA
  ·refine .inr ⟨fun _ _ _ => rfl, fun b _ h => ?_⟩
   rcases hA' b h with h | ⟨x, hx, hxb⟩
   ·exact .inl ⟨hA b h, by simp⟩
   ·exact .inr (List.mem_append.2 (.inl (hnew x hx b hxb).1))
 have hfree : r.free = true -> bks d r v = [] := by
  intro hf
  cases hr with
  | pv _ => rfl
  | nil => rfl
  | own _ _ _ _ _ => cases hf
  | any => rfl
  | @tup xs us bs h =>
   have : ∀ {xs : List RA} {k : Nat} {us : List Value}, U7 xs = true -> ud d k xs us = [] := by
    intro xs
    induction xs with
    | nil => intro k us _; cases us <;> rfl
    | cons x xs ih =>
     intro k us hf
     cases x with
     | pv x =>
      simp only [U7, Bool.and_eq_true] at hf
      cases us with
      | nil => rfl
      | cons u us => exact ih hf.2
     | _ => cases hf
   show ud d 1 xs us.toArray.toList = []
   exact this hf
 have hn' := S.news (F' := F') (w' := w') (N := bks d r v) (gone := []) (S0 := []) (d := some d) (y := some (ZF d r).1) (v := v) (fun s hs => by cases hs; exact hd) hfr qf h2 (fun x hx => hF _ (by rw [h3 x hx, hd2]))
  (fun n hn => ⟨(hF' n hn).1, fun x hx e => (hF' n hn).2 (by rw [e, h3 x hx, hd2])⟩) (fun x hx => (h4 x hx).sh) (fun x hx => (h4 x hx).one) (fun x hx b hxb => .inl (hnew x hx b hxb).2) h5 qf
  (fun A' hA' hs hg x hx => by
   rcases hst A' hA' with hf | hs'
   ·rw [hfree hf] at hx; cases hx
   ·exact ((h4 x hx).ob (ui β (bks d r v)) (zV h2 hx)).mono (zn.refl _) hs' fun _ _ _ _ => rfl)
  (fun A' hA' hs hg z hz => by
   cases hz
   have hb' : ∀ x ∈ bks d r v, ui β (bks d r v) x.n = some x.k := fun x hx => zV h2 hx
   rcases hst A' hA' with hf | hs'
   ·have hr2 := qfQ (A' := A') (w' := w') hr hf
    obtain ⟨-, -, -, -, -, h6'⟩ := ZI d hr2 hok (List.nodup_append.1 hn).1
    exact h6' _ hb'
   ·exact (h6 _ hb').mono (zn.refl _) hs')
 simp only [List.map_nil, List.append_nil] at hn'
 exact ⟨_, hn'⟩
theorem qad (S : Sim L F β σ a w) {d : Nat} (hd : d < L.N) {f : FuncId} {n e s : Nat} {us zs : List PV} {r : RA} {vals : List Value} (ho : σ.obj n = some (.row e s us false)) (hxs : qm β (Mut L.A0 β σ) w [.own n] vals) (hlt : ∀ b, Mut L.A0 β σ b -> b < w.heap.size)
  (hcon : Con P L.G f [.own e s us] r [.own e s zs]) :
  Calls P f vals.toArray w fun e' w' => ∃ v, e' = .returned v /\ ∃ β', Sim L F β' (σ.put (some d) ⟨none, [(n, some (.row e s zs false))]⟩) (a.put (some d) v) w' := by
 cases hxs with
 | cons hx hn0 =>
  cases hn0
  cases hx with
  | @own _ k hk =>
   obtain ⟨k', ws, q1, q2, q3, q4, q5, q6, q7, q8⟩ := S.objs n _ ho
   rw [hk] at q1
   cases q1
   have hM : ∀ b ∈ k.v.ownBlock.toList, Mut L.A0 β σ b := fun b hb => .inr ⟨n, _, k, ho, rfl, hk, Vz Ya⟩
   refine (hcon.2 w [k.v] (k.v.ownBlock.toList ++ []) (Mut L.A0 β σ) hlt (by simpa using hM) (by rw [List.append_nil]; cases k.v.ownBlock <;> simp) S.env (.cons (.own q3 q4 q5 q6 q7) .nil)).mono ?_
   rintro e' w' ⟨v, b1, b2, rfl, -, hr, -, -, hf⟩
   refine ⟨v, rfl, β, ?_⟩
   rw [List.append_nil] at hf hr
   cases hr with
   | @cons _ _ _ _ c1 c2 g1 g2 =>
    cases g2
    cases g1 with
    | @own _ _ _ _ us2 p1 p2 p3 p4 p5 =>
     rw [List.append_nil] at p2
     rcases p5.2 with ⟨hv, hu⟩ | ⟨g, cap, cur, hv, hg, hh, p6, p7, p8, p9⟩
     ·have hz : zs = [] := List.eq_nil_of_length_eq_zero hu
      have hu0 : us = [] := by
       rcases q7.2 with ⟨-, h⟩ | ⟨g, cap, cur, hv', -⟩
       ·exact List.eq_nil_of_length_eq_zero h
       ·rw [hv] at hv'; cases hv'
      subst hz hu0
      have hf' : Fr [] w w' := by rw [hv] at hf; exact hf
      have hn' := S.news (F' := F) (w' := w') (N := []) (gone := []) (S0 := []) (d := some d) (y := none) (v := v) (fun s hs => by cases hs; exact hd) hf' qf qf qf (fun n hn => ⟨hn, by simp⟩) qf qf qf qf qf qf qf
      have e0 : ui β [] = β := by funext m; simp [ui, yM, ja]
      rw [e0] at hn'
      refine hn'.ext (fun s => rfl) fun m => ?_
      show St.obj ⟨_, [(n, some _)] ++ σ.objs⟩ m = St.obj ⟨_, _⟩ m
      simp only [St.obj, List.cons_append, List.nil_append, ja, yM, List.map_nil]
      by_cases hm : m = n
      ·subst hm
       rw [if_pos rfl]
       exact ho.symm
      ·rw [if_neg hm]
     ·have hb : k.blk = some g := by simp [Bk.blk, hv]
      have hob : k.v.ownBlock.toList = [g] := by simp [hv, Value.ownBlock]
      rw [hob] at hf
      refine S.upd2 (fun s hs => by cases hs; exact hd) ho rfl rfl hk hb hf fun hst => ?_
      refine ⟨k, us2, hk, q2, p1, p2.stay ⟨fun _ _ _ => rfl, fun b _ hb' => ?_⟩, p3, p4, p5, fun b hb' => ?_⟩
      ·by_cases hm : b ∈ k.v.ownBlock.toList
       ·exact .inr (by simp; exact .inr Y87)
       ·exact .inl ⟨hb', hm⟩
      ·rw [hb] at hb'; cases hb'
       obtain ⟨q9, q10⟩ := q8 g hb
       have : zs.length = us.length := by
        rw [hv] at q9
        simp only [Value.slice.injEq] at q9
        exact q9.2.1
       rw [this]
       exact ⟨q9, q10⟩
theorem Kq (hX : Cok P X L) (S : Sim L F β σ a w) {F' : Nat -> Prop} {d : Nat} (hd : d < L.N) (hd1 : d < 1000) (hF : ∀ n, n % 1000 = d -> F n) (hF' : ∀ n, F' n -> F n /\ n % 1000 ≠ d) {f : FuncId} {xs : List AV} {us : List Value} (hxs : qm β (Mut L.A0 β σ) w xs us)
  (hC : ∀ f as r ys, C f as r ys -> Con P L.G f as r ys) {out : Out} (h : (LQ X f d xs).runs C σ out l) :
  ZV P f /\ Calls P f us.toArray w fun e w' => ∃ v, e = .returned v /\ ∃ β', Sim L F' β' (σ.put (some d) out) (a.put (some d) v) w' := by
 obtain ⟨as, r, outs, hc, h⟩ := h
 obtain ⟨hE, hcon⟩ := hC f as r outs hc
 refine ⟨hE, ?_⟩
 have hlt : ∀ b, Mut L.A0 β σ b -> b < w.heap.size := by
  rintro b (h | ⟨n, o, k, h1, h2, h3, h4⟩)
  ·exact Nat.lt_of_lt_of_le (S.a0 b h).1 S.fr.size
  ·obtain ⟨k', h5, h6⟩ := (S.objs n o h1).bound
   rw [h3] at h5; cases h5
   exact h6 b h4
 have plain : (qcO X d xs as r).runs C σ out l -> Calls P f us.toArray w fun e w' => ∃ v, e = .returned v /\ ∃ β', Sim L F' β' (σ.put (some d) out) (a.put (some d) v) w' := by
  intro h
  unfold qcO at h
  cases hok : okR r with
  | false => simp only [hok] at h; exact h.elim
  | true =>
   simp only [hok] at h
   obtain ⟨ns, l2, h, hp⟩ := ZO hX.h S hxs h
   have go : ∀ (A : Nat -> Prop), z8 β (Mut L.A0 β σ) A ns -> Calls P f us.toArray w fun e w' => ∃ v b1 b2, e = .returned v /\ uT (fun b => (A b /\ b ∉ ([] : List Nat)) ∨ b ∈ b1 ++ b2) w' r v b1 /\ (b1 ++ b2).Nodup /\ (∀ b ∈ b1 ++ b2, (b ∈ ([] : List Nat) ∨ w.heap.size <= b) /\ b < w'.heap.size) /\ Fr [] w w' := by
    intro A hA
    refine (hcon w us [] A (fun b hb => hlt b (hA.sub b hb)) qf qf (S.env.stay (hA.stays w)) (hp A hA)).mono ?_
    rintro e w' ⟨v, b1, b2, h1, h2, -, h3, h4, h5⟩
    exact ⟨v, b1, b2, h1, h2, h3, h4, h5⟩
   cases ns with
   | nil =>
    obtain ⟨rfl, -⟩ := h
    refine (go (Mut L.A0 β σ) ⟨fun _ h => h, by simp⟩).mono ?_
    rintro e w' ⟨v, b1, b2, h1, h2, h3, h4, h5⟩
    exact ⟨v, h1, Za S hd hd1 hF hF' h5 h2 hok h3 h4 (.inr fun _ h => h)⟩
   | cons n ns =>
    simp only at h
    cases hfr : r.free with
    | true =>
     rw [hfr] at h
     obtain ⟨rfl, -⟩ := h
     refine (go (fun b => Mut L.A0 β σ b /\ ∀ m ∈ n :: ns, ∀ k, β m = some k -> k.blk ≠ some b) ⟨fun _ h => h.1, fun m hm k b h1 h2 h3 => h3.2 m hm k h1 h2⟩).mono ?_
     rintro e w' ⟨v, b1, b2, h1, h2, h3, h4, h5⟩
     exact ⟨v, h1, Za S hd hd1 hF hF' h5 h2 hok h3 h4 (.inl hfr)⟩
    | false =>
     rw [hfr] at h
     obtain ⟨sh, l3, h, hsh⟩ := uS h
     obtain ⟨rfl, -⟩ := h
     obtain ⟨S', hA⟩ := S.share hsh
     refine (go _ hA).mono ?_
     rintro e w' ⟨v, b1, b2, h1, h2, h3, h4, h5⟩
     obtain ⟨β', hs⟩ := Za S' (F' := F') hd hd1 hF hF' h5 h2 hok h3 h4 (.inr fun _ h => h)
     rw [qcg] at hs
     exact ⟨v, h1, β', hs⟩
 dsimp only at h
 split at h
 ·rename_i e s ys
  unfold qfy at h
  split at h
  ·rename_i e' s' zs n
   obtain ⟨o, l2, ho, -, h⟩ := h
   dsimp only at h
   split at h
   ·rename_i e0 s0 us0
    obtain ⟨h4, h⟩ := h
    obtain ⟨rfl, rfl, rfl, rfl, rfl⟩ := h4 ()
    obtain ⟨rfl, -⟩ := h
    refine (qad (d := d) S hd ho hxs hlt ⟨hE, hcon⟩).mono ?_
    rintro e w' ⟨v, h1, β', h2⟩
    exact ⟨v, h1, β', h2.fewer fun n hn => (hF' n hn).1⟩
   ·exact Y23
  ·exact Y23
 ·exact plain h
end
end Go.Bl
namespace Go.Bl
open Go.RowKit
section
variable {α : Type} {P : Program} {X : Cx} {L : Pl} {F : Nat -> Prop} {β : Nat -> Option Bk} {σ : St} {a : Act} {w : World} {C : FuncId -> List RA -> RA -> List RA -> Prop} {b : α} {l : List Lc} {A : Nat -> Prop}
theorem yu (hX : Cok P X L) (S : Sim L F β σ a w) : ∀ {xs : List Operand} {k : List AV -> RM α} {l : List Lc}, (qbx X xs k).runs C σ b l -> ∃ ys l', (k ys).runs C σ b l' /\ qm β (Mut L.A0 β σ) w ys (xs.map a.eval)
 | [], k, l, h => ⟨[], l, h, .nil⟩
 | x :: r, k, l, h => by
  obtain ⟨y, l1, hy, h⟩ := qE hX S h
  obtain ⟨ys, l2, h, h2⟩ := yu hX S h
  exact ⟨_, l2, h, .cons hy h2⟩
theorem UV (hX : Cok P X L) (S : Sim L F β σ a w) {x : Option Operand} {k : Option Int -> RM α} (h : (qe1 X x k).runs C σ b l) : ∃ q kd l', (k q).runs C σ b l' /\ x.map a.eval = q.map fun n => Value.int kd n := by
 cases x with
 | none => exact ⟨none, .i64, l, h, rfl⟩
 | some x =>
  obtain ⟨y, l1, hy, h⟩ := qE hX S h
  obtain ⟨kd, n, rfl, h⟩ := vP h
  obtain ⟨e, -⟩ := jg hy
  exact ⟨some n, kd, _, h, by simp [e]⟩
theorem qB (hX : Cok P X L) (S : Sim L F β σ a w) {o : Oper} (hd : ∀ d, o.dst = some d -> d < L.N /\ d < 1000) {out : Out} {y : AV} {v : Value} (ho : out = ⟨some y, []⟩) (hy : qD β (Mut L.A0 β σ) w y v) (hr : (execOp a.eval o).run P w = .ok (.value v) w) :
  Qn P L (fun n => F n /\ ∀ d, o.dst = some d -> n % 1000 ≠ d) (σ.put o.dst out) a o w := by
 subst ho
 exact qcW S (fun d h => (hd d h).1) (fun n h => h.1) hy hr
theorem Z0 {o : Oper} {d : Nat} {out : Out} {v : Value} {w' : World} (hdst : o.dst = some d) (hr : (execOp a.eval o).run P w = .ok (.value v) w')
  (h : ∃ β', Sim L (fun n => F n /\ n % 1000 ≠ d) β' (σ.put (some d) out) (a.put (some d) v) w') : Qn P L (fun n => F n /\ ∀ d, o.dst = some d -> n % 1000 ≠ d) (σ.put o.dst out) a o w := by
 unfold Qn
 rw [hr, hdst]
 obtain ⟨β', h⟩ := h
 exact ⟨β', h.fewer fun n hn => ⟨hn.1, hn.2 d rfl⟩⟩
theorem Kz (ρ : Operand -> Value) {c : Call} {f : Operand} (hc : c.callee = .value f) {ty : TypeId} {fn : FuncId} {us zs : List Value} (hf : ρ f = .func (.func fn) us.toArray zs.toArray) (hE : ZV P fn) :
  (do let d <- resolve ρ c ty; invoke d.target d.args : Sem Next).run P w = .ok (.enter fn ((us ++ c.args.toList.map ρ ++ zs).toArray)) w := by
 simp only [resolve, hc, hf, Deferred.ofValue, Sem.run_bind, Sem.run_pure, Result.andThen_ok, invoke]
 rw [hE]
 congr 2
 simp
theorem qj.avs {xs : List PV} {us : List Value} (h : qj A w xs us) : qm β A w (xs.map .pv) us := qm.pvs h
theorem Zb (hX : Cok P X L) (S : Sim L F β σ a w) {o : Oper} {out : Out} (h : (opM X o).runs C σ out l) (hd : ∀ d, o.dst = some d -> d < L.N /\ d < 1000) (hF : ∀ d, o.dst = some d -> ∀ n, n % 1000 = d -> F n)
  (hC : ∀ f as r ys, C f as r ys -> Con P L.G f as r ys) : Qn P L (fun n => F n /\ ∀ d, o.dst = some d -> n % 1000 ≠ d) (σ.put o.dst out) a o w := by
 obtain ⟨dst, op, ty, pos, aft, gd⟩ := o
 have hFd : ∀ d, dst = some d -> F d := fun d e => hF d e d (Nat.mod_eq_of_lt (hd d e).2)
 have hF' : ∀ d, dst = some d -> ∀ n, F n /\ n % 1000 ≠ d -> F n /\ n ≠ d := fun d e n hn => ⟨hn.1, fun h => hn.2 (by rw [h]; exact Nat.mod_eq_of_lt (hd d e).2)⟩
 cases op with
 | move x =>
  obtain ⟨y, l1, hy, h⟩ := qE hX S h
  exact qB hX S hd h.1 hy rfl
 | assign x =>
  obtain ⟨y, l1, hy, h⟩ := qE hX S h
  exact qB hX S hd h.1 hy rfl
 | pick c x y =>
  obtain ⟨q, l1, hq, h⟩ := qE hX S h
  split at h
  ·rename_i q
   obtain ⟨e, -⟩ := jg hq
   cases q with
   | true =>
    obtain ⟨z, l2, hz, h⟩ := qE (x := x) hX S h
    exact qB hX S hd h.1 hz (by simp [execOp, e, asBool])
   | false =>
    obtain ⟨z, l2, hz, h⟩ := qE (x := y) hX S h
    exact qB hX S hd h.1 hz (by simp [execOp, e, asBool])
  ·exact Y23
 | alloc t =>
  cases dst with
  | none => exact h.elim
  | some d =>
   obtain ⟨ti, ht, h⟩ := qr h
   split at h
   ·rename_i z hz
    obtain ⟨h1, -, -⟩ := QL (P := P) (w := w) hX ht hz
    exact Z0 rfl (by simp [execOp, Instr.alloc, h1, Uu]) (YN hX S (hd d rfl).1 (hFd d rfl) (hF' d rfl) ht hz h)
   ·exact Y23
 | box t x =>
  cases dst with
  | none => exact h.elim
  | some d =>
   obtain ⟨ti, ht, h⟩ := qr h
   obtain ⟨y, l1, hy, h⟩ := qE hX S h
   exact Z0 rfl (by simp [execOp, Instr.box, Uu]) (qba hX S (hd d rfl).1 (hFd d rfl) (hF' d rfl) hy h)
 | build t parts =>
  obtain ⟨ti, ht, h⟩ := qr h
  split at h
  ·rename_i z hz
   obtain ⟨ys, l1, h, hp⟩ := xU hX S h
   obtain ⟨y, ns, sh, v, rfl, h2, h3, h4⟩ := XW hX S ht hz hp h
   exact Vq S (fun d e => (hd d e).1) (fun n hn => hn.1) h2 (h3 _ (S.share h2).2) (by simp [execOp, h4])
  ·exact Y23
 | buildSlice t len parts =>
  cases dst with
  | none => exact h.elim
  | some d =>
   obtain ⟨ti, ht, h⟩ := qr h
   split at h
   ·rename_i e hdt
    obtain ⟨te, he, h⟩ := qr h
    split at h
    ·rename_i z hz
     obtain ⟨ys, l1, h, hp⟩ := xU hX S h
     obtain ⟨v, w', β', h1, h2⟩ := Ja hX S (hd d rfl).1 (hFd d rfl) (hF' d rfl) ht hdt he hz hp h
     exact Z0 rfl (by simp [execOp, h1]) ⟨β', h2⟩
    ·exact Y23
   ·exact Y23
 | load t x =>
  obtain ⟨p, l1, hp, h⟩ := qE hX S h
  obtain ⟨y, v, l2, h, hy, hr⟩ := ZW hX S hp h
  exact qB hX S hd h.1 hy (by simp [execOp, hr])
 | store t p x =>
  obtain ⟨q, l1, hq, h⟩ := qE hX S h
  obtain ⟨y, l2, hy, h⟩ := qE hX S h
  obtain ⟨os, w', l3, h, hr, hs⟩ := XS hX S (d := dst) (fun d e => (hd d e).1) hq hy h
  obtain ⟨rfl, -⟩ := h
  unfold Qn
  have e : (execOp a.eval ⟨dst, .store t p x, ty, pos, aft, gd⟩).run P w = .ok .skip w' := by simp [execOp, hr]
  rw [e]
  exact ⟨β, (hs undef).fewer fun n hn => hn.1⟩
 | nilCheck x =>
  obtain ⟨y, l1, hy, h⟩ := qE hX S h
  split at h
  ·obtain ⟨k, bk, h1, h2, e⟩ := vm hy
   exact qB hX S hd h.1 hy (by simp [execOp, e])
  ·obtain ⟨ad, us, e, -⟩ := ZK hy
   exact qB hX S hd h.1 hy (by simp [execOp, e])
  ·obtain ⟨us, zs, e, -⟩ := qcP hy
   exact qB hX S hd h.1 hy (by simp [execOp, e])
  ·exact Y23
 | binOp op t x y yt =>
  obtain ⟨ti, ht, h⟩ := qr h
  obtain ⟨u, l1, hu, h⟩ := qE hX S h
  obtain ⟨v, l2, hv, h⟩ := qE hX S h
  obtain ⟨r, l3, h, h1, h2⟩ := qar hX S ht hu hv h
  refine qB hX S hd h.1 (.pv (.v h1)) ?_
  show ((do eqGuard op t x y (a.eval x) (a.eval y); binOp op t (a.eval x) (a.eval y) : Sem Value) >>= fun r => (pure (.value r) : Sem Next)).run P w = _
  rw [Sem.run_bind, h2]
  rfl
 | unOp op t x =>
  obtain ⟨u, l1, hu, h⟩ := qE hX S h
  split at h
  ·obtain ⟨e, -⟩ := jg hu
   exact qB hX S hd h.1 (.pv (.v rfl)) (by simp [execOp, e, Op.unary, hX.h])
  ·obtain ⟨e, -⟩ := jg hu
   exact qB hX S hd h.1 (.pv (.v rfl)) (by simp [execOp, e, Op.unary, hX.h, Op.intArith])
  ·obtain ⟨e, -⟩ := jg hu
   exact qB hX S hd h.1 (.pv (.v rfl)) (by simp [execOp, e, Op.unary, hX.h, Op.intBits, Lq])
  ·exact Y23
 | convert s t x =>
  obtain ⟨si, hs, h⟩ := qr h
  obtain ⟨ti, ht, h⟩ := qr h
  obtain ⟨u, l1, hu, h⟩ := qE hX S h
  obtain ⟨y, rfl, hc⟩ := KG hX S hs ht hu h
  rcases hc with ⟨v, hv, hr⟩ | ⟨v, w', z, rfl, hr, hfr, hz⟩
  ·exact qB hX S hd rfl hv (by simp [execOp, hr])
  ·have e : (execOp a.eval ⟨dst, .convert s t x, ty, pos, aft, gd⟩).run P w = .ok (.value v) w' := by simp [execOp, hr]
   unfold Qn
   rw [e]
   have hlt : ∀ b, Mut L.A0 β σ b -> b < w.heap.size := by
    rintro b (h | ⟨n, o, k, h1, h2, h3, h4⟩)
    ·exact Nat.lt_of_lt_of_le (S.a0 b h).1 S.fr.size
    ·obtain ⟨k', h5, h6⟩ := (S.objs n o h1).bound
     rw [h3] at h5; cases h5
     exact h6 b h4
   have hn := S.news (F' := fun n => F n /\ ∀ d, dst = some d -> n % 1000 ≠ d) (w' := w') (N := []) (gone := []) (S0 := []) (d := dst) (y := some (.pv z)) (v := v) (fun s hs => (hd s hs).1) hfr qf qf qf (fun n hn => ⟨hn.1, by simp⟩) qf qf qf qf qf (by intro _ _ _ _ x hx; cases hx)
    (fun A' hA' _ _ z' hz' => by
     cases hz'
     refine .pv (hz A' fun b hb => ?_)
     rcases hA' b hb with h | ⟨x, hx, -⟩
     ·exact hlt b h
     ·cases hx)
   exact ⟨_, hn⟩
 | sliceToArrayPointer t x =>
  obtain ⟨ti, ht, h⟩ := qr h
  split at h
  ·rename_i n e hdt
   obtain ⟨te, he, h⟩ := qr h
   obtain ⟨u, l1, hu, h⟩ := qE hX S h
   obtain ⟨y, v, h, hy, hr⟩ := Yh hX S ht hdt hu h
   exact qB hX S hd h hy (by simp [execOp, hr])
  ·exact Y23
 | makeInterface t x =>
  obtain ⟨ti, ht, h⟩ := qr h
  have hu := jV (P := P) (w := w) hX ht
  have go : (evK X x fun a => Jt X a fun y sh => (.ret ⟨some (.pv (.i t y)), sh⟩ : RM Out)).runs C σ out l -> (∀ ms, ti.desc ≠ .interface ms) -> Qn P L (fun n => F n /\ ∀ d, dst = some d -> n % 1000 ≠ d) (σ.put dst out) a ⟨dst, .makeInterface t x, ty, pos, aft, gd⟩ w := by
   intro h hne
   obtain ⟨u, l1, hu', h⟩ := qE hX S h
   obtain ⟨y, ns, sh, l2, h, h2, h3, h4⟩ := KT hX.h S hu' h
   obtain ⟨rfl, -⟩ := h
   refine Vq S (fun d e => (hd d e).1) (fun n hn => hn.1) h2 (.pv (.i h4)) ?_
   cases hdt : ti.desc with
   | interface ms => exact absurd hdt (hne ms)
   | _ => rw [hdt] at hu; simp [execOp, Instr.makeInterface, hu]
  split at h
  ·exact Y23
  ·rename_i hne
   exact go h fun ms e => hne ms e
 | makeFunc fn as bs =>
  obtain ⟨ys, l1, h, h1⟩ := yu hX S h
  obtain ⟨zs, l2, h, h2⟩ := yu hX S h
  refine qB hX S hd h.1 (.fn h1 h2) ?_
  simp [execOp, Instr.makeFunc]
  exact ⟨Array.ext' qf, Array.ext' qf⟩
 | makeSlice t x y =>
  cases dst with
  | none => exact h.elim
  | some d =>
   obtain ⟨ti, ht, h⟩ := qr h
   split at h
   ·rename_i e hdt
    obtain ⟨te, he, h⟩ := qr h
    split at h
    ·rename_i z hz
     obtain ⟨u, l1, hu, h⟩ := qE hX S h
     obtain ⟨v, l2, hv, h⟩ := qE hX S h
     obtain ⟨kn, n, eu, h⟩ := vP h
     obtain ⟨km, m, ev, h⟩ := vP h
     obtain ⟨hc, h⟩ := h
     obtain ⟨c1, c2, c3, c4, c5⟩ := hc ()
     obtain ⟨rfl, -⟩ := h
     rw [eu] at hu
     rw [ev] at hv
     obtain ⟨e1, -⟩ := jg hu
     obtain ⟨e2, -⟩ := jg hv
     obtain ⟨v, w', β', h1, h2⟩ := WA (kn := kn) (km := km) hX S (hd d rfl).1 (hFd d rfl) (hF' d rfl) ht hdt he hz c1 c2 c3 c4 c5
     rw [hX.h]
     exact Z0 rfl (by simp [execOp, e1, e2, h1]) ⟨β', h2⟩
    ·exact Y23
   ·exact Y23
 | slice t x lo hi mx =>
  cases mx with
  | some _ => exact h.elim
  | none =>
   obtain ⟨u, l1, hu, h⟩ := qE hX S h
   obtain ⟨q, kq, l2, h, e1⟩ := UV hX S h
   obtain ⟨r, kr, l3, h, e2⟩ := UV hX S h
   obtain ⟨y, v, l4, h, hy, hr⟩ := XX (kl := kq) (kh := kr) hX S hu h
   exact qB hX S hd h.1 hy (by simp [execOp, e1, e2, hr])
 | fieldAddr s x f =>
  obtain ⟨si, hs, h⟩ := qr h
  have hu := jV (P := P) (w := w) hX hs
  split at h
  ·rename_i fs hdt
   rw [hdt] at hu
   split at h
   ·rename_i fd hf
    obtain ⟨tf, hT, h⟩ := qr h
    obtain ⟨hc, h⟩ := h
    have hc := hc ()
    obtain ⟨u, l1, hu', h⟩ := qE hX S h
    have go : ∀ {ad : Addr}, a.eval x = .pointer (some ad) -> (execOp a.eval ⟨dst, .fieldAddr s x f, ty, pos, aft, gd⟩).run P w = .ok (.value (.pointer (some (ad.add fd.offset)))) w := by
     intro ad e
     simp [execOp, e, Instr.fieldAt, hu, hf, Instr.sureAddr, fieldPlace, run_sizeOf hX hT, hc]
    split at h
    ·obtain ⟨ad, us, e, g1, g2, g3⟩ := ZK hu'
     refine qB hX S hd h.1 ?_ (go e)
     rw [hX.h]
     exact .pv (.p (g1.drop _) (fun c hc => g2 c (List.mem_of_mem_drop hc)) (Row.add g3 _))
    ·obtain ⟨kk, bk, hk, hb, e⟩ := vm hu'
     refine qB hX S hd h.1 ?_ (go e)
     rw [ux, Nat.add_assoc]
     exact .ref hk hb
    ·exact Y23
   ·exact Y23
  ·exact Y23
 | field t x f =>
  obtain ⟨ti, ht, h⟩ := qr h
  split at h
  ·rename_i fs hdt
   split at h
   ·rename_i fd hf
    obtain ⟨tf, hT, h⟩ := qr h
    obtain ⟨u, l1, hu, h⟩ := qE hX S h
    obtain ⟨y, v, h, hy, hr⟩ := YX hX S ht hdt hf hT hu h
    exact qB hX S hd h hy (by simp [execOp, hr])
   ·exact Y23
  ·exact Y23
 | indexAddr t x i =>
  obtain ⟨u, l1, hu, h⟩ := qE hX S h
  obtain ⟨v, l2, hv, h⟩ := qE hX S h
  obtain ⟨kd, n, ev, h⟩ := vP h
  rw [ev] at hv
  obtain ⟨e, -⟩ := jg hv
  obtain ⟨y, v, l3, h, hy, hr⟩ := JY (kd := kd) hX S hu h
  exact qB hX S hd h.1 hy (by simp [execOp, e, hr])
 | index t x i =>
  obtain ⟨u, l1, hu, h⟩ := qE hX S h
  obtain ⟨v, l2, hv, h⟩ := qE hX S h
  obtain ⟨kd, n, ev, h⟩ := vP h
  rw [ev] at hv
  obtain ⟨e, -⟩ := jg hv
  rcases u with ⟨x | xs | xs | xs | xs | ⟨t', x⟩ | ⟨fn, xs, ys⟩⟩ | _ | _ | _ | _ | _ | _ | _
  ·rcases x with _ | _ | _ | _ | q | _ | _ | _ | _ | _ | _ | _ | _ | _ | _
   case string =>
    obtain ⟨ti, ht, h⟩ := qr h
    have hut := jV (P := P) (w := w) hX ht
    split at h
    ·rename_i hdt
     rw [hdt] at hut
     obtain ⟨hc, h⟩ := h
     obtain ⟨c1, c2⟩ := hc ()
     obtain ⟨e2, -⟩ := jg hu
     have hlt : n.toNat < q.size := by omega
     refine qB hX S hd h.1 (.pv (.v rfl)) ?_
     have hg : q[n.toNat]? = some (q.data.toList.getD n.toNat 0) := by
      have h1 : n.toNat < q.data.size := hlt
      have h2 : q[n.toNat]? = some (q[n.toNat]'hlt) := by simp [hlt]
      rw [h2]
      simp [List.getD_eq_getElem?_getD, Array.getElem?_eq_getElem h1]
      rfl
     simp [execOp, e, e2, Instr.index, asIntOf, hut, c1, hg, hX.h]
    ·exact Y23
   all_goals exact h.elim
  ·exact Y23
  ·exact Y23
  ·obtain ⟨ti, ht, h⟩ := qr h
   split at h
   ·rename_i len e' hdt
    obtain ⟨te, he, h⟩ := qr h
    obtain ⟨hc, h⟩ := h
    obtain ⟨c1, c2⟩ := hc ()
    obtain ⟨y, v, h, hy, hr⟩ := YW (kd := kd) hX S ht hdt he hu c1 c2 h
    exact qB hX S hd h hy (by simp [execOp, e, hr])
   ·exact Y23
  all_goals exact h.elim
 | extract x i =>
  obtain ⟨u, l1, hu, h⟩ := qE hX S h
  split at h
  ·obtain ⟨us, e, g1⟩ := qef hu
   split at h
   ·rename_i y hy
    obtain ⟨v, h1, h2⟩ := g1.get hy
    exact qB hX S hd h.1 h2 (by simp [execOp, e, Instr.extract, h1])
   ·exact Y23
  ·obtain ⟨us, e, g1⟩ := qfD hu
   split at h
   ·rename_i y hy
    obtain ⟨v, h1, h2⟩ := g1.get hy
    exact qB hX S hd h.1 (.pv h2) (by simp [execOp, e, Instr.extract, h1])
   ·exact Y23
  ·exact Y23
 | call c =>
  obtain ⟨callee, args, ats⟩ := c
  obtain ⟨xs, l1, h, hxs⟩ := yu hX S h
  cases callee with
  | builtin bi =>
   have hex : ∀ {o : Oper}, o.op = .call ⟨.builtin bi, args, ats⟩ -> ∃ cs, execOp a.eval o = builtin bi ats o.type cs (args.map a.eval) := by
    intro o ho
    exact ⟨_, by simp [execOp, ho, resolve, invoke]; rfl⟩
   have hl := hxs.length
   cases bi with
   | len =>
    rcases xs with _ | ⟨x, _ | ⟨x', xs⟩⟩
    ·exact Y23
    ·rcases hat : ats.toList with _ | ⟨t, _ | ⟨t', ts⟩⟩
     ·rw [hat] at h; exact h.elim
     ·rw [hat] at h
      generalize hus : args.toList.map a.eval = us at hxs
      cases hxs with
      | @cons _ u _ us hx hn =>
       cases hn
       obtain ⟨n, l2, h, hr⟩ := qac (ty := ty) hX S hx h
       refine qB hX S hd h.1 (.pv (.v rfl)) ?_
       obtain ⟨cs, e⟩ := hex (o := ⟨dst, .call ⟨.builtin .len, args, ats⟩, ty, pos, aft, gd⟩) rfl
       rw [e, show args.map a.eval = #[u] from Array.ext' (by simpa using hus), show ats = #[t] from Array.ext' (by simpa using hat)]
       simp [builtin, hr]
     ·rw [hat] at h; exact h.elim
    ·exact Y23
   | append =>
    rcases xs with _ | ⟨x, _ | ⟨y, _ | ⟨z, xs⟩⟩⟩
    ·exact Y23
    ·exact Y23
    ·rcases hat : ats.toList with _ | ⟨t, _ | ⟨t', _ | ⟨t'', ts⟩⟩⟩
     ·rw [hat] at h; exact h.elim
     ·rw [hat] at h; exact h.elim
     ·rw [hat] at h
      cases dst with
      | none => exact h.elim
      | some d =>
       generalize hus : args.toList.map a.eval = us at hxs
       cases hxs with
       | @cons _ u _ us hx hn =>
        cases hn with
        | @cons _ v _ us hy hn =>
         cases hn
         obtain ⟨cs, e⟩ := hex (o := ⟨some d, .call ⟨.builtin .append, args, ats⟩, ty, pos, aft, gd⟩) rfl
         have hus2 : args.map a.eval = #[u, v] := Array.ext' (by simpa using hus)
         have hat2 : ats = #[t, t'] := Array.ext' (by simpa using hat)
         simp only at h
         cases htt : t' == t with
         | true =>
          rw [htt] at h
          have htt : t' = t := by simpa using htt
          subst htt
          obtain ⟨v', w', β', h1, h2⟩ := VO (ty := ty) hX S (hd d rfl).1 (hFd d rfl) (hF' d rfl) hx hy h
          exact Z0 rfl (by rw [e, hus2, hat2]; simp [builtin, h1]) ⟨β', h2⟩
         | false =>
          rw [htt] at h
          exact Y23
     ·rw [hat] at h; exact h.elim
    ·exact Y23
   | min =>
    simp only at h
    split at h
    ·generalize hus : args.toList.map a.eval = us at hxs
     cases hxs with
     | @cons _ u _ us hx hn =>
      cases hn with
      | @cons _ v _ us hy hn =>
       cases hn
       obtain ⟨rfl, -⟩ := jg hx
       obtain ⟨rfl, -⟩ := jg hy
       obtain ⟨cs, e⟩ := hex (o := ⟨dst, .call ⟨.builtin .min, args, ats⟩, ty, pos, aft, gd⟩) rfl
       rw [show args.map a.eval = #[_, _] from Array.ext' (by simpa using hus)] at e
       exact qB hX S hd h.1 (.pv (.v rfl)) (by rw [e]; simp [builtin, Builtin.min_, Builtin.min2, hX.h])
    ·exact Y23
   | max =>
    simp only at h
    split at h
    ·generalize hus : args.toList.map a.eval = us at hxs
     cases hxs with
     | @cons _ u _ us hx hn =>
      cases hn with
      | @cons _ v _ us hy hn =>
       cases hn
       obtain ⟨rfl, -⟩ := jg hx
       obtain ⟨rfl, -⟩ := jg hy
       obtain ⟨cs, e⟩ := hex (o := ⟨dst, .call ⟨.builtin .max, args, ats⟩, ty, pos, aft, gd⟩) rfl
       rw [show args.map a.eval = #[_, _] from Array.ext' (by simpa using hus)] at e
       exact qB hX S hd h.1 (.pv (.v rfl)) (by rw [e]; simp [builtin, Builtin.max_, Builtin.max2, hX.h])
    ·exact Y23
   | _ => exact h.elim
  | value f =>
   cases dst with
   | none => exact h.elim
   | some d =>
    obtain ⟨g, l2, hg, h⟩ := qE hX S h
    have fin : ∀ {fn : FuncId} {ys : List AV} {us zs : List Value}, a.eval f = .func (.func fn) us.toArray zs.toArray -> qm β (Mut L.A0 β σ) w ys (us ++ args.toList.map a.eval ++ zs) -> (LQ X fn d ys).runs C σ out l2 ->
      Qn P L (fun n => F n /\ ∀ d', some d = some d' -> n % 1000 ≠ d') (σ.put (some d) out) a ⟨some d, .call ⟨.value f, args, ats⟩, ty, pos, aft, gd⟩ w := by
     intro fn ys us zs e hys h
     obtain ⟨hE, hcall⟩ := Kq (F' := fun n => F n /\ ∀ d', some d = some d' -> n % 1000 ≠ d') hX S (hd d rfl).1 (hd d rfl).2 (hF d rfl) (fun n hn => ⟨hn.1, hn.2 d rfl⟩) hys hC h
     unfold Qn
     have hr := Kz (P := P) (w := w) a.eval (c := ⟨.value f, args, ats⟩) (ty := ty) rfl e hE
     have e2 : (execOp a.eval ⟨some d, .call ⟨.value f, args, ats⟩, ty, pos, aft, gd⟩) = (do let d <- resolve a.eval ⟨.value f, args, ats⟩ ty; invoke d.target d.args : Sem Next) := rfl
     rw [e2, hr]
     refine hcall.mono ?_
     rintro e' w' ⟨v, rfl, h⟩
     exact h
    split at h
    ·obtain ⟨us, zs, e, g1, g2⟩ := qcP hg
     exact fin e ((g1.app hxs).app g2) h
    ·obtain ⟨us, zs, e, g1, g2⟩ := qfv hg
     exact fin e ((g1.avs.app hxs).app g2.avs) h
    ·exact Y23
  | invoke _ _ => exact h.elim
 | _ => exact h.elim
end
end Go.Bl
