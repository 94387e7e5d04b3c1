import Derived.Test.YtdloaifdpajcjaaGreatDoorPA
import Derived.Stop.BytesEq
set_option linter.unusedVariables false
set_option linter.unusedSimpArgs false
namespace Go.Bl
open Go.RowKit
section
variable {α : Type} {P : Program} {X : Cx} {L : Pl} {F : Nat -> Prop} {β : Nat -> Option Bk} {σ : St} {a : Act} {w : World} {C : FuncId -> List RA -> RA -> List RA -> Prop} {b : α} {l : List Lc}
structure zF (β : Nat -> Option Bk) (A A' : Nat -> Prop) (ns : List Nat) : Prop where
 sub : ∀ b, A' b -> A b
 out : ∀ n ∈ ns, ∀ k b, β n = some k -> k.blk = some b -> ¬ A' b
theorem zF.app {A A' : Nat -> Prop} {ns ms : List Nat} (h : zF β A A' (ns ++ ms)) : zF β A A' ns /\ zF β A A' ms :=
 ⟨⟨h.sub, fun n hn => h.out n (List.mem_append.2 (.inl hn))⟩, ⟨h.sub, fun n hn => h.out n (List.mem_append.2 (.inr hn))⟩⟩
theorem zF.stays {A A' : Nat -> Prop} {ns : List Nat} (h : zF β A A' ns) (w : World) : qQ A A' w w := ⟨fun _ _ _ => rfl, fun b _ hb => h.sub b hb⟩
def Yc (β : Nat -> Option Bk) (A : Nat -> Prop) (w : World) (y : PV) (u : Value) (ns : List Nat) : Prop := ∀ A', zF β A A' ns -> qN A' w y u
def Km (β : Nat -> Option Bk) (A : Nat -> Prop) (w : World) (ys : List PV) (us : List Value) (ns : List Nat) : Prop := ∀ A', zF β A A' ns -> qe A' w ys us
theorem jq {s : Nat} : ∀ {xs : List PV}, (∀ x ∈ xs, x.cells.length = s) -> (xs.flatMap PV.cells).length = xs.length * s
 | [], _ => by simp
 | x :: xs, h => by
  rw [List.flatMap_cons, List.length_append, h x List.mem_cons_self, jq fun y hy => h y (List.mem_cons_of_mem _ hy), List.length_cons, Nat.add_mul]
  omega
theorem vv {s : Nat} : ∀ {xs : List PV} (k : Nat), (∀ x ∈ xs, x.cells.length = s) -> (xs.drop k).flatMap PV.cells = (xs.flatMap PV.cells).drop (k * s)
 | [], k, _ => by simp
 | x :: xs, 0, h => by simp
 | x :: xs, k + 1, h => by
  rw [List.drop_succ_cons, vv k fun y hy => h y (List.mem_cons_of_mem _ hy), List.flatMap_cons, List.drop_append, h x List.mem_cons_self,
   show (k + 1) * s - s = k * s by rw [Nat.add_mul]; omega, List.drop_of_length_le (l := x.cells) (by rw [h x List.mem_cons_self, Nat.add_mul]; omega), List.nil_append]
theorem xM {s : Nat} : ∀ {xs : List PV} (k : Nat), (∀ x ∈ xs, x.cells.length = s) -> (xs.take k).flatMap PV.cells = (xs.flatMap PV.cells).take (k * s)
 | [], k, _ => by simp
 | x :: xs, 0, h => by simp
 | x :: xs, k + 1, h => by
  rw [List.take_succ_cons, List.flatMap_cons, xM k fun y hy => h y (List.mem_cons_of_mem _ hy), List.flatMap_cons, List.take_append, h x List.mem_cons_self,
   show (k + 1) * s - s = k * s by rw [Nat.add_mul]; omega, List.take_of_length_le (l := x.cells) (by rw [h x List.mem_cons_self, Nat.add_mul]; omega)]
theorem Qb {xs : List PV} (h : ∀ x ∈ xs, ∀ c ∈ x.cells, c.one = true) : ∀ c ∈ xs.flatMap PV.cells, c.one = true := by
 intro c hc
 obtain ⟨x, hx, hc⟩ := List.mem_flatMap.1 hc
 exact h x hx c hc
theorem Je {s : Nat} {xs : List PV} {i : Nat} (hi : i < xs.length) (h : ∀ x ∈ xs, x.cells.length = s) : (xs.getD i noP).cells = ((xs.flatMap PV.cells).drop (i * s)).take s := by
 have h1 := vv i h
 rw [<- h1, List.drop_eq_getElem_cons hi, List.flatMap_cons, List.take_append, h _ (List.getElem_mem hi)]
 simp [List.getD_eq_getElem?_getD, List.getElem?_eq_getElem hi, List.take_of_length_le, h _ (List.getElem_mem hi)]
theorem jS {A : Nat -> Prop} {bk off : Nat} {c : Array Value} {e : TypeId} {fz : Nat × Nat} (hb : w.heap[bk]? = some (.cells c e fz)) (hA : ¬ A bk) (us : List Value) (h : ∀ i, i < us.length -> c[off + i]? = us[i]?) : Row A w (some ⟨bk, off, none⟩) us :=
 .inr ⟨bk, off, c, e, fz, rfl, hA, hb, h⟩
theorem zA.row_mem {A : Nat -> Prop} {n e s : Nat} {xs : List PV} {sh : Bool} (h : zA β A w n (.row e s xs sh)) : ∃ k us, β n = some k /\ k.s = s /\ 0 < s /\ qe A w (xs.flatMap PV.cells) us /\ (∀ x ∈ xs, x.cells.length = s) /\ (∀ x ∈ xs, ∀ c ∈ x.cells, c.one = true) /\
  us.length = xs.length * s /\ w.ownsRow 0 e s k.v xs.length us /\ ∀ bk, k.blk = some bk -> k.v = .slice (some ⟨bk, 0, none⟩) xs.length k.cap /\ xs.length <= k.cap /\ k.cap <= maxLen /\ ∃ cur : Array Value, w.heap[bk]? = some (.cells cur e (0, 0)) /\ cur.size = k.cap * s /\ ∀ i, i < us.length -> cur[i]? = us[i]? := by
 obtain ⟨k, us, h1, h2, h3, h4, h5, h6, h7, h8⟩ := h
 refine ⟨k, us, h1, h2, h3, h4, h5, h6, h7.1, h7, fun bk hb => ?_⟩
 obtain ⟨h9, h10⟩ := h8 bk hb
 rcases h7.2 with ⟨h, -⟩ | ⟨g, cap, cur, hv, hg, hh, hn, hm, hs, ht⟩
 ·rw [h] at h9; cases h9
 ·rw [h9] at hv
  cases hv
  exact ⟨h9, hn, hm, cur, hh, hs, fun i hi => by rw [<- ht, List.getElem?_take, if_pos (by rw [<- h7.1]; exact hi)]; simp⟩
theorem zA.nil_row {A : Nat -> Prop} {n e s : Nat} {xs : List PV} {sh : Bool} (h : zA β A w n (.row e s xs sh)) {k : Bk} (hk : β n = some k) (hb : k.blk = none) : xs = [] /\ k.v = .slice none 0 0 := by
 obtain ⟨k', us, h1, h2, h3, h4, h5, h6, h7, h8⟩ := h
 rw [hk] at h1; cases h1
 rcases h7.2 with ⟨h, h0⟩ | ⟨g, cap, cur, hv, hg, hh, hn, hm, hs, ht⟩
 ·exact ⟨List.eq_nil_of_length_eq_zero h0, h⟩
 ·simp [Bk.blk, hv] at hb
theorem Z5 {A : Nat -> Prop} {xs : List PV} {s : Nat} {us : List Value} {ad : Option Addr} {cap : Nat} (h : qe A w (xs.flatMap PV.cells) us) (h1 : ∀ x ∈ xs, x.cells.length = s) (h2 : ∀ x ∈ xs, ∀ c ∈ x.cells, c.one = true) (h3 : 0 < s)
  {off len : Nat} (hl : off + len <= xs.length) (hc : len <= cap) (hm : cap <= maxLen) (hR : Row A w ad ((us.drop (off * s)).take (len * s))) : qN A w (.l ((xs.drop off).take len)) (.slice ad len cap) := by
 have e : ((xs.drop off).take len).flatMap PV.cells = ((xs.flatMap PV.cells).drop (off * s)).take (len * s) := by
  rw [xM len fun x hx => h1 x (List.mem_of_mem_drop hx), vv off h1]
 have hn : ((xs.drop off).take len).length = len := by rw [List.length_take, List.length_drop]; omega
 have := qN.l (A := A) (w := w) (xs := (xs.drop off).take len) (ad := ad) (cap := cap) (s := s) (us := (us.drop (off * s)).take (len * s)) (by rw [e]; exact (h.drop _).take _)
  (fun x hx => h1 x (List.mem_of_mem_drop (List.mem_of_mem_take hx))) (fun x hx => h2 x (List.mem_of_mem_drop (List.mem_of_mem_take hx))) h3 (by rw [hn]; exact hc) hm hR
 rw [hn] at this
 exact this
theorem Q4 {us : List Value} {m : Nat} {i : Nat} (h : i < (us.take m).length) : (us.take m)[i]? = us[i]? := by
 rw [List.length_take] at h
 rw [List.getElem?_take, if_pos Y54]
theorem vh : ∀ {xs : List PV}, (∀ x ∈ xs, x.one = true) -> xs.flatMap PV.cells = xs
 | [], _ => rfl
 | x :: xs, h => by
  rw [List.flatMap_cons, vh fun y hy => h y (List.mem_cons_of_mem _ hy)]
  have := h x List.mem_cons_self
  cases x <;> first | rfl | cases this
theorem z8 (bs : List UInt8) : (bs.map u8P).flatMap PV.cells = bs.map u8P := vh fun x hx => by
 obtain ⟨y, -, rfl⟩ := List.mem_map.1 hx; rfl
theorem y9 {A : Nat -> Prop} : ∀ (bs : List UInt8), qe A w (bs.map u8P) (bs.map u8v)
 | [] => .nil
 | b :: bs => .cons (.v rfl) (y9 bs)
theorem Ub {A : Nat -> Prop} {g : Nat} {cur : Array Value} {e : TypeId} {fz : Nat × Nat} {bs : List UInt8} (hh : w.heap[g]? = some (.cells cur e fz)) (hA : ¬ A g) (ht : cur.toList.take bs.length = bs.map u8v) : Row A w (some ⟨g, 0, none⟩) (bs.map u8v) :=
 jS hh hA _ fun i hi => by
  rw [Nat.zero_add, <- ht] at *
  rw [List.getElem?_take, if_pos (by rw [List.length_take] at hi; omega)]
  simp
theorem qb7 {A : Nat -> Prop} {ad : Option Addr} {cap : Nat} {bs : List UInt8} (h1 : bs.length <= cap) (h2 : cap <= maxLen) (h3 : Row A w ad (bs.map u8v)) : qN A w (.l (bs.map u8P)) (.slice ad bs.length cap) := by
 have e : bs.length = (bs.map u8P).length := by simp
 rw [e]
 exact .l (s := 1) (us := bs.map u8v) (by rw [z8]; exact y9 _) (fun x hx => by obtain ⟨y, -, rfl⟩ := List.mem_map.1 hx; rfl) (fun x hx c hc => by obtain ⟨y, -, rfl⟩ := List.mem_map.1 hx; simp [PV.cells, u8P] at hc; subst hc; rfl) Y86 Y69 h2 h3
theorem qbw (S : Sim L F β σ a w) {n e : Nat} {xs : List PV} {sh : Bool} {u : Value} (hx : qq β (Mut L.A0 β σ) w (.own n) u) (ho : σ.obj n = some (.mrow e xs sh)) : Yc β (Mut L.A0 β σ) w (.l xs) u [n] := by
 intro A' hA
 cases hx with
 | @own _ k hk =>
  obtain ⟨k', bs, g, cur, fz, h1, h2, rfl, h4, h5, h6, h7, h8, h9, h10⟩ := S.objs n _ ho
  rw [hk] at h1; cases h1
  have hg := hA.out n List.mem_cons_self k g hk (by simp [Bk.blk, h4])
  rw [h4]
  exact qb7 h7 h8 (Ub h5 hg h10)
theorem qdE (S : Sim L F β σ a w) {n : Nat} {ks : List Int} {vs : List PV} {sh : Bool} {u : Value} (hx : qq β (Mut L.A0 β σ) w (.own n) u) (ho : σ.obj n = some (.map ks vs sh)) : Yc β (Mut L.A0 β σ) w (.m ks vs) u [n] := by
 intro A' hA
 cases hx with
 | @own _ k hk =>
  obtain ⟨k', es, ck, b, us, h1, h2, h3, h4, h5, h6⟩ := S.objs n _ ho
  rw [hk] at h1; cases h1
  have hg := hA.out n List.mem_cons_self k b hk (by simp [Bk.blk, h2])
  rw [h2]
  exact .m (h6.stay (hA.stays w)) (.inr ⟨b, es, ck, rfl, hg, h3, h4, h5⟩)
theorem qed (S : Sim L F β σ a w) {n e s : Nat} {xs : List PV} {sh : Bool} {u : Value} (hx : qq β (Mut L.A0 β σ) w (.own n) u) (ho : σ.obj n = some (.row e s xs sh)) : Yc β (Mut L.A0 β σ) w (.l xs) u [n] := by
 intro A' hA
 cases hx with
 | @own _ k hk =>
  obtain ⟨k', us, h1, h2, h3, h4, h5, h6, h7, h8, h9⟩ := (S.objs n _ ho).row_mem
  rw [hk] at h1; cases h1
  obtain ⟨ad, cap, hv, hc, hm, hR⟩ := Row.of_own' h8 (A := A') fun b hb => hA.out n List.mem_cons_self k b hk (Q5 hb)
  rw [hv]
  exact .l (h4.stay (hA.stays w)) h5 h6 h3 hc hm hR
theorem Kj (A : Nat -> Prop) (w : World) (ad : Option Addr) (xs : List PV) (off : Nat) : qN A w (.l ((xs.drop off).take 0)) (.slice ad 0 0) := by
 rw [List.take_zero]
 exact .l (s := 1) (xs := []) .nil Y85 Y85 Y86 (Nat.le_refl _) (by simp [maxLen]) (.inl rfl)
theorem Wo (S : Sim L F β σ a w) {n off len e s : Nat} {xs : List PV} {sh : Bool} {u : Value} (hx : qq β (Mut L.A0 β σ) w (.sl n off len) u) (ho : σ.obj n = some (.row e s xs sh)) (hl : off + len <= xs.length) :
  Yc β (Mut L.A0 β σ) w (.l ((xs.drop off).take len)) u [n] := by
 intro A' hA
 cases hx with
 | @sl _ _ _ bk c k hk hb hc hlc hm =>
  obtain ⟨k', us, h1, h2, h3, h4, h5, h6, h7, h8, h9⟩ := (S.objs n _ ho).row_mem
  rw [hk] at h1; cases h1
  obtain ⟨hv, hn, hcm, cur, hh, hs, hcur⟩ := h9 bk hb
  rw [h2]
  refine Z5 (h4.stay (hA.stays w)) h5 h6 h3 hl Y54 Y54 (jS hh (hA.out n List.mem_cons_self k bk hk hb) _ fun i hi => ?_)
  rw [Q4 hi, List.getElem?_drop]
  rw [List.length_take, List.length_drop] at hi
  exact hcur _ Y54
 | sl0 => exact Kj _ _ _ _ _
theorem Q6 {A : Nat -> Prop} {n t : Nat} {xs : List PV} {sh : Bool} (h : zA β A w n (.var t xs sh)) {k : Bk} {bk : Nat} (hk : β n = some k) (hb : k.blk = some bk) : ∃ us, k.s = 1 /\ qe A w xs us /\ (∀ c ∈ xs, c.one = true) /\ k.cap = xs.length /\ w.heap[bk]? = some (.cells us.toArray t (0, 0)) := by
 exact Y43
theorem YF {A : Nat -> Prop} {n t : Nat} {xs : List AV} {sh : Bool} (h : zA β A w n (.box t xs sh)) {k : Bk} {bk : Nat} (hk : β n = some k) (hb : k.blk = some bk) : ∃ us, k.s = 1 /\ qh β A w xs us /\ (∀ c ∈ xs, c.one = true) /\ k.cap = xs.length /\ w.heap[bk]? = some (.cells us.toArray t (0, 0)) := by
 exact Y43
theorem zw {x : PV} (h : x.one = true) : x.cells = [x] := by cases x <;> first | rfl | cases h
theorem YN (S : Sim L F β σ a w) {n off len t : Nat} {xs : List PV} {sh : Bool} {u : Value} (hx : qq β (Mut L.A0 β σ) w (.sl n off len) u) (ho : σ.obj n = some (.var t xs sh)) (hl : off + len <= xs.length) :
  Yc β (Mut L.A0 β σ) w (.l ((xs.drop off).take len)) u [n] := by
 intro A' hA
 cases hx with
 | @sl _ _ _ bk c k hk hb hc hlc hm =>
  obtain ⟨us, h2, h3, h4, h7, hh⟩ := Q6 (S.objs n _ ho) hk hb
  rw [h2]
  have hf := vh h4
  refine Z5 (s := 1) (us := us) (by rw [hf]; exact h3.stay (hA.stays w)) (fun x hx => by rw [zw (h4 x hx)]; rfl) (fun x hx c hc => by rw [zw (h4 x hx)] at hc; simp at hc; subst hc; exact h4 _ hx) Y86 hl Y54 Y54 (jS hh (hA.out n List.mem_cons_self k bk hk hb) _ fun i hi => ?_)
  rw [Q4 hi, List.getElem?_drop]
  simp
 | sl0 => exact Kj _ _ _ _ _
theorem xl {xs : List PV} {i : Nat} (h : i < xs.length) : xs.getD i noP ∈ xs := by
 rw [List.getD_eq_getElem?_getD, List.getElem?_eq_getElem h]; exact List.getElem_mem h
theorem Yz (S : Sim L F β σ a w) {n i j e s : Nat} {xs : List PV} {sh : Bool} {u : Value} (hx : qq β (Mut L.A0 β σ) w (.ref n i j) u) (ho : σ.obj n = some (.row e s xs sh)) (hl : i < xs.length) :
  Yc β (Mut L.A0 β σ) w (.p ((xs.getD i noP).cells.drop j)) u [n] := by
 intro A' hA
 cases hx with
 | @ref _ _ _ bk k hk hb =>
  obtain ⟨k', us, h1, h2, h3, h4, h5, h6, h7, h8, h9⟩ := (S.objs n _ ho).row_mem
  rw [hk] at h1; cases h1
  obtain ⟨hv, hn, hcm, cur, hh, hs, hcur⟩ := h9 bk hb
  rw [h2]
  have e := Je hl h5
  refine .p (us := ((us.drop (i * s)).take s).drop j) (by rw [e]; exact (((h4.drop _).take _).drop _).stay (hA.stays w)) (fun c hc => h6 _ (xl hl) c (List.mem_of_mem_drop hc)) (jS hh (hA.out n List.mem_cons_self k bk hk hb) _ fun q hq => ?_)
  rw [List.length_drop, List.length_take, List.length_drop] at hq
  rw [List.getElem?_drop, List.getElem?_take, if_pos Y54, List.getElem?_drop, <- hcur _ Y54]
  congr 1
  omega
theorem XR (S : Sim L F β σ a w) {n i j t : Nat} {xs : List PV} {sh : Bool} {u : Value} (hx : qq β (Mut L.A0 β σ) w (.ref n i j) u) (ho : σ.obj n = some (.var t xs sh)) :
  Yc β (Mut L.A0 β σ) w (.p (xs.drop (i + j))) u [n] := by
 intro A' hA
 cases hx with
 | @ref _ _ _ bk k hk hb =>
  obtain ⟨us, h2, h3, h4, h7, hh⟩ := Q6 (S.objs n _ ho) hk hb
  rw [h2, Nat.mul_one]
  refine .p (us := us.drop (i + j)) ((h3.drop _).stay (hA.stays w)) (fun c hc => h4 _ (List.mem_of_mem_drop hc)) (jS hh (hA.out n List.mem_cons_self k bk hk hb) _ fun q hq => ?_)
  rw [List.getElem?_drop]
  simp
theorem qbc {A : Nat -> Prop} {ys : List PV} {us : List Value} (h : qe A w ys us) (ho : ∀ u ∈ us, u.oneCell' = true) : ∀ y ∈ ys, y.one = true := by
 intro y hy
 obtain ⟨i, hi, rfl⟩ := List.mem_iff_getElem.1 hy
 obtain ⟨u, h1, h2⟩ := h.get (List.getElem?_eq_getElem hi)
 have := ho u (List.mem_of_getElem? h1)
 generalize ys[i] = y at *
 cases h2 <;> first | rfl | cases this
theorem qh.ones {A : Nat -> Prop} (hk : ∀ n k, β n = some k -> k.v.oneCell' = true) : ∀ {xs : List AV} {us : List Value}, qh β A w xs us -> (∀ x ∈ xs, x.one = true) -> ∀ u ∈ us, u.oneCell' = true
 | _, _, .nil, _, u, h => by cases h
 | _, _, .cons h h1, ho, u, hu => by
  rcases List.mem_cons.1 hu with rfl | hu
  ·exact h.one (ho _ List.mem_cons_self) hk
  ·exact qh.ones hk h1 (fun x hx => ho x (List.mem_cons_of_mem _ hx)) u hu
mutual
theorem zN (hX : ∀ α f, X.h α f = f ()) (S : Sim L F β σ a w) : ∀ (n : Nat) {x : AV} {u : Value} {k : PV -> List Nat -> RM α} {l : List Lc}, qq β (Mut L.A0 β σ) w x u -> (ZC X n x k).runs C σ b l ->
  ∃ y ns l', (k y ns).runs C σ b l' /\ Yc β (Mut L.A0 β σ) w y u ns
 | n, .pv x, u, k, l, hx, h => by
  have h' : (k x []).runs C σ b l := by cases n <;> exact h
  cases hx with
  | pv hx => exact ⟨_, _, _, h', fun A' hA => hx.stay (hA.stays w)⟩
 | n, .nil, u, k, l, hx, h => by
  have h' : (k (.l []) []).runs C σ b l := by cases n <;> exact h
  cases hx with
  | nil => exact ⟨_, _, _, h', fun A' hA => qN.nil _ _⟩
 | n, .own m, u, k, l, hx, h => by
  have h' : (RM.obj m fun o => match o with | .row _ _ xs _ => k (.l xs) [m] | .mrow _ xs _ => k (.l xs) [m] | .map ks vs _ => k (.m ks vs) [m] | _ => .fail).runs C σ b l := by cases n <;> exact h
  obtain ⟨o, l', ho, rfl, h'⟩ := h'
  cases o with
  | row e s xs sh => exact ⟨_, _, _, h', qed S hx ho⟩
  | mrow e xs sh => exact ⟨_, _, _, h', qbw S hx ho⟩
  | map ks vs sh => exact ⟨_, _, _, h', qdE S hx ho⟩
  | _ => exact h'.elim
 | n, .sl m off len, u, k, l, hx, h => by
  have h' : (RM.obj m fun o => match o with
   | .row _ _ xs _ => .chk (fun _ => off + len <= xs.length) (k (.l (X.h _ fun _ => (xs.drop off).take len)) [m])
   | .var _ xs _ => .chk (fun _ => off + len <= xs.length) (k (.l (X.h _ fun _ => (xs.drop off).take len)) [m])
   | _ => .fail).runs C σ b l := by cases n <;> exact h
  obtain ⟨o, l', ho, rfl, h'⟩ := h'
  cases o with
  | row e s xs sh => exact ⟨_, _, _, h'.2, by rw [hX]; exact Wo S hx ho (h'.1 ())⟩
  | var t xs sh => exact ⟨_, _, _, h'.2, by rw [hX]; exact YN S hx ho (h'.1 ())⟩
  | _ => exact h'.elim
 | n + 1, .ref m i j, u, k, l, hx, h => by
  obtain ⟨o, l', ho, rfl, h'⟩ := h
  cases o with
  | row e s xs sh => exact ⟨_, _, _, h'.2, by rw [hX]; exact Yz S hx ho (h'.1 ())⟩
  | var t xs sh => exact ⟨_, _, _, h', by rw [hX]; exact XR S hx ho⟩
  | box t cs sh =>
   cases hx with
   | @ref _ _ _ bk kk hk hb =>
    obtain ⟨us, h2, h3, h4, h7, hh⟩ := YF (S.objs m _ ho) hk hb
    obtain ⟨ys, ns, l2, h5, h6⟩ := zU hX S n (h3.drop (i + j)) h'
    refine ⟨_, _, _, h5, fun A' hA => ?_⟩
    have hA2 : zF β (Mut L.A0 β σ) A' ns := ⟨hA.sub, fun n hn => hA.out n (List.mem_cons_of_mem _ hn)⟩
    have h8 := h6 A' hA2
    rw [h2, Nat.mul_one]
    refine .p h8 (qbc h8 fun u hu => qh.ones S.one h3 h4 u (List.mem_of_mem_drop hu)) (jS hh (hA.out m List.mem_cons_self kk bk hk hb) _ fun q hq => ?_)
    rw [List.getElem?_drop]
    simp
  | _ => exact h'.elim
 | 0, .ref m i j, u, k, l, hx, h => h.elim
 | n + 1, .ag xs, u, k, l, hx, h => by
  cases hx with
  | ag h1 h2 =>
   obtain ⟨ys, ns, l2, h5, h6⟩ := zU hX S n h1 h
   exact ⟨_, _, _, h5, fun A' hA => .a (h6 A' hA) (qbc (h6 A' hA) (qh.ones S.one h1 h2))⟩
 | n + 1, .tup xs, u, k, l, hx, h => by
  cases hx with
  | tup h1 =>
   obtain ⟨ys, ns, l2, h5, h6⟩ := zU hX S n h1 h
   exact ⟨_, _, _, h5, fun A' hA => .t (h6 A' hA)⟩
 | n + 1, .fn f xs zs, u, k, l, hx, h => by
  cases hx with
  | fn h1 h2 =>
   obtain ⟨ys, ns, l2, h5, h6⟩ := zU hX S n h1 h
   obtain ⟨vs, ms, l3, h7, h8⟩ := zU hX S n h2 h5
   exact ⟨_, _, _, h7, fun A' hA => .f (h6 A' hA.app.1) (h8 A' hA.app.2)⟩
 | 0, .ag xs, u, k, l, hx, h => h.elim
 | 0, .tup xs, u, k, l, hx, h => h.elim
 | 0, .fn f xs ys, u, k, l, hx, h => h.elim
theorem zU (hX : ∀ α f, X.h α f = f ()) (S : Sim L F β σ a w) : ∀ (n : Nat) {xs : List AV} {us : List Value} {k : List PV -> List Nat -> RM α} {l : List Lc}, qh β (Mut L.A0 β σ) w xs us -> (QY X n xs k).runs C σ b l ->
  ∃ ys ns l', (k ys ns).runs C σ b l' /\ Km β (Mut L.A0 β σ) w ys us ns
 | n, [], us, k, l, hx, h => by
  have h' : (k [] []).runs C σ b l := by cases n <;> exact h
  cases hx with
  | nil => exact ⟨_, _, _, h', fun A' hA => .nil⟩
 | 0, x :: xs, us, k, l, hx, h => h.elim
 | n + 1, x :: xs, us, k, l, hx, h => by
  cases hx with
  | cons h1 h2 =>
   obtain ⟨y, ns, l2, h5, h6⟩ := zN hX S n h1 h
   obtain ⟨ys, ms, l3, h7, h8⟩ := zU hX S n h2 h5
   exact ⟨_, _, _, h7, fun A' hA => .cons (h6 A' hA.app.1) (h8 A' hA.app.2)⟩
end
end
end Go.Bl
namespace Go.Bl
open Go.RowKit
theorem xk {α : Type} : ∀ (l r : List (Nat × α)) (n : Nat), qp (l ++ r) n = match qp l n with | some x => some x | none => qp r n
 | [], r, n => rfl
 | (k, x) :: l, r, n => by
  simp only [List.cons_append, qp]
  by_cases h : n = k
  ·rw [if_pos h, if_pos h]
  ·rw [if_neg h, if_neg h]; exact xk l r n
def jP (σ : St) (ns : List Nat) (l : List (Nat × Option Ob)) : Prop := (∀ n, n ∈ ns -> ∃ o, σ.obj n = some o /\ qp l n = some (some o.share)) /\ ∀ n, n ∉ ns -> qp l n = none
def St.more (σ : St) (l : List (Nat × Option Ob)) : St := ⟨σ.slots, l ++ σ.objs⟩
theorem St.more_obj (σ : St) (l : List (Nat × Option Ob)) (n : Nat) : (σ.more l).obj n = match qp l n with | some x => x | none => σ.obj n := by
 simp only [St.more, St.obj, xk]
 cases qp l n with
 | some x => rfl
 | none => rfl
section
variable {α : Type} {P : Program} {X : Cx} {L : Pl} {F : Nat -> Prop} {β : Nat -> Option Bk} {σ : St} {a : Act} {w : World} {C : FuncId -> List RA -> RA -> List RA -> Prop} {b : α} {l : List Lc}
theorem zn : ∀ {ns : List Nat} {k : List (Nat × Option Ob) -> RM α} {l : List Lc}, (yA ns k).runs C σ b l -> ∃ sh l', (k sh).runs C σ b l' /\ jP σ ns sh
 | [], k, l, h => ⟨[], l, h, by simp, fun n _ => rfl⟩
 | m :: ns, k, l, ⟨o, l', ho, _, h⟩ => by
  obtain ⟨sh, l2, h1, h2, h3⟩ := zn h
  refine ⟨_, l2, h1, fun n hn => ?_, fun n hn => ?_⟩
  ·by_cases e : n = m
   ·subst e; exact ⟨o, ho, by simp [qp]⟩
   ·obtain ⟨o', h4, h5⟩ := h2 n (by rcases List.mem_cons.1 hn with h | h; exact absurd h e; exact h)
    exact ⟨o', h4, by simp [qp, e, h5]⟩
  ·have e : ¬ n = m := fun e => hn (by rw [e]; exact List.mem_cons_self)
   simp [qp, e, h3 n fun h => hn (List.mem_cons_of_mem _ h)]
theorem Ob.share_sh (o : Ob) : o.share.sh = true := by cases o <;> rfl
theorem jP.obj {ns : List Nat} {sh : List (Nat × Option Ob)} (h : jP σ ns sh) {n : Nat} {o : Ob} (ho : (σ.more sh).obj n = some o) : ∃ o', σ.obj n = some o' /\ ((n ∈ ns /\ o = o'.share) ∨ (n ∉ ns /\ o = o')) := by
 rw [St.more_obj] at ho
 by_cases hn : n ∈ ns
 ·obtain ⟨o', h1, h2⟩ := h.1 n hn
  rw [h2] at ho
  cases ho
  exact ⟨o', h1, .inl ⟨hn, rfl⟩⟩
 ·rw [h.2 n hn] at ho
  exact ⟨o, ho, .inr ⟨hn, rfl⟩⟩
theorem Sim.share (S : Sim L F β σ a w) {ns : List Nat} {sh : List (Nat × Option Ob)} (h : jP σ ns sh) : Sim L F β (σ.more sh) a w /\ zF β (Mut L.A0 β σ) (Mut L.A0 β (σ.more sh)) ns := by
 have hA : zF β (Mut L.A0 β σ) (Mut L.A0 β (σ.more sh)) ns := by
  constructor
  ·rintro b (hb | ⟨n, o, k, h1, h2, h3, h4⟩)
   ·exact .inl hb
   ·obtain ⟨o', h5, h6⟩ := h.obj h1
    rcases h6 with ⟨-, rfl⟩ | ⟨-, rfl⟩
    ·rw [Ob.share_sh] at h2; cases h2
    ·exact .inr ⟨n, _, k, h5, h2, h3, h4⟩
  ·rintro n hn k b hk hb (h0 | ⟨m, o, k', h1, h2, h3, h4⟩)
   ·obtain ⟨o, h1, -⟩ := h.1 n hn
    have h2 := S.a0 b h0
    rcases S.low n o k b h1 hk hb with h3 | h3
    ·exact h2.2 h3
    ·omega
   ·obtain ⟨o', h5, h6⟩ := h.obj h1
    obtain ⟨on, h7, -⟩ := h.1 n hn
    have := S.inj n m on o' k k' b h7 h5 hk h3 hb h4
    subst this
    rcases h6 with ⟨-, rfl⟩ | ⟨h6, -⟩
    ·rw [Ob.share_sh] at h2; cases h2
    ·exact h6 hn
 refine ⟨S.turn (jp.refl _) (hA.stays w) rfl rfl (fun s x hx => .inl ⟨hx, rfl⟩) ?_ S.one S.res ?_ ?_ S.fr, hA⟩
 ·intro n o ho
  obtain ⟨o', h5, h6⟩ := h.obj ho
  refine .inl ⟨o', h5, ?_, fun _ _ _ _ => rfl⟩
  rcases h6 with ⟨-, h6⟩ | ⟨-, h6⟩
  ·exact .inr h6
  ·exact .inl h6
 ·intro n m o o' k k' b h1 h2 h3 h4 h5 h6
  obtain ⟨o1, h7, -⟩ := h.obj h1
  obtain ⟨o2, h8, -⟩ := h.obj h2
  exact S.inj n m o1 o2 k k' b h7 h8 h3 h4 h5 h6
 ·intro n o k b h1 h2 h3
  obtain ⟨o1, h7, -⟩ := h.obj h1
  exact S.low n o1 k b h7 h2 h3
theorem U5 (hX : ∀ α f, X.h α f = f ()) (S : Sim L F β σ a w) {x : AV} {u : Value} {k : PV -> List (Nat × Option Ob) -> RM α} (hx : qq β (Mut L.A0 β σ) w x u) (h : (Js X x k).runs C σ b l) :
  ∃ y ns sh l', (k y sh).runs C σ b l' /\ jP σ ns sh /\ Sim L F β (σ.more sh) a w /\ qN (Mut L.A0 β (σ.more sh)) w y u := by
 obtain ⟨y, ns, l1, h1, h2⟩ := zN hX S x4 hx h
 obtain ⟨sh, l2, h3, h4⟩ := zn h1
 obtain ⟨S', hA⟩ := S.share h4
 exact ⟨y, ns, sh, l2, h3, h4, S', h2 _ hA⟩
structure New where
 n : Nat
 k : Bk
 o : Ob
def xd (l : List New) : List (Nat × Option Ob) := l.map fun x => (x.n, some x.o)
def jM (β : Nat -> Option Bk) : List New -> Nat -> Option Bk
 | [], n => β n
 | x :: r, n => if n = x.n then some x.k else jM β r n
theorem zL : ∀ {l : List New} {n : Nat}, (∀ x ∈ l, n ≠ x.n) -> jM β l n = β n
 | [], _, _ => rfl
 | x :: l, n, h => by
  simp only [jM, if_neg (h x List.mem_cons_self)]
  exact zL fun y hy => h y (List.mem_cons_of_mem _ hy)
theorem j9 : ∀ {l : List New} {x : New}, (l.map (·.n)).Nodup -> x ∈ l -> jM β l x.n = some x.k
 | y :: l, x, hn, hx => by
  rw [List.map_cons, List.nodup_cons] at hn
  rcases List.mem_cons.1 hx with rfl | hx
  ·simp [jM]
  ·have : x.n ≠ y.n := fun e => hn.1 (by rw [<- e]; exact List.mem_map.2 ⟨x, hx, rfl⟩)
   simp only [jM, if_neg this]
   exact j9 hn.2 hx
theorem U2 : ∀ {l : List New} {n : Nat} {k : Bk}, jM β l n = some k -> (∃ x ∈ l, x.n = n /\ x.k = k) ∨ ((∀ x ∈ l, n ≠ x.n) /\ β n = some k)
 | [], n, k, h => .inr ⟨by simp, h⟩
 | y :: l, n, k, h => by
  simp only [jM] at h
  split at h
  ·rename_i e
   cases h
   exact .inl ⟨y, List.mem_cons_self, e.symm, rfl⟩
  ·rename_i e
   rcases U2 h with ⟨x, hx, h1⟩ | ⟨h1, h2⟩
   ·exact .inl ⟨x, List.mem_cons_of_mem _ hx, h1⟩
   ·exact .inr ⟨fun x hx => by rcases List.mem_cons.1 hx with rfl | hx; exact e; exact h1 x hx, h2⟩
theorem Xi : ∀ {l : List New} {n : Nat} {x : Option Ob}, qp (xd l) n = some x -> ∃ y ∈ l, y.n = n /\ x = some y.o
 | [], n, x, h => by cases h
 | y :: l, n, x, h => by
  simp only [xd, List.map_cons, qp] at h
  split at h
  ·rename_i e; cases h; exact ⟨y, List.mem_cons_self, e.symm, rfl⟩
  ·obtain ⟨z, hz, h1⟩ := Xi (l := l) h
   exact ⟨z, List.mem_cons_of_mem _ hz, h1⟩
theorem yq : ∀ {l : List New} {n : Nat}, qp (xd l) n = none -> ∀ x ∈ l, n ≠ x.n
 | y :: l, n, h, x, hx => by
  simp only [xd, List.map_cons, qp] at h
  split at h
  ·cases h
  ·rename_i e
   rcases List.mem_cons.1 hx with rfl | hx
   ·exact e
   ·exact yq (l := l) h x hx
theorem Sim.news3 (S : Sim L F β σ a w) {F' : Nat -> Prop} {w' : World} {N : List New} {gone : List Nat} {S0 : List Nat} {d : Option Nat} {y : Option AV} {v : Value} (hd : ∀ s, d = some s -> s < L.N) (hfr : Fr S0 w w')
  (hS0 : ∀ b ∈ S0, ∃ n o k, n ∈ gone /\ σ.obj n = some o /\ o.sh = false /\ β n = some k /\ k.blk = some b)
  (hn : (N.map (·.n)).Nodup) (hF : ∀ x ∈ N, F x.n ∨ (x.n ∈ gone /\ β x.n = some x.k)) (hF' : ∀ n, F' n -> F n /\ ∀ x ∈ N, n ≠ x.n) (hone : ∀ x ∈ N, x.k.v.oneCell' = true)
  (hblk : ∀ x ∈ N, ∀ b, x.k.blk = some b -> w.heap.size <= b ∨ b ∈ S0) (hdis : ∀ x ∈ N, ∀ z ∈ N, ∀ b, x.k.blk = some b -> z.k.blk = some b -> x.n = z.n)
  (hob : ∀ A', (∀ b, A' b -> (Mut L.A0 β σ b /\ b ∉ S0) ∨ ∃ x ∈ N, x.o.sh = false /\ x.k.blk = some b) -> qQ (Mut L.A0 β σ) A' w w' -> jp β (jM β N) -> ∀ x ∈ N, zA (jM β N) A' w' x.n x.o)
  (hy : ∀ A', (∀ b, A' b -> (Mut L.A0 β σ b /\ b ∉ S0) ∨ ∃ x ∈ N, x.o.sh = false /\ x.k.blk = some b) -> qQ (Mut L.A0 β σ) A' w w' -> jp β (jM β N) -> ∀ z, y = some z -> qq (jM β N) A' w' z v) :
  Sim L F' (jM β N) (σ.put d ⟨y, xd N ++ gone.map fun g => (g, none)⟩) (a.put d v) w' := by
 have hg : jp β (jM β N) := fun n k h => by
  by_cases hx : ∃ x ∈ N, n = x.n
  ·obtain ⟨x, hx, rfl⟩ := hx
   rw [j9 hn hx]
   rcases hF x hx with h1 | ⟨-, h1⟩
   ·have := S.res _ h1
    rw [h] at this; cases this
   ·rw [<- h, h1]
  ·rw [zL fun x hx' e => hx ⟨x, hx', e⟩]
   exact h
 have hobj : ∀ {n o}, (σ.put d ⟨y, xd N ++ gone.map fun g => (g, none)⟩).obj n = some o -> (∃ x ∈ N, x.n = n /\ x.o = o) ∨ ((∀ x ∈ N, n ≠ x.n) /\ n ∉ gone /\ σ.obj n = some o) := by
  intro n o ho
  have e : (σ.put d ⟨y, xd N ++ gone.map fun g => (g, none)⟩).obj n = (σ.more (xd N ++ gone.map fun g => (g, none))).obj n := by cases d <;> rfl
  rw [e, St.more_obj, xk] at ho
  cases hl : qp (xd N) n with
  | some x =>
   rw [hl] at ho
   obtain ⟨z, hz, h1, h2⟩ := Xi hl
   subst h2
   cases ho
   exact .inl ⟨z, hz, h1, rfl⟩
  | none =>
   rw [hl] at ho
   have hgl : ∀ (gs : List Nat), n ∉ gs -> qp (gs.map fun g => (g, (none : Option Ob))) n = none := by
    intro gs
    induction gs with
    | nil => intro _; rfl
    | cons g gs ih =>
     intro h
     have e : ¬ n = g := fun e => h (by rw [e]; exact List.mem_cons_self)
     simp only [List.map_cons, qp, if_neg e]
     exact ih fun h' => h (List.mem_cons_of_mem _ h')
   have hgl2 : ∀ (gs : List Nat), n ∈ gs -> qp (gs.map fun g => (g, (none : Option Ob))) n = some none := by
    intro gs
    induction gs with
    | nil => intro h; cases h
    | cons g gs ih =>
     intro h
     simp only [List.map_cons, qp]
     by_cases e : n = g
     ·rw [if_pos e]
     ·rw [if_neg e]
      exact ih (by rcases List.mem_cons.1 h with h | h; exact absurd h e; exact h)
   by_cases hgn : n ∈ gone
   ·rw [hgl2 gone hgn] at ho; cases ho
   ·rw [hgl gone hgn] at ho
    exact .inr ⟨yq hl, hgn, ho⟩
 have hst : qQ (Mut L.A0 β σ) (Mut L.A0 (jM β N) (σ.put d ⟨y, xd N ++ gone.map fun g => (g, none)⟩)) w w' := by
  constructor
  ·intro b hb hM
   refine hfr.block b hb fun hm => hM ?_
   obtain ⟨n, o, k, -, h1, h2, h3, h4⟩ := hS0 b hm
   exact .inr ⟨n, o, k, h1, h2, h3, h4⟩
  ·rintro b hb (h0 | ⟨n, o, k, h1, h2, h3, h4⟩)
   ·exact .inl h0
   ·rcases hobj h1 with ⟨x, hx, rfl, rfl⟩ | ⟨h5, -, h6⟩
    ·rw [j9 hn hx] at h3
     cases h3
     rcases hblk x hx b h4 with h | h
     ·omega
     ·obtain ⟨n', o', k', -, h1', h2', h3', h4'⟩ := hS0 b h
      exact .inr ⟨n', o', k', h1', h2', h3', h4'⟩
    ·rw [zL h5] at h3
     exact .inr ⟨n, o, k, h6, h2, h3, h4⟩
 have hlt : ∀ {n o k b}, σ.obj n = some o -> β n = some k -> k.blk = some b -> b < w.heap.size := by
  intro n o k b h1 h2 h3
  obtain ⟨k', h4, h5⟩ := (S.objs n o h1).bound
  rw [h2] at h4; cases h4
  exact h5 b h3
 have hM : ∀ b, Mut L.A0 (jM β N) (σ.put d ⟨y, xd N ++ gone.map fun g => (g, none)⟩) b -> (Mut L.A0 β σ b /\ b ∉ S0) ∨ ∃ x ∈ N, x.o.sh = false /\ x.k.blk = some b := by
  rintro b (h0 | ⟨n, o, k, h1, h2, h3, h4⟩)
  ·refine .inl ⟨.inl h0, fun hm => ?_⟩
   obtain ⟨n', o', k', -, g1, -, g3, g4⟩ := hS0 b hm
   rcases S.low n' o' k' b g1 g3 g4 with g | g
   ·exact (S.a0 b h0).2 g
   ·have := (S.a0 b h0).1; omega
  ·rcases hobj h1 with ⟨x, hx, rfl, rfl⟩ | ⟨h5, h5', h6⟩
   ·rw [j9 hn hx] at h3
    cases h3
    exact .inr ⟨x, hx, h2, h4⟩
   ·rw [zL h5] at h3
    refine .inl ⟨.inr ⟨n, o, k, h6, h2, h3, h4⟩, fun hm => ?_⟩
    obtain ⟨n', o', k', g0, g1, -, g3, g4⟩ := hS0 b hm
    have := S.inj n n' o o' k k' b h6 g1 h3 g3 h4 g4
    subst this
    exact h5' g0
 refine S.turn hg hst (U9 _ _ _) (QJ _ _ _) ?_ ?_ ?_ ?_ ?_ ?_ ?_
 ·intro s x hx
  cases d with
  | none => exact .inl ⟨hx, rfl⟩
  | some d =>
   by_cases hs : s = d
   ·subst hs
    rw [St.slot_put_self] at hx
    exact .inr (by rw [jh (by rw [S.size]; exact hd _ rfl)]; exact hy _ hM hst hg x hx)
   ·rw [St.slot_put_ne Y76] at hx
    exact .inl ⟨hx, slot_put_ne Y76⟩
 ·intro n o ho
  rcases hobj ho with ⟨x, hx, rfl, rfl⟩ | ⟨h5, h6, h7⟩
  ·exact .inr (hob _ hM hst hg x hx)
  ·refine .inl ⟨o, h7, .inl rfl, fun k b hk hb => hfr.block b (hlt h7 hk hb) fun hm => ?_⟩
   obtain ⟨n', o', k', h8, h1', h2', h3', h4'⟩ := hS0 b hm
   have := S.inj n n' o o' k k' b h7 h1' hk h3' hb h4'
   subst this
   exact h6 h8
 ·intro n k hk
  rcases U2 hk with ⟨x, hx, rfl, rfl⟩ | ⟨-, h⟩
  ·exact hone x hx
  ·exact S.one n k h
 ·intro n hn'
  obtain ⟨h1, h2⟩ := hF' n hn'
  rw [zL h2]
  exact S.res n h1
 ·intro n m o o' k k' b h1 h2 h3 h4 h5 h6
  rcases hobj h1 with ⟨x, hx, rfl, rfl⟩ | ⟨g1, g2, g3⟩ <;> rcases hobj h2 with ⟨z, hz, rfl, rfl⟩ | ⟨g4, g5, g6⟩
  ·rw [j9 hn hx] at h3; rw [j9 hn hz] at h4
   cases h3; cases h4
   exact hdis x hx z hz b h5 h6
  ·rw [j9 hn hx] at h3; rw [zL g4] at h4
   cases h3
   have := hlt g6 h4 h6
   rcases hblk x hx b h5 with h | h
   ·omega
   ·obtain ⟨n', o'', k'', h8, h1', h2', h3', h4'⟩ := hS0 b h
    have e := S.inj m n' o' o'' k' k'' b g6 h1' h4 h3' h6 h4'
    subst e
    exact absurd h8 g5
  ·rw [zL g1] at h3; rw [j9 hn hz] at h4
   cases h4
   have := hlt g3 h3 h5
   rcases hblk z hz b h6 with h | h
   ·omega
   ·obtain ⟨n', o'', k'', h8, h1', h2', h3', h4'⟩ := hS0 b h
    have e := S.inj n n' o o'' k k'' b g3 h1' h3 h3' h5 h4'
    subst e
    exact absurd h8 g2
  ·rw [zL g1] at h3; rw [zL g4] at h4
   exact S.inj n m o o' k k' b g3 g6 h3 h4 h5 h6
 ·intro n o k b h1 h2 h3
  rcases hobj h1 with ⟨x, hx, rfl, rfl⟩ | ⟨g1, g2, g3⟩
  ·rw [j9 hn hx] at h2
   cases h2
   rcases hblk x hx b h3 with h | h
   ·exact .inr (Nat.le_trans S.fr.size h)
   ·obtain ⟨n', o'', k'', h8, h1', h2', h3', h4'⟩ := hS0 b h
    exact S.low n' o'' k'' b h1' h3' h4'
  ·rw [zL g1] at h2
   exact S.low n o k b g3 h2 h3
 ·refine S.fr.then hfr fun b hb => ?_
  obtain ⟨n', o'', k'', h8, h1', h2', h3', h4'⟩ := hS0 b hb
  exact S.low n' o'' k'' b h1' h3' h4'
theorem Sim.news2 (S : Sim L F β σ a w) {F' : Nat -> Prop} {w' : World} {N : List New} {gone : List Nat} {S0 : List Nat} {d : Option Nat} {y : Option AV} {v : Value} (hd : ∀ s, d = some s -> s < L.N) (hfr : Fr S0 w w')
  (hS0 : ∀ b ∈ S0, ∃ n o k, n ∈ gone /\ σ.obj n = some o /\ o.sh = false /\ β n = some k /\ k.blk = some b)
  (hn : (N.map (·.n)).Nodup) (hF : ∀ x ∈ N, F x.n) (hF' : ∀ n, F' n -> F n /\ ∀ x ∈ N, n ≠ x.n) (hsh : ∀ x ∈ N, x.o.sh = false) (hone : ∀ x ∈ N, x.k.v.oneCell' = true)
  (hblk : ∀ x ∈ N, ∀ b, x.k.blk = some b -> w.heap.size <= b ∨ b ∈ S0) (hdis : ∀ x ∈ N, ∀ z ∈ N, ∀ b, x.k.blk = some b -> z.k.blk = some b -> x.n = z.n)
  (hgone : ∀ g ∈ gone, ∀ x ∈ N, g ≠ x.n)
  (hob : ∀ A', (∀ b, A' b -> (Mut L.A0 β σ b /\ b ∉ S0) ∨ ∃ x ∈ N, x.k.blk = some b) -> qQ (Mut L.A0 β σ) A' w w' -> jp β (jM β N) -> ∀ x ∈ N, zA (jM β N) A' w' x.n x.o)
  (hy : ∀ A', (∀ b, A' b -> (Mut L.A0 β σ b /\ b ∉ S0) ∨ ∃ x ∈ N, x.k.blk = some b) -> qQ (Mut L.A0 β σ) A' w w' -> jp β (jM β N) -> ∀ z, y = some z -> qq (jM β N) A' w' z v) :
  Sim L F' (jM β N) (σ.put d ⟨y, xd N ++ gone.map fun g => (g, none)⟩) (a.put d v) w' := S.news3 hd hfr hS0 hn (fun x hx => .inl (hF x hx)) hF' hone hblk hdis (fun A' hA' => hob A' fun b hb => (hA' b hb).imp id fun ⟨x, h1, _, h2⟩ => ⟨x, h1, h2⟩) (fun A' hA' => hy A' fun b hb => (hA' b hb).imp id fun ⟨x, h1, _, h2⟩ => ⟨x, h1, h2⟩)
theorem Sim.news (S : Sim L F β σ a w) {F' : Nat -> Prop} {w' : World} {N : List New} {gone : List Nat} {S0 : List Nat} {d : Option Nat} {y : Option AV} {v : Value} (hd : ∀ s, d = some s -> s < L.N) (hfr : Fr S0 w w')
  (hS0 : ∀ b ∈ S0, ∃ n o k, n ∈ gone /\ σ.obj n = some o /\ o.sh = false /\ β n = some k /\ k.blk = some b)
  (hn : (N.map (·.n)).Nodup) (hF : ∀ x ∈ N, F x.n) (hF' : ∀ n, F' n -> F n /\ ∀ x ∈ N, n ≠ x.n) (hsh : ∀ x ∈ N, x.o.sh = false) (hone : ∀ x ∈ N, x.k.v.oneCell' = true)
  (hblk : ∀ x ∈ N, ∀ b, x.k.blk = some b -> w.heap.size <= b ∨ b ∈ S0) (hdis : ∀ x ∈ N, ∀ z ∈ N, ∀ b, x.k.blk = some b -> z.k.blk = some b -> x.n = z.n)
  (hgone : ∀ g ∈ gone, ∀ x ∈ N, g ≠ x.n)
  (hob : ∀ A', (∀ b, A' b -> Mut L.A0 β σ b ∨ ∃ x ∈ N, x.k.blk = some b) -> qQ (Mut L.A0 β σ) A' w w' -> jp β (jM β N) -> ∀ x ∈ N, zA (jM β N) A' w' x.n x.o)
  (hy : ∀ A', (∀ b, A' b -> Mut L.A0 β σ b ∨ ∃ x ∈ N, x.k.blk = some b) -> qQ (Mut L.A0 β σ) A' w w' -> jp β (jM β N) -> ∀ z, y = some z -> qq (jM β N) A' w' z v) :
  Sim L F' (jM β N) (σ.put d ⟨y, xd N ++ gone.map fun g => (g, none)⟩) (a.put d v) w' := S.news2 hd hfr hS0 hn hF hF' hsh hone hblk hdis hgone (fun A' hA' => hob A' fun b hb => (hA' b hb).imp And.left id) (fun A' hA' => hy A' fun b hb => (hA' b hb).imp And.left id)
theorem Sim.upd2 (S : Sim L F β σ a w) {w' : World} {d : Option Nat} {v : Value} {n : Nat} {o o' : Ob} {k : Bk} {b : Nat} (hd : ∀ s, d = some s -> s < L.N) (ho : σ.obj n = some o) (hsh : o.sh = false) (hsh' : o'.sh = false) (hk : β n = some k) (hb : k.blk = some b) (hfr : Fr [b] w w')
  (hob : qQ (Mut L.A0 β σ) (Mut L.A0 β σ) w w' -> zA β (Mut L.A0 β σ) w' n o') : Sim L F β (σ.put d ⟨none, [(n, some o')]⟩) (a.put d v) w' := by
 have hobj : ∀ m, (σ.put d ⟨none, [(n, some o')]⟩).obj m = if m = n then some o' else σ.obj m := by
  intro m
  have e : (σ.put d ⟨none, [(n, some o')]⟩).obj m = (σ.more [(n, some o')]).obj m := by cases d <;> rfl
  rw [e, St.more_obj]
  simp only [qp]
  by_cases h : m = n
  ·rw [if_pos h, if_pos h]
  ·rw [if_neg h, if_neg h]
 have hM : Mut L.A0 β (σ.put d ⟨none, [(n, some o')]⟩) = Mut L.A0 β σ := by
  funext c
  apply propext
  constructor
  ·rintro (h | ⟨m, q, k', h1, h2, h3, h4⟩)
   ·exact .inl h
   ·rw [hobj] at h1
    by_cases e : m = n
    ·subst e; exact .inr ⟨m, o, k', ho, hsh, h3, h4⟩
    ·rw [if_neg e] at h1; exact .inr ⟨m, q, k', h1, h2, h3, h4⟩
  ·rintro (h | ⟨m, q, k', h1, h2, h3, h4⟩)
   ·exact .inl h
   ·by_cases e : m = n
    ·subst e; exact .inr ⟨m, o', k', by rw [hobj, if_pos rfl], hsh', h3, h4⟩
    ·exact .inr ⟨m, q, k', by rw [hobj, if_neg e]; exact h1, h2, h3, h4⟩
 have hlt : ∀ {n o k b}, σ.obj n = some o -> β n = some k -> k.blk = some b -> b < w.heap.size := by
  intro n o k b h1 h2 h3
  obtain ⟨k', h4, h5⟩ := (S.objs n o h1).bound
  rw [h2] at h4; cases h4
  exact h5 b h3
 have hst : qQ (Mut L.A0 β σ) (Mut L.A0 β σ) w w' := by
  refine ⟨fun c hc hn => hfr.block c hc fun hm => hn ?_, fun c _ h => h⟩
  simp at hm
  subst hm
  exact .inr ⟨n, o, k, ho, hsh, hk, hb⟩
 refine S.turn (jp.refl _) (by rw [hM]; exact hst) (U9 _ _ _) (QJ _ _ _) ?_ ?_ S.one S.res ?_ ?_ ?_
 ·intro s x hx
  cases d with
  | none => exact .inl ⟨hx, rfl⟩
  | some d =>
   by_cases hs : s = d
   ·subst hs; rw [St.slot_put_self] at hx; cases hx
   ·rw [St.slot_put_ne Y76] at hx
    exact .inl ⟨hx, slot_put_ne Y76⟩
 ·intro m q hq
  rw [hobj] at hq
  by_cases e : m = n
  ·subst e
   rw [if_pos rfl] at hq
   cases hq
   exact .inr (by rw [hM]; exact hob hst)
  ·rw [if_neg e] at hq
   refine .inl ⟨q, hq, .inl rfl, fun k' b' h1 h2 => hfr.block b' (hlt hq h1 h2) fun hm => ?_⟩
   simp at hm
   subst hm
   exact e (S.inj m n q o k' k b' hq ho h1 hk h2 hb)
 ·intro m m' q q' k1 k2 c h1 h2 h3 h4 h5 h6
  rw [hobj] at h1 h2
  have g : ∀ {m q}, (if m = n then some o' else σ.obj m) = some q -> ∃ q', σ.obj m = some q' := by
   intro m q h
   by_cases e : m = n
   ·subst e; exact ⟨o, ho⟩
   ·rw [if_neg e] at h; exact ⟨q, h⟩
  obtain ⟨r1, g1⟩ := g h1
  obtain ⟨r2, g2⟩ := g h2
  exact S.inj m m' r1 r2 k1 k2 c g1 g2 h3 h4 h5 h6
 ·intro m q k1 c h1 h2 h3
  rw [hobj] at h1
  by_cases e : m = n
  ·subst e; exact S.low m o k1 c ho h2 h3
  ·rw [if_neg e] at h1; exact S.low m q k1 c h1 h2 h3
 ·exact S.fr.then hfr fun c hc => by
   simp at hc; subst hc
   exact S.low n o k c ho hk hb
theorem Sim.upd (S : Sim L F β σ a w) {w' : World} {d : Option Nat} {v : Value} {n : Nat} {o o' : Ob} {k : Bk} {b : Nat} (hd : ∀ s, d = some s -> s < L.N) (ho : σ.obj n = some o) (hsh : o.sh = false) (hsh' : o'.sh = false) (hk : β n = some k) (hb : k.blk = some b) (hfr : Fr [b] w w')
  (hob : ∀ A', qQ (Mut L.A0 β σ) A' w w' -> zA β A' w' n o') : Sim L F β (σ.put d ⟨none, [(n, some o')]⟩) (a.put d v) w' := S.upd2 hd ho hsh hsh' hk hb hfr (hob _)
end
end Go.Bl
namespace Go.Bl
open Go.RowKit
section
variable {α : Type} {P : Program} {X : Cx} {L : Pl} {F : Nat -> Prop} {β : Nat -> Option Bk} {σ : St} {a : Act} {w : World} {C : FuncId -> List RA -> RA -> List RA -> Prop} {b : α} {l : List Lc} {A : Nat -> Prop}
def Qm (P : Program) (L : Pl) (F : Nat -> Prop) (σ' : St) (a : Act) (o : Oper) (w : World) : Prop := qah P (fun v w' => ∃ β', Sim L F β' σ' (a.put o.dst v) w') ((execOp a.eval o).run P w)
theorem qW {x u : Value} (h : qq β A w (.pv (.v x)) u) : u = x /\ x.oneCell' = true := by
 cases h with | pv h => cases h with | v h => exact ⟨rfl, h⟩
theorem UX {xs : List PV} {u : Value} (h : qq β A w (.pv (.p xs)) u) : ∃ ad us, u = .pointer (some ad) /\ qe A w xs us /\ (∀ c ∈ xs, c.one = true) /\ Row A w (some ad) us := by
 cases h with | pv h => cases h with | p h h1 h2 => exact ⟨_, _, rfl, h, h1, h2⟩
theorem VR {xs : List PV} {u : Value} (h : qq β A w (.pv (.l xs)) u) : ∃ ad cap s us, u = .slice ad xs.length cap /\ qe A w (xs.flatMap PV.cells) us /\ (∀ x ∈ xs, x.cells.length = s) /\ (∀ x ∈ xs, ∀ c ∈ x.cells, c.one = true) /\ 0 < s /\ xs.length <= cap /\ cap <= maxLen /\ Row A w ad us := by
 cases h with | pv h => cases h with | l h h1 h2 h3 h4 h5 h6 => exact ⟨_, _, _, _, rfl, h, h1, h2, h3, h4, h5, h6⟩
theorem Xr {xs : List PV} {u : Value} (h : qq β A w (.pv (.a xs)) u) : ∃ us, u = .agg us.toArray /\ qe A w xs us /\ ∀ c ∈ xs, c.one = true := by
 cases h with | pv h => cases h with | a h h1 => exact ⟨_, rfl, h, h1⟩
theorem qgz {xs : List PV} {u : Value} (h : qq β A w (.pv (.t xs)) u) : ∃ us, u = .tuple us.toArray /\ qe A w xs us := by
 cases h with | pv h => cases h with | t h => exact ⟨_, rfl, h⟩
theorem qgA {t : TypeId} {x : PV} {u : Value} (h : qq β A w (.pv (.i t x)) u) : ∃ v, u = .iface t v /\ qN A w x v := by
 cases h with | pv h => cases h with | i h => exact ⟨_, rfl, h⟩
theorem qgG {fn : Fn} {xs ys : List PV} {u : Value} (h : qq β A w (.pv (.f fn xs ys)) u) : ∃ us zs, u = .func fn us.toArray zs.toArray /\ qe A w xs us /\ qe A w ys zs := by
 cases h with | pv h => cases h with | f h h1 => exact ⟨_, _, rfl, h, h1⟩
theorem qdQ {fn : Fn} {xs ys : List AV} {u : Value} (h : qq β A w (.fn fn xs ys) u) : ∃ us zs, u = .func fn us.toArray zs.toArray /\ qh β A w xs us /\ qh β A w ys zs := by
 cases h with | fn h h1 => exact ⟨_, _, rfl, h, h1⟩
theorem La {xs : List AV} {u : Value} (h : qq β A w (.ag xs) u) : ∃ us, u = .agg us.toArray /\ qh β A w xs us /\ ∀ x ∈ xs, x.one = true := by
 cases h with | ag h h1 => exact ⟨_, rfl, h, h1⟩
theorem qgp {xs : List AV} {u : Value} (h : qq β A w (.tup xs) u) : ∃ us, u = .tuple us.toArray /\ qh β A w xs us := by
 cases h with | tup h => exact ⟨_, rfl, h⟩
theorem uc {u : Value} (h : qq β A w .nil u) : u = .slice none 0 0 := by cases h; rfl
theorem vF {n i j : Nat} {u : Value} (h : qq β A w (.ref n i j) u) : ∃ k bk, β n = some k /\ k.blk = some bk /\ u = .pointer (some ⟨bk, i * k.s + j, none⟩) := by
 cases h with | ref h h1 => exact ⟨_, _, h, h1, rfl⟩
theorem za {n : Nat} {u : Value} (h : qq β A w (.own n) u) : ∃ k, β n = some k /\ u = k.v := by
 cases h with | own h => exact ⟨_, h, rfl⟩
theorem qc2 (S : Sim L F β σ a w) {o : Oper} (hd : ∀ d, o.dst = some d -> d < L.N) {F' : Nat -> Prop} (hF : ∀ n, F' n -> F n) {y : AV} {v : Value} (hy : qq β (Mut L.A0 β σ) w y v) (hr : (execOp a.eval o).run P w = .ok (.value v) w) :
  Qm P L F' (σ.put o.dst ⟨some y, []⟩) a o w := by
 unfold Qm
 rw [hr]
 exact ⟨β, (S.val hd fun z hz => by cases hz; exact hy).fewer hF⟩
theorem VU (S : Sim L F β σ a w) {o : Oper} (hd : ∀ d, o.dst = some d -> d < L.N) {F' : Nat -> Prop} (hF : ∀ n, F' n -> F n) {ns : List Nat} {sh : List (Nat × Option Ob)} (h : jP σ ns sh) {y : AV} {v : Value}
  (hy : qq β (Mut L.A0 β (σ.more sh)) w y v) (hr : (execOp a.eval o).run P w = .ok (.value v) w) : Qm P L F' (σ.put o.dst ⟨some y, sh⟩) a o w := by
 have := qc2 (P := P) (S.share h).1 hd hF hy hr
 unfold Qm at this ⊢
 cases hdst : o.dst with
 | none => rw [hdst] at this; exact this
 | some d => rw [hdst] at this; exact this
theorem qm {t : TypeId} {k : TI -> RM α} (h : (jG X t k).runs C σ b l) : ∃ ti, X.T t = some ti /\ (k ti).runs C σ b l := by
 unfold jG at h
 split at h
 ·rename_i ti ht; exact ⟨ti, ht, h⟩
 ·exact Y8
theorem zm {x : AV} {k : IntKind -> Int -> RM α} (h : (Za x k).runs C σ b l) : ∃ kd n, x = .pv (.v (.int kd n)) /\ (k kd n).runs C σ b l := by
 unfold Za at h
 split at h
 ·exact ⟨_, _, rfl, h⟩
 ·exact Y8
theorem J0 (hX : Cok P X L) {t : TypeId} {ti : TI} (ht : X.T t = some ti) : (isAgg t).run P w = .ok ti.isAgg w := by
 obtain ⟨h1, -⟩ := hX.T t ti ht
 unfold isAgg TI.isAgg
 simp only [Sem.run_bind, run_underlying h1, Result.andThen_ok]
 cases ti.desc <;> rfl
theorem run_sizeOf (hX : Cok P X L) {t : TypeId} {ti : TI} (ht : X.T t = some ti) : (sizeOf t).run P w = .ok ti.size w := by
 obtain ⟨h1, i, h2, h3, h4, h5⟩ := hX.T t ti ht
 simp [sizeOf, typeInfo, h2, h3]
theorem jx (hX : Cok P X L) {t : TypeId} {ti : TI} (ht : X.T t = some ti) : (underlying t).run P w = .ok ti.desc w := run_underlying (hX.T t ti ht).1 w
theorem xu (hX : Cok P X L) {t : TypeId} {ti : TI} (ht : X.T t = some ti) {z : Unit -> Value} (hz : ti.zero = some z) : (zeroValue t).run P w = .ok (z ()) w /\ okV (z ()) = true /\ (z ()).cells.size = ti.size := by
 obtain ⟨h1, i, h2, h3, h4, h5⟩ := hX.T t ti ht
 obtain ⟨h6, h7, h8⟩ := h5 z hz
 exact ⟨by simp [zeroValue, typeInfo, h2, h6], h7, h8⟩
theorem Zh (hX : Cok P X L) {t : TypeId} {ti : TI} (ht : X.T t = some ti) {ad : Addr} {us : List Value} (hm : ∀ j v, us[j]? = some v -> w.cell? (ad.add j) = some v) (hs : ti.size <= us.length) (h0 : ti.isAgg = false -> 0 < us.length) :
  (loadVar t ad).run P w = .ok (match ti.isAgg with | true => .agg (us.take ti.size).toArray | false => us.getD 0 undef) w := by
 unfold loadVar
 simp only [Sem.run_bind, J0 hX ht, Result.andThen_ok]
 cases hg : ti.isAgg with
 | true =>
  have hl := run_loadCells_list (P := P) w ad (us.take ti.size) (fun j v hv => hm j v (by
   rw [List.getElem?_take] at hv
   split at hv
   ·exact hv
   ·cases hv))
  rw [List.length_take, Nat.min_eq_left hs] at hl
  simp [run_sizeOf hX ht, hl]
 | false =>
  have h1 := h0 hg
  have h2 := hm 0 _ (List.getElem?_eq_getElem h1)
  have h3 : ad.add 0 = ad := by simp [Addr.add]
  rw [h3] at h2
  simp [h2, List.getD_eq_getElem?_getD, List.getElem?_eq_getElem h1]
theorem QQ (hX : Cok P X L) {t : TypeId} {ti : TI} (ht : X.T t = some ti) {q : Nat} {cs : Unit -> List PV} {us : List Value} {k : AV -> RM α} (hr : qe A w (cs ()) us) (ho : ∀ c ∈ cs (), c.one = true) (h : (Zr X t ti q cs k).runs C σ b l) :
  ∃ y l', (k (.pv y)).runs C σ b l' /\ ti.size <= us.length /\ (ti.isAgg = false -> 0 < us.length) /\ qN A w y (match ti.isAgg with | true => .agg (us.take ti.size).toArray | false => us.getD 0 undef) := by
 have hlen := hr.length
 obtain ⟨h1, h2⟩ := h
 have h1 := h1 ()
 cases hg : ti.isAgg with
 | true =>
  rw [hg] at h2
  obtain ⟨h3, h4⟩ := h2
  have h3 := h3 ()
  rw [<- h3] at h4
  exact ⟨_, _, h4, by omega, (fun e => by cases e), .a (hr.take _) fun c hc => ho c (List.mem_of_mem_take hc)⟩
 | false =>
  rw [hg] at h2
  obtain ⟨h3, h4⟩ := h2
  obtain ⟨h5, h6⟩ := h3 ()
  rw [<- h6] at h4
  refine ⟨_, _, h4, by omega, fun _ => by omega, ?_⟩
  obtain ⟨u, h7, h8⟩ := hr.get (i := 0) (List.getElem?_eq_getElem h5)
  rw [List.getD_eq_getElem?_getD, List.getD_eq_getElem?_getD, h7, List.getElem?_eq_getElem h5]
  exact h8
theorem uA (bk o j : Nat) : (⟨bk, o, none⟩ : Addr).add j = ⟨bk, o + j, none⟩ := by unfold Addr.add; split <;> simp_all
theorem mem_block {bk off : Nat} {c : Array Value} {e : TypeId} {fz : Nat × Nat} (hb : w.heap[bk]? = some (.cells c e fz)) {us : List Value} (h : ∀ i, i < us.length -> c[off + i]? = us[i]?) : ∀ j v, us[j]? = some v -> w.cell? ((⟨bk, off, none⟩ : Addr).add j) = some v := by
 intro j v hv
 have hj : j < us.length := by
  rcases Nat.lt_or_ge j us.length with h | h
  ·exact h
  ·rw [List.getElem?_eq_none h] at hv; cases hv
 rw [uA, qM hb, h j hj, hv]
theorem Row.mem {ad : Addr} {us : List Value} (h : Row A w (some ad) us) : ∀ j v, us[j]? = some v -> w.cell? (ad.add j) = some v := by
 intro j v hv
 have hj : j < us.length := by
  rcases Nat.lt_or_ge j us.length with h | h
  ·exact h
  ·rw [List.getElem?_eq_none h] at hv; cases hv
 rw [h.cell j hj, hv]
theorem qhm (S : Sim L F β σ a w) {n i j e s : Nat} {xs : List PV} {sh : Bool} (ho : σ.obj n = some (.row e s xs sh)) (hi : i < xs.length) {k : Bk} {bk : Nat} (hk : β n = some k) (hb : k.blk = some bk) :
  ∃ us, qe (Mut L.A0 β σ) w ((xs.getD i noP).cells.drop j) us /\ (∀ c ∈ (xs.getD i noP).cells.drop j, c.one = true) /\ (∀ q v, us[q]? = some v -> w.cell? ((⟨bk, i * k.s + j, none⟩ : Addr).add q) = some v) := by
 obtain ⟨k', us, h1, h2, h3, h4, h5, h6, h7, h8, h9⟩ := (S.objs n _ ho).row_mem
 rw [hk] at h1; cases h1
 obtain ⟨hv, hn, hcm, cur, hh, hs, hcur⟩ := h9 bk hb
 have e := Je hi h5
 refine ⟨((us.drop (i * s)).take s).drop j, by rw [e]; exact ((h4.drop _).take _).drop _, fun c hc => h6 _ (xl hi) c (List.mem_of_mem_drop hc), ?_⟩
 rw [h2]
 refine mem_block hh fun q hq => ?_
 rw [List.length_drop, List.length_take, List.length_drop] at hq
 rw [List.getElem?_drop, List.getElem?_take, if_pos Y54, List.getElem?_drop, <- hcur _ Y54]
 congr 1
 omega
theorem qhk (S : Sim L F β σ a w) {n i j t : Nat} {xs : List PV} {sh : Bool} (ho : σ.obj n = some (.var t xs sh)) {k : Bk} {bk : Nat} (hk : β n = some k) (hb : k.blk = some bk) :
  ∃ us, qe (Mut L.A0 β σ) w (xs.drop (i + j)) us /\ (∀ c ∈ xs.drop (i + j), c.one = true) /\ (∀ q v, us[q]? = some v -> w.cell? ((⟨bk, i * k.s + j, none⟩ : Addr).add q) = some v) := by
 obtain ⟨us, h2, h3, h4, h7, hh⟩ := Q6 (S.objs n _ ho) hk hb
 exact Y36
theorem qhi (S : Sim L F β σ a w) {n i j t : Nat} {xs : List AV} {sh : Bool} (ho : σ.obj n = some (.box t xs sh)) {k : Bk} {bk : Nat} (hk : β n = some k) (hb : k.blk = some bk) :
  ∃ us, qh β (Mut L.A0 β σ) w (xs.drop (i + j)) us /\ (∀ c ∈ xs.drop (i + j), c.one = true) /\ (∀ q v, us[q]? = some v -> w.cell? ((⟨bk, i * k.s + j, none⟩ : Addr).add q) = some v) := by
 obtain ⟨us, h2, h3, h4, h7, hh⟩ := YF (S.objs n _ ho) hk hb
 exact Y36
theorem VH (hX : Cok P X L) (S : Sim L F β σ a w) {t : TypeId} {p : AV} {u : Value} {k : AV -> RM α} (hp : qq β (Mut L.A0 β σ) w p u) (h : (qd3 X t p k).runs C σ b l) :
  ∃ y v l', (k y).runs C σ b l' /\ qq β (Mut L.A0 β σ) w y v /\ (Instr.loadAt t u).run P w = .ok v w := by
 obtain ⟨ti, ht, h⟩ := qm h
 have fin : ∀ {ad : Addr} {cs : Unit -> List PV} {us : List Value} {q : Nat}, qe (Mut L.A0 β σ) w (cs ()) us -> (∀ c ∈ cs (), c.one = true) -> (∀ j v, us[j]? = some v -> w.cell? (ad.add j) = some v) -> ∀ {l}, (Zr X t ti q cs k).runs C σ b l ->
   ∃ y v l', (k y).runs C σ b l' /\ qq β (Mut L.A0 β σ) w y v /\ (Instr.loadAt t (.pointer (some ad))).run P w = .ok v w := by
  intro ad cs us q h1 h2 h3 l h4
  obtain ⟨y, l', h5, h6, h7, h8⟩ := QQ hX ht h1 h2 h4
  refine ⟨_, _, l', h5, .pv h8, ?_⟩
  simp only [Instr.loadAt, Instr.sureAddr, Sem.run_bind, Sem.run_pure, Result.andThen_ok]
  exact Zh hX ht h3 h6 h7
 cases p with
 | pv x =>
  cases x with
  | p xs =>
   obtain ⟨ad, us, rfl, h1, h2, h3⟩ := UX hp
   exact fin (cs := fun _ => xs) h1 h2 h3.mem h
  | _ => exact h.elim
 | ref n i j =>
  obtain ⟨kk, bk, hk, hb, rfl⟩ := vF hp
  obtain ⟨o, l2, ho, -, h⟩ := h
  cases o with
  | mrow _ _ _ => exact h.elim
  | map _ _ _ => exact h.elim
  | row e s xs sh =>
   obtain ⟨h1, h⟩ := h
   obtain ⟨us, h3, h4, h5⟩ := qhm S (j := j) ho (h1 ()).1 hk hb
   exact fin (cs := fun _ => (xs.getD i noP).cells.drop j) h3 h4 h5 h
  | var t xs sh =>
   obtain ⟨us, h3, h4, h5⟩ := qhk S (i := i) (j := j) ho hk hb
   exact fin (cs := fun _ => xs.drop (i + j)) h3 h4 h5 h
  | box t cs sh =>
   obtain ⟨us, h3, h4, h5⟩ := qhi S (i := i) (j := j) ho hk hb
   have hl := h3.length
   simp only at h
   cases hg : ti.isAgg with
   | true =>
    rw [hg] at h
    obtain ⟨h6, h⟩ := h
    have h6 := h6 ()
    rw [List.length_drop] at hl
    have hr := Zh (P := P) hX ht h5 Y54 (by rw [hg]; intro e; cases e)
    rw [hg] at hr
    refine ⟨_, _, _, h, Qc (h3.take ti.size) (fun c hc => h4 c (List.mem_of_mem_take hc)), ?_⟩
    simp only [Instr.loadAt, Instr.sureAddr, Sem.run_bind, Sem.run_pure, Result.andThen_ok]
    exact hr
   | false =>
    rw [hg] at h
    simp only at h
    split at h
    ·rename_i c hc
     have hc' : (cs.drop (i + j))[0]? = some c := by rw [List.getElem?_drop]; simpa using hc
     obtain ⟨v, hv, hrep⟩ := h3.get hc'
     refine ⟨_, v, _, h, hrep, ?_⟩
     have h2 := h5 0 v hv
     have h3' : (⟨bk, i * kk.s + j, none⟩ : Addr).add 0 = ⟨bk, i * kk.s + j, none⟩ := by simp [Addr.add]
     rw [h3'] at h2
     simp [Instr.loadAt, Instr.sureAddr, loadVar, J0 hX ht, hg, h2]
    ·exact Y8
 | _ => exact h.elim
end
end Go.Bl
namespace Go.Bl
open Go.RowKit
section
variable {α : Type} {P : Program} {X : Cx} {L : Pl} {F : Nat -> Prop} {β : Nat -> Option Bk} {σ : St} {a : Act} {w : World} {C : FuncId -> List RA -> RA -> List RA -> Prop} {b : α} {l : List Lc} {A : Nat -> Prop}
theorem YM (op : BinOp) (t : TypeId) (x y : Operand) (k k' : IntKind) (m n : Int) : (eqGuard op t x y (.int k m) (.int k' n)).run P w = .ok () w := by cases op <;> rfl
theorem Q8 (op : BinOp) (t : TypeId) (x y : Operand) (m n : Bool) : (eqGuard op t x y (.bool m) (.bool n)).run P w = .ok () w := by cases op <;> rfl
theorem eqGuard_str (op : BinOp) (t : TypeId) (x y : Operand) (m n : ByteArray) : (eqGuard op t x y (.string m) (.string n)).run P w = .ok () w := by cases op <;> rfl
theorem Kz (op : BinOp) (t : TypeId) {x y : Operand} (hc : (Qi x || Qi y) = true) : (eqGuard op t x y .nilIface .nilIface).run P w = .ok () w := by
 cases op <;> cases x <;> cases y <;> first | rfl | cases hc
theorem Yd (hX : ∀ α f, X.h α f = f ()) {op : BinOp} {kd kd' : IntKind} {m n : Int} {k : Value -> RM α} (t : TypeId) (h : (qgD X op kd m kd' n k).runs C σ b l) :
  ∃ r l', (k r).runs C σ b l' /\ r.oneCell' = true /\ (binOp op t (.int kd m) (.int kd' n)).run P w = .ok r w := by
 cases op with
 | shl => obtain ⟨h1, h2⟩ := h; have h1 := h1 (); exact ⟨_, _, h2, rfl, by simp only [hX, binOp, Op.shift]; rw [if_neg Y54]; rfl⟩
 | shr => obtain ⟨h1, h2⟩ := h; have h1 := h1 (); exact ⟨_, _, h2, rfl, by simp only [hX, binOp, Op.shift]; rw [if_neg Y54]; rfl⟩
 | quo => obtain ⟨h1, h2⟩ := h; obtain ⟨h1, h3⟩ := h1 (); subst h1; exact ⟨_, _, h2, rfl, by simp [hX, binOp, Op.intDiv, h3]⟩
 | rem => obtain ⟨h1, h2⟩ := h; obtain ⟨h1, h3⟩ := h1 (); subst h1; exact ⟨_, _, h2, rfl, by simp [hX, binOp, Op.intDiv, h3]⟩
 | _ => obtain ⟨h1, h2⟩ := h; have h1 := h1 (); subst h1; exact ⟨_, _, h2, rfl, by simp [hX, binOp, Op.intArith, Op.intCmp, Op.intBits, yp]⟩
theorem run_equal_str (a b : ByteArray) : (Op.stringOp .eql a b).run P w = .ok (.bool (a.toList == b.toList)) w := rfl
theorem run_unequal_str (a b : ByteArray) : (Op.stringOp .neq a b).run P w = .ok (.bool (!(a.toList == b.toList))) w := rfl
def qhL : TypeDesc -> Value -> Value -> Option Bool
 | .interface _, .nilIface, .nilIface => some true
 | .interface _, .nilIface, .iface _ _ => some false
 | .interface _, .iface _ _, .nilIface => some false
 | .pointer _, .pointer (some _), .pointer none => some false
 | .slice _, .slice (some _) _ _, .slice none _ _ => some false
 | .slice _, .slice none _ _, .slice none _ _ => some true
 | _, _, _ => none
theorem eq_in {t : TypeId} {d : TypeDesc} {u v : Value} {q : Bool} (hu : P.underlying t = some d) (hq : qhL d u v = some q) : (Op.equal t u v).run P w = .ok q w := by
 suffices H : ∀ n, (Op.equalIn (n + 1) t u v).run P w = .ok q w from H 9999
 intro n
 unfold qhL at hq
 split at hq
 all_goals first
  | (cases hq; simp only [Op.equalIn, Sem.run_bind, run_underlying hu, Result.andThen_ok, Sem.run_pure]; done)
  | (cases hq; simp [Op.equalIn, run_underlying hu]; done)
  | cases hq
theorem JV : ∀ {bs : List UInt8} {us : List Value}, qe A w (bs.map u8P) us -> us = bs.map u8v
 | [], _, .nil => rfl
 | b :: bs, _, .cons h h1 => by
  cases h with
  | v h => rw [JV h1]; rfl
theorem Jn {xs : List PV} (h : ∀ x ∈ xs, ∃ b, x = u8P b) : xs = (xs.map uV).map u8P := by
 induction xs with
 | nil => rfl
 | cons x xs ih =>
  obtain ⟨c, rfl⟩ := h x List.mem_cons_self
  rw [List.map_cons, List.map_cons, <- ih fun y hy => h y (List.mem_cons_of_mem _ hy)]
  congr 1
  simp [u8P, uV, u8v]
theorem qdh (hX : Cok P X L) {t e : TypeId} {te : TI} {n : Nat} (hu : P.underlying t = some (.array n e)) (he : X.T e = some te) (hde : te.desc = .int .u8) {A : Nat -> Prop} {xs ys : List PV} {us vs : List Value} (h : qeu n te xs ys) (h1 : qe A w xs us) (h2 : qe A w ys vs) (op : BinOp) (x y : Operand) :
  (eqGuard op t x y (.agg us.toArray) (.agg vs.toArray)).run P w = .ok () w /\ (Op.equal t (.agg us.toArray) (.agg vs.toArray)).run P w = .ok (xs.map uV == ys.map uV) w := by
 obtain ⟨q1, q2, q3, q4, q5⟩ := h
 have e1 := Jn q4
 have e2 := Jn q5
 rw [e1] at h1
 rw [e2] at h2
 have e3 := JV h1
 have e4 := JV h2
 subst e3 e4
 obtain ⟨he1, i, he2, he3, -⟩ := hX.T e te he
 rw [hde] at he1
 have hsz : ∀ w, (sizeOf e).run P w = .ok 1 w := fun w => by simp [sizeOf, run_typeInfo w he2, he3, q1]
 have hg : P.eqGuardType P.depth t = false := by
  exact Y52
 exact ⟨run_eqGuard_agg w op t x y _ _ hg, run_equalIn_bytes w 9998 t e n hu he1 hsz _ _ (by rw [List.length_map]; exact q2) (by rw [List.length_map]; exact q3)⟩
theorem QB : ∀ (xs ys : List Int), xs.length = ys.length -> ((List.range xs.length).all fun i => xs.getD i 0 == ys.getD i 0) = (xs == ys)
 | [], [], _ => rfl
 | x :: xs, y :: ys, h => by
  have ih := QB xs ys Y62
  rw [List.length_cons, List.range_succ_eq_map, List.all_cons, List.all_map]
  simp only [List.getD_cons_zero, Function.comp_def, List.getD_cons_succ, ih]
  simp [List.cons_beq_cons]
 | [], _ :: _, h => by simp at h
 | _ :: _, [], h => by simp at h
theorem XV (d : Nat) (t e : TypeId) (n : Nat) (ht : P.underlying t = some (.array n e)) (he : P.underlying e = some (.int .i64)) (hsz : ∀ w, (sizeOf e).run P w = .ok 1 w) (xs ys : List Int) (hx : xs.length = n) (hy : ys.length = n) :
  (Op.equalIn (d + 2) t (.agg (xs.map (Value.int .i64)).toArray) (.agg (ys.map (Value.int .i64)).toArray)).run P w = .ok (xs == ys) w := by
 rw [<- QB xs ys (hx.trans hy.symm), hx, List.range_eq_range', Op.equalIn]
 simp only [Sem.run_bind, run_underlying ht, Result.andThen_ok, hsz, Std.Legacy.Range.forIn_eq_forIn_range', Std.Legacy.Range.size, Nat.sub_zero, Nat.add_sub_cancel, Nat.div_one]
 have hl : ∀ i ∈ List.range' 0 n 1, i < n := fun i hi => by simpa using (List.mem_range'_1.1 hi).2
 generalize List.range' 0 n 1 = l at hl ⊢
 induction l with
 | nil => simp
 | cons i l ih =>
  have hi : i < n := hl i Y85
  have px : (part e (xs.map (Value.int .i64)).toArray (i * 1)).run P w = .ok (.int .i64 (xs.getD i 0)) w := by
   simp [part, isAgg, run_underlying he, List.getD, List.getElem?_eq_getElem (show i < xs.length by omega)]
  have py : (part e (ys.map (Value.int .i64)).toArray (i * 1)).run P w = .ok (.int .i64 (ys.getD i 0)) w := by
   simp [part, isAgg, run_underlying he, List.getD, List.getElem?_eq_getElem (show i < ys.length by omega)]
  have pe := run_equalIn_int (P := P) w d e .i64 .i64 (xs.getD i 0) (ys.getD i 0) he
  simp only [List.forIn_cons, Sem.run_bind, px, py, pe, Result.andThen_ok, List.all_cons]
  cases hb : (xs.getD i 0 == ys.getD i 0)
  ·simp
  ·simp only [Bool.not_true, Bool.false_eq_true, if_false, Sem.run_pure, Result.andThen_ok, Bool.true_and]
   exact ih fun j hj => hl j (by simp [hj])
theorem qaK {xs : List PV} (h : ∀ x ∈ xs, ∃ a, x = .v (.int .i64 a)) : xs = ((xs.map PV.int).map (Value.int .i64)).map PV.v := by
 induction xs with
 | nil => rfl
 | cons x xs ih =>
  obtain ⟨c, rfl⟩ := h x List.mem_cons_self
  rw [List.map_cons, List.map_cons, List.map_cons, <- ih fun y hy => h y (List.mem_cons_of_mem _ hy)]
  rfl
theorem qai : ∀ {bs us : List Value}, qe A w (bs.map PV.v) us -> us = bs
 | [], _, .nil => rfl
 | b :: bs, _, .cons h h1 => by
  cases h with
  | v h => rw [qai h1]
theorem qbl (hX : Cok P X L) {t e : TypeId} {te : TI} {n : Nat} (hu : P.underlying t = some (.array n e)) (he : X.T e = some te) (hde : te.desc = .int .i64) {A : Nat -> Prop} {xs ys : List PV} {us vs : List Value} (h : qgZ n te xs ys) (h1 : qe A w xs us) (h2 : qe A w ys vs) (op : BinOp) (x y : Operand) :
  (eqGuard op t x y (.agg us.toArray) (.agg vs.toArray)).run P w = .ok () w /\ (Op.equal t (.agg us.toArray) (.agg vs.toArray)).run P w = .ok (xs.map PV.int == ys.map PV.int) w := by
 obtain ⟨q1, q2, q3, q4, q5⟩ := h
 have e1 := qaK q4
 have e2 := qaK q5
 rw [e1] at h1
 rw [e2] at h2
 have e3 := qai h1
 have e4 := qai h2
 subst e3 e4
 obtain ⟨he1, i, he2, he3, -⟩ := hX.T e te he
 rw [hde] at he1
 have hsz : ∀ w, (sizeOf e).run P w = .ok 1 w := fun w => by simp [sizeOf, run_typeInfo w he2, he3, q1]
 have hg : P.eqGuardType P.depth t = false := by
  exact Y52
 exact ⟨run_eqGuard_agg w op t x y _ _ hg, XV 9998 t e n hu he1 hsz _ _ (by rw [List.length_map]; exact q2) (by rw [List.length_map]; exact q3)⟩
theorem qcy (hX : Cok P X L) (S : Sim L F β σ a w) {op : BinOp} {t : TypeId} {ti : TI} (ht : X.T t = some ti) {ox oy : Operand} {x y : AV} {u v : Value} {k : Value -> RM α} (hx : qq β (Mut L.A0 β σ) w x u) (hy : qq β (Mut L.A0 β σ) w y v)
  (h : (qhd X ti op (Qi ox || Qi oy) x y k).runs C σ b l) : ∃ r l', (k r).runs C σ b l' /\ r.oneCell' = true /\ (do eqGuard op t ox oy u v; binOp op t u v : Sem Value).run P w = .ok r w := by
 have hu := (hX.T t ti ht).1
 have nil : ∀ {op : BinOp} {q : Bool} {k : Value -> RM α} {l} {u v : Value}, (VJ op q k).runs C σ b l -> (∀ op, op = .eql ∨ op = .neq -> (eqGuard op t ox oy u v).run P w = .ok () w) -> (∀ op, op = .eql ∨ op = .neq -> binOp op t u v = (match op with | .eql => do pure (.bool (<- Op.equal t u v)) | _ => do pure (.bool (!(<- Op.equal t u v))))) -> (Op.equal t u v).run P w = .ok q w ->
   ∃ r l', (k r).runs C σ b l' /\ r.oneCell' = true /\ (do eqGuard op t ox oy u v; binOp op t u v : Sem Value).run P w = .ok r w := by
  intro op q k l u v h h1 h2 h3
  cases op with
  | eql => exact ⟨_, _, h, rfl, by rw [h2 .eql (.inl rfl)]; simp [h1 .eql (.inl rfl), h3]⟩
  | neq => exact ⟨_, _, h, rfl, by rw [h2 .neq (.inr rfl)]; simp [h1 .neq (.inr rfl), h3]⟩
  | _ => exact h.elim
 unfold qhd at h
 split at h
 ·obtain ⟨rfl, -⟩ := qW hx
  obtain ⟨rfl, -⟩ := qW hy
  obtain ⟨r, l', h1, h2, h3⟩ := Yd (P := P) (w := w) hX.h t h
  exact ⟨r, l', h1, h2, by simp [YM, h3]⟩
 ·obtain ⟨rfl, -⟩ := qW hx
  obtain ⟨rfl, -⟩ := qW hy
  split at h
  ·rename_i hd
   rw [hd] at hu
   exact ⟨_, _, h, rfl, by simp [Q8, hX.h, binOp, run_equal_bool _ _ _ _ hu]⟩
  ·rename_i hd
   rw [hd] at hu
   exact ⟨_, _, h, rfl, by simp [Q8, hX.h, binOp, run_equal_bool _ _ _ _ hu]⟩
  ·exact Y8
 ·obtain ⟨rfl, -⟩ := qW hx
  obtain ⟨rfl, -⟩ := qW hy
  split at h
  ·exact Y53
  ·exact Y53
  ·obtain ⟨h1, h⟩ := h
   exact ⟨_, _, h, rfl, by simp [eqGuard_str, hX.h, binOp, run_string_add_sum _ _ _ (h1 ())]⟩
  ·exact Y8
 ·obtain ⟨rfl, -⟩ := qW hx
  obtain ⟨rfl, -⟩ := qW hy
  split at h
  ·rename_i hd hc
   rw [hd] at hu
   refine nil h (fun op hop => ?_) (fun op hop => by rcases hop with rfl | rfl <;> rfl) (eq_in hu rfl)
   exact Kz op t hc
  ·exact Y8
 ·obtain ⟨rfl, -⟩ := qW hx
  obtain ⟨rfl, -⟩ := qW hy
  split at h
  ·rename_i hd
   rw [hd] at hu
   exact Y3
  ·exact Y8
 ·obtain ⟨rfl, -⟩ := qW hx
  obtain ⟨rfl, -⟩ := qW hy
  split at h
  ·rename_i hd
   rw [hd] at hu
   exact Y3
  ·exact Y8
 ·obtain ⟨v', rfl, -⟩ := qgA hx
  obtain ⟨rfl, -⟩ := qW hy
  split at h
  ·rename_i hd
   rw [hd] at hu
   exact Y3
  ·exact Y8
 ·obtain ⟨rfl, -⟩ := qW hx
  obtain ⟨v', rfl, -⟩ := qgA hy
  split at h
  ·rename_i hd
   rw [hd] at hu
   exact Y3
  ·exact Y8
 ·obtain ⟨ad, us, rfl, -⟩ := UX hx
  obtain ⟨rfl, -⟩ := qW hy
  split at h
  ·rename_i hd
   rw [hd] at hu
   exact Y3
  ·exact Y8
 ·obtain ⟨k', bk, -, -, rfl⟩ := vF hx
  obtain ⟨rfl, -⟩ := qW hy
  split at h
  ·rename_i hd
   rw [hd] at hu
   exact Y3
  ·exact Y8
 ·rename_i xs
  obtain ⟨ad, cap, s, us, rfl, h1, h2, h3, h4, h5, h6, h7⟩ := VR hx
  obtain rfl := uc hy
  split at h
  ·rename_i hd
   rw [hd] at hu
   obtain ⟨hne, h⟩ := h
   have hne := hne ()
   have hl : 0 < us.length := by
    rw [<- h1.length]
    cases xs with
    | nil => exact absurd rfl hne
    | cons x xs => rw [List.flatMap_cons, List.length_append, h2 x List.mem_cons_self]; omega
   obtain ⟨b', off, rfl, -, -⟩ := h7.some_of hl
   exact Y3
  ·exact Y8
 ·obtain rfl := uc hx
  obtain rfl := uc hy
  split at h
  ·rename_i hd
   rw [hd] at hu
   exact Y3
  ·exact Y8
 ·obtain ⟨us, rfl, hxs, -⟩ := Xr hx
  obtain ⟨vs, rfl, hys, -⟩ := Xr hy
  split at h
  ·rename_i n e hd
   rw [hd] at hu
   split at h
   ·rename_i te he
    split at h
    ·rename_i hde
     split at h
     ·obtain ⟨h1, h⟩ := h
      obtain ⟨g1, g2⟩ := qdh (w := w) hX hu he hde (h1 ()) hxs hys .eql ox oy
      exact Y16
     ·obtain ⟨h1, h⟩ := h
      obtain ⟨g1, g2⟩ := qdh (w := w) hX hu he hde (h1 ()) hxs hys .neq ox oy
      exact Y16
     ·exact Y8
    ·rename_i hde
     split at h
     ·obtain ⟨h1, h⟩ := h
      obtain ⟨g1, g2⟩ := qbl (w := w) hX hu he hde (h1 ()) hxs hys .eql ox oy
      exact Y16
     ·obtain ⟨h1, h⟩ := h
      obtain ⟨g1, g2⟩ := qbl (w := w) hX hu he hde (h1 ()) hxs hys .neq ox oy
      exact Y16
     ·exact Y8
    ·exact Y8
   ·exact Y8
  ·exact Y8
 ·exact Y8
end
end Go.Bl
