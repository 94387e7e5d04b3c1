import Derived.Test.YtdloaifdpajcjaaGreatDoorPH
import Derived.Shelf.SlicesQ.Reverse
set_option maxRecDepth 1000000
set_option maxHeartbeats 8000000
set_option linter.unusedVariables false
set_option linter.unusedSimpArgs false
set_option maxRecDepth 1000000
set_option maxHeartbeats 8000000
namespace Go.Bl
open Go.RowKit Go.Proofs
def aP (xs : List UInt8) : PV := .a (xs.map u8P)
attribute [local irreducible] qz
theorem Xe (Z : Ad) (h : Hh) (hh : ∀ α g, h α g = g ()) (xs : List UInt8) (hl : xs.length <= 100000000) : qi Z 103 [.pv (bH h xs)] (.own 5 1 (h _ fun _ => ((0 : UInt8) :: xs).map u8P)) [.any] := by
 refine qB Z h hh ⟨Tryz.func103, Tryz.ntmps103⟩ rfl rfl rfl rfl rfl fun C hC => ?_
 unfold Tryz.f103
 cbv
 repeat' first
  | exact .inr trivial
  | apply And.intro
  | exact sq
  | trivial
theorem KM (Z : Ad) (h : Hh) (hh : ∀ α g, h α g = g ()) (xs : List UInt8) (hl : xs.length <= 10000000) : qi Z 94 [.pv (bH h xs)] (.pv (aH h u8P (qz (0 :: xs)))) [.any] := by
 refine qB Z h hh ⟨Tryz.func94, Tryz.ntmps94⟩ rfl rfl rfl rfl rfl fun C hC => ?_
 unfold Tryz.f94
 cbv
 refine ⟨_, _, _, hC _ _ _ _ (Xe Z h hh xs Y54), ?_⟩
 cbv
 repeat' first
  | exact .inr trivial
  | apply And.intro
  | exact sq
  | trivial
 refine ⟨_, _, _, hC _ _ _ _ (ue Z h hh [0 :: xs] Y57), ?_⟩
 cbv
 repeat' first
  | exact .inr trivial
  | apply And.intro
  | exact sq
  | trivial
theorem Uf (Z : Ad) (h : Hh) (hh : ∀ α g, h α g = g ()) (ls : List (List UInt8)) (hl : ls.length <= 1000000) (hw : ∀ l ∈ ls, l.length <= 10000000) : qi Z 41 [.pv (lH h bP ls)] (.own 36 32 (h _ fun _ => ls.map fun l => aP (qz (0 :: l)))) [.any] := by
 refine qB Z h hh ⟨Tryz.func41, Tryz.ntmps41⟩ rfl rfl rfl rfl rfl fun C hC => ?_
 unfold Tryz.f41
 cbv
 refine ⟨Nat, fun k => ⟨[(3, some (.own 990)), (6, some (.pv (lH h bP ls))), (7, some (.pv (nH h ls.length))), (8, some (.pv (nH h k)))], [(990, some (.row 36 32 (h _ fun _ => (ls.take k).map fun l => aP (qz (0 :: l))) false))]⟩,
  fun k => k <= ls.length, fun k => ls.length - k, 0, [(3, 990, 36, 32)], Nat.zero_le _, ⟨rfl, by decide, rfl, trivial⟩, ⟨[], rfl, rfl, ⟨?_, trivial⟩, rfl, rfl, ?_, ?_, trivial⟩, ?_⟩
 ·cbv; simp [hh]
 ·cbv; simp [hh]
 ·cbv; simp [hh]
 ·intro k hk
  cbv
  refine ⟨fun _ => rfl, fun e => ?_, fun e => ?_⟩ <;> simp only [hh, nI, decide_eq_true_eq, decide_eq_false_iff_not] at e
  ·have e' := jI e
   cbv
   repeat' first
    | apply And.intro
    | exact sq
    | trivial
   refine ⟨_, _, _, hC _ _ _ _ (KM Z h hh ls[k] (hw _ (List.getElem_mem e'))), ?_⟩
   cbv
   repeat' first
    | apply And.intro
    | exact sq
    | trivial
   refine ⟨k + 1, e', by show ls.length - (k + 1) < ls.length - k; omega, [(990, 16)], rfl, rfl, ⟨?_, trivial⟩, rfl, rfl, rfl, ?_, trivial⟩
   ·cbv; simp only [hh, List.take_succ_eq_append_getElem e', List.map_append, List.map_cons, List.map_nil, aP]
   ·cbv; simp (disch := omega) [hh, wrap_i64]
  ·have e' := jN e
   cbv
   exact ⟨.inr trivial, fun _ => ⟨rfl, rfl, by simp only [hh]; rw [List.take_of_length_le e']⟩, trivial⟩
end Go.Bl
namespace Go.Bl
open Go.RowKit Go.Proofs
attribute [local irreducible] qz
theorem JC (Z : Ad) (h : Hh) (hh : ∀ α g, h α g = g ()) (xs ys : List UInt8) (hx : xs.length = 32) (hy : ys.length = 32) : qi Z 104 [.pv (aH h u8P xs), .pv (aH h u8P ys)] (.own 5 1 (h _ fun _ => ((1 : UInt8) :: (xs ++ ys)).map u8P)) [.any, .any] := by
 refine qB Z h hh ⟨Tryz.func104, Tryz.ntmps104⟩ rfl rfl rfl rfl rfl fun C hC => ?_
 unfold Tryz.f104
 cbv
 repeat' first
  | exact .inr trivial
  | apply And.intro
  | exact sq
  | trivial
 refine ⟨_, _, _, hC _ _ _ _ (Ug Z h hh [[1], xs, ys] Y85 Y57), ?_⟩
 cbv
 repeat' first
  | exact .inr trivial
  | apply And.intro
  | exact sq
  | trivial
theorem qdd (Z : Ad) (h : Hh) (hh : ∀ α g, h α g = g ()) (xs ys : List UInt8) (hx : xs.length = 32) (hy : ys.length = 32) : qi Z 98 [.pv (aH h u8P xs), .pv (aH h u8P ys)] (.pv (aH h u8P (qz (1 :: (xs ++ ys))))) [.any, .any] := by
 refine qB Z h hh ⟨Tryz.func98, Tryz.ntmps98⟩ rfl rfl rfl rfl rfl fun C hC => ?_
 unfold Tryz.f98
 cbv
 repeat' first
  | exact .inr trivial
  | apply And.intro
  | exact sq
  | trivial
 refine ⟨_, _, _, hC _ _ _ _ (JC Z h hh xs ys hx hy), ?_⟩
 cbv
 repeat' first
  | exact .inr trivial
  | apply And.intro
  | exact sq
  | trivial
 refine ⟨_, _, _, hC _ _ _ _ (ue Z h hh [1 :: (xs ++ ys)] Y57), ?_⟩
 cbv
 repeat' first
  | exact .inr trivial
  | apply And.intro
  | exact sq
  | trivial
end Go.Bl
namespace Go.Bl
open Go.RowKit Go.Shelf Go.Sort
structure Cel (k : Nat) where
 l : List Value
 len : l.length = k
 one : ∀ v ∈ l, v.oneCell' = true
instance (k : Nat) : Inhabited (Cel k) := ⟨⟨List.replicate k (.bool false), by simp, fun v hv => by rw [List.eq_of_mem_replicate hv]; rfl⟩⟩
variable {A A' : Nat -> Prop} {w w' : World} {k : Nat}
inductive Rw (A : Nat -> Prop) (w : World) : List PV -> List (Cel k) -> Prop
 | nil : Rw A w [] []
 | cons {x : PV} {r : Cel k} {xs : List PV} {rs : List (Cel k)} : qe A w x.cells r.l -> Rw A w xs rs -> Rw A w (x :: xs) (r :: rs)
theorem Rw.stay (h : qQ A A' w w') : ∀ {xs : List PV} {rs : List (Cel k)}, Rw A w xs rs -> Rw A' w' xs rs
 | _, _, .nil => .nil
 | _, _, .cons h1 h2 => .cons (h1.stay h) (Rw.stay h h2)
theorem Rw.app : ∀ {xs ys : List PV} {rs ss : List (Cel k)}, Rw A w xs rs -> Rw A w ys ss -> Rw A w (xs ++ ys) (rs ++ ss)
 | _, _, _, _, .nil, h => h
 | _, _, _, _, .cons h1 h2, h => .cons h1 (Rw.app h2 h)
theorem Rw.rev : ∀ {xs : List PV} {rs : List (Cel k)}, Rw A w xs rs -> Rw A w xs.reverse rs.reverse
 | _, _, .nil => .nil
 | _, _, .cons h1 h2 => by
  rw [List.reverse_cons, List.reverse_cons]
  exact (Rw.rev h2).app (.cons h1 .nil)
theorem Rw.flat : ∀ {xs : List PV} {rs : List (Cel k)}, Rw A w xs rs -> qe A w (xs.flatMap PV.cells) (rs.flatMap Cel.l)
 | _, _, .nil => .nil
 | _, _, .cons h1 h2 => by
  rw [List.flatMap_cons, List.flatMap_cons]
  exact h1.app (Rw.flat h2)
theorem Rw.length : ∀ {xs : List PV} {rs : List (Cel k)}, Rw A w xs rs -> xs.length = rs.length
 | _, _, .nil => rfl
 | _, _, .cons _ h2 => by simp [Rw.length h2]
theorem qa0 : ∀ {xs : List PV} {us : List Value}, qe A w (xs.flatMap PV.cells) us -> (∀ x ∈ xs, x.cells.length = k) -> (∀ x ∈ xs, ∀ c ∈ x.cells, c.one = true) -> ∃ rs : List (Cel k), Rw A w xs rs /\ rs.flatMap Cel.l = us
 | [], _, .nil, _, _ => ⟨[], .nil, rfl⟩
 | x :: xs, us, h, h1, h2 => by
  rw [List.flatMap_cons] at h
  obtain ⟨u1, u2, rfl, g1, g2⟩ := h.split
  obtain ⟨rs, g3, g4⟩ := qa0 (xs := xs) g2 (fun y hy => h1 y (List.mem_cons_of_mem _ hy)) (fun y hy => h2 y (List.mem_cons_of_mem _ hy))
  exact ⟨⟨u1, by rw [<- g1.length]; exact h1 x List.mem_cons_self, g1.ones (h2 x List.mem_cons_self)⟩ :: rs, .cons g1 g3, by rw [List.flatMap_cons, g4]⟩
theorem Vm : ∀ (rs : List (Cel k)), (rs.flatMap Cel.l).length = rs.length * k
 | [] => by simp
 | r :: rs => by rw [List.flatMap_cons, List.length_append, r.len, Vm rs, List.length_cons, Nat.add_mul, Nat.one_mul, Nat.add_comm]
theorem WD (hk : 0 < k) : ∀ (rs : List (Cel k)) (j : Nat), j < rs.length * k -> (rs.flatMap Cel.l)[j]? = some ((rs.getD (j / k) default).l.getD (j % k) undef)
 | [], j, h => by simp at h
 | r :: rs, j, h => by
  rw [List.flatMap_cons, List.getElem?_append, r.len]
  by_cases hj : j < k
  ·rw [if_pos hj, Nat.div_eq_of_lt hj, Nat.mod_eq_of_lt hj, List.getD_cons_zero, List.getD_eq_getElem?_getD, List.getElem?_eq_getElem (by rw [r.len]; exact hj)]
   rfl
  ·have hge : k <= j := by omega
   rw [List.length_cons, Nat.add_mul, Nat.one_mul] at h
   rw [if_neg hj, WD hk rs (j - k) Y54, Nat.div_eq_sub_div hk hge, List.getD_cons_succ, Nat.mod_eq_sub_mod hge]
theorem Vg (hk : 0 < k) (rs : List (Cel k)) : (flatK Cel.l k rs.toArray).toList = rs.flatMap Cel.l := by
 apply List.ext_getElem?
 intro j
 have hs : (flatK Cel.l k rs.toArray).size = rs.length * k := by simp
 by_cases hj : j < rs.length * k
 ·rw [WD hk rs j hj]
  have h1 := get_flatK Cel.l k rs.toArray j Y74
  rw [getElem!_pos _ j (by rw [hs]; exact hj)] at h1
  rw [Array.getElem?_toList, Array.getElem?_eq_getElem (by rw [hs]; exact hj), h1]
  have hd : j / k < rs.length := Nat.div_lt_of_lt_mul (by rw [Nat.mul_comm]; exact hj)
  have hm : j % k < k := Nat.mod_lt _ hk
  have e : rs.toArray[j / k]! = rs.getD (j / k) default := by
   rw [getElem!_pos _ _ (by simpa using hd), List.getD_eq_getElem?_getD, List.getElem?_eq_getElem hd]
   simp
  rw [e]
  congr 1
  have key : ∀ (l : List Value), l.length = k -> l[j % k]! = l.getD (j % k) undef := fun l hl => by
   rw [getElem!_pos l _ (by rw [hl]; exact hm), List.getD_eq_getElem?_getD, List.getElem?_eq_getElem (by rw [hl]; exact hm)]
   rfl
  exact key _ (rs.getD (j / k) default).len
 ·rw [List.getElem?_eq_none (by rw [Array.length_toList, hs]; omega), List.getElem?_eq_none (by rw [Vm]; omega)]
theorem UL {cur fl : Array Value} (h : fl.size <= cur.size) : (putCells id 0 fl cur).toList.take fl.size = fl.toList := by
 apply List.ext_getElem?
 intro j
 rw [List.getElem?_take]
 by_cases hj : j < fl.size
 ·have : j < cur.size := by omega
  rw [if_pos hj, Array.getElem?_toList, putCells, Array.getElem?_mapIdx, Array.getElem?_eq_getElem this, Array.getElem?_toList, Array.getElem?_eq_getElem hj]
  simp [hj]
 ·rw [if_neg hj, List.getElem?_eq_none Y74]
theorem ZM {P : Program} {ρ : Ren} {G : Gv} {e : TypeId} {xs : List PV} (L : Go.Proofs.SlLaysE0.n35 P ρ) (aE : ∀ w, (isAgg (ρ.t 23)).run P w = .ok true w) (zE : ∀ w, (Go.sizeOf (ρ.t 23)).run P w = .ok k w) (hE : JW P (ρ.f 35)) :
  Con P G (ρ.f 35) [.own e k xs] (.tup []) [.own e k xs.reverse] := by
 refine .mk' rfl ⟨hE, fun w vals bs A hA hbs hnd henv hr => ?_⟩
 cases hr with
 | cons hr hn =>
  cases hn
  cases hr with
  | @own _ _ _ v us hk h1 h2 h3 h4 =>
   obtain ⟨hl, h5⟩ := h4
   rcases h5 with ⟨rfl, h0⟩ | ⟨g, cap, cur, rfl, hg, hh, hn, hm, hs, ht⟩
   ·have hx : xs = [] := List.eq_nil_of_length_eq_zero h0
    subst hx
    refine (Go.Proofs.AnyQ.slices_Reverse_empty L none 0 w).mono ?_
    rintro e' w' ⟨rfl, rfl⟩
    exact ⟨_, [], [], rfl, .tup .nil, .cons (b := []) (bs := []) (.own hk (us := []) .nil Y85 Y85 (World.ownsRow_nil _ _ _ _)) .nil, by simp, by simp, Fr.refl _ _⟩
   ·obtain ⟨rs, r1, r2⟩ := qa0 h1 h2 h3
    have hrl := r1.length
    have hF : (flatK Cel.l k rs.toArray).toList = us := by rw [Vg hk, r2]
    have hFs : (flatK Cel.l k rs.toArray).size = xs.length * k := by rw [size_flatK, List.size_toArray, hrl]
    have hle : xs.length * k <= cur.size := by rw [hs]; exact Nat.mul_le_mul_right _ hn
    have hH : HoldsK Cel.l k w g 0 rs.toArray := by
     intro j hj
     rw [hFs] at hj
     refine ⟨?_, vN hh _⟩
     rw [Nat.zero_add, qM hh, getElem!_pos _ j (by rw [hFs]; exact hj)]
     have e1 : cur.toList[j]? = us[j]? := by rw [<- ht, List.getElem?_take, if_pos hj]
     rw [Array.getElem?_toList] at e1
     rw [e1, <- hF, Array.getElem?_toList, Array.getElem?_eq_getElem (by rw [hFs]; exact hj)]
     rfl
    have hz : xs.length = rs.toArray.size := by simp [hrl]
    rw [show (#[Value.slice (some ⟨g, 0, none⟩) xs.length cap] : Array Value) = #[.slice (some ⟨g, 0, none⟩) rs.toArray.size cap] by rw [hz]]
    refine (Go.Proofs.AnyQ.slices_Reverse L k aE zE Cel.l Cel.len Cel.one g 0 cap rs.toArray w hH (by rw [<- hz]; unfold maxLen at hm; omega)).mono ?_
    rintro e' w' ⟨rfl, n, rfl⟩
    have hrev : rs.toArray.reverse = rs.reverse.toArray := by simp
    rw [hrev]
    have hFr : (flatK Cel.l k rs.reverse.toArray).size = xs.length * k := by rw [size_flatK, List.size_toArray, List.length_reverse, hrl]
    have hheap : (putRowK Cel.l k (Sort.ahead w n) g 0 rs.reverse.toArray).heap[g]? = some (.cells (putCells id 0 (flatK Cel.l k rs.reverse.toArray) cur) e (0, 0)) := by
     show (w.heap.modify g (onCells _))[g]? = _
     rw [Array.getElem?_modify, if_pos rfl, hh]
     rfl
    have hf : Fr [g] w (putRowK Cel.l k (Sort.ahead w n) g 0 rs.reverse.toArray) := by
     refine ⟨rfl, rfl, rfl, ?_, fun b hb hnb => ?_⟩
     ·show w.heap.size <= (w.heap.modify g _).size
      simp
     ·show (w.heap.modify g (onCells _))[b]? = _
      rw [Array.getElem?_modify, if_neg (by simp at hnb; exact fun e => hnb e.symm)]
    have hAg : A g := hbs g (by simp [Value.ownBlock])
    refine ⟨_, [], [g], rfl, .tup .nil, .cons (b := [g]) (bs := []) (.own hk (us := rs.reverse.flatMap Cel.l) ?_ (fun x hx => h2 x (List.mem_reverse.1 hx)) (fun x hx => h3 x (List.mem_reverse.1 hx)) ?_) .nil, by simp, ?_, ?_⟩
    ·refine (r1.rev.stay ⟨fun b hb hnb => hf.block b hb fun hm => ?_, fun b hb hq => ?_⟩).flat
     ·simp at hm; subst hm; exact hnb hAg
     ·rcases hq with hq | hq
      ·exact hq.1
      ·simp at hq; subst hq; exact hAg
    ·refine ⟨by rw [Vm, List.length_reverse, List.length_reverse, hrl], .inr ⟨g, cap, _, by rw [List.length_reverse, hz], hg, hheap, by rw [List.length_reverse]; exact hn, hm, by simp [putCells, hs], ?_⟩⟩
     have := UL (cur := cur) (fl := flatK Cel.l k rs.reverse.toArray) (by rw [hFr]; exact hle)
     rw [hFr, Vg hk] at this
     rw [List.length_reverse]
     exact this
    ·intro b hb
     simp at hb
     subst hb
     exact ⟨.inl (by simp [Value.ownBlock]), qk hheap⟩
    ·exact hf
end Go.Bl
namespace Go.Bl
open Go.RowKit Go.Proofs Go.Shelf
def qij : Ren := ⟨fun | 35 => 44 | n => n, fun | 3 => 3 | 4 => 4 | 22 => 51 | 23 => 36 | n => n, fun n => n⟩
def qhY : Ren := ⟨fun | 35 => 102 | n => n, fun | 3 => 3 | 4 => 4 | 22 => 105 | 23 => 108 | n => n, fun n => n⟩
theorem qhW : SlLaysE0.n35 Tryz.prog qij := {
 mixed := by kernel_rfl
 f35 := ⟨"slices.Reverse[[]bailee/sha.Digest,bailee/sha.Digest]", by decide, by kernel_rfl⟩
 t0 := by kernel_rfl
 a0 := fun w => by kernel_rfl
 z0 := fun w => by kernel_rfl
 v0 := fun w => by kernel_rfl
 t3 := by kernel_rfl
 a3 := fun w => by kernel_rfl
 z3 := fun w => by kernel_rfl
 v3 := fun w => by kernel_rfl
 t4 := by kernel_rfl
 a4 := fun w => by kernel_rfl
 z4 := fun w => by kernel_rfl
 v4 := fun w => by kernel_rfl
 t22 := by kernel_rfl
 a22 := fun w => by kernel_rfl
 z22 := fun w => by kernel_rfl
 v22 := fun w => by kernel_rfl }
theorem qhS : SlLaysE0.n35 Tryz.prog qhY := {
 mixed := by kernel_rfl
 f35 := ⟨"slices.Reverse[[]bailee/path.turn,bailee/path.turn]", by decide, by kernel_rfl⟩
 t0 := by kernel_rfl
 a0 := fun w => by kernel_rfl
 z0 := fun w => by kernel_rfl
 v0 := fun w => by kernel_rfl
 t3 := by kernel_rfl
 a3 := fun w => by kernel_rfl
 z3 := fun w => by kernel_rfl
 v3 := fun w => by kernel_rfl
 t4 := by kernel_rfl
 a4 := fun w => by kernel_rfl
 z4 := fun w => by kernel_rfl
 v4 := fun w => by kernel_rfl
 t22 := by kernel_rfl
 a22 := fun w => by kernel_rfl
 z22 := fun w => by kernel_rfl
 v22 := fun w => by kernel_rfl }
theorem qeW (Z : Ad) (xs : List PV) : qi Z 44 [.own 36 32 xs] (.tup []) [.own 36 32 xs.reverse] :=
 ZM (ρ := qij) qhW (fun w => by kernel_rfl) (fun w => by kernel_rfl) (Bears.enters qhW.f35 Y72)
theorem qej (Z : Ad) (xs : List PV) : qi Z 102 [.own 108 3 xs] (.tup []) [.own 108 3 xs.reverse] :=
 ZM (ρ := qhY) qhS (fun w => by kernel_rfl) (fun w => by kernel_rfl) (Bears.enters qhS.f35 Y72)
end Go.Bl
