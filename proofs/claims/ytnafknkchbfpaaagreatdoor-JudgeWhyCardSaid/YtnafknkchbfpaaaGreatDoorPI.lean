import Derived.Test.YtnafknkchbfpaaaGreatDoorPH
import Derived.Shelf.SlicesQ.Reverse
set_option linter.unusedVariables false
set_option linter.unusedSimpArgs false
set_option maxRecDepth 1000000
set_option maxHeartbeats 8000000
namespace Go.Bl
open Go.RowKit Go.Proofs
def aP (xs : List UInt8) : PV := .a (xs.map u8P)
attribute [local irreducible] qw
theorem UP (Z : Ad) (h : Hh) (hh : ∀ α g, h α g = g ()) (xs : List UInt8) (hl : xs.length <= 100000000) : qb Z 161 [.pv (bH h xs)] (.own 5 1 (h _ fun _ => ((0 : UInt8) :: xs).map u8P)) [.any] := by
 refine qh Z h hh ⟨Tryz.func161, Tryz.ntmps161⟩ rfl rfl rfl rfl rfl fun C hC => ?_
 unfold Tryz.f161
 cbv
 repeat' first
  | exact .inr trivial
  | apply And.intro
  | exact sq
  | trivial
theorem qcy (Z : Ad) (h : Hh) (hh : ∀ α g, h α g = g ()) (xs : List UInt8) (hl : xs.length <= 10000000) : qb Z 131 [.pv (bH h xs)] (.pv (aH h u8P (qw (0 :: xs)))) [.any] := by
 refine qh Z h hh ⟨Tryz.func131, Tryz.ntmps131⟩ rfl rfl rfl rfl rfl fun C hC => ?_
 unfold Tryz.f131
 cbv
 refine ⟨_, _, _, hC _ _ _ _ (UP Z h hh xs Y44), ?_⟩
 cbv
 repeat' first
  | exact .inr trivial
  | apply And.intro
  | exact sq
  | trivial
 refine ⟨_, _, _, hC _ _ _ _ (xu Z h hh [0 :: xs] Y46), ?_⟩
 cbv
 repeat' first
  | exact .inr trivial
  | apply And.intro
  | exact sq
  | trivial
end Go.Bl
namespace Go.Bl
open Go.RowKit Go.Proofs
attribute [local irreducible] qw
theorem VA (Z : Ad) (h : Hh) (hh : ∀ α g, h α g = g ()) (xs ys : List UInt8) (hx : xs.length = 32) (hy : ys.length = 32) : qb Z 164 [.pv (aH h u8P xs), .pv (aH h u8P ys)] (.own 5 1 (h _ fun _ => ((1 : UInt8) :: (xs ++ ys)).map u8P)) [.any, .any] := by
 refine qh Z h hh ⟨Tryz.func164, Tryz.ntmps164⟩ rfl rfl rfl rfl rfl fun C hC => ?_
 unfold Tryz.f164
 cbv
 repeat' first
  | exact .inr trivial
  | apply And.intro
  | exact sq
  | trivial
 refine ⟨_, _, _, hC _ _ _ _ (Z3 Z h hh [[1], xs, ys] Y77 Y46), ?_⟩
 cbv
 repeat' first
  | exact .inr trivial
  | apply And.intro
  | exact sq
  | trivial
end Go.Bl
namespace Go.Bl
open Go.RowKit Go.Shelf Go.Sort
structure Cel (k : Nat) where
 l : List Value
 len : l.length = k
 one : ∀ v ∈ l, v.oneCell' = true
instance (k : Nat) : Inhabited (Cel k) := ⟨⟨List.replicate k (.bool false), by simp, fun v hv => by rw [List.eq_of_mem_replicate hv]; rfl⟩⟩
variable {A A' : Nat -> Prop} {w w' : World} {k : Nat}
inductive Rw (A : Nat -> Prop) (w : World) : List PV -> List (Cel k) -> Prop
 | nil : Rw A w [] []
 | cons {x : PV} {r : Cel k} {xs : List PV} {rs : List (Cel k)} : qe A w x.cells r.l -> Rw A w xs rs -> Rw A w (x :: xs) (r :: rs)
theorem Rw.stay (h : js A A' w w') : ∀ {xs : List PV} {rs : List (Cel k)}, Rw A w xs rs -> Rw A' w' xs rs
 | _, _, .nil => .nil
 | _, _, .cons h1 h2 => .cons (h1.stay h) (Rw.stay h h2)
theorem Rw.app : ∀ {xs ys : List PV} {rs ss : List (Cel k)}, Rw A w xs rs -> Rw A w ys ss -> Rw A w (xs ++ ys) (rs ++ ss)
 | _, _, _, _, .nil, h => h
 | _, _, _, _, .cons h1 h2, h => .cons h1 (Rw.app h2 h)
theorem Rw.rev : ∀ {xs : List PV} {rs : List (Cel k)}, Rw A w xs rs -> Rw A w xs.reverse rs.reverse
 | _, _, .nil => .nil
 | _, _, .cons h1 h2 => by
  rw [List.reverse_cons, List.reverse_cons]
  exact (Rw.rev h2).app (.cons h1 .nil)
theorem Rw.flat : ∀ {xs : List PV} {rs : List (Cel k)}, Rw A w xs rs -> qe A w (xs.flatMap PV.cells) (rs.flatMap Cel.l)
 | _, _, .nil => .nil
 | _, _, .cons h1 h2 => by
  rw [List.flatMap_cons, List.flatMap_cons]
  exact h1.app (Rw.flat h2)
theorem Rw.length : ∀ {xs : List PV} {rs : List (Cel k)}, Rw A w xs rs -> xs.length = rs.length
 | _, _, .nil => rfl
 | _, _, .cons _ h2 => by simp [Rw.length h2]
theorem Ly : ∀ {xs : List PV} {us : List Value}, qe A w (xs.flatMap PV.cells) us -> (∀ x ∈ xs, x.cells.length = k) -> (∀ x ∈ xs, ∀ c ∈ x.cells, c.one = true) -> ∃ rs : List (Cel k), Rw A w xs rs /\ rs.flatMap Cel.l = us
 | [], _, .nil, _, _ => ⟨[], .nil, rfl⟩
 | x :: xs, us, h, h1, h2 => by
  rw [List.flatMap_cons] at h
  obtain ⟨u1, u2, rfl, g1, g2⟩ := h.split
  obtain ⟨rs, g3, g4⟩ := Ly (xs := xs) g2 (fun y hy => h1 y (List.mem_cons_of_mem _ hy)) (fun y hy => h2 y (List.mem_cons_of_mem _ hy))
  exact ⟨⟨u1, by rw [<- g1.length]; exact h1 x List.mem_cons_self, g1.ones (h2 x List.mem_cons_self)⟩ :: rs, .cons g1 g3, by rw [List.flatMap_cons, g4]⟩
theorem Ze : ∀ (rs : List (Cel k)), (rs.flatMap Cel.l).length = rs.length * k
 | [] => by simp
 | r :: rs => by rw [List.flatMap_cons, List.length_append, r.len, Ze rs, List.length_cons, Nat.add_mul, Nat.one_mul, Nat.add_comm]
theorem Yt (hk : 0 < k) : ∀ (rs : List (Cel k)) (j : Nat), j < rs.length * k -> (rs.flatMap Cel.l)[j]? = some ((rs.getD (j / k) default).l.getD (j % k) undef)
 | [], j, h => by simp at h
 | r :: rs, j, h => by
  rw [List.flatMap_cons, List.getElem?_append, r.len]
  by_cases hj : j < k
  ·rw [if_pos hj, Nat.div_eq_of_lt hj, Nat.mod_eq_of_lt hj, List.getD_cons_zero, List.getD_eq_getElem?_getD, List.getElem?_eq_getElem (by rw [r.len]; exact hj)]
   rfl
  ·have hge : k <= j := by omega
   rw [List.length_cons, Nat.add_mul, Nat.one_mul] at h
   rw [if_neg hj, Yt hk rs (j - k) Y44, Nat.div_eq_sub_div hk hge, List.getD_cons_succ, Nat.mod_eq_sub_mod hge]
theorem Ul (hk : 0 < k) (rs : List (Cel k)) : (flatK Cel.l k rs.toArray).toList = rs.flatMap Cel.l := by
 apply List.ext_getElem?
 intro j
 have hs : (flatK Cel.l k rs.toArray).size = rs.length * k := by simp
 by_cases hj : j < rs.length * k
 ·rw [Yt hk rs j hj]
  have h1 := get_flatK Cel.l k rs.toArray j Y68
  rw [getElem!_pos _ j (by rw [hs]; exact hj)] at h1
  rw [Array.getElem?_toList, Array.getElem?_eq_getElem (by rw [hs]; exact hj), h1]
  have hd : j / k < rs.length := Nat.div_lt_of_lt_mul (by rw [Nat.mul_comm]; exact hj)
  have hm : j % k < k := Nat.mod_lt _ hk
  have e : rs.toArray[j / k]! = rs.getD (j / k) default := by
   rw [getElem!_pos _ _ (by simpa using hd), List.getD_eq_getElem?_getD, List.getElem?_eq_getElem hd]
   simp
  rw [e]
  congr 1
  have key : ∀ (l : List Value), l.length = k -> l[j % k]! = l.getD (j % k) undef := fun l hl => by
   rw [getElem!_pos l _ (by rw [hl]; exact hm), List.getD_eq_getElem?_getD, List.getElem?_eq_getElem (by rw [hl]; exact hm)]
   rfl
  exact key _ (rs.getD (j / k) default).len
 ·rw [List.getElem?_eq_none (by rw [Array.length_toList, hs]; omega), List.getElem?_eq_none (by rw [Ze]; omega)]
theorem Ud {cur fl : Array Value} (h : fl.size <= cur.size) : (putCells id 0 fl cur).toList.take fl.size = fl.toList := by
 apply List.ext_getElem?
 intro j
 rw [List.getElem?_take]
 by_cases hj : j < fl.size
 ·have : j < cur.size := by omega
  rw [if_pos hj, Array.getElem?_toList, putCells, Array.getElem?_mapIdx, Array.getElem?_eq_getElem this, Array.getElem?_toList, Array.getElem?_eq_getElem hj]
  simp [hj]
 ·rw [if_neg hj, List.getElem?_eq_none Y68]
theorem YE {P : Program} {ρ : Ren} {G : Gv} {e : TypeId} {xs : List PV} (L : Go.Proofs.SlLaysE0.n35 P ρ) (aE : ∀ w, (isAgg (ρ.t 23)).run P w = .ok true w) (zE : ∀ w, (Go.sizeOf (ρ.t 23)).run P w = .ok k w) (hE : Jy P (ρ.f 35)) :
  Con P G (ρ.f 35) [.own e k xs] (.tup []) [.own e k xs.reverse] := by
 refine .mk' rfl ⟨hE, fun w vals bs A hA hbs hnd henv hr => ?_⟩
 cases hr with
 | cons hr hn =>
  cases hn
  cases hr with
  | @own _ _ _ v us hk h1 h2 h3 h4 =>
   obtain ⟨hl, h5⟩ := h4
   rcases h5 with ⟨rfl, h0⟩ | ⟨g, cap, cur, rfl, hg, hh, hn, hm, hs, ht⟩
   ·have hx : xs = [] := List.eq_nil_of_length_eq_zero h0
    subst hx
    refine (Go.Proofs.AnyQ.slices_Reverse_empty L none 0 w).mono ?_
    rintro e' w' ⟨rfl, rfl⟩
    exact ⟨_, [], [], rfl, .tup .nil, .cons (b := []) (bs := []) (.own hk (us := []) .nil Y77 Y77 (World.ownsRow_nil _ _ _ _)) .nil, by simp, by simp, Fr.refl _ _⟩
   ·obtain ⟨rs, r1, r2⟩ := Ly h1 h2 h3
    have hrl := r1.length
    have hF : (flatK Cel.l k rs.toArray).toList = us := by rw [Ul hk, r2]
    have hFs : (flatK Cel.l k rs.toArray).size = xs.length * k := by rw [size_flatK, List.size_toArray, hrl]
    have hle : xs.length * k <= cur.size := by rw [hs]; exact Nat.mul_le_mul_right _ hn
    have hH : HoldsK Cel.l k w g 0 rs.toArray := by
     intro j hj
     rw [hFs] at hj
     refine ⟨?_, vB hh _⟩
     rw [Nat.zero_add, ja hh, getElem!_pos _ j (by rw [hFs]; exact hj)]
     have e1 : cur.toList[j]? = us[j]? := by rw [<- ht, List.getElem?_take, if_pos hj]
     rw [Array.getElem?_toList] at e1
     rw [e1, <- hF, Array.getElem?_toList, Array.getElem?_eq_getElem (by rw [hFs]; exact hj)]
     rfl
    have hz : xs.length = rs.toArray.size := by simp [hrl]
    rw [show (#[Value.slice (some ⟨g, 0, none⟩) xs.length cap] : Array Value) = #[.slice (some ⟨g, 0, none⟩) rs.toArray.size cap] by rw [hz]]
    refine (Go.Proofs.AnyQ.slices_Reverse L k aE zE Cel.l Cel.len Cel.one g 0 cap rs.toArray w hH (by rw [<- hz]; unfold maxLen at hm; omega)).mono ?_
    rintro e' w' ⟨rfl, n, rfl⟩
    have hrev : rs.toArray.reverse = rs.reverse.toArray := by simp
    rw [hrev]
    have hFr : (flatK Cel.l k rs.reverse.toArray).size = xs.length * k := by rw [size_flatK, List.size_toArray, List.length_reverse, hrl]
    have hheap : (putRowK Cel.l k (Sort.ahead w n) g 0 rs.reverse.toArray).heap[g]? = some (.cells (putCells id 0 (flatK Cel.l k rs.reverse.toArray) cur) e (0, 0)) := by
     show (w.heap.modify g (onCells _))[g]? = _
     rw [Array.getElem?_modify, if_pos rfl, hh]
     rfl
    have hf : Fr [g] w (putRowK Cel.l k (Sort.ahead w n) g 0 rs.reverse.toArray) := by
     refine ⟨rfl, rfl, rfl, ?_, fun b hb hnb => ?_⟩
     ·show w.heap.size <= (w.heap.modify g _).size
      simp
     ·show (w.heap.modify g (onCells _))[b]? = _
      rw [Array.getElem?_modify, if_neg (by simp at hnb; exact fun e => hnb e.symm)]
    have hAg : A g := hbs g (by simp [Value.ownBlock])
    refine ⟨_, [], [g], rfl, .tup .nil, .cons (b := [g]) (bs := []) (.own hk (us := rs.reverse.flatMap Cel.l) ?_ (fun x hx => h2 x (List.mem_reverse.1 hx)) (fun x hx => h3 x (List.mem_reverse.1 hx)) ?_) .nil, by simp, ?_, ?_⟩
    ·refine (r1.rev.stay ⟨fun b hb hnb => hf.block b hb fun hm => ?_, fun b hb hq => ?_⟩).flat
     ·simp at hm; subst hm; exact hnb hAg
     ·rcases hq with hq | hq
      ·exact hq.1
      ·simp at hq; subst hq; exact hAg
    ·refine ⟨by rw [Ze, List.length_reverse, List.length_reverse, hrl], .inr ⟨g, cap, _, by rw [List.length_reverse, hz], hg, hheap, by rw [List.length_reverse]; exact hn, hm, by simp [putCells, hs], ?_⟩⟩
     have := Ud (cur := cur) (fl := flatK Cel.l k rs.reverse.toArray) (by rw [hFr]; exact hle)
     rw [hFr, Ul hk] at this
     rw [List.length_reverse]
     exact this
    ·intro b hb
     simp at hb
     subst hb
     exact ⟨.inl (by simp [Value.ownBlock]), qo hheap⟩
    ·exact hf
end Go.Bl
namespace Go.Bl
open Go.RowKit Go.Proofs Go.Shelf
def qfF : Ren := ⟨fun | 35 => 165 | n => n, fun | 3 => 3 | 4 => 4 | 22 => 162 | 23 => 165 | n => n, fun n => n⟩
theorem qfB : SlLaysE0.n35 Tryz.prog qfF := {
 mixed := by kernel_rfl
 f35 := ⟨"slices.Reverse[[]bailee/path.turn,bailee/path.turn]", by decide, by kernel_rfl⟩
 t0 := by kernel_rfl
 a0 := fun w => by kernel_rfl
 z0 := fun w => by kernel_rfl
 v0 := fun w => by kernel_rfl
 t3 := by kernel_rfl
 a3 := fun w => by kernel_rfl
 z3 := fun w => by kernel_rfl
 v3 := fun w => by kernel_rfl
 t4 := by kernel_rfl
 a4 := fun w => by kernel_rfl
 z4 := fun w => by kernel_rfl
 v4 := fun w => by kernel_rfl
 t22 := by kernel_rfl
 a22 := fun w => by kernel_rfl
 z22 := fun w => by kernel_rfl
 v22 := fun w => by kernel_rfl }
theorem qc3 (Z : Ad) (xs : List PV) : qb Z 165 [.own 165 3 xs] (.tup []) [.own 165 3 xs.reverse] :=
 YE (ρ := qfF) qfB (fun w => by kernel_rfl) (fun w => by kernel_rfl) (Bears.enters qfB.f35 Y61)
end Go.Bl
namespace Go.Proofs.YtnafknkchbfpaaaGreatDoor
open Go.RowKit Go.Bl
attribute [local go_sem] Oper.semAt_some
attribute [local go_sem] Oper.semAt_some
attribute [local go_sem] Oper.semAt_some
attribute [local go_sem] Oper.semAt_some
end Go.Proofs.YtnafknkchbfpaaaGreatDoor
namespace Go.Proofs.YtnafknkchbfpaaaGreatDoor
open Go.RowKit Go.Bl Go.Shelf
attribute [local go_sem] Oper.semAt_some
attribute [local go_sem] Oper.semAt_some
end Go.Proofs.YtnafknkchbfpaaaGreatDoor
namespace Go.Proofs.YtnafknkchbfpaaaGreatDoor
open Go.RowKit Go.Bl
end Go.Proofs.YtnafknkchbfpaaaGreatDoor
