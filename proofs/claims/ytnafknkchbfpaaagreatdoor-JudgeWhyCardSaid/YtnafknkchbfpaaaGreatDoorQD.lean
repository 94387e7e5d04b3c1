import Derived.Test.YtnafknkchbfpaaaGreatDoorQC
set_option linter.unusedVariables false
set_option linter.unusedSimpArgs false
set_option maxRecDepth 1000000
set_option maxHeartbeats 8000000
namespace Go.Bl
open Go.RowKit Go.Proofs
attribute [local irreducible] qw
theorem qaX (Z : Ad) (h : Hh) (hh : ∀ α g, h α g = g ()) (b : List UInt8) (hb : b.length <= 90000000) : qb Z 130 [.pv (bH h b)] (.pv (aH h u8P (jr b))) [.any] := by
 rw [jr]
 have c1 := yl Z h hh (0 :: b) (by rw [List.length_cons]; omega)
 have e1 : (0 :: b).map u8P = .v (.int .u8 0) :: b.map u8P := rfl
 obtain ⟨d, hd⟩ := exq (qw (0 :: b))
 have l3 : d.length = 32 := by rw [<- hd]; exact jO _
 rw [hd] at c1 ⊢
 obtain ⟨m, hm⟩ := exq (0 :: b)
 rw [hm] at c1 e1
 clear hd hm
 refine qh Z h hh ⟨Tryz.func130, Tryz.ntmps130⟩ rfl rfl rfl rfl rfl fun C hC => ?_
 unfold Tryz.f130
 cbv
 repeat' first
  | exact s0
  | apply And.intro
  | exact sq
  | trivial
  | exact sx
  | (refine sy fun e => ?_; cbv)
  | (refine ⟨_, _, _, hC _ _ _ _ c1, ?_⟩; cbv; clear c1)
theorem UY (Z : Ad) (h : Hh) (hh : ∀ α g, h α g = g ()) (a b : Dg) (ha : a.length = 32) (hb : b.length = 32) : qb Z 129 [.pv (aH h u8P a), .pv (aH h u8P b)] (.pv (aH h u8P (vT a b))) [.any, .any] := by
 rw [vT]
 have c1 := yl Z h hh (1 :: (a ++ b)) Y46
 have e1 : (1 :: (a ++ b)).map u8P = .v (.int .u8 1) :: (a.map u8P ++ b.map u8P) := by rw [<- List.map_append]; rfl
 obtain ⟨d, hd⟩ := exq (qw (1 :: (a ++ b)))
 have l3 : d.length = 32 := by rw [<- hd]; exact jO _
 rw [hd] at c1 ⊢
 obtain ⟨m, hm⟩ := exq (1 :: (a ++ b))
 rw [hm] at c1 e1
 clear hd hm
 refine qh Z h hh ⟨Tryz.func129, Tryz.ntmps129⟩ rfl rfl rfl rfl rfl fun C hC => ?_
 unfold Tryz.f129
 cbv
 repeat' first
  | exact s0
  | apply And.intro
  | exact sq
  | trivial
  | exact sx
  | (refine sy fun e => ?_; cbv)
  | (refine ⟨_, _, _, hC _ _ _ _ c1, ?_⟩; cbv; clear c1)
theorem WV (n : Nat) : ∃ k, qg n = 2 ^ k /\ n <= 2 ^ (k + 1) /\ (2 ^ k < n ∨ k = 0) := by
 rcases Nat.lt_or_ge n 2 with q | q
 ·exact ⟨0, Ql Y44, by omega, .inr rfl⟩
 ·obtain ⟨k, hk⟩ := Qz n q
  obtain ⟨h1, h2, -⟩ := jf n q
  rw [hk] at h1 h2
  exact ⟨k, hk, by rw [Nat.pow_succ]; omega, .inl h1⟩
theorem Ug (Z : Ad) (h : Hh) (hh : ∀ α g, h α g = g ()) (n : Nat) (hn : n <= 1048576) : qb Z 128 [.pv (nH h n)] (.pv (nH h (qg n))) [.any] := by
 obtain ⟨k, hk, k1, k2⟩ := WV n
 rw [hk]
 have hk20 : 2 ^ k <= 1048576 := by
  rcases k2 with k2 | rfl
  ·omega
  ·decide
 obtain ⟨g, hg⟩ : ∃ g : Nat -> Nat, ∀ j, g j = 2 ^ j := ⟨fun j => 2 ^ j, fun _ => rfl⟩
 have g0 : g 0 = 1 := hg 0
 rw [<- hg k]
 replace hg := Hdq hg
 clear hk
 refine qh Z h hh ⟨Tryz.func128, Tryz.ntmps128⟩ rfl rfl rfl rfl rfl fun C hC => ?_
 unfold Tryz.f128
 cbv
 repeat' first
  | exact s0
  | apply And.intro
  | exact sq
  | trivial
  | exact sx
  | (refine sy fun e => ?_; cbv)
 refine ⟨Nat, fun j => ⟨[(0, some (.pv (nH h n))), (3, some (.pv (nH h (g j))))], []⟩, fun j => j <= k, fun j => k - j, 0, [], by omega, trivial, ⟨[], rfl, rfl, trivial, ?_, ?_, trivial⟩, ?_⟩
 ·exact sp
 ·exact sp
 intro j hj
 dsimp only
 have e1 := hg.out j
 have e2 := hg.out (j + 1)
 have hp : 2 ^ (j + 1) = 2 ^ j * 2 := Nat.pow_succ ..
 have hp2 : 2 ^ j <= 2 ^ k := Nat.pow_le_pow_right Y76 hj
 have w1 : IntKind.i64.wrap ((n : Int) - (g j : Int)) = (n : Int) - (g j : Int) := wrap_i64 Y44 Y44
 have w2 : IntKind.i64.wrap ((g j : Int) * 2) = (g (j + 1) : Int) := by rw [wrap_i64 Y44 Y44]; omega
 have tr : ((g j : Int) < (n : Int) - (g j : Int)) ↔ j < k := by
  constructor
  ·intro q
   rcases Nat.lt_or_ge j k with r | r
   ·exact r
   ·have : j = k := by omega
    subst this
    omega
  ·intro q
   have : 2 ^ (j + 1) <= 2 ^ k := Nat.pow_le_pow_right Y76 q
   omega
 clear hp hp2 k1 k2 hg e1 e2 hk20
 by_cases jk : j < k
 ·have t1 := tr.2 jk
  clear tr
  cbv
  repeat' first
   | exact s0
   | apply And.intro
   | exact sq
   | trivial
   | (refine sz fun e => ?_; simp [hh, w1, t1] at e <;> (try simp only [natc] at *) <;> omega)
   | (refine sy fun e => ?_; cbv)
  refine ⟨j + 1, by omega, by show k - (j + 1) < k - j; omega, ⟨[], rfl, rfl, trivial, ?_, ?_, trivial⟩⟩
  ·exact sp
  ·exact sp
 ·have t1 : ¬ (g j : Int) < (n : Int) - (g j : Int) := fun q => jk (tr.1 q)
  have e' : j = k := by omega
  subst e'
  clear tr jk
  cbv
  repeat' first
   | exact s0
   | apply And.intro
   | exact sq
   | trivial
   | (refine sz fun e => ?_; simp [hh, w1, t1] at e <;> (try simp only [natc] at *) <;> omega)
   | (refine sy fun e => ?_; cbv)
theorem YF (Z : Ad) (h : Hh) (hh : ∀ α g, h α g = g ()) : ∀ (n i : Nat), n <= 512 -> i < n -> qb Z 144 [.pv (nH h n), .pv (nH h i)] (.pv (nH h (qT n i))) [.any, .any] := by
 intro n
 induction n using Nat.strongRecOn with
 | _ n ih =>
 intro i hn hi
 by_cases h1 : n = 1
 ·subst h1
  rw [show qT 1 i = 0 by rw [qT, vh Y44]; rfl]
  have i0 : i = 0 := by omega
  subst i0
  clear ih hn hi
  refine qh Z h hh ⟨Tryz.func144, Tryz.ntmps144⟩ rfl rfl rfl rfl rfl fun C hC => ?_
  unfold Tryz.f144
  cbv
  repeat' first
   | exact s0
   | apply And.intro
   | exact sq
   | trivial
   | exact sx
   | (refine sy fun e => ?_; cbv)
 have hb := jf n Y44
 have c1 := Ug Z h hh n Y44
 have hl : qT n i <= 512 := by have := uN n i Y44; unfold qT; omega
 by_cases hs : i < qg n
 ·have c2 := ih (qg n) hb.1 i Y44 hs
  have e : qT n i = qT (qg n) i + 1 := by rw [qT, ul Y44 hs]; rfl
  rw [e] at hl ⊢
  obtain ⟨s, hs'⟩ : ∃ s, qg n = s := ⟨_, rfl⟩
  rw [hs'] at c1 c2 hs hl ⊢
  obtain ⟨l, hl'⟩ : ∃ l, qT s i = l := ⟨_, rfl⟩
  rw [hl'] at c2 hl ⊢
  have w : IntKind.i64.wrap (1 + (l : Int)) = ((l + 1 : Nat) : Int) := by rw [wrap_i64 Y44 Y44]; omega
  have t1 : ¬ n <= i := by omega
  have t2 : ¬ 512 < n := by omega
  clear ih hb e hs' hl' hl
  refine qh Z h hh ⟨Tryz.func144, Tryz.ntmps144⟩ rfl rfl rfl rfl rfl fun C hC => ?_
  unfold Tryz.f144
  cbv
  repeat' first
   | exact s0
   | apply And.intro
   | exact sq
   | trivial
   | (refine sz fun e => ?_; simp [hh, h1, t1, t2, hs] at e <;> (try simp only [natc] at *) <;> omega)
   | (refine sy fun e => ?_; cbv)
   | (refine ⟨_, _, _, hC _ _ _ _ c1, ?_⟩; cbv; clear c1)
   | (refine ⟨_, _, _, hC _ _ _ _ c2, ?_⟩; cbv; clear c2)
 ·have c2 := ih (n - qg n) Y44 (i - qg n) Y44 Y44
  have e : qT n i = qT (n - qg n) (i - qg n) + 1 := by rw [qT, zG Y44 hs]; rfl
  rw [e] at hl ⊢
  obtain ⟨s, hs'⟩ : ∃ s, qg n = s := ⟨_, rfl⟩
  rw [hs'] at c1 c2 hs hl hb ⊢
  obtain ⟨l, hl'⟩ : ∃ l, qT (n - s) (i - s) = l := ⟨_, rfl⟩
  rw [hl'] at c2 hl ⊢
  have w : IntKind.i64.wrap (1 + (l : Int)) = ((l + 1 : Nat) : Int) := by rw [wrap_i64 Y44 Y44]; omega
  have w1 : IntKind.i64.wrap ((n : Int) - (s : Int)) = ((n - s : Nat) : Int) := by rw [wrap_i64 Y44 Y44]; omega
  have w2 : IntKind.i64.wrap ((i : Int) - (s : Int)) = ((i - s : Nat) : Int) := by rw [wrap_i64 Y44 Y44]; omega
  obtain ⟨a, ha⟩ := exq (n - s)
  obtain ⟨b, hb'⟩ : ∃ b, i - s = b := ⟨_, rfl⟩
  rw [ha] at c2 w1
  rw [hb'] at c2 w2
  have t1 : ¬ n <= i := by omega
  have t2 : ¬ 512 < n := by omega
  clear ih hb e hs' hl' hl ha hb'
  refine qh Z h hh ⟨Tryz.func144, Tryz.ntmps144⟩ rfl rfl rfl rfl rfl fun C hC => ?_
  unfold Tryz.f144
  cbv
  repeat' first
   | exact s0
   | apply And.intro
   | exact sq
   | trivial
   | (refine sz fun e => ?_; simp [hh, h1, t1, t2, hs] at e <;> (try simp only [natc] at *) <;> omega)
   | (refine sy fun e => ?_; cbv)
   | (refine ⟨_, _, _, hC _ _ _ _ c1, ?_⟩; cbv; clear c1)
   | (refine ⟨_, _, _, hC _ _ _ _ c2, ?_⟩; cbv; clear c2)
theorem qd1 (Z : Ad) (h : Hh) (hh : ∀ α g, h α g = g ()) (n i : Int) (hb : ¬(n <= 512 /\ 0 <= i /\ i < n)) : qb Z 144 [.pv (iH h n), .pv (iH h i)] (.pv (iH h (-1))) [.any, .any] := by
 by_cases a1 : 512 < n
 ·clear hb
  refine qh Z h hh ⟨Tryz.func144, Tryz.ntmps144⟩ rfl rfl rfl rfl rfl fun C hC => ?_
  unfold Tryz.f144
  cbv
  repeat' first
   | exact s0
   | apply And.intro
   | exact sq
   | trivial
   | (refine sz fun e => ?_; simp [hh, a1] at e <;> (try simp only [natc] at *) <;> omega)
   | (refine sy fun e => ?_; cbv)
 by_cases a2 : i < 0
 ·clear hb
  refine qh Z h hh ⟨Tryz.func144, Tryz.ntmps144⟩ rfl rfl rfl rfl rfl fun C hC => ?_
  unfold Tryz.f144
  cbv
  repeat' first
   | exact s0
   | apply And.intro
   | exact sq
   | trivial
   | (refine sz fun e => ?_; simp [hh, a1, a2] at e <;> (try simp only [natc] at *) <;> omega)
   | (refine sy fun e => ?_; cbv)
 have a3 : n <= i := by omega
 clear hb
 refine qh Z h hh ⟨Tryz.func144, Tryz.ntmps144⟩ rfl rfl rfl rfl rfl fun C hC => ?_
 unfold Tryz.f144
 cbv
 repeat' first
  | exact s0
  | apply And.intro
  | exact sq
  | trivial
  | (refine sz fun e => ?_; simp [hh, a1, a2, a3] at e <;> (try simp only [natc] at *) <;> omega)
  | (refine sy fun e => ?_; cbv)
theorem KS {n i : Nat} {d t : Dg} {q : List Dg} (h : 2 <= n) (hi : i < qg n) (hq : q.length = qT (qg n) i) : jR n i d (q ++ [t]) = vT (jR (qg n) i d q) t := by
 rw [jR, ul h hi, List.reverse_cons, vI _ _ _ _ _ (by rw [List.length_reverse]; exact hq.symm)]; rfl
theorem YN {n i : Nat} {d t : Dg} {q : List Dg} (h : 2 <= n) (hi : ¬ i < qg n) (hq : q.length = qT (n - qg n) (i - qg n)) : jR n i d (q ++ [t]) = vT t (jR (n - qg n) (i - qg n) d q) := by
 rw [jR, zG h hi, List.reverse_cons, vI _ _ _ _ _ (by rw [List.length_reverse]; exact hq.symm)]; rfl
theorem ZR {n i : Nat} {d : Dg} {q : List Dg} (hd : d.length = 32) (hq : q.length = qT n i) : (jR n i d q).length = 32 := by
 have hl : (jp n i).reverse.length = q.length := by rw [List.length_reverse]; exact hq.symm
 have := Xb (d := d) hl hd _ (Nat.le_refl _)
 rwa [YX hl] at this
theorem qa9 (Z : Ad) (h : Hh) (hh : ∀ α g, h α g = g ()) : ∀ (n i : Nat) (d : Dg) (ps : List Dg), n <= 512 -> i < n -> d.length = 32 -> (∀ p ∈ ps, p.length = 32) -> ps.length = qT n i -> qb Z 145 [.pv (nH h n), .pv (nH h i), .pv (aH h u8P d), .pv (lH h aP ps)] (.pv (aH h u8P (jR n i d ps))) [.any, .any, .any, .any] := by
 intro n
 induction n using Nat.strongRecOn with
 | _ n ih =>
 intro i d ps hn hi hd hp hps
 by_cases h1 : n = 1
 ·subst h1
  have e : qT 1 i = 0 := by rw [qT, vh Y44]; rfl
  rw [e] at hps
  have p0 : ps = [] := List.eq_nil_of_length_eq_zero hps
  subst p0
  rw [show jR 1 i d [] = d by rw [jR, vh Y44]; rfl]
  clear ih hn hi e hps hp
  refine qh Z h hh ⟨Tryz.func145, Tryz.ntmps145⟩ rfl rfl rfl rfl rfl fun C hC => ?_
  unfold Tryz.f145
  cbv
  repeat' first
   | exact s0
   | apply And.intro
   | exact sq
   | trivial
   | exact sx
   | (refine sy fun e => ?_; cbv)
 have hb := jf n Y44
 have c1 := Ug Z h hh n Y44
 have hl : qT n i <= 512 := by have := uN n i Y44; unfold qT; omega
 by_cases hs : i < qg n
 ·have e : qT n i = qT (qg n) i + 1 := by rw [qT, ul Y44 hs]; rfl
  rw [e] at hl hps
  obtain ⟨q, t, rfl⟩ : ∃ q t, ps = q ++ [t] := ⟨ps.dropLast, ps.getLast (by intro g; subst g; simp at hps), (List.dropLast_concat_getLast _).symm⟩
  have hq : q.length = qT (qg n) i := by rw [List.length_append, List.length_singleton] at hps; omega
  have c2 := ih (qg n) hb.1 i d q Y44 hs hd (fun p hp' => hp p (List.mem_append_left _ hp')) hq
  rw [KS Y44 hs hq]
  have lt : t.length = 32 := hp t Y77
  have lf := ZR (n := qg n) (i := i) hd hq
  have c3 := UY Z h hh (jR (qg n) i d q) t lf lt
  obtain ⟨s, hs'⟩ : ∃ s, qg n = s := ⟨_, rfl⟩
  rw [hs'] at c1 c2 c3 hs hl hq lf ⊢
  obtain ⟨f, hf⟩ := exq (jR s i d q)
  rw [hf] at c2 c3 lf ⊢
  rw [<- hq] at hl
  have lx : ((q ++ [t]).map aP).length = q.length + 1 := by simp
  have g1 : ∀ b : q.length < ((q ++ [t]).map aP).length, ((q ++ [t]).map aP)[q.length]'b = .a (t.map u8P) := fun b => by simp [aP]
  have g2 : ((q ++ [t]).map aP).take q.length = q.map aP := by simp
  obtain ⟨X, hX⟩ := exq ((q ++ [t]).map aP)
  obtain ⟨Y, hY⟩ := exq (q.map aP)
  obtain ⟨m, hm⟩ := exq (q.length)
  rw [lH, hX]
  rw [lH, hY] at c2
  rw [hX, hm] at lx g1 g2
  rw [hY] at g2
  rw [hm] at hl
  have w0 : IntKind.i64.wrap (m : Int) = (m : Int) := wrap_i64 Y44 Y44
  clear hX hY hm
  have ln : (vT f t).length = 32 := Vb _ _
  obtain ⟨g, hg⟩ := exq (vT f t)
  rw [hg] at c3 ln ⊢
  clear ih hb e hs' hp hps hq hf hg hl hn hi
  refine qh Z h hh ⟨Tryz.func145, Tryz.ntmps145⟩ rfl rfl rfl rfl rfl fun C hC => ?_
  unfold Tryz.f145
  cbv
  repeat' first
   | exact s0
   | apply And.intro
   | exact sq
   | (refine fun (_ : PUnit) => ?_; simp [hh, *, YA]; done)
   | trivial
   | (refine sz fun e => ?_; simp [hh, h1, hs] at e <;> (try simp only [natc] at *) <;> omega)
   | (refine sy fun e => ?_; cbv)
   | (refine ⟨_, _, _, hC _ _ _ _ c1, ?_⟩; cbv; clear c1)
   | (refine ⟨_, _, _, hC _ _ _ _ c2, ?_⟩; cbv; clear c2)
   | (refine ⟨_, _, _, hC _ _ _ _ c3, ?_⟩; cbv; clear c3)
 ·have e : qT n i = qT (n - qg n) (i - qg n) + 1 := by rw [qT, zG Y44 hs]; rfl
  rw [e] at hl hps
  obtain ⟨q, t, rfl⟩ : ∃ q t, ps = q ++ [t] := ⟨ps.dropLast, ps.getLast (by intro g; subst g; simp at hps), (List.dropLast_concat_getLast _).symm⟩
  have hq : q.length = qT (n - qg n) (i - qg n) := by rw [List.length_append, List.length_singleton] at hps; omega
  have c2 := ih (n - qg n) Y44 (i - qg n) d q Y44 Y44 hd (fun p hp' => hp p (List.mem_append_left _ hp')) hq
  rw [YN Y44 hs hq]
  have lt : t.length = 32 := hp t Y77
  have lf := ZR (n := n - qg n) (i := i - qg n) hd hq
  have c3 := UY Z h hh t (jR (n - qg n) (i - qg n) d q) lt lf
  obtain ⟨s, hs'⟩ : ∃ s, qg n = s := ⟨_, rfl⟩
  rw [hs'] at c1 c2 c3 hs hl hq lf hb ⊢
  have w1 : IntKind.i64.wrap ((n : Int) - (s : Int)) = ((n - s : Nat) : Int) := by rw [wrap_i64 Y44 Y44]; omega
  have w2 : IntKind.i64.wrap ((i : Int) - (s : Int)) = ((i - s : Nat) : Int) := by rw [wrap_i64 Y44 Y44]; omega
  obtain ⟨a, ha⟩ := exq (n - s)
  obtain ⟨b, hb'⟩ : ∃ b, i - s = b := ⟨_, rfl⟩
  rw [ha] at w1 c2 c3 lf hq ⊢
  rw [hb'] at w2 c2 c3 lf hq ⊢
  obtain ⟨f, hf⟩ := exq (jR a b d q)
  rw [hf] at c2 c3 lf ⊢
  rw [ha, hb', <- hq] at hl
  have lx : ((q ++ [t]).map aP).length = q.length + 1 := by simp
  have g1 : ∀ b : q.length < ((q ++ [t]).map aP).length, ((q ++ [t]).map aP)[q.length]'b = .a (t.map u8P) := fun b => by simp [aP]
  have g2 : ((q ++ [t]).map aP).take q.length = q.map aP := by simp
  obtain ⟨X, hX⟩ := exq ((q ++ [t]).map aP)
  obtain ⟨Y, hY⟩ := exq (q.map aP)
  obtain ⟨m, hm⟩ := exq (q.length)
  rw [lH, hX]
  rw [lH, hY] at c2
  rw [hX, hm] at lx g1 g2
  rw [hY] at g2
  rw [hm] at hl
  have w0 : IntKind.i64.wrap (m : Int) = (m : Int) := wrap_i64 Y44 Y44
  clear hX hY hm
  have ln : (vT t f).length = 32 := Vb _ _
  obtain ⟨g, hg⟩ := exq (vT t f)
  rw [hg] at c3 ln ⊢
  clear ih hb e hs' hp hps hq hf hg hl hn hi ha hb'
  refine qh Z h hh ⟨Tryz.func145, Tryz.ntmps145⟩ rfl rfl rfl rfl rfl fun C hC => ?_
  unfold Tryz.f145
  cbv
  repeat' first
   | exact s0
   | apply And.intro
   | exact sq
   | (refine fun (_ : PUnit) => ?_; simp [hh, *, YA]; done)
   | trivial
   | (refine sz fun e => ?_; simp [hh, h1, hs] at e <;> (try simp only [natc] at *) <;> omega)
   | (refine sy fun e => ?_; cbv)
   | (refine ⟨_, _, _, hC _ _ _ _ c1, ?_⟩; cbv; clear c1)
   | (refine ⟨_, _, _, hC _ _ _ _ c2, ?_⟩; cbv; clear c2)
   | (refine ⟨_, _, _, hC _ _ _ _ c3, ?_⟩; cbv; clear c3)
theorem qbQ (Z : Ad) (h : Hh) (hh : ∀ α g, h α g = g ()) (root : Dg) (n : Nat) (i : Int) (leaf : List UInt8) (ps : List Dg) (hb : ¬((n : Int) <= 512 /\ 0 <= i /\ i < n)) : qb Z 100 [.pv (aH h u8P root), .pv (nH h n), .pv (iH h i), .pv (bH h leaf), .pv (lH h aP ps)] (.pv (iH h 1)) [.any, .any, .any, .any, .any] := by
 have c1 := qd1 Z h hh n i hb
 clear hb
 refine qh Z h hh ⟨Tryz.func100, Tryz.ntmps100⟩ rfl rfl rfl rfl rfl fun C hC => ?_
 unfold Tryz.f100
 cbv
 repeat' first
  | exact s0
  | apply And.intro
  | exact sq
  | trivial
  | exact sx
  | (refine sy fun e => ?_; cbv)
  | (refine ⟨_, _, _, hC _ _ _ _ c1, ?_⟩; cbv; clear c1)
theorem qab (Z : Ad) (h : Hh) (hh : ∀ α g, h α g = g ()) (root : Dg) (n i : Nat) (hn : n <= 512) (hi : i < n) (leaf : List UInt8) (ps : List Dg) (hb : qT n i ≠ ps.length) : qb Z 100 [.pv (aH h u8P root), .pv (nH h n), .pv (nH h i), .pv (bH h leaf), .pv (lH h aP ps)] (.pv (iH h 8)) [.any, .any, .any, .any, .any] := by
 have c1 := YF Z h hh n i hn hi
 obtain ⟨l, hl⟩ := exq (qT n i)
 rw [hl] at c1 hb
 have nb : ¬ (l : Int) = (ps.length : Int) := by omega
 have nz : ¬ (l : Int) < 0 := by omega
 clear hl hn hi hb
 refine qh Z h hh ⟨Tryz.func100, Tryz.ntmps100⟩ rfl rfl rfl rfl rfl fun C hC => ?_
 unfold Tryz.f100
 cbv
 repeat' first
  | exact s0
  | apply And.intro
  | exact sq
  | trivial
  | (refine sz fun e => ?_; simp [hh, nb, nz] at e <;> (try simp only [natc] at *) <;> omega)
  | (refine sy fun e => ?_; cbv)
  | (refine ⟨_, _, _, hC _ _ _ _ c1, ?_⟩; cbv; clear c1)
theorem qbx (Z : Ad) (h : Hh) (hh : ∀ α g, h α g = g ()) (root : Dg) (n i : Nat) (hn : n <= 512) (hi : i < n) (leaf : List UInt8) (hl : leaf.length <= 10000000) (ps : List Dg) (hp : ∀ p ∈ ps, p.length = 32) (hps : qT n i = ps.length) (hr : root.length = 32) : qb Z 100 [.pv (aH h u8P root), .pv (nH h n), .pv (nH h i), .pv (bH h leaf), .pv (lH h aP ps)] (.pv (nH h (if jR n i (jr leaf) ps = root then 0 else 15))) [.any, .any, .any, .any, .any] := by
 have c1 := YF Z h hh n i hn hi
 have c2 := qaX Z h hh leaf Y44
 have c3 := qa9 Z h hh n i (jr leaf) ps hn hi (yr _) hp hps.symm
 have lf := ZR (n := n) (i := i) (yr leaf) hps.symm
 obtain ⟨d, hd⟩ := exq (jr leaf)
 rw [hd] at c2 c3 lf ⊢
 obtain ⟨f, hf⟩ := exq (jR n i d ps)
 rw [hf] at c3 lf ⊢
 rw [hps] at c1
 have nz : ¬ (ps.length : Int) < 0 := by omega
 clear hp hn hi hps hd hf hl
 by_cases hq : f = root
 ·subst hq
  rw [if_pos rfl]
  refine qh Z h hh ⟨Tryz.func100, Tryz.ntmps100⟩ rfl rfl rfl rfl rfl fun C hC => ?_
  unfold Tryz.f100
  cbv
  repeat' first
   | exact s0
   | apply And.intro
   | exact sq
   | trivial
   | (refine sz fun e => ?_; simp [hh, nz, lf, hr] at e <;> (try simp only [natc] at *) <;> omega)
   | (refine sy fun e => ?_; cbv)
   | (refine ⟨_, _, _, hC _ _ _ _ c1, ?_⟩; cbv; clear c1)
   | (refine ⟨_, _, _, hC _ _ _ _ c2, ?_⟩; cbv; clear c2)
   | (refine ⟨_, _, _, hC _ _ _ _ c3, ?_⟩; cbv; clear c3)
 ·rw [if_neg hq]
  have hb' : (f == root) = false := by simpa using hq
  refine qh Z h hh ⟨Tryz.func100, Tryz.ntmps100⟩ rfl rfl rfl rfl rfl fun C hC => ?_
  unfold Tryz.f100
  cbv
  repeat' first
   | exact s0
   | apply And.intro
   | exact sq
   | trivial
   | (refine sz fun e => ?_; simp [hh, nz, lf, hr, hq] at e <;> (try simp only [natc] at *) <;> omega)
   | (refine sy fun e => ?_; cbv)
   | (refine ⟨_, _, _, hC _ _ _ _ c1, ?_⟩; cbv; clear c1)
   | (refine ⟨_, _, _, hC _ _ _ _ c2, ?_⟩; cbv; clear c2)
   | (refine ⟨_, _, _, hC _ _ _ _ c3, ?_⟩; cbv; clear c3)
theorem qaI (Z : Ad) (h : Hh) (hh : ∀ α g, h α g = g ()) (root : Dg) (n : Nat) (i : Int) (leaf : List UInt8) (hl : leaf.length <= 10000000) (ps : List Dg) (hp : ∀ p ∈ ps, p.length = 32) (hr : root.length = 32) : qb Z 100 [.pv (aH h u8P root), .pv (nH h n), .pv (iH h i), .pv (bH h leaf), .pv (lH h aP ps)] (.pv (nH h (QK root n i leaf ps))) [.any, .any, .any, .any, .any] := by
 unfold QK
 split
 ·rename_i e
  obtain ⟨j, rfl⟩ := Int.eq_ofNat_of_zero_le e.2.1
  simp only [Int.toNat_natCast]
  split
  ·rename_i e2
   exact qbx Z h hh root n j Y44 Y44 leaf hl ps hp e2 hr
  ·rename_i e2
   exact qab Z h hh root n j Y44 Y44 leaf ps e2
 ·rename_i e
  exact qbQ Z h hh root n i leaf ps fun q => e ⟨by omega, q.2⟩
end Go.Bl
namespace Go.Bl
open Go.RowKit Go.Proofs
attribute [local irreducible] qw
open Go.Proofs.YtnafknkchbfpaaaGreatDoor (Par chk blk jj)
theorem J5 (Z : Ad) (h : Hh) (hh : ∀ α g, h α g = g ()) (xs ys : List Int) (hl : xs.length <= 100000) : qb Z 93 [.pv (lH h iP xs), .pv (lH h iP ys)] (.pv (tH h (xs == ys))) [.any, .any] := by
 by_cases n1 : xs.length = ys.length
 ·refine qh Z h hh ⟨Tryz.func93, Tryz.ntmps93⟩ rfl rfl rfl rfl rfl fun C hC => ?_
  unfold Tryz.f93
  cbv
  repeat' first
   | exact s0
   | apply And.intro
   | exact sq
   | trivial
   | (refine sz fun e => ?_; simp [hh, n1] at e <;> (try simp only [natc] at *) <;> omega)
   | (refine sy fun e => ?_; cbv)
  refine ⟨Nat, fun j => ⟨[(0, some (.pv (lH h iP xs))), (1, some (.pv (lH h iP ys))), (12, some (.pv (nH h xs.length))), (13, some (.pv (nH h j)))], []⟩, fun j => j <= xs.length /\ ∀ i, i < j -> xs[i]? = ys[i]?, fun j => xs.length - j, 0, [], ⟨Nat.zero_le _, fun i q => absurd q (Nat.not_lt_zero i)⟩, trivial, ⟨[], rfl, rfl, trivial, ?_, ?_, ?_, ?_, trivial⟩, ?_⟩
  ·exact sp
  ·exact sp
  ·exact sp
  ·exact sp
  intro j hj
  dsimp only
  cbv
  refine ⟨fun _ => rfl, fun e => ?_, fun e => ?_⟩ <;> simp only [hh, nI, decide_eq_true_eq, decide_eq_false_iff_not, natc] at e
  ·have e' : j < xs.length := qK e
   have e2 : j < ys.length := by omega
   by_cases q : xs[j] = ys[j]
   ·have hj2 : ∀ i, i < j + 1 -> xs[i]? = ys[i]? := fun i hi => by
     rcases Nat.lt_or_ge i j with r | r
     ·exact hj.2 i r
     ·have : i = j := by omega
      subst this
      rw [List.getElem?_eq_getElem e', List.getElem?_eq_getElem e2, q]
    replace hj2 := Hdq hj2
    have n2 := n1.symm
    clear hj n1
    cbv
    repeat' first
     | exact s0
     | apply And.intro
     | exact sq
     | trivial
     | (refine sz fun e => ?_; simp [hh, q, e', e2, n2, iP] at e <;> (try simp only [natc] at *) <;> omega)
     | (refine sy fun e => ?_; cbv)
    refine ⟨j + 1, ⟨e', hj2.out⟩, by show xs.length - (j + 1) < xs.length - j; omega, ⟨[], rfl, rfl, trivial, ?_, ?_, ?_, ?_, trivial⟩⟩
    ·exact sp
    ·exact sp
    ·exact sp
    ·exact sp
   ·have hq : (xs == ys) = false := by
     rw [beq_eq_false_iff_ne]
     intro g
     subst g
     exact q rfl
    rw [hq]
    clear hj hq
    cbv
    repeat' first
     | exact s0
     | apply And.intro
     | exact sq
     | trivial
     | (refine sz fun e => ?_; simp [hh, q, e', e2, iP] at e <;> (try simp only [natc] at *) <;> omega)
     | (refine sy fun e => ?_; cbv)
  ·have e' : j = xs.length := Nat.le_antisymm hj.1 (ge_nat e)
   subst e'
   have hq : (xs == ys) = true := by
    rw [beq_iff_eq]
    refine List.ext_getElem? fun i => ?_
    rcases Nat.lt_or_ge i xs.length with r | r
    ·exact hj.2 i r
    ·rw [List.getElem?_eq_none r, List.getElem?_eq_none Y44]
   rw [hq]
   clear hj hq
   cbv
   repeat' first
    | exact s0
    | apply And.intro
    | exact sq
    | trivial
    | exact sx
    | (refine sy fun e => ?_; cbv)
 ·have hq : (xs == ys) = false := by
   rw [beq_eq_false_iff_ne]
   intro g
   subst g
   exact n1 rfl
  rw [hq]
  have n2 : ¬ (xs.length : Int) = (ys.length : Int) := by omega
  clear hq
  refine qh Z h hh ⟨Tryz.func93, Tryz.ntmps93⟩ rfl rfl rfl rfl rfl fun C hC => ?_
  unfold Tryz.f93
  cbv
  repeat' first
   | exact s0
   | apply And.intro
   | exact sq
   | trivial
   | (refine sz fun e => ?_; simp [hh, n2, n1] at e <;> (try simp only [natc] at *) <;> omega)
   | (refine sy fun e => ?_; cbv)
theorem xy (Z : Ad) (h : Hh) (hh : ∀ α g, h α g = g ()) (x : qD) (lr : x.root.length = 32) (lf : x.file.length = 32) (s : qA) (hs : s.ok) (hc0 : 0 <= x.par.size /\ x.par.size <= 2000) (hc1 : 0 <= x.par.sent /\ x.par.sent <= 8) : qb Z 51 [.pv (qj h x), .pv (.a [iH h s.place, bH h s.stored, lH h aP s.path])] (.pv (nH h (qI x s))) [.any, .any] := by
 have c1 := ux Z h hh x.par hc0 hc1
 have hb := xx hc0
 obtain ⟨B, hB⟩ := Int.eq_ofNat_of_zero_le (a := blk x.par.size + x.par.sent) Y44
 rw [qI, hB]
 rw [hB] at c1
 have c2 := qaI Z h hh x.root B s.place s.stored (by have := hs.1; omega) s.path hs.2.2 lr
 obtain ⟨v, hv⟩ := exq (QK x.root B s.place s.stored s.path)
 rw [hv] at c2
 rw [Int.toNat_natCast, hv]
 have il := qv lr lf
 have d8 : List.take 32 (List.drop 8 (qd x)) = x.root.map u8P := by simp [qd, lr]
 clear hb hB hv hs hc0 hc1
 refine qh Z h hh ⟨Tryz.func51, Tryz.ntmps51⟩ rfl rfl rfl rfl rfl fun C hC => ?_
 unfold Tryz.f51
 cbv
 repeat' first
  | exact s0
  | apply And.intro
  | exact sq
  | (refine fun (_ : PUnit) => ?_; simp [hh, *, qd]; done)
  | trivial
  | exact sx
  | (refine sy fun e => ?_; cbv)
  | (refine ⟨_, _, _, hC _ _ _ _ c1, ?_⟩; cbv; clear c1)
  | (refine ⟨_, _, _, hC _ _ _ _ c2, ?_⟩; cbv; clear c2)
def uk (e : qz) (l : qu) : Bool := decide (l.id = e.id /\ l.obj = e.obj /\ (l.kind = 4 ∨ l.kind = 7))
theorem qcl (Z : Ad) (h : Hh) (hh : ∀ α g, h α g = g ()) (e : qz) (l : qu) : qb Z 48 [.pv (qk h e), .pv (qr h l)] (.pv (tH h (uk e l))) [.any, .any] := by
 by_cases i : l.id = e.id
 ·by_cases o : l.obj = e.obj
  ·by_cases k : l.kind = 4
   ·rw [show uk e l = true by simp [uk, i, o, k]]
    refine qh Z h hh ⟨Tryz.func48, Tryz.ntmps48⟩ rfl rfl rfl rfl rfl fun C hC => ?_
    unfold Tryz.f48
    cbv
    repeat' first
     | exact s0
     | apply And.intro
     | exact sq
     | trivial
     | (refine sz fun e => ?_; simp [hh, i, o, k] at e <;> (try simp only [natc] at *) <;> omega)
     | (refine sy fun e => ?_; cbv)
   ·by_cases s : l.kind = 7
    ·rw [show uk e l = true by simp [uk, i, o, k, s]]
     refine qh Z h hh ⟨Tryz.func48, Tryz.ntmps48⟩ rfl rfl rfl rfl rfl fun C hC => ?_
     unfold Tryz.f48
     cbv
     repeat' first
      | exact s0
      | apply And.intro
      | exact sq
      | trivial
      | (refine sz fun e => ?_; simp [hh, i, o, k, s] at e <;> (try simp only [natc] at *) <;> omega)
      | (refine sy fun e => ?_; cbv)
    ·rw [show uk e l = false by simp [uk, i, o, k, s]]
     refine qh Z h hh ⟨Tryz.func48, Tryz.ntmps48⟩ rfl rfl rfl rfl rfl fun C hC => ?_
     unfold Tryz.f48
     cbv
     repeat' first
      | exact s0
      | apply And.intro
      | exact sq
      | trivial
      | (refine sz fun e => ?_; simp [hh, i, o, k, s] at e <;> (try simp only [natc] at *) <;> omega)
      | (refine sy fun e => ?_; cbv)
  ·rw [show uk e l = false by simp [uk, i, o]]
   refine qh Z h hh ⟨Tryz.func48, Tryz.ntmps48⟩ rfl rfl rfl rfl rfl fun C hC => ?_
   unfold Tryz.f48
   cbv
   repeat' first
    | exact s0
    | apply And.intro
    | exact sq
    | trivial
    | (refine sz fun e => ?_; simp [hh, i, o] at e <;> (try simp only [natc] at *) <;> omega)
    | (refine sy fun e => ?_; cbv)
 ·rw [show uk e l = false by simp [uk, i]]
  refine qh Z h hh ⟨Tryz.func48, Tryz.ntmps48⟩ rfl rfl rfl rfl rfl fun C hC => ?_
  unfold Tryz.f48
  cbv
  repeat' first
   | exact s0
   | apply And.intro
   | exact sq
   | trivial
   | (refine sz fun e => ?_; simp [hh, i] at e <;> (try simp only [natc] at *) <;> omega)
   | (refine sy fun e => ?_; cbv)
theorem XE (Z : Ad) (h : Hh) (hh : ∀ α g, h α g = g ()) (a b : List UInt8) (ha : a.length <= 10000000) (hb : b.length <= 10000000) : qb Z 97 [.pv (bH h a), .pv (bH h b)] (.pv (tH h (a == b))) [.any, .any] := by
 refine qh Z h hh ⟨Tryz.func97, Tryz.ntmps97⟩ rfl rfl rfl rfl rfl fun C hC => ?_
 unfold Tryz.f97
 cbv
 repeat' first
  | exact s0
  | apply And.intro
  | exact sq
  | trivial
  | exact sx
  | (refine sy fun e => ?_; cbv)
end Go.Bl
namespace Go.Bl
open Go.RowKit Go.Proofs
attribute [local irreducible] qw
open Go.Proofs.YtnafknkchbfpaaaGreatDoor (Par chk blk jj qc qi jU qx qV jI jw qH vo jD)
def ji (f : qA -> Nat) : List qA -> Nat
 | [] => 0
 | s :: r => if f s = 0 then ji f r else f s
theorem zv (f : qA -> Nat) {l : List qA} {j : Nat} (hj : j < l.length) : ji f (l.drop j) = if f l[j] = 0 then ji f (l.drop (j + 1)) else f l[j] := by
 rw [List.drop_eq_getElem_cons hj]; rfl
theorem Xw (Z : Ad) (h : Hh) (hh : ∀ α g, h α g = g ()) (m : List UInt8) (x : qD) (y : qz) (l : qu) (lr : x.root.length = 32) (lf : x.file.length = 32) (k : Nat) (k0 : k ≠ 0) (c1 : qb Z 38 [.pv (bH h m), .pv (qj h x), .pv (qk h y)] (.tup [.pv (lH h iP []), .pv (nH h k)]) [.any, .any, .any]) : qb Z 45 [.pv (bH h m), .pv (qj h x), .pv (qk h y), .pv (qr h l)] (.pv (nH h k)) [.any, .any, .any, .any] := by
 have nz : (k : Int) ≠ 0 := by omega
 clear k0
 refine qh Z h hh ⟨Tryz.func45, Tryz.ntmps45⟩ rfl rfl rfl rfl rfl fun C hC => ?_
 unfold Tryz.f45
 cbv
 repeat' first
  | exact s0
  | apply And.intro
  | exact sq
  | (refine fun (_ : PUnit) => ?_; simp [hh, *, qd]; done)
  | trivial
  | (refine sz fun e => ?_; simp [hh, nz] at e <;> (try simp only [natc] at *) <;> omega)
  | (refine sy fun e => ?_; cbv)
  | (refine ⟨_, _, _, hC _ _ _ _ c1, ?_⟩; cbv; clear c1)
theorem qbn (Z : Ad) (h : Hh) (hh : ∀ α g, h α g = g ()) (m : List UInt8) (x : qD) (y : qz) (l : qu) (lr : x.root.length = 32) (lf : x.file.length = 32) (pl : List Int) (c1 : qb Z 38 [.pv (bH h m), .pv (qj h x), .pv (qk h y)] (.tup [.pv (lH h iP pl), .pv (iH h 0)]) [.any, .any, .any]) (hk : l.kind ≠ 4) : qb Z 45 [.pv (bH h m), .pv (qj h x), .pv (qk h y), .pv (qr h l)] (.pv (iH h 7)) [.any, .any, .any, .any] := by
 refine qh Z h hh ⟨Tryz.func45, Tryz.ntmps45⟩ rfl rfl rfl rfl rfl fun C hC => ?_
 unfold Tryz.f45
 cbv
 repeat' first
  | exact s0
  | apply And.intro
  | exact sq
  | (refine fun (_ : PUnit) => ?_; simp [hh, *, qd]; done)
  | trivial
  | (refine sz fun e => ?_; simp [hh, hk] at e <;> (try simp only [natc] at *) <;> omega)
  | (refine sy fun e => ?_; cbv)
  | (refine ⟨_, _, _, hC _ _ _ _ c1, ?_⟩; cbv; clear c1)
theorem qbO (Z : Ad) (h : Hh) (hh : ∀ α g, h α g = g ()) (m : List UInt8) (x : qD) (y : qz) (l : qu) (lr : x.root.length = 32) (lf : x.file.length = 32) (pl : List Int) (c1 : qb Z 38 [.pv (bH h m), .pv (qj h x), .pv (qk h y)] (.tup [.pv (lH h iP pl), .pv (iH h 0)]) [.any, .any, .any]) (hk : l.kind = 4) (hn : pl.length ≠ l.shown.length) : qb Z 45 [.pv (bH h m), .pv (qj h x), .pv (qk h y), .pv (qr h l)] (.pv (iH h 4)) [.any, .any, .any, .any] := by
 have nb : ¬ (pl.length : Int) = (l.shown.length : Int) := by omega
 clear hn
 refine qh Z h hh ⟨Tryz.func45, Tryz.ntmps45⟩ rfl rfl rfl rfl rfl fun C hC => ?_
 unfold Tryz.f45
 cbv
 repeat' first
  | exact s0
  | apply And.intro
  | exact sq
  | (refine fun (_ : PUnit) => ?_; simp [hh, *, qd]; done)
  | trivial
  | (refine sz fun e => ?_; simp [hh, hk, nb] at e <;> (try simp only [natc] at *) <;> omega)
  | (refine sy fun e => ?_; cbv)
  | (refine ⟨_, _, _, hC _ _ _ _ c1, ?_⟩; cbv; clear c1)
theorem YM (Z : Ad) (h : Hh) (hh : ∀ α g, h α g = g ()) (m : List UInt8) (x : qD) (y : qz) (l : qu) (lr : x.root.length = 32) (lf : x.file.length = 32) (pl : List Int) (c1 : qb Z 38 [.pv (bH h m), .pv (qj h x), .pv (qk h y)] (.tup [.pv (lH h iP pl), .pv (iH h 0)]) [.any, .any, .any]) (hk : l.kind = 4) (hn : pl.length = l.shown.length) (hs : l.shown.length <= 100000) (hne : l.shown.map (·.place) ≠ pl) : qb Z 45 [.pv (bH h m), .pv (qj h x), .pv (qk h y), .pv (qr h l)] (.pv (iH h 4)) [.any, .any, .any, .any] := by
 have nb : (pl.length : Int) = (l.shown.length : Int) := by omega
 replace hne := Hdq hne
 refine qh Z h hh ⟨Tryz.func45, Tryz.ntmps45⟩ rfl rfl rfl rfl rfl fun C hC => ?_
 unfold Tryz.f45
 cbv
 repeat' first
  | exact s0
  | apply And.intro
  | exact sq
  | (refine fun (_ : PUnit) => ?_; simp [hh, *, qa, qd]; done)
  | trivial
  | (refine sz fun e => ?_; simp [hh, hk, nb] at e <;> (try simp only [natc] at *) <;> omega)
  | (refine sy fun e => ?_; cbv)
  | (refine ⟨_, _, _, hC _ _ _ _ c1, ?_⟩; cbv; clear c1)
 refine ⟨Nat, fun j => ⟨[(0, some (.pv (bH h m))), (5, some (.ref 990 0 0)), (6, some (.ref 991 0 0)), (7, some (.ref 992 0 0)), (9, some (.pv (lH h iP pl))), (40, some (.pv (lH h qa l.shown))), (41, some (.pv (nH h l.shown.length))), (42, some (.pv (nH h j)))], [(990, some (.var 90 (h _ fun _ => qd x) false)), (991, some (.box 92 [.pv (iH h y.id), .pv (iH h y.obj), .pv (iH h y.way), .pv (iH h y.idx), .pv (iH h y.tick), .pv (iH h y.verd), .pv (iH h y.at')] false)), (992, some (.box 100 [.pv (iH h l.kind), .pv (iH h l.id), .pv (iH h l.obj), .pv (lH h iP l.places), .pv (lH h qa l.shown), .pv (iH h l.fr), .pv (iH h l.cnt), .pv (lH h bP l.blocks), .pv (iH h l.code)] false))]⟩, fun j => j <= l.shown.length /\ ∀ i, i < j -> pl[i]? = (l.shown.map (·.place))[i]?, fun j => l.shown.length - j, 0, [], ⟨Nat.zero_le _, fun i q => absurd q (Nat.not_lt_zero i)⟩, trivial, ⟨[(990, 5), (991, 6), (992, 7)], rfl, rfl, ⟨?_, ?_, ?_, trivial⟩, ?_, ?_, ?_, ?_, ?_, ?_, ?_, ?_, trivial⟩, ?_⟩
 ·exact sp
 ·exact sp
 ·exact sp
 ·exact sp
 ·exact sp
 ·exact sp
 ·exact sp
 ·exact sp
 ·exact sp
 ·exact sp
 ·exact sp
 intro j hj
 dsimp only
 cbv
 refine ⟨fun _ => rfl, fun e => ?_, fun e => ?_⟩ <;> simp only [hh, nI, decide_eq_true_eq, decide_eq_false_iff_not, natc] at e
 ·have e' : j < l.shown.length := qK e
  have e2 : j < pl.length := by omega
  by_cases q : pl[j] = (l.shown[j]).place
  ·have hj2 : ∀ i, i < j + 1 -> pl[i]? = (l.shown.map (·.place))[i]? := fun i hi => by
    rcases Nat.lt_or_ge i j with r | r
    ·exact hj.2 i r
    ·have : i = j := by omega
     subst this
     rw [List.getElem?_map, List.getElem?_eq_getElem e', List.getElem?_eq_getElem e2, q]; rfl
   replace hj2 := Hdq hj2
   clear hj
   cbv
   repeat' first
    | exact s0
    | apply And.intro
    | exact sq
    | (refine fun (_ : PUnit) => ?_; simp [hh, *, qa, qd]; done)
    | trivial
    | (refine sz fun e => ?_; simp [hh, q, e', e2, iP, qa] at e <;> (try simp only [natc] at *) <;> omega)
    | (refine sy fun e => ?_; cbv)
   refine ⟨j + 1, ⟨e', hj2.out⟩, by show l.shown.length - (j + 1) < l.shown.length - j; omega, ⟨[], rfl, rfl, ⟨?_, ?_, ?_, trivial⟩, ?_, ?_, ?_, ?_, ?_, ?_, ?_, ?_, trivial⟩⟩
   ·exact sp
   ·exact sp
   ·exact sp
   ·exact sp
   ·exact sp
   ·exact sp
   ·exact sp
   ·exact sp
   ·exact sp
   ·exact sp
   ·exact sp
  ·have q' : ¬ (l.shown[j]).place = pl[j] := fun g => q g.symm
   clear hj
   cbv
   repeat' first
    | exact s0
    | apply And.intro
    | exact sq
    | (refine fun (_ : PUnit) => ?_; simp [hh, *, qa, qd]; done)
    | trivial
    | (refine sz fun e => ?_; simp [hh, q', e', e2, iP, qa] at e <;> (try simp only [natc] at *) <;> omega)
    | (refine sy fun e => ?_; cbv)
 ·exfalso
  have e' : j = l.shown.length := Nat.le_antisymm hj.1 (ge_nat e)
  subst e'
  refine hne.out (List.ext_getElem? fun i => ?_)
  rcases Nat.lt_or_ge i l.shown.length with r | r
  ·exact (hj.2 i r).symm
  ·rw [List.getElem?_eq_none (by rw [List.length_map]; exact r), List.getElem?_eq_none Y44]
theorem WR (Z : Ad) (h : Hh) (hh : ∀ α g, h α g = g ()) (m : List UInt8) (x : qD) (y : qz) (l : qu) (lr : x.root.length = 32) (lf : x.file.length = 32) (pl : List Int) (c1 : qb Z 38 [.pv (bH h m), .pv (qj h x), .pv (qk h y)] (.tup [.pv (lH h iP pl), .pv (iH h 0)]) [.any, .any, .any]) (hk : l.kind = 4) (hm : l.shown.map (·.place) = pl) (hs : l.shown.length <= 100000) (oks : ∀ s ∈ l.shown, s.ok) (hc0 : 0 <= x.par.size /\ x.par.size <= 2000) (hc1 : 0 <= x.par.sent /\ x.par.sent <= 8) (k : Nat) (k0 : k ≠ 0) (hfe : ji (qI x) l.shown = k) : qb Z 45 [.pv (bH h m), .pv (qj h x), .pv (qk h y), .pv (qr h l)] (.pv (nH h k)) [.any, .any, .any, .any] := by
 have hn : pl.length = l.shown.length := by rw [<- hm, List.length_map]
 have nb : (pl.length : Int) = (l.shown.length : Int) := by omega
 have cs : ∀ j (b : j < l.shown.length), qb Z 51 [.pv (qj h x), .pv (.a [iH h (l.shown[j]).place, bH h (l.shown[j]).stored, lH h aP (l.shown[j]).path])] (.pv (nH h (qI x l.shown[j]))) [.any, .any] := fun j b => xy Z h hh x lr lf _ (oks _ (List.getElem_mem b)) hc0 hc1
 have pe : ∀ j (b : j < pl.length) (b2 : j < l.shown.length), (l.shown[j]).place = pl[j] := fun j b b2 => by subst hm; simp
 have fd := fun j (b : j < l.shown.length) => zv (qI x) b
 obtain ⟨f, hf⟩ := exq (qI x)
 simp only [hf] at cs fd
 rw [hf] at hfe
 replace hfe := Hdq hfe
 replace cs := Hdq cs
 replace pe := Hdq pe
 replace fd := Hdq fd
 clear hm oks hf hc0 hc1
 refine qh Z h hh ⟨Tryz.func45, Tryz.ntmps45⟩ rfl rfl rfl rfl rfl fun C hC => ?_
 unfold Tryz.f45
 cbv
 repeat' first
  | exact s0
  | apply And.intro
  | exact sq
  | (refine fun (_ : PUnit) => ?_; simp [hh, *, qa, qd]; done)
  | trivial
  | (refine sz fun e => ?_; simp [hh, hk, nb] at e <;> (try simp only [natc] at *) <;> omega)
  | (refine sy fun e => ?_; cbv)
  | (refine ⟨_, _, _, hC _ _ _ _ c1, ?_⟩; cbv; clear c1)
 refine ⟨Nat, fun j => ⟨[(0, some (.pv (bH h m))), (5, some (.ref 990 0 0)), (6, some (.ref 991 0 0)), (7, some (.ref 992 0 0)), (9, some (.pv (lH h iP pl))), (40, some (.pv (lH h qa l.shown))), (41, some (.pv (nH h l.shown.length))), (42, some (.pv (nH h j)))], [(990, some (.var 90 (h _ fun _ => qd x) false)), (991, some (.box 92 [.pv (iH h y.id), .pv (iH h y.obj), .pv (iH h y.way), .pv (iH h y.idx), .pv (iH h y.tick), .pv (iH h y.verd), .pv (iH h y.at')] false)), (992, some (.box 100 [.pv (iH h l.kind), .pv (iH h l.id), .pv (iH h l.obj), .pv (lH h iP l.places), .pv (lH h qa l.shown), .pv (iH h l.fr), .pv (iH h l.cnt), .pv (lH h bP l.blocks), .pv (iH h l.code)] false))]⟩, fun j => j <= l.shown.length, fun j => l.shown.length - j, 0, [], by omega, trivial, ⟨[(990, 5), (991, 6), (992, 7)], rfl, rfl, ⟨?_, ?_, ?_, trivial⟩, ?_, ?_, ?_, ?_, ?_, ?_, ?_, ?_, trivial⟩, ?_⟩
 ·exact sp
 ·exact sp
 ·exact sp
 ·exact sp
 ·exact sp
 ·exact sp
 ·exact sp
 ·exact sp
 ·exact sp
 ·exact sp
 ·exact sp
 intro j hj
 dsimp only
 cbv
 refine ⟨fun _ => rfl, fun e => ?_, fun e => ?_⟩ <;> simp only [hh, nI, decide_eq_true_eq, decide_eq_false_iff_not, natc] at e
 ·have e' : j < l.shown.length := qK e
  have e2 : j < pl.length := by omega
  have q := pe.out j e2 e'
  clear pe cs fd
  cbv
  repeat' first
   | exact s0
   | apply And.intro
   | exact sq
   | (refine fun (_ : PUnit) => ?_; simp [hh, *, qa, qd]; done)
   | trivial
   | (refine sz fun e => ?_; simp [hh, q, e', e2, iP, qa] at e <;> (try simp only [natc] at *) <;> omega)
   | (refine sy fun e => ?_; cbv)
  refine ⟨j + 1, by omega, by show l.shown.length - (j + 1) < l.shown.length - j; omega, ⟨[], rfl, rfl, ⟨?_, ?_, ?_, trivial⟩, ?_, ?_, ?_, ?_, ?_, ?_, ?_, ?_, trivial⟩⟩
  ·exact sp
  ·exact sp
  ·exact sp
  ·exact sp
  ·exact sp
  ·exact sp
  ·exact sp
  ·exact sp
  ·exact sp
  ·exact sp
  ·exact sp
 ·have e' : j = l.shown.length := Nat.le_antisymm hj (ge_nat e)
  subst e'
  clear hj pe
  cbv
  repeat' first
   | exact s0
   | apply And.intro
   | exact sq
   | (refine fun (_ : PUnit) => ?_; simp [hh, *, qa, qd]; done)
   | trivial
   | exact sx
   | (refine sy fun e => ?_; cbv)
  refine ⟨Nat, fun j => ⟨[(0, some (.pv (bH h m))), (5, some (.ref 990 0 0)), (6, some (.ref 991 0 0)), (7, some (.ref 992 0 0)), (9, some (.pv (lH h iP pl))), (56, some (.pv (lH h qa l.shown))), (57, some (.pv (nH h l.shown.length))), (58, some (.pv (nH h j)))], [(990, some (.var 90 (h _ fun _ => qd x) false)), (991, some (.box 92 [.pv (iH h y.id), .pv (iH h y.obj), .pv (iH h y.way), .pv (iH h y.idx), .pv (iH h y.tick), .pv (iH h y.verd), .pv (iH h y.at')] false)), (992, some (.box 100 [.pv (iH h l.kind), .pv (iH h l.id), .pv (iH h l.obj), .pv (lH h iP l.places), .pv (lH h qa l.shown), .pv (iH h l.fr), .pv (iH h l.cnt), .pv (lH h bP l.blocks), .pv (iH h l.code)] false))]⟩, fun j => j <= l.shown.length /\ ji f (l.shown.drop j) = ji f l.shown, fun j => l.shown.length - j, 0, [], ⟨Nat.zero_le _, rfl⟩, trivial, ⟨[], rfl, rfl, ⟨?_, ?_, ?_, trivial⟩, ?_, ?_, ?_, ?_, ?_, ?_, ?_, ?_, trivial⟩, ?_⟩
  ·exact sp
  ·exact sp
  ·exact sp
  ·exact sp
  ·exact sp
  ·exact sp
  ·exact sp
  ·exact sp
  ·exact sp
  ·exact sp
  ·exact sp
  intro j hj
  dsimp only
  cbv
  refine ⟨fun _ => rfl, fun e => ?_, fun e => ?_⟩ <;> simp only [hh, nI, decide_eq_true_eq, decide_eq_false_iff_not, natc] at e
  ·have e' : j < l.shown.length := qK e
   have c2 := cs.out j e'
   have e3 := fd.out j e'
   by_cases q : f l.shown[j] = 0
   ·rw [if_pos q, hj.2] at e3
    replace e3 := Hdq e3
    rw [q] at c2
    clear hj fd cs
    cbv
    repeat' first
     | exact s0
     | apply And.intro
     | exact sq
     | (refine fun (_ : PUnit) => ?_; simp [hh, *, qa, qd]; done)
     | trivial
     | (refine sz fun e => ?_; simp [hh, e', iP, qa] at e <;> (try simp only [natc] at *) <;> omega)
     | (refine sy fun e => ?_; cbv)
     | (refine ⟨_, _, _, hC _ _ _ _ c2, ?_⟩; cbv; clear c2)
    refine ⟨j + 1, ⟨e', e3.out.symm⟩, by show l.shown.length - (j + 1) < l.shown.length - j; omega, ⟨[], rfl, rfl, ⟨?_, ?_, ?_, trivial⟩, ?_, ?_, ?_, ?_, ?_, ?_, ?_, ?_, trivial⟩⟩
    ·exact sp
    ·exact sp
    ·exact sp
    ·exact sp
    ·exact sp
    ·exact sp
    ·exact sp
    ·exact sp
    ·exact sp
    ·exact sp
    ·exact sp
   ·rw [if_neg q, hj.2, hfe.out] at e3
    rw [<- e3] at c2
    have nz : ¬ (k : Int) = 0 := by omega
    clear hj fd cs e3 q hfe k0
    cbv
    repeat' first
     | exact s0
     | apply And.intro
     | exact sq
     | (refine fun (_ : PUnit) => ?_; simp [hh, *, qa, qd]; done)
     | trivial
     | (refine sz fun e => ?_; simp [hh, nz] at e <;> (try simp only [natc] at *) <;> omega)
     | (refine sy fun e => ?_; cbv)
     | (refine ⟨_, _, _, hC _ _ _ _ c2, ?_⟩; cbv; clear c2)
  ·exfalso
   exact Y37
theorem qbk (Z : Ad) (h : Hh) (hh : ∀ α g, h α g = g ()) (m : List UInt8) (x : qD) (y : qz) (l : qu) (lr : x.root.length = 32) (lf : x.file.length = 32) (pl : List Int) (c1 : qb Z 38 [.pv (bH h m), .pv (qj h x), .pv (qk h y)] (.tup [.pv (lH h iP pl), .pv (iH h 0)]) [.any, .any, .any]) (hk : l.kind = 4) (hm : l.shown.map (·.place) = pl) (hs : l.shown.length <= 100000) (oks : ∀ s ∈ l.shown, s.ok) (hc0 : 0 <= x.par.size /\ x.par.size <= 2000) (hc1 : 0 <= x.par.sent /\ x.par.sent <= 8) (hfe : ji (qI x) l.shown = 0) (hw : y.way ≠ 2) : qb Z 45 [.pv (bH h m), .pv (qj h x), .pv (qk h y), .pv (qr h l)] (.pv (iH h 0)) [.any, .any, .any, .any] := by
 have hn : pl.length = l.shown.length := by rw [<- hm, List.length_map]
 have nb : (pl.length : Int) = (l.shown.length : Int) := by omega
 have cs : ∀ j (b : j < l.shown.length), qb Z 51 [.pv (qj h x), .pv (.a [iH h (l.shown[j]).place, bH h (l.shown[j]).stored, lH h aP (l.shown[j]).path])] (.pv (nH h (qI x l.shown[j]))) [.any, .any] := fun j b => xy Z h hh x lr lf _ (oks _ (List.getElem_mem b)) hc0 hc1
 have pe : ∀ j (b : j < pl.length) (b2 : j < l.shown.length), (l.shown[j]).place = pl[j] := fun j b b2 => by subst hm; simp
 have fd := fun j (b : j < l.shown.length) => zv (qI x) b
 obtain ⟨f, hf⟩ := exq (qI x)
 simp only [hf] at cs fd
 rw [hf] at hfe
 replace hfe := Hdq hfe
 replace cs := Hdq cs
 replace pe := Hdq pe
 replace fd := Hdq fd
 clear hm oks hf hc0 hc1
 refine qh Z h hh ⟨Tryz.func45, Tryz.ntmps45⟩ rfl rfl rfl rfl rfl fun C hC => ?_
 unfold Tryz.f45
 cbv
 repeat' first
  | exact s0
  | apply And.intro
  | exact sq
  | (refine fun (_ : PUnit) => ?_; simp [hh, *, qa, qd]; done)
  | trivial
  | (refine sz fun e => ?_; simp [hh, hk, nb] at e <;> (try simp only [natc] at *) <;> omega)
  | (refine sy fun e => ?_; cbv)
  | (refine ⟨_, _, _, hC _ _ _ _ c1, ?_⟩; cbv; clear c1)
 refine ⟨Nat, fun j => ⟨[(0, some (.pv (bH h m))), (5, some (.ref 990 0 0)), (6, some (.ref 991 0 0)), (7, some (.ref 992 0 0)), (9, some (.pv (lH h iP pl))), (40, some (.pv (lH h qa l.shown))), (41, some (.pv (nH h l.shown.length))), (42, some (.pv (nH h j)))], [(990, some (.var 90 (h _ fun _ => qd x) false)), (991, some (.box 92 [.pv (iH h y.id), .pv (iH h y.obj), .pv (iH h y.way), .pv (iH h y.idx), .pv (iH h y.tick), .pv (iH h y.verd), .pv (iH h y.at')] false)), (992, some (.box 100 [.pv (iH h l.kind), .pv (iH h l.id), .pv (iH h l.obj), .pv (lH h iP l.places), .pv (lH h qa l.shown), .pv (iH h l.fr), .pv (iH h l.cnt), .pv (lH h bP l.blocks), .pv (iH h l.code)] false))]⟩, fun j => j <= l.shown.length, fun j => l.shown.length - j, 0, [], by omega, trivial, ⟨[(990, 5), (991, 6), (992, 7)], rfl, rfl, ⟨?_, ?_, ?_, trivial⟩, ?_, ?_, ?_, ?_, ?_, ?_, ?_, ?_, trivial⟩, ?_⟩
 ·exact sp
 ·exact sp
 ·exact sp
 ·exact sp
 ·exact sp
 ·exact sp
 ·exact sp
 ·exact sp
 ·exact sp
 ·exact sp
 ·exact sp
 intro j hj
 dsimp only
 cbv
 refine ⟨fun _ => rfl, fun e => ?_, fun e => ?_⟩ <;> simp only [hh, nI, decide_eq_true_eq, decide_eq_false_iff_not, natc] at e
 ·have e' : j < l.shown.length := qK e
  have e2 : j < pl.length := by omega
  have q := pe.out j e2 e'
  clear pe cs fd
  cbv
  repeat' first
   | exact s0
   | apply And.intro
   | exact sq
   | (refine fun (_ : PUnit) => ?_; simp [hh, *, qa, qd]; done)
   | trivial
   | (refine sz fun e => ?_; simp [hh, q, e', e2, iP, qa] at e <;> (try simp only [natc] at *) <;> omega)
   | (refine sy fun e => ?_; cbv)
  refine ⟨j + 1, by omega, by show l.shown.length - (j + 1) < l.shown.length - j; omega, ⟨[], rfl, rfl, ⟨?_, ?_, ?_, trivial⟩, ?_, ?_, ?_, ?_, ?_, ?_, ?_, ?_, trivial⟩⟩
  ·exact sp
  ·exact sp
  ·exact sp
  ·exact sp
  ·exact sp
  ·exact sp
  ·exact sp
  ·exact sp
  ·exact sp
  ·exact sp
  ·exact sp
 ·have e' : j = l.shown.length := Nat.le_antisymm hj (ge_nat e)
  subst e'
  clear hj pe
  cbv
  repeat' first
   | exact s0
   | apply And.intro
   | exact sq
   | (refine fun (_ : PUnit) => ?_; simp [hh, *, qa, qd]; done)
   | trivial
   | exact sx
   | (refine sy fun e => ?_; cbv)
  refine ⟨Nat, fun j => ⟨[(0, some (.pv (bH h m))), (5, some (.ref 990 0 0)), (6, some (.ref 991 0 0)), (7, some (.ref 992 0 0)), (9, some (.pv (lH h iP pl))), (56, some (.pv (lH h qa l.shown))), (57, some (.pv (nH h l.shown.length))), (58, some (.pv (nH h j)))], [(990, some (.var 90 (h _ fun _ => qd x) false)), (991, some (.box 92 [.pv (iH h y.id), .pv (iH h y.obj), .pv (iH h y.way), .pv (iH h y.idx), .pv (iH h y.tick), .pv (iH h y.verd), .pv (iH h y.at')] false)), (992, some (.box 100 [.pv (iH h l.kind), .pv (iH h l.id), .pv (iH h l.obj), .pv (lH h iP l.places), .pv (lH h qa l.shown), .pv (iH h l.fr), .pv (iH h l.cnt), .pv (lH h bP l.blocks), .pv (iH h l.code)] false))]⟩, fun j => j <= l.shown.length /\ ji f (l.shown.drop j) = ji f l.shown, fun j => l.shown.length - j, 0, [], ⟨Nat.zero_le _, rfl⟩, trivial, ⟨[], rfl, rfl, ⟨?_, ?_, ?_, trivial⟩, ?_, ?_, ?_, ?_, ?_, ?_, ?_, ?_, trivial⟩, ?_⟩
  ·exact sp
  ·exact sp
  ·exact sp
  ·exact sp
  ·exact sp
  ·exact sp
  ·exact sp
  ·exact sp
  ·exact sp
  ·exact sp
  ·exact sp
  intro j hj
  dsimp only
  cbv
  refine ⟨fun _ => rfl, fun e => ?_, fun e => ?_⟩ <;> simp only [hh, nI, decide_eq_true_eq, decide_eq_false_iff_not, natc] at e
  ·have e' : j < l.shown.length := qK e
   have c2 := cs.out j e'
   have e3 := fd.out j e'
   by_cases q : f l.shown[j] = 0
   ·rw [if_pos q, hj.2] at e3
    replace e3 := Hdq e3
    rw [q] at c2
    clear hj fd cs
    cbv
    repeat' first
     | exact s0
     | apply And.intro
     | exact sq
     | (refine fun (_ : PUnit) => ?_; simp [hh, *, qa, qd]; done)
     | trivial
     | (refine sz fun e => ?_; simp [hh, e', iP, qa] at e <;> (try simp only [natc] at *) <;> omega)
     | (refine sy fun e => ?_; cbv)
     | (refine ⟨_, _, _, hC _ _ _ _ c2, ?_⟩; cbv; clear c2)
    refine ⟨j + 1, ⟨e', e3.out.symm⟩, by show l.shown.length - (j + 1) < l.shown.length - j; omega, ⟨[], rfl, rfl, ⟨?_, ?_, ?_, trivial⟩, ?_, ?_, ?_, ?_, ?_, ?_, ?_, ?_, trivial⟩⟩
    ·exact sp
    ·exact sp
    ·exact sp
    ·exact sp
    ·exact sp
    ·exact sp
    ·exact sp
    ·exact sp
    ·exact sp
    ·exact sp
    ·exact sp
   ·exfalso
    exact Y41
  ·have e' : j = l.shown.length := Nat.le_antisymm hj.1 (ge_nat e)
   subst e'
   clear hj fd cs hfe
   cbv
   repeat' first
    | exact s0
    | apply And.intro
    | exact sq
    | (refine fun (_ : PUnit) => ?_; simp [hh, *, qa, qd]; done)
    | trivial
    | (refine sz fun e => ?_; simp [hh, hw] at e <;> (try simp only [natc] at *) <;> omega)
    | (refine sy fun e => ?_; cbv)
end Go.Bl
namespace Go.Bl
open Go.RowKit Go.Proofs
attribute [local irreducible] qw
open Go.Proofs.YtnafknkchbfpaaaGreatDoor (Par chk blk jj qc qi jU qx qV jI jw qH vo jD)
def Qg (m : List UInt8) (x : qD) (y : qz) : List UInt8 := vo (qi m jI x.num) (Up m x y : Nat) (jD (qi m qV x.num) y.idx)
theorem U7 (m : List UInt8) (x : qD) (y : qz) : (Qg m x y).length = 16 := by
 rw [Qg, Go.Proofs.YtnafknkchbfpaaaGreatDoor.tgdL_len, Go.Proofs.YtnafknkchbfpaaaGreatDoor.strL_len]
theorem qaS (Z : Ad) (h : Hh) (hh : ∀ α g, h α g = g ()) (m : List UInt8) (x : qD) (y : qz) (l : qu) (lr : x.root.length = 32) (lf : x.file.length = 32) (pl : List Int) (c1 : qb Z 38 [.pv (bH h m), .pv (qj h x), .pv (qk h y)] (.tup [.pv (lH h iP pl), .pv (iH h 0)]) [.any, .any, .any]) (hk : l.kind = 4) (hm : l.shown.map (·.place) = pl) (hs : l.shown.length <= 100000) (oks : ∀ s ∈ l.shown, s.ok) (hc0 : 0 <= x.par.size /\ x.par.size <= 2000) (hc1 : 0 <= x.par.sent /\ x.par.sent <= 8) (hfe : ji (qI x) l.shown = 0) (hw : y.way = 2) (hcp : chk x.par = 0) (hkb : qc m x.num = 0) (hi : 0 <= y.idx /\ y.idx < x.par.sent) (s : qA) (h0 : l.shown[0]? = some s) : qb Z 45 [.pv (bH h m), .pv (qj h x), .pv (qk h y), .pv (qr h l)] (.pv (nH h (if Qg m x y = s.stored then 0 else 15))) [.any, .any, .any, .any] := by
 have c3 := uP Z h hh m x.num x.par hcp hkb
 have zb := xx hc0
 obtain ⟨i, hi'⟩ := Int.eq_ofNat_of_zero_le (a := y.idx) hi.1
 obtain ⟨D, hD⟩ := Int.eq_ofNat_of_zero_le (a := blk x.par.size) zb.1
 obtain ⟨B, hB⟩ := Int.eq_ofNat_of_zero_le (a := blk x.par.size + x.par.sent) Y44
 have c4 := UJ Z h hh m x.num x.par i B D hc0 hc1 hB hD Y44
 have lt := U7 m x y
 rw [show vo (qi m jI x.num) (qH (qi m qx x.num) B (D + i) : Nat) (jD (qi m qV x.num) (i : Int)) = Qg m x y by rw [Qg, Up, hB, hD, hi']; rfl] at c4
 obtain ⟨tg, htg⟩ := exq (Qg m x y)
 rw [htg] at c4 lt ⊢
 obtain ⟨v, hv⟩ := exq (qH (qi m qx x.num) B (D + i))
 rw [hv] at c4
 have so := oks s (List.mem_of_getElem? h0)
 have ls : s.stored.length <= 10000 := so.1
 have l0 : 0 < l.shown.length := by
  rcases Nat.lt_or_ge 0 l.shown.length with r | r
  ·exact r
  ·rw [List.getElem?_eq_none r] at h0; cases h0
 have e0 : l.shown[0] = s := by rw [List.getElem?_eq_getElem l0] at h0; exact Option.some.inj h0
 have ne : l.shown.length ≠ 0 := by omega
 obtain ⟨q0, hq0⟩ : ∃ q0 : Bool, decide (tg = s.stored) = q0 := ⟨_, rfl⟩
 replace hq0 := Hdq hq0
 clear hcp hkb hi so zb hD hB hv htg
 have hn : pl.length = l.shown.length := by rw [<- hm, List.length_map]
 have nb : (pl.length : Int) = (l.shown.length : Int) := by omega
 have cs : ∀ j (b : j < l.shown.length), qb Z 51 [.pv (qj h x), .pv (.a [iH h (l.shown[j]).place, bH h (l.shown[j]).stored, lH h aP (l.shown[j]).path])] (.pv (nH h (qI x l.shown[j]))) [.any, .any] := fun j b => xy Z h hh x lr lf _ (oks _ (List.getElem_mem b)) hc0 hc1
 have pe : ∀ j (b : j < pl.length) (b2 : j < l.shown.length), (l.shown[j]).place = pl[j] := fun j b b2 => by subst hm; simp
 have fd := fun j (b : j < l.shown.length) => zv (qI x) b
 obtain ⟨f, hf⟩ := exq (qI x)
 simp only [hf] at cs fd
 rw [hf] at hfe
 replace hfe := Hdq hfe
 replace cs := Hdq cs
 replace pe := Hdq pe
 replace fd := Hdq fd
 clear hm oks hf hc0 hc1
 refine qh Z h hh ⟨Tryz.func45, Tryz.ntmps45⟩ rfl rfl rfl rfl rfl fun C hC => ?_
 unfold Tryz.f45
 cbv
 repeat' first
  | exact s0
  | apply And.intro
  | exact sq
  | (refine fun (_ : PUnit) => ?_; simp [hh, *, qa, qd]; done)
  | trivial
  | (refine sz fun e => ?_; simp [hh, hk, nb] at e <;> (try simp only [natc] at *) <;> omega)
  | (refine sy fun e => ?_; cbv)
  | (refine ⟨_, _, _, hC _ _ _ _ c1, ?_⟩; cbv; clear c1)
 refine ⟨Nat, fun j => ⟨[(0, some (.pv (bH h m))), (5, some (.ref 990 0 0)), (6, some (.ref 991 0 0)), (7, some (.ref 992 0 0)), (9, some (.pv (lH h iP pl))), (40, some (.pv (lH h qa l.shown))), (41, some (.pv (nH h l.shown.length))), (42, some (.pv (nH h j)))], [(990, some (.var 90 (h _ fun _ => qd x) false)), (991, some (.box 92 [.pv (iH h y.id), .pv (iH h y.obj), .pv (iH h y.way), .pv (iH h y.idx), .pv (iH h y.tick), .pv (iH h y.verd), .pv (iH h y.at')] false)), (992, some (.box 100 [.pv (iH h l.kind), .pv (iH h l.id), .pv (iH h l.obj), .pv (lH h iP l.places), .pv (lH h qa l.shown), .pv (iH h l.fr), .pv (iH h l.cnt), .pv (lH h bP l.blocks), .pv (iH h l.code)] false))]⟩, fun j => j <= l.shown.length, fun j => l.shown.length - j, 0, [], by omega, trivial, ⟨[(990, 5), (991, 6), (992, 7)], rfl, rfl, ⟨?_, ?_, ?_, trivial⟩, ?_, ?_, ?_, ?_, ?_, ?_, ?_, ?_, trivial⟩, ?_⟩
 ·exact sp
 ·exact sp
 ·exact sp
 ·exact sp
 ·exact sp
 ·exact sp
 ·exact sp
 ·exact sp
 ·exact sp
 ·exact sp
 ·exact sp
 intro j hj
 dsimp only
 cbv
 refine ⟨fun _ => rfl, fun e => ?_, fun e => ?_⟩ <;> simp only [hh, nI, decide_eq_true_eq, decide_eq_false_iff_not, natc] at e
 ·have e' : j < l.shown.length := qK e
  have e2 : j < pl.length := by omega
  have q := pe.out j e2 e'
  clear pe cs fd
  cbv
  repeat' first
   | exact s0
   | apply And.intro
   | exact sq
   | (refine fun (_ : PUnit) => ?_; simp [hh, *, qa, qd]; done)
   | trivial
   | (refine sz fun e => ?_; simp [hh, q, e', e2, iP, qa] at e <;> (try simp only [natc] at *) <;> omega)
   | (refine sy fun e => ?_; cbv)
  refine ⟨j + 1, by omega, by show l.shown.length - (j + 1) < l.shown.length - j; omega, ⟨[], rfl, rfl, ⟨?_, ?_, ?_, trivial⟩, ?_, ?_, ?_, ?_, ?_, ?_, ?_, ?_, trivial⟩⟩
  ·exact sp
  ·exact sp
  ·exact sp
  ·exact sp
  ·exact sp
  ·exact sp
  ·exact sp
  ·exact sp
  ·exact sp
  ·exact sp
  ·exact sp
 ·have e' : j = l.shown.length := Nat.le_antisymm hj (ge_nat e)
  subst e'
  clear hj pe
  cbv
  repeat' first
   | exact s0
   | apply And.intro
   | exact sq
   | (refine fun (_ : PUnit) => ?_; simp [hh, *, qa, qd]; done)
   | trivial
   | exact sx
   | (refine sy fun e => ?_; cbv)
  refine ⟨Nat, fun j => ⟨[(0, some (.pv (bH h m))), (5, some (.ref 990 0 0)), (6, some (.ref 991 0 0)), (7, some (.ref 992 0 0)), (9, some (.pv (lH h iP pl))), (56, some (.pv (lH h qa l.shown))), (57, some (.pv (nH h l.shown.length))), (58, some (.pv (nH h j)))], [(990, some (.var 90 (h _ fun _ => qd x) false)), (991, some (.box 92 [.pv (iH h y.id), .pv (iH h y.obj), .pv (iH h y.way), .pv (iH h y.idx), .pv (iH h y.tick), .pv (iH h y.verd), .pv (iH h y.at')] false)), (992, some (.box 100 [.pv (iH h l.kind), .pv (iH h l.id), .pv (iH h l.obj), .pv (lH h iP l.places), .pv (lH h qa l.shown), .pv (iH h l.fr), .pv (iH h l.cnt), .pv (lH h bP l.blocks), .pv (iH h l.code)] false))]⟩, fun j => j <= l.shown.length /\ ji f (l.shown.drop j) = ji f l.shown, fun j => l.shown.length - j, 0, [], ⟨Nat.zero_le _, rfl⟩, trivial, ⟨[], rfl, rfl, ⟨?_, ?_, ?_, trivial⟩, ?_, ?_, ?_, ?_, ?_, ?_, ?_, ?_, trivial⟩, ?_⟩
  ·exact sp
  ·exact sp
  ·exact sp
  ·exact sp
  ·exact sp
  ·exact sp
  ·exact sp
  ·exact sp
  ·exact sp
  ·exact sp
  ·exact sp
  intro j hj
  dsimp only
  cbv
  refine ⟨fun _ => rfl, fun e => ?_, fun e => ?_⟩ <;> simp only [hh, nI, decide_eq_true_eq, decide_eq_false_iff_not, natc] at e
  ·have e' : j < l.shown.length := qK e
   have c2 := cs.out j e'
   have e3 := fd.out j e'
   by_cases q : f l.shown[j] = 0
   ·rw [if_pos q, hj.2] at e3
    replace e3 := Hdq e3
    rw [q] at c2
    clear hj fd cs
    cbv
    repeat' first
     | exact s0
     | apply And.intro
     | exact sq
     | (refine fun (_ : PUnit) => ?_; simp [hh, *, qa, qd]; done)
     | trivial
     | (refine sz fun e => ?_; simp [hh, e', iP, qa] at e <;> (try simp only [natc] at *) <;> omega)
     | (refine sy fun e => ?_; cbv)
     | (refine ⟨_, _, _, hC _ _ _ _ c2, ?_⟩; cbv; clear c2)
    refine ⟨j + 1, ⟨e', e3.out.symm⟩, by show l.shown.length - (j + 1) < l.shown.length - j; omega, ⟨[], rfl, rfl, ⟨?_, ?_, ?_, trivial⟩, ?_, ?_, ?_, ?_, ?_, ?_, ?_, ?_, trivial⟩⟩
    ·exact sp
    ·exact sp
    ·exact sp
    ·exact sp
    ·exact sp
    ·exact sp
    ·exact sp
    ·exact sp
    ·exact sp
    ·exact sp
    ·exact sp
   ·exfalso
    exact Y41
  ·have e' : j = l.shown.length := Nat.le_antisymm hj.1 (ge_nat e)
   subst e'
   clear hj fd cs hfe
   by_cases q : tg = s.stored
   ·rw [if_pos q]
    clear hq0
    cbv
    repeat' first
     | exact s0
     | apply And.intro
     | exact sq
     | (refine fun (_ : PUnit) => ?_; simp [hh, *, qa, qd]; done)
     | trivial
     | (refine sz fun e => ?_; simp [hh, hw, hi', e0, l0, ne, q, qa] at e <;> (try simp only [natc] at *) <;> omega)
     | (refine sy fun e => ?_; cbv)
     | (refine ⟨_, _, _, hC _ _ _ _ c3, ?_⟩; cbv; clear c3)
     | (refine ⟨_, _, _, hC _ _ _ _ c4, ?_⟩; cbv; clear c4)
   ·rw [if_neg q]
    clear hq0
    cbv
    repeat' first
     | exact s0
     | apply And.intro
     | exact sq
     | (refine fun (_ : PUnit) => ?_; simp [hh, *, qa, qd]; done)
     | trivial
     | (refine sz fun e => ?_; simp [hh, hw, hi', e0, l0, ne, q, qa] at e <;> (try simp only [natc] at *) <;> omega)
     | (refine sy fun e => ?_; cbv)
     | (refine ⟨_, _, _, hC _ _ _ _ c3, ?_⟩; cbv; clear c3)
     | (refine ⟨_, _, _, hC _ _ _ _ c4, ?_⟩; cbv; clear c4)
end Go.Bl
