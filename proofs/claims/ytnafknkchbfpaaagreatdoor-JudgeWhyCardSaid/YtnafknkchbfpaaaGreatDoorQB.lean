import Derived.Test.YtnafknkchbfpaaaGreatDoorPL
import Derived.Test.YtnafknkchbfpaaaGreatDoorQA2
set_option linter.unusedVariables false
set_option linter.unusedSimpArgs false
set_option maxRecDepth 1000000
set_option maxHeartbeats 8000000
namespace Go.Bl
open Go.RowKit Go.Proofs
attribute [local irreducible] qw
open Go.Proofs.YtnafknkchbfpaaaGreatDoor (Par chk blk jj yZ qO xE uM Sh uQ QI vK)
def Kk (size : Int) : List Int := if 0 <= size /\ size <= 2000 then qO (yZ size) else []
def qcc (size : Int) : Int := if 0 <= size /\ size <= 2000 then 0 else 8
theorem K9 (Z : Ad) (h : Hh) (hh : ∀ α g, h α g = g ()) (size : Int) : qb Z 115 [.pv (iH h size)] (.tup [.pv (lH h iP (Kk size)), .pv (iH h (qcc size))]) [.any] := by
 by_cases hs : 0 <= size /\ size <= 2000
 ·rw [Kk, qcc, if_pos hs, if_pos hs]
  obtain ⟨hn1, hn2⟩ := vK size hs.2
  obtain ⟨n, hn⟩ := exq (yZ size)
  obtain ⟨h1, h2⟩ := hs
  have hq : IntKind.i64.wrap (size.tdiv 8) = size / 8 := by rw [Int.tdiv_eq_ediv_of_nonneg h1, wrap_i64 Y44 Y44]
  have hr : size.tmod 8 = size % 8 := Int.tmod_eq_emod_of_nonneg h1
  have hN : (n : Int) = max ((size + 7) / 8) 1 := by rw [<- hn]; unfold yZ; omega
  have hw : IntKind.i64.wrap (size / 8 + 1) = size / 8 + 1 := wrap_i64 Y44 Y44
  rw [hn] at hn1 hn2 ⊢
  refine qdJ [20] Z h hh ⟨Tryz.func115, Tryz.ntmps115⟩ rfl rfl rfl rfl rfl fun C hC => ?_
  unfold Tryz.f115
  cbv
  repeat' first
   | exact s0
   | apply And.intro
   | exact sq
   | trivial
   | exact sx
   | (refine sy fun e => ?_; cbv)
  refine ⟨Unit, fun _ => ⟨[(4, some (.pv (nH h n)))], []⟩, fun _ => True, ?_, fun _ _ => ?_⟩
  ·cbv
   repeat' first
    | exact s0
    | apply And.intro
    | exact sq
    | trivial
    | (refine fun (e : (_ : Bool) = _) => ?_; first | (exfalso; simp [hh, hr] at e; done) | (exfalso; simp [hh, hr] at e; (try simp only [natc] at *); omega) | (have ev := Ev.mk e; (try simp only [hh, nI, decide_eq_true_eq, decide_eq_false_iff_not, Bool.not_eq_true, beq_iff_eq, beq_eq_false_iff_ne, bne_iff_ne, natc] at e); cbv))
    | (exfalso; (try simp only [natc] at *); omega)
   ·refine ⟨(), trivial, ⟨[], rfl, rfl, trivial, ?_, trivial⟩⟩
    ·cbv
     simp only [hh, nI, hq, hw]
     exact Y13
   ·refine ⟨(), trivial, ⟨[], rfl, rfl, trivial, ?_, trivial⟩⟩
    ·cbv
     simp only [hh, nI, hq, hw]
     exact Y13
   ·refine ⟨(), trivial, ⟨[], rfl, rfl, trivial, ?_, trivial⟩⟩
    ·cbv
     simp only [hh, nI, hq]
     exact Y13
  ·dsimp only
   clear hq hr hN hw hn
   cbv
   repeat' first
    | exact s0
    | apply And.intro
    | exact sq
    | trivial
    | exact sx
    | (refine sy fun e => ?_; cbv)
   refine ⟨Nat, fun k => ⟨[(4, some (.pv (iH h (nI n - 223 * nI k)))), (5, some (.own 990))], [(990, some (.row 3 1 (h _ fun _ => List.replicate k (iP 223)) false))]⟩, fun k => 223 * k < n, fun k => n - k, 0, [], by omega, trivial, ⟨[(990, 23)], rfl, rfl, ⟨?_, trivial⟩, ?_, ?_, trivial⟩, ?_⟩
   ·exact sp
   ·exact sp
   ·exact sp
   intro k hk
   dsimp only
   cbv
   repeat' first
    | exact s0
    | apply And.intro
    | exact sq
    | trivial
    | (refine fun (e : (_ : Bool) = _) => ?_; first | (exfalso; simp [hh] at e; done) | (exfalso; simp [hh] at e; (try simp only [natc] at *); omega) | (have ev := Ev.mk e; (try simp only [hh, nI, decide_eq_true_eq, decide_eq_false_iff_not, Bool.not_eq_true, beq_iff_eq, beq_eq_false_iff_ne, bne_iff_ne, natc] at e); cbv))
    | (exfalso; (try simp only [natc] at *); omega)
   ·simp only [natc] at e
    have hw : IntKind.i64.wrap ((n : Int) - 223 * (k : Int) - 223) = (n : Int) - 223 * ((k + 1 : Nat) : Int) := by rw [wrap_i64 Y44 Y44]; omega
    refine ⟨k + 1, by omega, by show n - (k + 1) < n - k; omega, ⟨[(990, 28)], rfl, rfl, ⟨?_, trivial⟩, ?_, ?_, trivial⟩⟩
    ·cbv; simp only [hh]; rw [List.replicate_succ']; simp
    ·cbv; simp only [hh, nI, hw]
    ·exact sp
   ·simp only [natc] at e
    have hk1 : k = 0 ∨ k = 1 := by omega
    refine fun _ => ?_
    simp only [hh, nI, qO]
    rcases hk1 with rfl | rfl
    ·rw [if_pos Y44]; simp
    ·rw [if_neg Y44]; simp [iP]
 ·rw [Kk, qcc, if_neg hs, if_neg hs]
  refine qh Z h hh ⟨Tryz.func115, Tryz.ntmps115⟩ rfl rfl rfl rfl rfl fun C hC => ?_
  unfold Tryz.f115
  cbv
  repeat' first
   | exact s0
   | apply And.intro
   | exact sq
   | trivial
   | (refine fun (e : (_ : Bool) = _) => ?_; first | (exfalso; simp [hh] at e; done) | (exfalso; simp [hh] at e; (try simp only [natc] at *); omega) | (have ev := Ev.mk e; (try simp only [hh, nI, decide_eq_true_eq, decide_eq_false_iff_not, Bool.not_eq_true, beq_iff_eq, beq_eq_false_iff_ne, bne_iff_ne, natc] at e); cbv))
   | (exfalso; (try simp only [natc] at *); omega)
def qcA (size : Int) : Int := if 0 <= size /\ size <= 2000 then blk size else 0
theorem qei (size : Int) : Sh (Kk size) /\ xE (Kk size) = qcA size := by
 unfold Kk qcA blk
 split
 ·rename_i h
  obtain ⟨h1, h2⟩ := vK size h.2
  exact ⟨uQ _ h1 h2, rfl⟩
 ·exact ⟨⟨by simp, fun j h => by simp at h⟩, rfl⟩
theorem Zr (Z : Ad) (h : Hh) (hh : ∀ α g, h α g = g ()) (size : Int) : qb Z 69 [.pv (iH h size)] (.tup [.pv (iH h (qcA size)), .pv (iH h (qcc size))]) [.any] := by
 have c1 := K9 Z h hh size
 obtain ⟨s1, s2⟩ := qei size
 rw [<- s2]
 obtain ⟨sh, hsh⟩ := exq (Kk size)
 obtain ⟨bad, hb⟩ := exq (qcc size)
 rw [hsh, hb] at c1
 rw [hsh] at s1
 rw [hsh, hb]
 clear hsh hb s2
 refine qh Z h hh ⟨Tryz.func69, Tryz.ntmps69⟩ rfl rfl rfl rfl rfl fun C hC => ?_
 unfold Tryz.f69
 cbv
 repeat' first
  | exact s0
  | apply And.intro
  | exact sq
  | trivial
  | exact sx
  | (refine sy fun e => ?_; cbv)
  | (refine ⟨_, _, _, hC _ _ _ _ c1, ?_⟩; cbv; clear c1)
 refine ⟨Nat, fun j => ⟨[(5, some (.pv (iH h bad))), (6, some (.pv (iH h (xE (sh.take j))))), (14, some (.pv (lH h iP sh))), (15, some (.pv (nH h sh.length))), (16, some (.pv (nH h j)))], []⟩, fun j => j <= sh.length, fun j => sh.length - j, 0, [], by omega, trivial, ⟨[], rfl, rfl, trivial, ?_, ?_, ?_, ?_, ?_, trivial⟩, ?_⟩
 ·exact sp
 ·exact sp
 ·exact sp
 ·exact sp
 ·exact sp
 intro j hj
 dsimp only
 cbv
 refine ⟨fun _ => rfl, fun e => ?_, fun e => ?_⟩ <;> simp only [hh, nI, decide_eq_true_eq, decide_eq_false_iff_not, natc] at e
 ·have e' : j < sh.length := qK e
  have a1 := s1.at_ j e'
  have a2 := QI sh s1 j (Nat.le_of_lt e')
  have a3 := uM sh j e'
  have a0 := s1.len
  obtain ⟨v, hv⟩ : ∃ v, sh[j]? = some v := ⟨_, List.getElem?_eq_getElem e'⟩
  rw [List.getD_eq_getElem?_getD, hv, Option.getD_some] at a1 a3
  have a4 : IntKind.i64.wrap (xE (sh.take j) + IntKind.i64.wrap (v + 32)) = xE (sh.take (j + 1)) := by
   rw [wrap_i64 (x := v + 32) Y44 Y44, wrap_i64 Y44 Y44, a3]
  replace a3 := Hdq a3
  cbv
  repeat' first
   | exact s0
   | apply And.intro
   | exact sq
   | trivial
   | (refine sz fun e => ?_; simp [hh, hv] at e <;> (try simp only [natc] at *) <;> omega)
   | (refine sy fun e => ?_; cbv)
  refine ⟨j + 1, by omega, by show sh.length - (j + 1) < sh.length - j; omega, ⟨[], rfl, rfl, trivial, ?_, ?_, ?_, ?_, ?_, trivial⟩⟩
  ·exact sp
  ·cbv; simp [hh, hv, a4]
  ·exact sp
  ·exact sp
  ·exact sp
 ·have e' : j = sh.length := Nat.le_antisymm hj (ge_nat e)
  subst e'
  cbv
  repeat' first
   | exact s0
   | apply And.intro
   | exact sq
   | trivial
   | exact sx
   | (refine sy fun e => ?_; cbv)
def yg (p : Par) : ByteArray × Int × Int :=
 if p.size < 0 ∨ 2000 < p.size then (⟨#[115, 105, 122, 101]⟩, p.size, 8) else if p.sent < 0 ∨ 8 < p.sent then (⟨#[115, 101, 110, 116, 105, 110, 101, 108, 115]⟩, p.sent, 18)
 else if p.spots < 1 ∨ 12 < p.spots ∨ blk p.size + p.sent < p.spots then (⟨#[115, 112, 111, 116, 115]⟩, p.spots, 1) else if p.per < 1 ∨ 10000 < p.per then (⟨#[112, 101, 114, 105, 111, 100]⟩, p.per, 1)
 else if p.pat < 1 ∨ p.per < p.pat then (⟨#[112, 97, 116, 105, 101, 110, 99, 101]⟩, p.pat, 1) else if p.ret < 0 ∨ 5 < p.ret then (⟨#[114, 101, 116, 114, 105, 101, 115]⟩, p.ret, 1) else (⟨#[]⟩, 0, 0)
theorem yA (p : Par) : (yg p).2.2 = (chk p : Int) := by
 unfold yg chk
 simp only [jj]
 repeat' split
 all_goals first | rfl | omega
theorem xx {size : Int} (h : 0 <= size /\ size <= 2000) : 0 <= blk size /\ blk size <= 510 := by
 obtain ⟨h1, h2⟩ := vK size h.2
 have := QI _ (uQ _ h1 h2) (qO (yZ size)).length (Nat.le_refl _)
 rw [List.take_length] at this
 exact this
theorem xw (Z : Ad) (h : Hh) (hh : ∀ α g, h α g = g ()) (p : Par) : qb Z 63 [.pv (zX h p)] (.tup [.pv (.v (.string (h _ fun _ => (yg p).1))), .pv (iH h ((yg p).2.1)), .pv (iH h (yg p).2.2)]) [.any] := by
 have c1 := Zr Z h hh p.size
 obtain ⟨W, hW⟩ := exq (yg p)
 have eW := hW
 rw [hW]
 unfold yg at eW
 clear hW
 by_cases t0 : p.size < 0 ∨ 2000 < p.size
 ·rw [if_pos t0] at eW
  subst eW
  refine qh Z h hh ⟨Tryz.func63, Tryz.ntmps63⟩ rfl rfl rfl rfl rfl fun C hC => ?_
  unfold Tryz.f63
  cbv
  repeat' first
   | exact s0
   | apply And.intro
   | exact sq
   | trivial
   | (refine fun (e : (_ : Bool) = _) => ?_; first | (exfalso; simp [hh] at e; done) | (exfalso; simp [hh] at e; (try simp only [natc] at *); omega) | (have ev := Ev.mk e; (try simp only [hh, nI, decide_eq_true_eq, decide_eq_false_iff_not, Bool.not_eq_true, beq_iff_eq, beq_eq_false_iff_ne, bne_iff_ne, natc] at e); cbv))
   | (refine ⟨_, _, _, hC _ _ _ _ c1, ?_⟩; cbv; clear c1)
   | (exfalso; (try simp only [natc] at *); omega)
 rw [if_neg t0] at eW
 have f00 : ¬ p.size < 0 := fun q => t0 Y44
 have f01 : ¬ 2000 < p.size := fun q => t0 Y44
 clear t0
 by_cases t1 : p.sent < 0 ∨ 8 < p.sent
 ·rw [if_pos t1] at eW
  subst eW
  refine qh Z h hh ⟨Tryz.func63, Tryz.ntmps63⟩ rfl rfl rfl rfl rfl fun C hC => ?_
  unfold Tryz.f63
  cbv
  repeat' first
   | exact s0
   | apply And.intro
   | exact sq
   | trivial
   | (refine fun (e : (_ : Bool) = _) => ?_; first | (exfalso; simp [hh, f00, f01] at e; done) | (exfalso; simp [hh, f00, f01] at e; (try simp only [natc] at *); omega) | (have ev := Ev.mk e; (try simp only [hh, nI, decide_eq_true_eq, decide_eq_false_iff_not, Bool.not_eq_true, beq_iff_eq, beq_eq_false_iff_ne, bne_iff_ne, natc] at e); cbv))
   | (refine ⟨_, _, _, hC _ _ _ _ c1, ?_⟩; cbv; clear c1)
   | (exfalso; (try simp only [natc] at *); omega)
 rw [if_neg t1] at eW
 have f10 : ¬ p.sent < 0 := fun q => t1 Y44
 have f11 : ¬ 8 < p.sent := fun q => t1 Y44
 clear t1
 have hb := xx (size := p.size) Y44
 have e0 : qcA p.size = blk p.size := if_pos Y44
 rw [e0] at c1
 have hw : IntKind.i64.wrap (blk p.size + p.sent) = blk p.size + p.sent := wrap_i64 Y44 Y44
 clear hb e0
 by_cases t2 : p.spots < 1 ∨ 12 < p.spots ∨ blk p.size + p.sent < p.spots
 ·rw [if_pos t2] at eW
  subst eW
  refine qh Z h hh ⟨Tryz.func63, Tryz.ntmps63⟩ rfl rfl rfl rfl rfl fun C hC => ?_
  unfold Tryz.f63
  cbv
  repeat' first
   | exact s0
   | apply And.intro
   | exact sq
   | trivial
   | (refine fun (e : (_ : Bool) = _) => ?_; first | (exfalso; simp [hh, hw, f00, f01, f10, f11] at e; done) | (exfalso; simp [hh, hw, f00, f01, f10, f11] at e; (try simp only [natc] at *); omega) | (have ev := Ev.mk e; (try simp only [hh, nI, decide_eq_true_eq, decide_eq_false_iff_not, Bool.not_eq_true, beq_iff_eq, beq_eq_false_iff_ne, bne_iff_ne, natc] at e); cbv))
   | (refine ⟨_, _, _, hC _ _ _ _ c1, ?_⟩; cbv; clear c1)
   | (exfalso; (try simp only [natc] at *); omega)
 rw [if_neg t2] at eW
 have f20 : ¬ p.spots < 1 := fun q => t2 Y44
 have f21 : ¬ 12 < p.spots := fun q => t2 Y44
 have f22 : ¬ blk p.size + p.sent < p.spots := fun q => t2 Y44
 clear t2
 by_cases t3 : p.per < 1 ∨ 10000 < p.per
 ·rw [if_pos t3] at eW
  subst eW
  refine qh Z h hh ⟨Tryz.func63, Tryz.ntmps63⟩ rfl rfl rfl rfl rfl fun C hC => ?_
  unfold Tryz.f63
  cbv
  repeat' first
   | exact s0
   | apply And.intro
   | exact sq
   | trivial
   | (refine fun (e : (_ : Bool) = _) => ?_; first | (exfalso; simp [hh, hw, f00, f01, f10, f11, f20, f21, f22] at e; done) | (exfalso; simp [hh, hw, f00, f01, f10, f11, f20, f21, f22] at e; (try simp only [natc] at *); omega) | (have ev := Ev.mk e; (try simp only [hh, nI, decide_eq_true_eq, decide_eq_false_iff_not, Bool.not_eq_true, beq_iff_eq, beq_eq_false_iff_ne, bne_iff_ne, natc] at e); cbv))
   | (refine ⟨_, _, _, hC _ _ _ _ c1, ?_⟩; cbv; clear c1)
   | (exfalso; (try simp only [natc] at *); omega)
 rw [if_neg t3] at eW
 have f30 : ¬ p.per < 1 := fun q => t3 Y44
 have f31 : ¬ 10000 < p.per := fun q => t3 Y44
 clear t3
 by_cases t4 : p.pat < 1 ∨ p.per < p.pat
 ·rw [if_pos t4] at eW
  subst eW
  refine qh Z h hh ⟨Tryz.func63, Tryz.ntmps63⟩ rfl rfl rfl rfl rfl fun C hC => ?_
  unfold Tryz.f63
  cbv
  repeat' first
   | exact s0
   | apply And.intro
   | exact sq
   | trivial
   | (refine fun (e : (_ : Bool) = _) => ?_; first | (exfalso; simp [hh, hw, f00, f01, f10, f11, f20, f21, f22, f30, f31] at e; done) | (exfalso; simp [hh, hw, f00, f01, f10, f11, f20, f21, f22, f30, f31] at e; (try simp only [natc] at *); omega) | (have ev := Ev.mk e; (try simp only [hh, nI, decide_eq_true_eq, decide_eq_false_iff_not, Bool.not_eq_true, beq_iff_eq, beq_eq_false_iff_ne, bne_iff_ne, natc] at e); cbv))
   | (refine ⟨_, _, _, hC _ _ _ _ c1, ?_⟩; cbv; clear c1)
   | (exfalso; (try simp only [natc] at *); omega)
 rw [if_neg t4] at eW
 have f40 : ¬ p.pat < 1 := fun q => t4 Y44
 have f41 : ¬ p.per < p.pat := fun q => t4 Y44
 clear t4
 by_cases t5 : p.ret < 0 ∨ 5 < p.ret
 ·rw [if_pos t5] at eW
  subst eW
  refine qh Z h hh ⟨Tryz.func63, Tryz.ntmps63⟩ rfl rfl rfl rfl rfl fun C hC => ?_
  unfold Tryz.f63
  cbv
  repeat' first
   | exact s0
   | apply And.intro
   | exact sq
   | trivial
   | (refine fun (e : (_ : Bool) = _) => ?_; first | (exfalso; simp [hh, hw, f00, f01, f10, f11, f20, f21, f22, f30, f31, f40, f41] at e; done) | (exfalso; simp [hh, hw, f00, f01, f10, f11, f20, f21, f22, f30, f31, f40, f41] at e; (try simp only [natc] at *); omega) | (have ev := Ev.mk e; (try simp only [hh, nI, decide_eq_true_eq, decide_eq_false_iff_not, Bool.not_eq_true, beq_iff_eq, beq_eq_false_iff_ne, bne_iff_ne, natc] at e); cbv))
   | (refine ⟨_, _, _, hC _ _ _ _ c1, ?_⟩; cbv; clear c1)
   | (exfalso; (try simp only [natc] at *); omega)
 rw [if_neg t5] at eW
 have f50 : ¬ p.ret < 0 := fun q => t5 Y44
 have f51 : ¬ 5 < p.ret := fun q => t5 Y44
 clear t5
 subst eW
 refine qh Z h hh ⟨Tryz.func63, Tryz.ntmps63⟩ rfl rfl rfl rfl rfl fun C hC => ?_
 unfold Tryz.f63
 cbv
 repeat' first
  | exact s0
  | apply And.intro
  | exact sq
  | trivial
  | (refine sz fun e => ?_; simp [hh, hw, f00, f01, f10, f11, f20, f21, f22, f30, f31, f40, f41, f50, f51] at e <;> (try simp only [natc] at *) <;> omega)
  | (refine sy fun e => ?_; cbv)
  | (refine ⟨_, _, _, hC _ _ _ _ c1, ?_⟩; cbv; clear c1)
theorem ux (Z : Ad) (h : Hh) (hh : ∀ α g, h α g = g ()) (p : Par) (h0 : 0 <= p.size /\ p.size <= 2000) (h1 : 0 <= p.sent /\ p.sent <= 8) : qb Z 22 [.pv (zX h p)] (.pv (iH h (blk p.size + p.sent))) [.any] := by
 have c1 := Zr Z h hh p.size
 have hb := xx h0
 rw [show qcA p.size = blk p.size from if_pos h0] at c1
 have hw : IntKind.i64.wrap (blk p.size + p.sent) = blk p.size + p.sent := wrap_i64 Y44 Y44
 obtain ⟨B, hB⟩ := exq (blk p.size)
 rw [hB] at c1 hw ⊢
 clear hB hb h0
 refine qh Z h hh ⟨Tryz.func22, Tryz.ntmps22⟩ rfl rfl rfl rfl rfl fun C hC => ?_
 unfold Tryz.f22
 cbv
 repeat' first
  | exact s0
  | apply And.intro
  | exact sq
  | trivial
  | exact sx
  | (refine sy fun e => ?_; cbv)
  | (refine ⟨_, _, _, hC _ _ _ _ c1, ?_⟩; cbv; clear c1)
theorem Lb (Z : Ad) (h : Hh) (hh : ∀ α g, h α g = g ()) (p : Par) : qb Z 50 [.pv (zX h p)] (.pv (tH h ((chk p : Int) == 0))) [.any] := by
 have c1 := xw Z h hh p
 rw [<- yA]
 obtain ⟨W, hW⟩ := exq (yg p)
 rw [hW] at c1 ⊢
 clear hW
 refine qh Z h hh ⟨Tryz.func50, Tryz.ntmps50⟩ rfl rfl rfl rfl rfl fun C hC => ?_
 unfold Tryz.f50
 cbv
 repeat' first
  | exact s0
  | apply And.intro
  | exact sq
  | trivial
  | exact sx
  | (refine sy fun e => ?_; cbv)
  | (refine ⟨_, _, _, hC _ _ _ _ c1, ?_⟩; cbv; clear c1)
end Go.Bl
namespace Go.Bl
open Go.RowKit Go.Proofs
attribute [local irreducible] qw
open Go.Proofs.YtnafknkchbfpaaaGreatDoor (beK b8 QR beK_len fnS vO uo xZ vp uV qH vQ)
theorem qaz (l : List UInt8) : jT l = qfg l := by cases l <;> rfl
theorem qdQ {a b : Nat} (ha : a < 2 ^ 62) (hb : b < 2 ^ 62) : zx .xor .i64 (a : Int) (b : Int) = ((a ^^^ b : Nat) : Int) := by
 have h1 : a ^^^ b < 2 ^ 62 := Nat.xor_lt_two_pow ha hb
 change IntKind.i64.wrap (((BitVec.ofInt 64 (a : Int) ^^^ BitVec.ofInt 64 (b : Int)).toNat : Nat) : Int) = _
 simp only [BitVec.ofInt_natCast, BitVec.toNat_xor, BitVec.toNat_ofNat]
 exact Y9
theorem L7 (Z : Ad) (h : Hh) (hh : ∀ α g, h α g = g ()) (n : Nat) (hn : n <= 1048576) : qb Z 116 [.pv (nH h n)] (.pv (nH h (jd n))) [.any] := by
 refine qh Z h hh ⟨Tryz.func116, Tryz.ntmps116⟩ rfl rfl rfl rfl rfl fun C hC => ?_
 unfold Tryz.f116
 cbv
 repeat' first
  | exact s0
  | apply And.intro
  | exact sq
  | trivial
  | exact sx
  | (refine sy fun e => ?_; cbv)
 refine ⟨Nat, fun j => ⟨[(0, some (.pv (nH h n))), (3, some (.pv (nH h (j + 1)))), (4, some (.pv (nH h (4 ^ (j + 1)))))], []⟩, fun j => j <= 10 /\ ur (10 - j) (j + 1) n = jd n, fun j => 10 - j, 0, [], ⟨by omega, rfl⟩, trivial, ⟨[], rfl, rfl, trivial, ?_, ?_, ?_, trivial⟩, ?_⟩
 ·exact sp
 ·exact sp
 ·exact sp
 intro j hj
 dsimp only
 cbv
 refine ⟨fun _ => rfl, fun e => ?_, fun e => ?_⟩ <;> simp only [hh, nI, decide_eq_true_eq, decide_eq_false_iff_not, natc] at e
 ·have e' : 4 ^ (j + 1) < n := qK e
  obtain ⟨j1, j2⟩ := hj
  have j3 : j < 10 := by
   rcases Nat.lt_or_ge j 10 with q | q
   ·exact q
   ·have : j = 10 := by omega
    subst this
    exact absurd e' Y44
  rw [show 10 - j = (10 - (j + 1)) + 1 by omega, vp e'] at j2
  have hp : 4 ^ (j + 1 + 1) = 4 ^ (j + 1) * 4 := Nat.pow_succ ..
  have w1 : IntKind.i64.wrap (((4 ^ (j + 1) : Nat) : Int) * 4) = ((4 ^ (j + 1 + 1) : Nat) : Int) := by rw [wrap_i64 Y44 Y44, hp]; omega
  have w2 : IntKind.i64.wrap (((j + 1 : Nat) : Int) + 1) = ((j + 1 + 1 : Nat) : Int) := by rw [wrap_i64 Y44 Y44]; omega
  replace j2 := Hdq j2
  clear hp e'
  cbv
  repeat' first
   | exact s0
   | apply And.intro
   | exact sq
   | trivial
   | exact sx
   | (refine sy fun e => ?_; cbv)
  refine ⟨j + 1, ⟨j3, j2.out⟩, by show 10 - (j + 1) < 10 - j; omega, ⟨[], rfl, rfl, trivial, ?_, ?_, ?_, trivial⟩⟩
  ·exact sp
  ·cbv; simp only [hh, nI, w2]
  ·cbv; simp only [hh, nI, w1]
 ·have e' : ¬ 4 ^ (j + 1) < n := Nat.not_lt.2 (ge_nat e)
  obtain ⟨j1, j2⟩ := hj
  rw [uV e'] at j2
  rw [<- j2]
  clear j2 e'
  cbv
  repeat' first
   | exact s0
   | apply And.intro
   | exact sq
   | trivial
   | exact sx
   | (refine sy fun e => ?_; cbv)
theorem qaT (Z : Ad) (h : Hh) (hh : ∀ α g, h α g = g ()) (k : List UInt8) (w x : Nat) (hk : k.length <= 90000000) (hw : w <= 11) (hx : x < 4 ^ w) : qb Z 117 [.pv (bH h k), .pv (nH h w), .pv (nH h x)] (.pv (nH h (zm w (fnS k w) x))) [.any, .any, .any] := by
 have hS0 : 2 ^ w <= 2048 := Nat.le_trans (Nat.pow_le_pow_right Y76 hw) Y76
 have hS1 : 0 < 2 ^ w := Nat.two_pow_pos w
 have hf := vO k w
 obtain ⟨x1, x2⟩ := yT hx
 refine qh Z h hh ⟨Tryz.func117, Tryz.ntmps117⟩ rfl rfl rfl rfl rfl fun C hC => ?_
 unfold Tryz.f117
 cbv
 repeat' first
  | exact s0
  | apply And.intro
  | exact sq
  | trivial
  | exact sx
  | (refine sy fun e => ?_; cbv)
 refine ⟨Nat, fun j => ⟨[(0, some (.pv (bH h k))), (1, some (.pv (nH h w))), (2, some (.pv (nH h x))), (7, some (.pv (nH h (2 ^ j)))), (8, some (.pv (nH h j)))], []⟩, fun j => j <= w, fun j => w - j, 0, [], by omega, trivial, ⟨[], rfl, rfl, trivial, ?_, ?_, ?_, ?_, ?_, trivial⟩, ?_⟩
 ·exact sp
 ·exact sp
 ·exact sp
 ·exact sp
 ·exact sp
 intro j hj
 dsimp only
 cbv
 refine ⟨fun _ => rfl, fun e => ?_, fun e => ?_⟩ <;> simp only [hh, nI, decide_eq_true_eq, decide_eq_false_iff_not, natc] at e
 ·have e' : j < w := qK e
  have hp : 2 ^ (j + 1) = 2 ^ j * 2 := Nat.pow_succ ..
  have hp2 : 2 ^ j <= 2 ^ w := Nat.pow_le_pow_right Y76 (Nat.le_of_lt e')
  have w1 : IntKind.i64.wrap (((2 ^ j : Nat) : Int) * 2) = ((2 ^ (j + 1) : Nat) : Int) := by rw [wrap_i64 Y44 Y44, hp]; omega
  clear hp hp2
  cbv
  repeat' first
   | exact s0
   | apply And.intro
   | exact sq
   | trivial
   | exact sx
   | (refine sy fun e => ?_; cbv)
  refine ⟨j + 1, by omega, by show w - (j + 1) < w - j; omega, ⟨[], rfl, rfl, trivial, ?_, ?_, ?_, ?_, ?_, trivial⟩⟩
  ·exact sp
  ·exact sp
  ·exact sp
  ·cbv; simp only [hh, nI, w1]
  ·exact sp
 ·have e' : j = w := Nat.le_antisymm hj (ge_nat e)
  subst e'
  have hx4 : x < 4194304 := Nat.lt_of_lt_of_le hx (Nat.le_trans (Nat.pow_le_pow_right Y76 hw) Y76)
  have est : zm j (fnS k j) x = (zj (fnS k j) 4 (x / 2 ^ j, x % 2 ^ j)).1 * 2 ^ j + (zj (fnS k j) 4 (x / 2 ^ j, x % 2 ^ j)).2 := rfl
  have hlt : ∀ t, (zj (fnS k j) t (x / 2 ^ j, x % 2 ^ j)).1 < 2 ^ j /\ (zj (fnS k j) t (x / 2 ^ j, x % 2 ^ j)).2 < 2 ^ j := fun t => QU hf t _ x1 x2
  rw [est]
  have hfn : ∀ t r, fnS k j t r = jT (xh k (b8 (t : Int) :: beK 8 (r : Int))) % 2 ^ j := fun t r => by rw [qaz]; rfl
  have hrec : ∀ t p, zj (fnS k j) (t + 1) p = ((zj (fnS k j) t p).2, (zj (fnS k j) t p).1 ^^^ fnS k j t (zj (fnS k j) t p).2) := fun t p => rfl
  have hr0 : ∀ p, zj (fnS k j) 0 p = p := fun p => rfl
  clear hx hf est
  obtain ⟨S, hS⟩ := exq (2 ^ j)
  obtain ⟨R, hR⟩ := exq (zj (fnS k j))
  rw [hR] at hrec hr0 hlt ⊢
  obtain ⟨fn, hfn'⟩ : ∃ fn, fnS k j = fn := ⟨_, rfl⟩
  rw [hfn'] at hrec hfn
  rw [hS] at hfn hlt x1 x2 hS0 hS1 ⊢
  clear hR hfn' hS hw
  obtain ⟨a, ha⟩ := exq (x / S)
  obtain ⟨b, hb⟩ := exq (x % S)
  rw [ha] at x1 hlt ⊢
  rw [hb] at x2 hlt ⊢
  have q1 : IntKind.i64.wrap ((x : Int).tdiv (S : Int)) = (a : Int) := by rw [<- Int.ofNat_tdiv, ha, wrap_i64 Y44 Y44]
  have q2 : (x : Int).tmod (S : Int) = (b : Int) := by rw [<- Int.ofNat_tmod, hb]
  have nS : S ≠ 0 := by omega
  clear ha hb
  cbv
  repeat' first
   | exact s0
   | apply And.intro
   | exact sq
   | trivial
   | (refine sz fun e => ?_; simp [hh, nS] at e <;> (try simp only [natc] at *) <;> omega)
   | (refine sy fun e => ?_; cbv)
  refine ⟨Nat, fun t => ⟨[(0, some (.pv (bH h k))), (7, some (.pv (nH h S))), (9, some (.pv (nH h (R t (a, b)).1))), (10, some (.pv (nH h (R t (a, b)).2))), (11, some (.pv (nH h t)))], []⟩, fun t => t <= 4, fun t => 4 - t, 0, [], by omega, trivial, ⟨[], rfl, rfl, trivial, ?_, ?_, ?_, ?_, ?_, trivial⟩, ?_⟩
  ·exact sp
  ·exact sp
  ·cbv; simp only [hh, nI, q1, hr0]
  ·cbv; simp only [hh, nI, q2, hr0]
  ·exact sp
  intro t ht
  dsimp only
  cbv
  refine ⟨fun _ => rfl, fun e => ?_, fun e => ?_⟩ <;> simp only [hh, nI, decide_eq_true_eq, decide_eq_false_iff_not, natc] at e
  ·have e' : t < 4 := qK (b := 4) e
   obtain ⟨l1, l2⟩ := hlt t
   have r1 : (R (t + 1) (a, b)).1 = (R t (a, b)).2 := by rw [hrec]
   have r2 : (R (t + 1) (a, b)).2 = (R t (a, b)).1 ^^^ fn t (R t (a, b)).2 := by rw [hrec]
   obtain ⟨u, hu⟩ := exq ((R t (a, b)).1)
   obtain ⟨v, hv⟩ := exq ((R t (a, b)).2)
   rw [hu] at l1 r2 ⊢
   rw [hv] at l2 r1 r2 ⊢
   rw [hfn] at r2
   obtain ⟨nb, hnb⟩ := exq (b8 (t : Int) :: beK 8 (v : Int))
   have ln : nb.length = 9 := by rw [<- hnb]; rfl
   obtain ⟨d, hd⟩ := exq (vN k nb)
   have l3 : d.length = 32 := by rw [<- hd]; exact zo _ _
   have c1 := xL Z h hh (v : Int)
   have c2 := yf Z h hh k nb hk Y44
   rw [hd] at c2
   rw [show xh k (b8 (t : Int) :: beK 8 (v : Int)) = d.take 8 by rw [xh, hnb, hd]] at r2
   have wt : u8P (b8 (t : Int)) = .v (.int .u8 (IntKind.u8.wrap t)) := by rw [u8P, u8v, QR]
   have hnb' : nb.map u8P = u8P (b8 (t : Int)) :: (beK 8 (v : Int)).map u8P := by rw [<- hnb]; rfl
   rw [wt] at hnb'
   obtain ⟨vb, hvb⟩ := exq (beK 8 (v : Int))
   have lv : vb.length = 8 := by rw [<- hvb]; rfl
   rw [hvb] at c1 hnb'
   clear hnb hd hvb ln hrec hfn hr0 hlt q1 q2 hu hv wt
   cbv
   repeat' first
    | exact s0
    | apply And.intro
    | exact sq
    | trivial
    | exact sx
    | (refine sy fun e => ?_; cbv)
    | (refine ⟨_, _, _, hC _ _ _ _ c1, ?_⟩; cbv; clear c1)
    | (refine ⟨_, _, _, hC _ _ _ _ c2, ?_⟩; cbv; clear c2)
   refine ⟨Nat, fun i => ⟨[(0, some (.pv (bH h k))), (7, some (.pv (nH h S))), (9, some (.pv (nH h u))), (10, some (.pv (nH h v))), (11, some (.pv (nH h t))), (13, some (.pv (kH h .u64 (nI (jT (d.take i)))))), (42, some (.sl 990 0 8)), (43, some (.pv (iH h 8))), (44, some (.pv (nH h i)))], [(990, some (.var 57 (h _ fun _ => d.map u8P) false))]⟩, fun i => i <= 8, fun i => 8 - i, 0, [], by omega, trivial, ⟨[(990, 12)], rfl, rfl, ⟨?_, trivial⟩, ?_, ?_, ?_, ?_, ?_, ?_, ?_, ?_, ?_, trivial⟩, ?_⟩
   ·cbv; simp [hh, l3, splice]
   ·exact sp
   ·exact sp
   ·exact sp
   ·exact sp
   ·exact sp
   ·cbv; simp [hh, jT]
   ·exact sp
   ·exact sp
   ·exact sp
   intro i hi
   dsimp only
   cbv
   refine ⟨fun _ => rfl, fun e => ?_, fun e => ?_⟩ <;> simp only [hh, nI, decide_eq_true_eq, decide_eq_false_iff_not, natc] at e
   ·have e' : i < 8 := qK (b := 8) e
    have e2 : i < d.length := by omega
    have hlt : jT (d.take i) < 72057594037927936 := by
     have := vD i d Y44
     have h2 : 256 ^ i <= 256 ^ 7 := Nat.pow_le_pow_right Y76 Y44
     omega
    have hc := d[i].toNat_lt
    have hor : IntKind.u64.wrap (IntKind.u64.wrap ((jT (d.take i) : Int) * 256) + IntKind.u64.wrap (d[i].toNat : Int)) = ((jT (d.take i) * 256 + d[i].toNat : Nat) : Int) := by
     rw [qS (x := (jT (d.take i) : Int) * 256) Y44 Y44, qS (x := (d[i].toNat : Int)) Y44 Y44, qS Y44 Y44]
     omega
    replace hor := Hdq hor
    have l3p := Hdq l3
    clear hlt hc l3
    cbv
    repeat' first
     | exact s0
     | apply And.intro
     | exact sq
     | trivial
     | exact sx
     | (refine sy fun e => ?_; cbv)
    refine ⟨i + 1, by omega, by show 8 - (i + 1) < 8 - i; omega, ⟨[], rfl, rfl, ⟨?_, trivial⟩, ?_, ?_, ?_, ?_, ?_, ?_, ?_, ?_, ?_, trivial⟩⟩
    ·exact sp
    ·exact sp
    ·exact sp
    ·exact sp
    ·exact sp
    ·exact sp
    ·cbv
     exact Y36
    ·exact sp
    ·exact sp
    ·exact sp
   ·have e' : i = 8 := Nat.le_antisymm hi (ge_nat (b := 8) e)
    subst e'
    have hN : jT (d.take 8) < 18446744073709551616 := vD 8 d Y44
    obtain ⟨N, hN'⟩ : ∃ N, jT (d.take 8) = N := ⟨_, rfl⟩
    rw [hN'] at hN r2 ⊢
    have w1 : IntKind.u64.wrap (S : Int) = S := qS Y44 Y44
    have w3 : N % S < S := Nat.mod_lt _ hS1
    obtain ⟨M, hM⟩ := exq (N % S)
    rw [hM] at w3 r2
    have w2 : (N : Int).tmod (S : Int) = (M : Int) := by rw [<- Int.ofNat_tmod, hM]
    have w4 : IntKind.i64.wrap (M : Int) = (M : Int) := wrap_i64 Y44 Y44
    have w5 := qdQ (a := u) (b := M) Y44 Y44
    rw [<- r2] at w5
    clear hN' hN r2 hM
    cbv
    repeat' first
     | exact s0
     | apply And.intro
     | exact sq
     | trivial
     | (refine sz fun e => ?_; simp [hh, nS] at e <;> (try simp only [natc] at *) <;> omega)
     | (refine sy fun e => ?_; cbv)
    refine ⟨t + 1, by omega, by show 4 - (t + 1) < 4 - t; omega, ⟨[], rfl, rfl, trivial, ?_, ?_, ?_, ?_, ?_, trivial⟩⟩
    ·exact sp
    ·exact sp
    ·exact sp
    ·exact sp
    ·exact sp
  ·have e' : t = 4 := Nat.le_antisymm ht (ge_nat (b := 4) e)
   subst e'
   obtain ⟨l1, l2⟩ := hlt 4
   obtain ⟨L, hL⟩ := exq (R 4 (a, b))
   rw [hL] at l1 l2 ⊢
   have w1 : L.1 * S <= 2048 * 2048 := Nat.mul_le_mul Y44 hS0
   have w2 : IntKind.i64.wrap (IntKind.i64.wrap ((L.1 : Int) * (S : Int)) + (L.2 : Int)) = ((L.1 * S + L.2 : Nat) : Int) := by
    rw [<- Int.natCast_mul, wrap_i64 (x := ((L.1 * S : Nat) : Int)) Y44 Y44, wrap_i64 Y44 Y44]; omega
   clear hrec hfn hr0 hlt q1 q2 w1 hL
   cbv
   repeat' first
    | exact s0
    | apply And.intro
    | exact sq
    | trivial
    | exact sx
    | (refine sy fun e => ?_; cbv)
theorem qdH (Z : Ad) (h : Hh) (hh : ∀ α g, h α g = g ()) (k : List UInt8) (n x : Nat) (hk : k.length <= 90000000) (hn : n <= 1048576) (hx : x < n) : qb Z 70 [.pv (bH h k), .pv (nH h n), .pv (nH h x)] (.pv (nH h (qH k n x))) [.any, .any, .any] := by
 have c1 := L7 Z h hh n hn
 obtain ⟨K, k1, k2, k3, k4⟩ := ZM (vO k (jd n)) (uo n Y44) hx
 have hx4 : x < 4 ^ jd n := Nat.lt_of_lt_of_le hx (uo n Y44)
 have it := VV (w := jd n) (f := zm (jd n) (fnS k (jd n))) (fun x h => Zt (vO k (jd n)) h) hx4
 have hw := (xZ n).2
 change je _ K x = qH k n x at k2
 change qH k n x < n at k3
 obtain ⟨p, hp⟩ := exq (qH k n x)
 rw [hp] at k2 k3 ⊢
 obtain ⟨w, hw'⟩ : ∃ w, jd n = w := ⟨_, rfl⟩
 rw [hw'] at k2 k4 it hx4 hw c1
 have s : ∀ j, qb Z 117 [.pv (bH h k), .pv (nH h w), .pv (nH h (je (zm w (fnS k w)) j x))] (.pv (nH h (je (zm w (fnS k w)) (j + 1) x))) [.any, .any, .any] := fun j => qaT Z h hh k w _ hk hw (it j)
 obtain ⟨g, hg⟩ : ∃ g : Nat -> Nat, (fun j => je (zm w (fnS k w)) j x) = g := ⟨_, rfl⟩
 have hg' : ∀ j, je (zm w (fnS k w)) j x = g j := fun j => congrFun hg j
 have g0 : g 0 = x := (hg' 0).symm
 simp only [hg'] at s k2 k4
 have s0 := s 0
 rw [g0] at s0
 clear hp hw' it hx4 hw hg hg' g0 hk hn hx
 refine qh Z h hh ⟨Tryz.func70, Tryz.ntmps70⟩ rfl rfl rfl rfl rfl fun C hC => ?_
 unfold Tryz.f70
 cbv
 repeat' first
  | exact s0
  | apply And.intro
  | exact sq
  | trivial
  | exact sx
  | (refine sy fun e => ?_; cbv)
  | (refine ⟨_, _, _, hC _ _ _ _ c1, ?_⟩; cbv; clear c1)
  | (refine ⟨_, _, _, hC _ _ _ _ s0, ?_⟩; cbv; clear s0)
 refine ⟨Nat, fun j => ⟨[(0, some (.pv (bH h k))), (1, some (.pv (nH h n))), (7, some (.pv (nH h w))), (8, some (.pv (nH h (g j))))], []⟩, fun j => 1 <= j /\ j <= K, fun j => K - j, 1, [], ⟨Nat.le_refl _, k1⟩, trivial, ⟨[], rfl, rfl, trivial, ?_, ?_, ?_, ?_, trivial⟩, ?_⟩
 ·exact sp
 ·exact sp
 ·exact sp
 ·exact sp
 intro j hj
 dsimp only
 obtain ⟨j1, j2⟩ := hj
 cbv
 refine ⟨fun _ => rfl, fun e => ?_, fun e => ?_⟩ <;> simp only [hh, nI, decide_eq_true_eq, decide_eq_false_iff_not, natc] at e
 ·have e' : ¬ g j < n := Nat.not_lt.2 (by exact_mod_cast e)
  have j3 : j < K := by
   rcases Nat.lt_or_ge j K with q | q
   ·exact q
   ·have : j = K := by omega
    subst this
    rw [k2] at e'
    exact absurd k3 e'
  have s1 := s j
  clear k4 s e'
  cbv
  repeat' first
   | exact s0
   | apply And.intro
   | exact sq
   | trivial
   | exact sx
   | (refine sy fun e => ?_; cbv)
   | (refine ⟨_, _, _, hC _ _ _ _ s1, ?_⟩; cbv; clear s1)
  refine ⟨j + 1, ⟨by omega, j3⟩, by show K - (j + 1) < K - j; omega, ⟨[], rfl, rfl, trivial, ?_, ?_, ?_, ?_, trivial⟩⟩
  ·exact sp
  ·exact sp
  ·exact sp
  ·exact sp
 ·have e' : g j < n := by
   have : ¬ (n : Int) <= g j := e
   omega
  have j3 : j = K := by
   rcases Nat.lt_or_ge j K with q | q
   ·exact absurd e' (k4 j j1 q)
   ·omega
  subst j3
  rw [<- k2]
  clear s k4 e'
  cbv
  repeat' first
   | exact s0
   | apply And.intro
   | exact sq
   | trivial
   | exact sx
   | (refine sy fun e => ?_; cbv)
end Go.Bl
namespace Go.Bl
open Go.RowKit Go.Proofs
attribute [local irreducible] qw
open Go.Proofs.YtnafknkchbfpaaaGreatDoor (Par chk blk jj qc qi jU qx qV jI jw qH vQ vo jD beK beK_len)
theorem qco (h : Hh) (hh : ∀ α g, h α g = g ()) (m : List UInt8) (n : Int) : PV.a (h _ fun _ => JH m n 5) = .a [bH h (qi m jU n), bH h (qi m qx n), bH h (qi m qV n), bH h (qi m jI n), bH h (qi m jw n)] := by
 rw [hh, qaj]; simp only [bP, bH, lH, hh]
theorem KW (Z : Ad) (h : Hh) (hh : ∀ α g, h α g = g ()) (k : List UInt8) (i : Int) (hk : k.length <= 90000000) (hi : 0 <= i /\ i <= 1099511627776) : qb Z 71 [.pv (bH h k), .pv (iH h i)] (.tup [.own 5 1 (h _ fun _ => (jD k i).map u8P), .pv (iH h 0)]) [.any, .any] := by
 have c1 := xL Z h hh i
 obtain ⟨nb, hnb⟩ := exq (beK 8 i)
 have ln : nb.length = 8 := by rw [<- hnb]; rfl
 have c2 := yf Z h hh k nb hk Y44
 obtain ⟨d, hd⟩ := exq (vN k nb)
 have l3 : d.length = 32 := by rw [<- hd]; exact zo _ _
 rw [hd] at c2
 rw [hnb] at c1
 rw [show jD k i = d.take 8 by rw [jD, xh, hnb, hd]]
 clear hnb hd
 refine qh Z h hh ⟨Tryz.func71, Tryz.ntmps71⟩ rfl rfl rfl rfl rfl fun C hC => ?_
 unfold Tryz.f71
 cbv
 repeat' first
  | exact s0
  | apply And.intro
  | exact sq
  | trivial
  | exact sx
  | (refine sy fun e => ?_; cbv)
  | (refine ⟨_, _, _, hC _ _ _ _ c1, ?_⟩; cbv; clear c1)
  | (refine ⟨_, _, _, hC _ _ _ _ c2, ?_⟩; cbv; clear c2)
theorem qag (Z : Ad) (h : Hh) (hh : ∀ α g, h α g = g ()) (k b : List UInt8) (n : Int) (hk : k.length <= 90000000) (hb : b.length <= 1000) : qb Z 17 [.pv (bH h k), .pv (iH h n), .pv (bH h b)] (.own 5 1 (h _ fun _ => (vo k n b).map u8P)) [.any, .any, .any] := by
 have c1 := xL Z h hh n
 rw [vo]
 obtain ⟨nb, hnb⟩ := exq (beK 8 n)
 have ln : nb.length = 8 := by rw [<- hnb]; rfl
 have c2 := qcr Z h hh k (nb ++ b) hk (by rw [List.length_append]; omega)
 have lt := vV k (nb ++ b)
 rw [hnb] at c1 ⊢
 obtain ⟨d, hd⟩ := exq (xh k (nb ++ b))
 rw [hd] at c2 lt ⊢
 clear hnb hd
 refine qh Z h hh ⟨Tryz.func17, Tryz.ntmps17⟩ rfl rfl rfl rfl rfl fun C hC => ?_
 unfold Tryz.f17
 cbv
 repeat' first
  | exact s0
  | apply And.intro
  | exact sq
  | trivial
  | exact sx
  | (refine sy fun e => ?_; cbv)
  | (refine ⟨_, _, _, hC _ _ _ _ c1, ?_⟩; cbv; clear c1)
  | (refine ⟨_, _, _, hC _ _ _ _ c2, ?_⟩; cbv; clear c2)
theorem uP (Z : Ad) (h : Hh) (hh : ∀ α g, h α g = g ()) (m : List UInt8) (n : Int) (p : Par) (hc : chk p = 0) (hk : qc m n = 0) : qb Z 18 [.pv (bH h m), .pv (iH h n), .pv (zX h p)] (.tup [.pv (.a [bH h (qi m jU n), bH h (qi m qx n), bH h (qi m qV n), bH h (qi m jI n), bH h (qi m jw n)]), .pv (iH h 0)]) [.any, .any, .any] := by
 have c1 := xw Z h hh p
 have c2 := qey Z h hh m n hk
 have eW := yA p
 rw [hc] at eW
 obtain ⟨W, hW⟩ := exq (yg p)
 rw [hW] at c1 eW
 obtain ⟨W1, W2, W3⟩ := W
 cases (show W3 = 0 from eW)
 rw [qco h hh] at c2
 clear eW hW hc
 refine qh Z h hh ⟨Tryz.func18, Tryz.ntmps18⟩ rfl rfl rfl rfl rfl fun C hC => ?_
 unfold Tryz.f18
 cbv
 repeat' first
  | exact s0
  | apply And.intro
  | exact sq
  | trivial
  | exact sx
  | (refine sy fun e => ?_; cbv)
  | (refine ⟨_, _, _, hC _ _ _ _ c1, ?_⟩; cbv; clear c1)
  | (refine ⟨_, _, _, hC _ _ _ _ c2, ?_⟩; cbv; clear c2)
theorem W4 (Z : Ad) (h : Hh) (hh : ∀ α g, h α g = g ()) (m : List UInt8) (n : Int) (p : Par) (hc : chk p ≠ 0) : qb Z 18 [.pv (bH h m), .pv (iH h n), .pv (zX h p)] (.tup [.pv (.a (List.replicate 5 (.l []))), .pv (nH h (chk p))]) [.any, .any, .any] := by
 have c1 := xw Z h hh p
 have eW := yA p
 obtain ⟨W, hW⟩ := exq (yg p)
 rw [hW] at c1 eW
 obtain ⟨W1, W2, W3⟩ := W
 obtain ⟨c, hc'⟩ : ∃ c, chk p = c := ⟨_, rfl⟩
 rw [hc'] at eW hc ⊢
 cases (show W3 = (c : Int) from eW)
 have nz : (c : Int) ≠ 0 := by omega
 clear eW hW hc'
 refine qh Z h hh ⟨Tryz.func18, Tryz.ntmps18⟩ rfl rfl rfl rfl rfl fun C hC => ?_
 unfold Tryz.f18
 cbv
 repeat' first
  | exact s0
  | apply And.intro
  | exact sq
  | trivial
  | (refine sz fun e => ?_; simp [hh, nz] at e <;> (try simp only [natc] at *) <;> omega)
  | (refine sy fun e => ?_; cbv)
  | (refine ⟨_, _, _, hC _ _ _ _ c1, ?_⟩; cbv; clear c1)
theorem WL (Z : Ad) (h : Hh) (hh : ∀ α g, h α g = g ()) (m : List UInt8) (n : Int) (p : Par) (hc : chk p = 0) (hk : qc m n ≠ 0) : qb Z 18 [.pv (bH h m), .pv (iH h n), .pv (zX h p)] (.tup [.pv (.a (List.replicate 5 (.l []))), .pv (nH h (qc m n))]) [.any, .any, .any] := by
 have c1 := xw Z h hh p
 have c2 := qcm Z h hh m n hk
 have eW := yA p
 rw [hc] at eW
 obtain ⟨W, hW⟩ := exq (yg p)
 rw [hW] at c1 eW
 obtain ⟨W1, W2, W3⟩ := W
 cases (show W3 = 0 from eW)
 clear eW hW hc
 refine qh Z h hh ⟨Tryz.func18, Tryz.ntmps18⟩ rfl rfl rfl rfl rfl fun C hC => ?_
 unfold Tryz.f18
 cbv
 repeat' first
  | exact s0
  | apply And.intro
  | exact sq
  | trivial
  | exact sx
  | (refine sy fun e => ?_; cbv)
  | (refine ⟨_, _, _, hC _ _ _ _ c1, ?_⟩; cbv; clear c1)
  | (refine ⟨_, _, _, hC _ _ _ _ c2, ?_⟩; cbv; clear c2)
theorem J7 (m nm : List UInt8) (n : Int) : (qi m nm n).length <= 90000000 := by
 have : (qi m nm n).length = 32 := zo _ _
 omega
theorem Ku (Z : Ad) (h : Hh) (hh : ∀ α g, h α g = g ()) (m : List UInt8) (n : Int) (p : Par) (i B : Nat) (h0 : 0 <= p.size /\ p.size <= 2000) (h1 : 0 <= p.sent /\ p.sent <= 8) (hB : blk p.size + p.sent = (B : Int)) (hi : i < B) : qb Z 23 [.pv (.a [bH h (qi m jU n), bH h (qi m qx n), bH h (qi m qV n), bH h (qi m jI n), bH h (qi m jw n)]), .pv (zX h p), .pv (nH h i)] (.pv (nH h (qH (qi m qx n) B i))) [.any, .any, .any] := by
 have c1 := ux Z h hh p h0 h1
 have hb := xx h0
 rw [hB] at c1
 have c2 := qdH Z h hh (qi m qx n) B i (J7 _ _ _) Y44 hi
 obtain ⟨v, hv⟩ := exq (qH (qi m qx n) B i)
 rw [hv] at c2 ⊢
 clear hv hb hB h0 h1 hi
 refine qh Z h hh ⟨Tryz.func23, Tryz.ntmps23⟩ rfl rfl rfl rfl rfl fun C hC => ?_
 unfold Tryz.f23
 cbv
 repeat' first
  | exact s0
  | apply And.intro
  | exact sq
  | trivial
  | exact sx
  | (refine sy fun e => ?_; cbv)
  | (refine ⟨_, _, _, hC _ _ _ _ c1, ?_⟩; cbv; clear c1)
  | (refine ⟨_, _, _, hC _ _ _ _ c2, ?_⟩; cbv; clear c2)
theorem UJ (Z : Ad) (h : Hh) (hh : ∀ α g, h α g = g ()) (m : List UInt8) (n : Int) (p : Par) (i B D : Nat) (h0 : 0 <= p.size /\ p.size <= 2000) (h1 : 0 <= p.sent /\ p.sent <= 8) (hB : blk p.size + p.sent = (B : Int)) (hD : blk p.size = (D : Int)) (hi : (i : Int) < p.sent) : qb Z 24 [.pv (.a [bH h (qi m jU n), bH h (qi m qx n), bH h (qi m qV n), bH h (qi m jI n), bH h (qi m jw n)]), .pv (zX h p), .pv (nH h i)] (.tup [.pv (nH h (qH (qi m qx n) B (D + i))), .own 5 1 (h _ fun _ => (vo (qi m jI n) (qH (qi m qx n) B (D + i) : Nat) (jD (qi m qV n) (i : Int))).map u8P)]) [.any, .any, .any] := by
 have hb := xx h0
 have c1 := KW Z h hh (qi m qV n) (i : Int) (J7 _ _ _) Y44
 have c2 := ux Z h hh p h0 h1
 rw [hB] at c2
 have c3 := Ku Z h hh m n p (D + i) B h0 h1 hB Y44
 obtain ⟨v, hv⟩ := exq (qH (qi m qx n) B (D + i))
 rw [hv] at c3 ⊢
 have ls : (jD (qi m qV n) (i : Int)).length = 8 := vV _ _
 obtain ⟨b, hb'⟩ : ∃ b, jD (qi m qV n) (i : Int) = b := ⟨_, rfl⟩
 rw [hb'] at c1 ls ⊢
 have c4 := qag Z h hh (qi m jI n) b (v : Int) (J7 _ _ _) Y44
 have w1 : IntKind.i64.wrap ((B : Int) - p.sent) = (D : Int) := by rw [wrap_i64 Y44 Y44]; omega
 have w2 : IntKind.i64.wrap ((D : Int) + (i : Int)) = ((D + i : Nat) : Int) := by rw [wrap_i64 Y44 Y44]; omega
 obtain ⟨q, hq⟩ := exq (D + i)
 rw [hq] at c3 w2
 clear hv hb' hb hB hD h0 h1 hi hq
 refine qh Z h hh ⟨Tryz.func24, Tryz.ntmps24⟩ rfl rfl rfl rfl rfl fun C hC => ?_
 unfold Tryz.f24
 cbv
 repeat' first
  | exact s0
  | apply And.intro
  | exact sq
  | trivial
  | exact sx
  | (refine sy fun e => ?_; cbv)
  | (refine ⟨_, _, _, hC _ _ _ _ c1, ?_⟩; cbv; clear c1)
  | (refine ⟨_, _, _, hC _ _ _ _ c2, ?_⟩; cbv; clear c2)
  | (refine ⟨_, _, _, hC _ _ _ _ c3, ?_⟩; cbv; clear c3)
  | (refine ⟨_, _, _, hC _ _ _ _ c4, ?_⟩; cbv; clear c4)
end Go.Bl
