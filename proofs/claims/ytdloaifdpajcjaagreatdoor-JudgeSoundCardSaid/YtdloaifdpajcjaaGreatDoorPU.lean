import Derived.Test.YtdloaifdpajcjaaGreatDoorPT2
import Derived.Test.YtdloaifdpajcjaaGreatDoorPQ
import Derived.Test.YtdloaifdpajcjaaGreatDoorPM3
set_option linter.unusedVariables false
set_option linter.unusedSimpArgs false
set_option maxRecDepth 1000000
set_option maxHeartbeats 8000000
namespace Go.Bl
open Go.RowKit Go.Proofs
attribute [local irreducible] qz
open Go.Proofs.YtdloaifdpajcjaaGreatDoor (Par chk blk qU jU zK qj)
structure j8 where
 root : List UInt8
 n : Int
 i : Int
 leaf : List UInt8
 path : List Dg
def Uz (a : j8) : List PV := a.root.map u8P ++ [iP a.n, iP a.i, bP a.leaf, .l (a.path.map aP)]
def leafP (a : j8) : PV := .a (Uz a)
structure j8.Ok (a : j8) : Prop where
 r : a.root.length = 32
 p : ∀ p ∈ a.path, p.length = 32
theorem V6 {a : j8} (o : a.Ok) : (Uz a).length = 36 := by simp [Uz, o.r]
theorem Wc {a : j8} (o : a.Ok) : List.drop 34 (Uz a) = [bP a.leaf, .l (a.path.map aP)] := by simp [Uz, List.drop_append, o.r]
theorem WC {a : j8} (o : a.Ok) : List.drop 35 (Uz a) = [.l (a.path.map aP)] := by simp [Uz, List.drop_append, o.r]
abbrev qc8 (h : Hh) (m xs : List UInt8) (n : Int) (p : Par) : PV := .a [bH h m, iH h n, bH h xs, iH h p.size, iH h p.sent, iH h p.spots, iH h p.per, iH h p.pat, iH h p.ret]
theorem qdI (Z : Ad) (h : Hh) (hh : ∀ α g, h α g = g ()) (m xs : List UInt8) (n : Int) (p : Par) (e : jc) (sh : List j8) (q : 100 < m.length ∨ 100 < xs.length ∨ 20 < sh.length) : qi Z 3 [.pv (qc8 h m xs n p), .pv (qX h e), .pv (lH h leafP sh)] (.pv (.v (.bool true))) [.any, .any, .any] := by
 have c0 := ZK Z h hh
 have q1 : (100 : Int) < (m.length : Int) ∨ (100 : Int) < (xs.length : Int) ∨ (20 : Int) < (sh.length : Int) := by omega
 clear q
 by_cases n1 : (100 : Int) < (m.length : Int)
 ·clear q1
  refine qB Z h hh ⟨Tryz.func3, Tryz.ntmps3⟩ rfl rfl rfl rfl rfl fun C hC => ?_
  unfold Tryz.f3
  cbv
  repeat' first
   | exact s0
   | apply And.intro
   | exact sq
   | trivial
   | (refine sz fun e => ?_; simp [hh, n1] at e; done)
   | (refine sy fun e => ?_; cbv)
   | (refine ⟨_, _, _, hC _ _ _ _ c0, ?_⟩; cbv; clear c0)
 ·by_cases n2 : (100 : Int) < (xs.length : Int)
  ·clear q1
   refine qB Z h hh ⟨Tryz.func3, Tryz.ntmps3⟩ rfl rfl rfl rfl rfl fun C hC => ?_
   unfold Tryz.f3
   cbv
   repeat' first
    | exact s0
    | apply And.intro
    | exact sq
    | trivial
    | (refine sz fun e => ?_; simp [hh, n1, n2] at e; done)
    | (refine sy fun e => ?_; cbv)
    | (refine ⟨_, _, _, hC _ _ _ _ c0, ?_⟩; cbv; clear c0)
  ·have n3 : (20 : Int) < (sh.length : Int) := by omega
   clear q1
   refine qB Z h hh ⟨Tryz.func3, Tryz.ntmps3⟩ rfl rfl rfl rfl rfl fun C hC => ?_
   unfold Tryz.f3
   cbv
   repeat' first
    | exact s0
    | apply And.intro
    | exact sq
    | trivial
    | (refine sz fun e => ?_; simp [hh, n1, n2, n3] at e; done)
    | (refine sy fun e => ?_; cbv)
    | (refine ⟨_, _, _, hC _ _ _ _ c0, ?_⟩; cbv; clear c0)
end Go.Bl
namespace Go.Bl
open Go.RowKit Go.Proofs
attribute [local irreducible] qz
theorem qh6 (Z : Ad) (h : Hh) (hh : ∀ α g, h α g = g ()) (S : List (List UInt8)) (R D : List UInt8) (hR : R.length = 32) (hD : D.length = 32) (v i0 o0 : Int) (L : List zk) (hL : L.length <= 1000) (hv : v = 1 ∨ v = 2)
  (hpl : ∀ j (_ : j < L.length), ∃ i, ∃ hi : i < S.length, L[j].place = (i : Int) /\ (S[i]).length <= 10000 /\ (L[j]).stored.length <= 10000 /\ (v = 1 -> L[j].stored ≠ S[i] -> ∃ a b : List UInt8, a ≠ b /\ qz a = qz b /\ a.length <= 20000 /\ b.length <= 20000 /\
   qi Z 11 [.pv (lH h bP S), .pv (nH h i), .pv (bH h L[j].stored), .pv (lH h aP L[j].path)] (.tup [.pv (bH h a), .pv (bH h b), .pv (.v (.bool true))]) [.any, .any, .any, .any]))
  (C : FuncId -> List RA -> RA -> List RA -> Prop) (hC : ∀ f xs r ys, qi Z f xs r ys -> C f xs r ys) :
  jT Z h [97, 203] 264 Tryz.f3 (.pv (.v (.bool true))) C [1, 1, 1, 1, 1, 1, 1, 1, 1, 1, 1, 1, 1] ⟨[(9, some (.ref 991 0 0)), (13, some (.ref 992 0 0)), (21, some (.pv (iH h v)))],
   [(991, some (.var 38 (h _ fun _ => .l (S.map bP) :: (R.map u8P ++ D.map u8P)) false)), (992, some (.box 50 [.pv (iH h 4), .pv (iH h i0), .pv (iH h o0), .nil, .own 993, .pv (iH h 0), .pv (iH h 0), .nil, .pv (iH h 0)] false)), (993, some (.row 55 3 (h _ fun _ => L.map shownP) false))]⟩ := by
 have hv1 : ¬ (v = 1 /\ v = 2) := fun q => by omega
 replace hv1 := Hdq hv1
 have hv1 : ¬ (v = 1 /\ v = 2) := fun q => by omega
 replace hv1 := Hdq hv1
 have hv1 : ¬ (v = 1 /\ v = 2) := fun q => by omega
 replace hv1 := Hdq hv1
 have hv1 : ¬ (v = 1 /\ v = 2) := fun q => by omega
 replace hv1 := Hdq hv1
 replace hpl := Hdq hpl
 replace hv := Hdq hv
 unfold jT
 cbv
 repeat' first
  | exact .inr trivial
  | exact .inr rfl
  | apply And.intro
  | (refine fun (_ : PUnit) => ?_; first | assumption | exact ⟨rfl⟩ | exact sg | (simp [hh, *, hR, hD, shownP]; done))
  | trivial
  | (refine fun (e : (_ : Bool) = _) => ?_; first | (exfalso; simp [hh] at e; done) | (exfalso; simp [hh] at e; (try simp only [qD] at *); omega) | (replace e := Ev.mk e; cbv))
 refine ⟨Nat, fun j => ⟨[(9, some (.ref 991 0 0)), (21, some (.pv (iH h v))), (205, some (.own 993)), (206, some (.pv (nH h L.length))), (207, some (.pv (nH h j)))], [(991, some (.var 38 (h _ fun _ => .l (S.map bP) :: (R.map u8P ++ D.map u8P)) false)), (993, some (.row 55 3 (h _ fun _ => L.map shownP) false))]⟩, fun j => j <= L.length, fun j => L.length - j, 0, [], by omega, trivial, ⟨[], rfl, rfl, ⟨?_, ?_, trivial⟩, ?_, ?_, ?_, ?_, ?_, trivial⟩, ?_⟩
 ·exact sp
 ·exact sp
 ·exact sp
 ·exact sp
 ·exact sp
 ·exact sp
 ·exact sp
 intro j hj
 dsimp only
 cbv
 refine ⟨fun _ => rfl, fun e => ?_, fun e => ?_⟩ <;> simp only [hh, nI, decide_eq_true_eq, decide_eq_false_iff_not, qD] at e
 ·have e' : j < L.length := jI e
  obtain ⟨i, hi, q1, q2, q3, q4⟩ := hpl.out j e'
  have i0 : ¬ (i : Int) < 0 := by omega
  by_cases qv : v = 1
  ·by_cases qs : L[j].stored = S[i]
   ·clear q4 hpl hv
    cbv
    repeat' first
     | exact .inr trivial
     | exact .inr rfl
     | apply And.intro
     | (refine fun (_ : PUnit) => ?_; first | assumption | exact ⟨rfl⟩ | exact sg | (simp [hh, *, hR, hD, shownP, q1, qs]; done))
     | trivial
     | (refine fun (e : (_ : Bool) = _) => ?_; first | (exfalso; simp [hh, e', hi, shownP, iP, qv, q1, qs] at e; done) | (exfalso; simp [hh, e', hi, shownP, iP, qv, q1, qs] at e; (try simp only [qD] at *); omega) | (replace e := Ev.mk e; cbv))
    refine ⟨j + 1, e', by show L.length - (j + 1) < L.length - j; omega, ⟨[], rfl, rfl, ⟨?_, ?_, trivial⟩, ?_, ?_, ?_, ?_, ?_, trivial⟩⟩
    ·exact sp
    ·exact sp
    ·exact sp
    ·exact sp
    ·exact sp
    ·exact sp
    ·exact sp
   ·obtain ⟨a, b, b1, b2, b3, b4, c1⟩ := q4 qv qs
    have c2 := ue Z h hh [a] Y57
    have c3 := ue Z h hh [b] Y57
    clear q4 hpl hv
    cbv
    repeat' first
     | exact .inr trivial
     | exact .inr rfl
     | apply And.intro
     | (refine fun (_ : PUnit) => ?_; first | assumption | exact ⟨rfl⟩ | exact sg | (simp [hh, *, hR, hD, shownP, q1]; done))
     | trivial
     | (refine fun (e : (_ : Bool) = _) => ?_; first | (exfalso; simp [hh, e', hi, shownP, iP, qv, q1, qs, b1, b2] at e; done) | (exfalso; simp [hh, e', hi, shownP, iP, qv, q1, qs, b1, b2] at e; (try simp only [qD] at *); omega) | (replace e := Ev.mk e; cbv))
     | (refine ⟨_, _, _, hC _ _ _ _ c1, ?_⟩; cbv; clear c1)
     | (refine ⟨_, _, _, hC _ _ _ _ c2, ?_⟩; cbv; clear c2)
     | (refine ⟨_, _, _, hC _ _ _ _ c3, ?_⟩; cbv; clear c3)
    refine ⟨j + 1, e', by show L.length - (j + 1) < L.length - j; omega, ⟨[], rfl, rfl, ⟨?_, ?_, trivial⟩, ?_, ?_, ?_, ?_, ?_, trivial⟩⟩
    ·exact sp
    ·exact sp
    ·exact sp
    ·exact sp
    ·exact sp
    ·exact sp
    ·exact sp
  ·clear q4 hpl hv
   cbv
   repeat' first
    | exact .inr trivial
    | exact .inr rfl
    | apply And.intro
    | (refine fun (_ : PUnit) => ?_; first | assumption | exact ⟨rfl⟩ | exact sg | (simp [hh, *, hR, hD, shownP]; done))
    | trivial
    | (refine fun (e : (_ : Bool) = _) => ?_; first | (exfalso; simp [hh, e', shownP, iP, qv] at e; done) | (exfalso; simp [hh, e', shownP, iP, qv] at e; (try simp only [qD] at *); omega) | (replace e := Ev.mk e; cbv))
   refine ⟨j + 1, e', by show L.length - (j + 1) < L.length - j; omega, ⟨[], rfl, rfl, ⟨?_, ?_, trivial⟩, ?_, ?_, ?_, ?_, ?_, trivial⟩⟩
   ·exact sp
   ·exact sp
   ·exact sp
   ·exact sp
   ·exact sp
   ·exact sp
   ·exact sp
 ·clear hpl
  rcases hv.out with qv | qv
  ·cbv
   repeat' first
    | exact .inr trivial
    | exact .inr rfl
    | apply And.intro
    | (refine fun (_ : PUnit) => ?_; first | assumption | exact ⟨rfl⟩ | exact sg | (simp [hh, *, hR, hD, shownP]; done))
    | trivial
    | (refine fun (e : (_ : Bool) = _) => ?_; first | (exfalso; simp [hh, qv] at e; done) | (exfalso; simp [hh, qv] at e; (try simp only [qD] at *); omega) | (replace e := Ev.mk e; cbv))
  ·cbv
   repeat' first
    | exact .inr trivial
    | exact .inr rfl
    | apply And.intro
    | (refine fun (_ : PUnit) => ?_; first | assumption | exact ⟨rfl⟩ | exact sg | (simp [hh, *, hR, hD, shownP]; done))
    | trivial
    | (refine fun (e : (_ : Bool) = _) => ?_; first | (exfalso; simp [hh, qv] at e; done) | (exfalso; simp [hh, qv] at e; (try simp only [qD] at *); omega) | (replace e := Ev.mk e; cbv))
end Go.Bl
namespace Go.Bl
open Go.RowKit Go.Proofs
attribute [local irreducible] qz
open Go.Proofs.YtdloaifdpajcjaaGreatDoor (Par chk blk qU jU zK qj)
def tOf (S : List (List UInt8)) (sh : List j8) (k : Nat) (p : Int) : zk := match sh[k]? with
 | some a => if a.leaf = [] then ⟨p, S.getD p.toNat [], jF (S.map qy) p.toNat⟩ else ⟨p, a.leaf, if a.path = [] then jF (S.map qy) p.toNat else a.path⟩
 | none => ⟨p, S.getD p.toNat [], jF (S.map qy) p.toNat⟩
def tsL (S : List (List UInt8)) (sh : List j8) (pl : List Int) (k : Nat) : List zk := (List.range k).map fun j => tOf S sh j (pl.getD j 0)
theorem Yg (S : List (List UInt8)) (sh : List j8) (pl : List Int) (k : Nat) : (tsL S sh pl k).length = k := by simp [tsL]
theorem qcR (S : List (List UInt8)) (sh : List j8) (pl : List Int) (k : Nat) : tsL S sh pl (k + 1) = tsL S sh pl k ++ [tOf S sh k (pl.getD k 0)] := by simp [tsL, List.range_succ]
theorem qie (Z : Ad) (h : Hh) (hh : ∀ α g, h α g = g ()) (m xs : List UInt8) (n : Int) (p : Par) (y : jc) (sh : List j8) (S : List (List UInt8)) (R D : List UInt8) (x : jY) (lr : x.root.length = 32) (lf : x.file.length = 32) (hR : R.length = 32) (hD : D.length = 32) (pl : List Int) (v : Int) (hv : v = 1 ∨ v = 2) (hpn : pl.length <= 1000) (oks : ∀ a ∈ sh, a.Ok) (hsn : sh.length <= 20) (hsl : ∀ a ∈ sh, a.leaf.length <= 200 /\ a.path.length <= 40)
  (hS : S.length <= 512) (hSw : ∀ l ∈ S, l.length <= 10000) (hpl : ∀ k (_ : k < pl.length), ∃ i, ∃ _ : i < S.length, pl[k] = (i : Int))
  (c1 : qi Z 10 [.pv (bH h m), .pv (jk h x), .pv (qX h y), .pv (zq h ⟨4, y.id, n, [], tsL S sh pl pl.length, 0, 0, [], 0⟩)] (.tup [.pv (iH h v), .pv (.v .nilIface)]) [.any, .any, .any, .any])
  (C : FuncId -> List RA -> RA -> List RA -> Prop) (hC : ∀ f xs r ys, qi Z f xs r ys -> C f xs r ys)
  (t3 : jT Z h [97, 203] 264 Tryz.f3 (.pv (.v (.bool true))) C [1, 1, 1, 1, 1, 1, 1, 1, 1, 1, 1, 1, 1] ⟨[(9, some (.ref 991 0 0)), (13, some (.ref 992 0 0)), (21, some (.pv (iH h v)))], [(991, some (.var 38 (h _ fun _ => .l (S.map bP) :: (R.map u8P ++ D.map u8P)) false)), (992, some (.box 50 [.pv (iH h 4), .pv (iH h y.id), .pv (iH h n), .nil, .own 993, .pv (iH h 0), .pv (iH h 0), .nil, .pv (iH h 0)] false)), (993, some (.row 55 3 (h _ fun _ => (tsL S sh pl pl.length).map shownP) false))]⟩) :
  jT Z h [97, 203] 264 Tryz.f3 (.pv (.v (.bool true))) C [1, 1, 1, 1, 1, 1, 1, 1, 1] ⟨[(2, some (.pv (lH h leafP sh))), (3, some (.ref 991 0 0)), (4, some (.ref 992 0 0)), (9, some (.ref 993 0 0)), (11, some (.ref 994 0 0)), (12, some (.pv (lH h iP pl)))], [(991, some (.var 26 [bH h m, iH h n, bH h xs, iH h p.size, iH h p.sent, iH h p.spots, iH h p.per, iH h p.pat, iH h p.ret] false)), (992, some (.box 28 [.pv (iH h y.id), .pv (iH h y.obj), .pv (iH h y.way), .pv (iH h y.idx), .pv (iH h y.tick), .pv (iH h y.verd), .pv (iH h y.at')] false)), (993, some (.var 38 (h _ fun _ => .l (S.map bP) :: (R.map u8P ++ D.map u8P)) false)), (994, some (.var 44 (h _ fun _ => qK x) false))]⟩ := by
 have il := jR lr lf
 have HH := Hdq (And.intro oks (And.intro hsl (And.intro hSw hpl)))
 replace c1 := Hdq c1
 replace t3 := Hdq t3
 clear oks hsl hSw hpl
 unfold jT
 cbv
 repeat' first
  | exact s0
  | apply And.intro
  | exact sq
  | (refine fun (_ : PUnit) => ?_; simp [hh, *, hR, hD, shownP, qK]; done)
  | trivial
  | exact sx
  | (refine sy fun e => ?_; cbv)
 refine ⟨Nat, fun k => ⟨[(2, some (.pv (lH h leafP sh))), (3, some (.ref 991 0 0)), (4, some (.ref 992 0 0)), (9, some (.ref 993 0 0)), (11, some (.ref 994 0 0)), (13, some (.ref 995 0 0)), (106, some (.pv (lH h iP pl))), (107, some (.pv (nH h pl.length))), (108, some (.pv (nH h k)))], [(991, some (.var 26 [bH h m, iH h n, bH h xs, iH h p.size, iH h p.sent, iH h p.spots, iH h p.per, iH h p.pat, iH h p.ret] false)), (992, some (.box 28 [.pv (iH h y.id), .pv (iH h y.obj), .pv (iH h y.way), .pv (iH h y.idx), .pv (iH h y.tick), .pv (iH h y.verd), .pv (iH h y.at')] false)), (993, some (.var 38 (h _ fun _ => .l (S.map bP) :: (R.map u8P ++ D.map u8P)) false)), (994, some (.var 44 (h _ fun _ => qK x) false)), (995, some (.box 50 [.pv (iH h 4), .pv (iH h y.id), .pv (iH h n), .nil, .own 990, .pv (iH h 0), .pv (iH h 0), .nil, .pv (iH h 0)] false)), (990, some (.row 55 3 (h _ fun _ => (tsL S sh pl k).map shownP) false))]⟩, fun k => k <= pl.length, fun k => pl.length - k, 0, [(1013004, 990, 55, 3)], by omega, ⟨rfl, by decide, rfl, trivial⟩, ⟨[(995, 13)], rfl, rfl, ⟨?_, ?_, ?_, ?_, ?_, ?_, trivial⟩, ?_, ?_, ?_, ?_, ?_, ?_, ?_, ?_, ?_, trivial⟩, ?_⟩
 ·exact sp
 ·exact sp
 ·exact sp
 ·exact sp
 ·exact sp
 ·exact sp
 ·exact sp
 ·exact sp
 ·exact sp
 ·exact sp
 ·exact sp
 ·exact sp
 ·exact sp
 ·exact sp
 ·exact sp
 intro k hk
 dsimp only
 cbv
 refine ⟨fun _ => rfl, fun e => ?_, fun e => ?_⟩ <;> simp only [hh, nI, decide_eq_true_eq, decide_eq_false_iff_not, qD] at e
 ·have e' : k < pl.length := jI e
  obtain ⟨oks, hsl, hSw, hpl⟩ := HH.out
  obtain ⟨i, hi, q1⟩ := hpl k e'
  have c2 := W0 Z h hh S i hS hi (fun l hl => by have := hSw l hl; omega)
  have hSi := hSw _ (List.getElem_mem hi)
  have i0 : ¬ (i : Int) < 0 := by omega
  have gp : pl.getD k 0 = (i : Int) := by rw [List.getD_eq_getElem?_getD, List.getElem?_eq_getElem e']; exact q1
  have gs : S.getD i [] = S[i] := by rw [List.getD_eq_getElem?_getD, List.getElem?_eq_getElem hi]; rfl
  have ts := qcR S sh pl k
  rw [gp] at ts
  have tl := Yg S sh pl k
  obtain ⟨way, hway⟩ := exq (jF (S.map qy) i)
  have hwl : way.length <= 512 := by
   rw [<- hway, uz S.length (S.map qy) i (List.length_map _), zH]
   have := zW S.length i Y54
   omega
  rw [hway] at c2
  by_cases hk : k < sh.length
  ·have o := oks _ (List.getElem_mem hk)
   have f34 := Wc o
   have f35 := WC o
   have fl := V6 o
   have sl := hsl _ (List.getElem_mem hk)
   have op := o.p
   have gk : sh[k]? = some sh[k] := List.getElem?_eq_getElem hk
   obtain ⟨a, ha⟩ := exq (sh[k])
   rw [ha] at f34 f35 fl sl gk op
   by_cases hl : a.leaf = []
   ·have hts : tsL S sh pl (k + 1) = tsL S sh pl k ++ [⟨i, S[i], way⟩] := by rw [ts, tOf, gk]; simp only [hl, if_true, gs, Int.toNat_natCast, hway]
    have l0 : a.leaf.length = 0 := by rw [hl]; rfl
    have HT := Hdq hts
    clear ts hts hpl oks hsl hSw o hway gs gp sl op gk
    cbv
    repeat' first
     | exact s0
     | apply And.intro
     | exact sq
     | (refine fun (_ : PUnit) => ?_; simp [hh, *, hR, hD, shownP, qK, leafP]; done)
     | trivial
     | (refine sz fun e => ?_; simp [hh, e', hi, iP, q1, i0, hk, ha, leafP, f34, l0, hl] at e <;> (try simp only [qD] at *) <;> omega)
     | (refine sy fun e => ?_; cbv)
     | (refine ⟨_, _, _, hC _ _ _ _ c2, ?_⟩; cbv; clear c2)
    have hts := HT.out
    refine ⟨k + 1, e', by show pl.length - (k + 1) < pl.length - k; omega, ⟨[(990, 190)], rfl, rfl, ⟨?_, ?_, ?_, ?_, ?_, ?_, trivial⟩, ?_, ?_, ?_, ?_, ?_, ?_, ?_, ?_, ?_, trivial⟩⟩
    ·exact sp
    ·exact sp
    ·exact sp
    ·exact sp
    ·exact sp
    ·cbv
     exact Y31
    ·exact sp
    ·exact sp
    ·exact sp
    ·exact sp
    ·exact sp
    ·exact sp
    ·exact sp
    ·exact sp
    ·exact sp
   ·have l0 : 0 < a.leaf.length := List.length_pos_iff.2 hl
    by_cases hp : a.path = []
    ·have hts : tsL S sh pl (k + 1) = tsL S sh pl k ++ [⟨i, a.leaf, way⟩] := by rw [ts, tOf, gk]; simp only [if_neg hl, hp, if_true, Int.toNat_natCast, hway]
     have p0 : a.path.length = 0 := by rw [hp]; rfl
     have HT := Hdq hts
     clear ts hts hpl oks hsl hSw o hway gs gp op gk
     cbv
     repeat' first
      | exact s0
      | apply And.intro
      | exact sq
      | (refine fun (_ : PUnit) => ?_; simp [hh, *, hR, hD, shownP, qK, leafP]; done)
      | trivial
      | (refine sz fun e => ?_; simp [hh, e', hi, iP, q1, i0, hk, ha, leafP, f34, f35, l0, p0, hp] at e <;> (try simp only [qD] at *) <;> omega)
      | (refine sy fun e => ?_; cbv)
      | (refine ⟨_, _, _, hC _ _ _ _ c2, ?_⟩; cbv; clear c2)
     have hts := HT.out
     refine ⟨k + 1, e', by show pl.length - (k + 1) < pl.length - k; omega, ⟨[(990, 190)], rfl, rfl, ⟨?_, ?_, ?_, ?_, ?_, ?_, trivial⟩, ?_, ?_, ?_, ?_, ?_, ?_, ?_, ?_, ?_, trivial⟩⟩
     ·exact sp
     ·exact sp
     ·exact sp
     ·exact sp
     ·exact sp
     ·cbv
      exact Y31
     ·exact sp
     ·exact sp
     ·exact sp
     ·exact sp
     ·exact sp
     ·exact sp
     ·exact sp
     ·exact sp
     ·exact sp
    ·have p0 : 0 < a.path.length := List.length_pos_iff.2 hp
     have hts : tsL S sh pl (k + 1) = tsL S sh pl k ++ [⟨i, a.leaf, a.path⟩] := by rw [ts, tOf, gk]; simp only [if_neg hl, if_neg hp]
     have HT := Hdq hts
     clear ts hts hpl oks hsl hSw o hway gs gp gk
     cbv
     repeat' first
      | exact s0
      | apply And.intro
      | exact sq
      | (refine fun (_ : PUnit) => ?_; simp [hh, *, hR, hD, shownP, qK, leafP]; done)
      | trivial
      | (refine sz fun e => ?_; simp [hh, e', hi, iP, q1, i0, hk, ha, leafP, f34, f35, l0, p0] at e <;> (try simp only [qD] at *) <;> omega)
      | (refine sy fun e => ?_; cbv)
      | (refine ⟨_, _, _, hC _ _ _ _ c2, ?_⟩; cbv; clear c2)
     refine ⟨Nat, fun j => ⟨[(2, some (.pv (lH h leafP sh))), (3, some (.ref 991 0 0)), (4, some (.ref 992 0 0)), (9, some (.ref 993 0 0)), (11, some (.ref 994 0 0)), (13, some (.ref 995 0 0)), (106, some (.pv (lH h iP pl))), (107, some (.pv (nH h pl.length))), (108, some (.pv (nH h k))), (18, some (.ref 996 0 0)), (173, some (.pv (lH h aP a.path))), (174, some (.pv (nH h a.path.length))), (175, some (.pv (nH h j)))], [(991, some (.var 26 [bH h m, iH h n, bH h xs, iH h p.size, iH h p.sent, iH h p.spots, iH h p.per, iH h p.pat, iH h p.ret] false)), (992, some (.box 28 [.pv (iH h y.id), .pv (iH h y.obj), .pv (iH h y.way), .pv (iH h y.idx), .pv (iH h y.tick), .pv (iH h y.verd), .pv (iH h y.at')] false)), (993, some (.var 38 (h _ fun _ => .l (S.map bP) :: (R.map u8P ++ D.map u8P)) false)), (994, some (.var 44 (h _ fun _ => qK x) false)), (995, some (.box 50 [.pv (iH h 4), .pv (iH h y.id), .pv (iH h n), .nil, .own 990, .pv (iH h 0), .pv (iH h 0), .nil, .pv (iH h 0)] false)), (990, some (.row 55 3 (h _ fun _ => (tsL S sh pl k).map shownP) false)), (996, some (.box 55 [.pv (iH h i), .pv (bH h a.leaf), .own 997] false)), (997, some (.row 36 32 (h _ fun _ => (a.path.take j).map aP) false))]⟩, fun j => j <= a.path.length, fun j => a.path.length - j, 0, [], by omega, trivial, ⟨[(996, 18), (997, 167)], rfl, rfl, ⟨?_, ?_, ?_, ?_, ?_, ?_, ?_, ?_, trivial⟩, ?_, ?_, ?_, ?_, ?_, ?_, ?_, ?_, ?_, ?_, ?_, ?_, ?_, trivial⟩, ?_⟩
     ·exact sp
     ·exact sp
     ·exact sp
     ·exact sp
     ·exact sp
     ·exact sp
     ·cbv; simp [hh, *, leafP]
     ·exact sp
     ·exact sp
     ·exact sp
     ·exact sp
     ·exact sp
     ·exact sp
     ·exact sp
     ·exact sp
     ·exact sp
     ·exact sp
     ·exact sp
     ·cbv; simp [hh, *, leafP]
     ·cbv; simp [hh, *, leafP]
     ·exact sp
     intro j hj
     dsimp only
     cbv
     refine ⟨fun _ => rfl, fun e => ?_, fun e => ?_⟩ <;> simp only [hh, nI, decide_eq_true_eq, decide_eq_false_iff_not, qD] at e
     ·have e2 : j < a.path.length := jI e
      have p32 : (a.path[j]).length = 32 := op _ (List.getElem_mem e2)
      have tk : a.path.take (j + 1) = a.path.take j ++ [a.path[j]] := List.take_succ_eq_append_getElem e2
      replace tk := Hdq tk
      have tj : (a.path.take j).length = j := by simp; omega
      cbv
      repeat' first
       | exact s0
       | apply And.intro
       | exact sq
       | (refine fun (_ : PUnit) => ?_; simp [hh, *, hR, hD, shownP, qK, leafP]; done)
       | trivial
       | (refine sz fun e => ?_; simp [hh, e2, p32] at e <;> (try simp only [qD] at *) <;> omega)
       | (refine sy fun e => ?_; cbv)
      refine ⟨j + 1, e2, by show a.path.length - (j + 1) < a.path.length - j; omega, ⟨[(997, 183)], rfl, rfl, ⟨?_, ?_, ?_, ?_, ?_, ?_, ?_, ?_, trivial⟩, ?_, ?_, ?_, ?_, ?_, ?_, ?_, ?_, ?_, ?_, ?_, ?_, ?_, trivial⟩⟩
      ·exact sp
      ·exact sp
      ·exact sp
      ·exact sp
      ·exact sp
      ·exact sp
      ·exact sp
      ·cbv
       simp only [hh]
       rw [tk.out, List.map_append]
       simp [hh, aP, *]
      ·exact sp
      ·exact sp
      ·exact sp
      ·exact sp
      ·exact sp
      ·exact sp
      ·exact sp
      ·exact sp
      ·exact sp
      ·exact sp
      ·exact sp
      ·exact sp
      ·exact sp
     ·have e2 : j = a.path.length := Nat.le_antisymm hj (jN e)
      subst e2
      rw [List.take_length]
      cbv
      repeat' first
       | exact s0
       | apply And.intro
       | exact sq
       | (refine fun (_ : PUnit) => ?_; simp [hh, *, hR, hD, shownP, qK, leafP]; done)
       | trivial
       | exact sx
       | (refine sy fun e => ?_; cbv)
      have hts := HT.out
      refine ⟨k + 1, e', by show pl.length - (k + 1) < pl.length - k; omega, ⟨[(990, 190)], rfl, rfl, ⟨?_, ?_, ?_, ?_, ?_, ?_, trivial⟩, ?_, ?_, ?_, ?_, ?_, ?_, ?_, ?_, ?_, trivial⟩⟩
      ·exact sp
      ·exact sp
      ·exact sp
      ·exact sp
      ·exact sp
      ·cbv
       exact Y31
      ·exact sp
      ·exact sp
      ·exact sp
      ·exact sp
      ·exact sp
      ·exact sp
      ·exact sp
      ·exact sp
      ·exact sp
  ·have gk : sh[k]? = none := List.getElem?_eq_none Y54
   have hts : tsL S sh pl (k + 1) = tsL S sh pl k ++ [⟨i, S[i], way⟩] := by rw [ts, tOf, gk]; simp only [gs, Int.toNat_natCast, hway]
   have HT := Hdq hts
   clear ts hts hpl oks hsl hSw hway gs gp gk
   cbv
   repeat' first
    | exact s0
    | apply And.intro
    | exact sq
    | (refine fun (_ : PUnit) => ?_; simp [hh, *, hR, hD, shownP, qK, leafP]; done)
    | trivial
    | (refine sz fun e => ?_; simp [hh, e', hi, iP, q1, i0, hk] at e <;> (try simp only [qD] at *) <;> omega)
    | (refine sy fun e => ?_; cbv)
    | (refine ⟨_, _, _, hC _ _ _ _ c2, ?_⟩; cbv; clear c2)
   have hts := HT.out
   refine ⟨k + 1, e', by show pl.length - (k + 1) < pl.length - k; omega, ⟨[(990, 190)], rfl, rfl, ⟨?_, ?_, ?_, ?_, ?_, ?_, trivial⟩, ?_, ?_, ?_, ?_, ?_, ?_, ?_, ?_, ?_, trivial⟩⟩
   ·exact sp
   ·exact sp
   ·exact sp
   ·exact sp
   ·exact sp
   ·cbv
    exact Y31
   ·exact sp
   ·exact sp
   ·exact sp
   ·exact sp
   ·exact sp
   ·exact sp
   ·exact sp
   ·exact sp
   ·exact sp
 ·have e' : k = pl.length := Nat.le_antisymm hk (jN e)
  subst e'
  have c1 := c1.out
  have t3 := t3.out
  cbv
  repeat' first
   | exact s0
   | apply And.intro
   | exact sq
   | (refine fun (_ : PUnit) => ?_; simp [hh, *, hR, hD, shownP, qK, qaN]; done)
   | trivial
   | exact sx
   | (refine sy fun e => ?_; cbv)
   | (refine ⟨_, _, _, hC _ _ _ _ c1, ?_⟩; cbv; clear c1)
  refine ⟨Unit, fun _ => ⟨[(9, some (.ref 991 0 0)), (13, some (.ref 992 0 0)), (21, some (.pv (iH h v)))], [(991, some (.var 38 (h _ fun _ => .l (S.map bP) :: (R.map u8P ++ D.map u8P)) false)), (992, some (.box 50 [.pv (iH h 4), .pv (iH h y.id), .pv (iH h n), .nil, .own 993, .pv (iH h 0), .pv (iH h 0), .nil, .pv (iH h 0)] false)), (993, some (.row 55 3 (h _ fun _ => (tsL S sh pl pl.length).map shownP) false))]⟩, fun _ => True, ?_, fun _ _ => t3⟩
  cbv
  repeat' first
   | exact s0
   | apply And.intro
   | exact sq
   | (refine fun (_ : PUnit) => ?_; simp [hh, *, hR, hD, shownP, qK]; done)
   | trivial
   | exact sx
   | (refine sy fun e => ?_; cbv)
  refine ⟨(), trivial, ⟨[(991, 993), (992, 995), (993, 990)], rfl, rfl, ⟨?_, ?_, ?_, trivial⟩, ?_, ?_, ?_, trivial⟩⟩
  ·exact sp
  ·exact sp
  ·exact sp
  ·exact sp
  ·exact sp
  ·exact sp
end Go.Bl
namespace Go.Bl
open Go.RowKit Go.Proofs
attribute [local irreducible] qz
open Go.Proofs.YtdloaifdpajcjaaGreatDoor (Par chk blk qU jU zK qj)
theorem qdN (Z : Ad) (h : Hh) (hh : ∀ α g, h α g = g ()) (m xs : List UInt8) (n : Int) (p : Par) (y : jc) (sh : List j8) (q1 : m.length <= 100) (q2 : xs.length <= 100) (q3 : sh.length <= 20) (oks : ∀ a ∈ sh, a.Ok)
  (rest : (∀ a ∈ sh, a.leaf.length <= 200 /\ a.path.length <= 40) -> ∀ (C : FuncId -> List RA -> RA -> List RA -> Prop) (_ : ∀ f xs r ys, qi Z f xs r ys -> C f xs r ys) (t : Bool), jT Z h [97, 203] 264 Tryz.f3 (.pv (.v (.bool true))) C [1, 1, 1, 1] ⟨(47, some (.pv (.v (.bool (h _ fun _ => t))))) :: [(2, some (.pv (lH h leafP sh))), (3, some (.ref 990 0 0)), (4, some (.ref 991 0 0)), (44, some (.pv (lH h leafP sh))), (45, some (.pv (nH h sh.length))), (46, some (.pv (nH h sh.length)))], [(990, some (.var 26 [bH h m, iH h n, bH h xs, iH h p.size, iH h p.sent, iH h p.spots, iH h p.per, iH h p.pat, iH h p.ret] false)), (991, some (.box 28 [.pv (iH h y.id), .pv (iH h y.obj), .pv (iH h y.way), .pv (iH h y.idx), .pv (iH h y.tick), .pv (iH h y.verd), .pv (iH h y.at')] false))]⟩) : qi Z 3 [.pv (qc8 h m xs n p), .pv (qX h y), .pv (lH h leafP sh)] (.pv (.v (.bool true))) [.any, .any, .any] := by
 have c0 := ZK Z h hh
 have n1 : ¬ (100 : Int) < (m.length : Int) := by omega
 have n2 : ¬ (100 : Int) < (xs.length : Int) := by omega
 have n3 : ¬ (20 : Int) < (sh.length : Int) := by omega
 replace rest := Hdq rest
 replace oks := Hdq oks
 clear q1 q2
 refine qih [97, 203] Z h hh ⟨Tryz.func3, Tryz.ntmps3⟩ rfl rfl rfl rfl rfl fun C hC => ?_
 unfold Tryz.f3
 cbv
 repeat' first
  | exact s0
  | apply And.intro
  | exact sq
  | trivial
  | (refine sz fun e => ?_; simp [hh, n1, n2, n3] at e <;> (try simp only [qD] at *) <;> omega)
  | (refine sy fun e => ?_; cbv)
  | (refine ⟨_, _, _, hC _ _ _ _ c0, ?_⟩; cbv; clear c0)
 refine ⟨Nat, fun k => ⟨[(2, some (.pv (lH h leafP sh))), (3, some (.ref 990 0 0)), (4, some (.ref 991 0 0)), (44, some (.pv (lH h leafP sh))), (45, some (.pv (nH h sh.length))), (46, some (.pv (nH h k)))], [(990, some (.var 26 [bH h m, iH h n, bH h xs, iH h p.size, iH h p.sent, iH h p.spots, iH h p.per, iH h p.pat, iH h p.ret] false)), (991, some (.box 28 [.pv (iH h y.id), .pv (iH h y.obj), .pv (iH h y.way), .pv (iH h y.idx), .pv (iH h y.tick), .pv (iH h y.verd), .pv (iH h y.at')] false))]⟩, fun k => k <= sh.length /\ ∀ i (_ : i < sh.length), i < k -> (sh[i]).leaf.length <= 200 /\ (sh[i]).path.length <= 40, fun k => sh.length - k, 0, [], ⟨Nat.zero_le _, fun i _ h => absurd h (Nat.not_lt_zero _)⟩, trivial, ⟨[(990, 3), (991, 4)], rfl, rfl, ⟨?_, ?_, trivial⟩, ?_, ?_, ?_, ?_, ?_, ?_, trivial⟩, ?_⟩
 ·exact sp
 ·exact sp
 ·exact sp
 ·exact sp
 ·exact sp
 ·exact sp
 ·exact sp
 ·exact sp
 intro k hk
 dsimp only
 cbv
 refine ⟨fun _ => rfl, fun e => ?_, fun e => ?_⟩ <;> simp only [hh, nI, decide_eq_true_eq, decide_eq_false_iff_not, qD] at e
 ·have e' : k < sh.length := jI e
  have o := oks.out _ (List.getElem_mem e')
  have f34 := Wc o
  have f35 := WC o
  have fl := V6 o
  have hk2 := Hdq hk.2
  clear hk o
  obtain ⟨a, ha⟩ := exq (sh[k])
  rw [ha] at f34 f35 fl
  by_cases l1 : 200 < a.leaf.length
  ·cbv
   repeat' first
    | exact s0
    | apply And.intro
    | exact sq
    | (refine fun (_ : PUnit) => ?_; simp [hh, *, leafP]; done)
    | trivial
    | (refine sz fun e => ?_; simp [hh, e', ha, leafP, fl, f34, f35, l1] at e <;> (try simp only [qD] at *) <;> omega)
    | (refine sy fun e => ?_; cbv)
  ·by_cases l2 : 40 < a.path.length
   ·cbv
    repeat' first
     | exact s0
     | apply And.intro
     | exact sq
     | (refine fun (_ : PUnit) => ?_; simp [hh, *, leafP]; done)
     | trivial
     | (refine sz fun e => ?_; simp [hh, e', ha, leafP, fl, f34, f35, l1, l2] at e <;> (try simp only [qD] at *) <;> omega)
     | (refine sy fun e => ?_; cbv)
   ·cbv
    repeat' first
     | exact s0
     | apply And.intro
     | exact sq
     | (refine fun (_ : PUnit) => ?_; simp [hh, *, leafP]; done)
     | trivial
     | (refine sz fun e => ?_; simp [hh, e', ha, leafP, fl, f34, f35, l1, l2] at e <;> (try simp only [qD] at *) <;> omega)
     | (refine sy fun e => ?_; cbv)
    refine ⟨k + 1, ⟨e', fun i hi h1 => by
     rcases Nat.lt_or_ge i k with g | g
     ·exact hk2.out i hi g
     ·have g : i = k := by omega
      subst g
      rw [ha]; omega⟩, by show sh.length - (k + 1) < sh.length - k; omega, ⟨[], rfl, rfl, ⟨?_, ?_, trivial⟩, ?_, ?_, ?_, ?_, ?_, ?_, trivial⟩⟩
    ·exact sp
    ·exact sp
    ·exact sp
    ·exact sp
    ·exact sp
    ·exact sp
    ·exact sp
    ·exact sp
 ·have e' : k = sh.length := Nat.le_antisymm hk.1 (jN e)
  subst e'
  have r := rest.out (fun a ha => by obtain ⟨i, hi, rfl⟩ := List.getElem_of_mem ha; exact hk.2 i hi hi) C hC (decide ((h _ fun _ => nI sh.length) < (h _ fun _ => nI sh.length)))
  unfold jT at r
  cbv at r
  exact r
theorem qeI (Z : Ad) (h : Hh) (hh : ∀ α g, h α g = g ()) (m xs : List UInt8) (n : Int) (p : Par) (y : jc) (sh : List j8) (k : Nat) (c1 : qi Z 7 [.pv (bH h m), .pv (iH h n), .pv (bH h xs), .pv (uH h p)] (.tup [.pv (.a (h _ fun _ => x6)), .pv (qP Z k)]) [.any, .any, .any, .any]) (C : FuncId -> List RA -> RA -> List RA -> Prop) (hC : ∀ f xs r ys, qi Z f xs r ys -> C f xs r ys) (t : Bool) : jT Z h [97, 203] 264 Tryz.f3 (.pv (.v (.bool true))) C [1, 1, 1, 1] ⟨(47, some (.pv (.v (.bool (h _ fun _ => t))))) :: [(2, some (.pv (lH h leafP sh))), (3, some (.ref 990 0 0)), (4, some (.ref 991 0 0)), (44, some (.pv (lH h leafP sh))), (45, some (.pv (nH h sh.length))), (46, some (.pv (nH h sh.length)))], [(990, some (.var 26 [bH h m, iH h n, bH h xs, iH h p.size, iH h p.sent, iH h p.spots, iH h p.per, iH h p.pat, iH h p.ret] false)), (991, some (.box 28 [.pv (iH h y.id), .pv (iH h y.obj), .pv (iH h y.way), .pv (iH h y.idx), .pv (iH h y.tick), .pv (iH h y.verd), .pv (iH h y.at')] false))]⟩ := by
 unfold jT
 cbv
 repeat' first
  | exact s0
  | apply And.intro
  | exact sq
  | (refine fun (_ : PUnit) => ?_; simp [hh, *, x6, jn, List.replicate]; done)
  | trivial
  | (refine sz fun e => ?_; simp [hh, x6] at e <;> (try simp only [qD] at *) <;> omega)
  | (refine sy fun e => ?_; cbv)
  | (refine ⟨_, _, _, hC _ _ _ _ c1, ?_⟩; cbv; clear c1)
theorem qgW (Z : Ad) (h : Hh) (hh : ∀ α g, h α g = g ()) (m xs : List UInt8) (n : Int) (p : Par) (y : jc) (sh : List j8) (x : List PV) (c1 : qi Z 7 [.pv (bH h m), .pv (iH h n), .pv (bH h xs), .pv (uH h p)] (.tup [.pv (.a (h _ fun _ => x6)), .pv (.i 171 (.p (h _ fun _ => x)))]) [.any, .any, .any, .any]) (C : FuncId -> List RA -> RA -> List RA -> Prop) (hC : ∀ f xs r ys, qi Z f xs r ys -> C f xs r ys) (t : Bool) : jT Z h [97, 203] 264 Tryz.f3 (.pv (.v (.bool true))) C [1, 1, 1, 1] ⟨(47, some (.pv (.v (.bool (h _ fun _ => t))))) :: [(2, some (.pv (lH h leafP sh))), (3, some (.ref 990 0 0)), (4, some (.ref 991 0 0)), (44, some (.pv (lH h leafP sh))), (45, some (.pv (nH h sh.length))), (46, some (.pv (nH h sh.length)))], [(990, some (.var 26 [bH h m, iH h n, bH h xs, iH h p.size, iH h p.sent, iH h p.spots, iH h p.per, iH h p.pat, iH h p.ret] false)), (991, some (.box 28 [.pv (iH h y.id), .pv (iH h y.obj), .pv (iH h y.way), .pv (iH h y.idx), .pv (iH h y.tick), .pv (iH h y.verd), .pv (iH h y.at')] false))]⟩ := by
 unfold jT
 cbv
 repeat' first
  | exact s0
  | apply And.intro
  | exact sq
  | (refine fun (_ : PUnit) => ?_; simp [hh, *, x6, jn, List.replicate]; done)
  | trivial
  | (refine sz fun e => ?_; simp [hh, x6] at e <;> (try simp only [qD] at *) <;> omega)
  | (refine sy fun e => ?_; cbv)
  | (refine ⟨_, _, _, hC _ _ _ _ c1, ?_⟩; cbv; clear c1)
end Go.Bl
namespace Go.Bl
open Go.RowKit Go.Proofs
attribute [local irreducible] qz
open Go.Proofs.YtdloaifdpajcjaaGreatDoor (Par chk blk qU jU zK qj)
theorem qgw {n : Int} {p : Par} {R D : List UInt8} (hR : R.length = 32) (hD : D.length = 32) (z : List PV) (hz : z.length = 76) (ht : List.drop 72 z = [iP 0, .v (.bool false), iP 0, iP 0]) : splice 40 (D.map u8P) (splice 8 (R.map u8P) (splice 2 [PV.v (Value.int IntKind.i64 p.size), PV.v (Value.int IntKind.i64 p.sent), PV.v (Value.int IntKind.i64 p.spots), PV.v (Value.int IntKind.i64 p.per), PV.v (Value.int IntKind.i64 p.pat), PV.v (Value.int IntKind.i64 p.ret)] (splice 1 [PV.v (Value.string ⟨#[97]⟩)] (splice 0 [PV.v (Value.int IntKind.i64 n)] z)))) = qK ⟨n, ⟨#[97]⟩, p, R, D, 0, false, 0, 0⟩ := by
 rw [show z = [] ++ z from rfl]
 repeat rw [KU _ _ _ (by simp [hR, hD])]
 simp only [List.drop_drop, List.length_map, List.length_cons, List.length_nil, hR, hD]
 simp [qK, ht]
theorem qfT (Z : Ad) (h : Hh) (hh : ∀ α g, h α g = g ()) (m xs : List UInt8) (n : Int) (p : Par) (y : jc) (sh : List j8) (S : List (List UInt8)) (R D : List UInt8) (hR : R.length = 32) (hD : D.length = 32) (k : Nat) (c1 : qi Z 7 [.pv (bH h m), .pv (iH h n), .pv (bH h xs), .pv (uH h p)] (.tup [.pv (.a (h _ fun _ => .l (S.map bP) :: (R.map u8P ++ D.map u8P))), .pv (.v .nilIface)]) [.any, .any, .any, .any]) (c2 : qi Z 8 [.pv (bH h m), .pv (jk h ⟨n, ⟨#[97]⟩, p, R, D, 0, false, 0, 0⟩), .pv (qX h y)] (.tup [.pv (lH h iP []), .pv (qP Z k)]) [.any, .any, .any]) (C : FuncId -> List RA -> RA -> List RA -> Prop) (hC : ∀ f xs r ys, qi Z f xs r ys -> C f xs r ys) (t : Bool) : jT Z h [97, 203] 264 Tryz.f3 (.pv (.v (.bool true))) C [1, 1, 1, 1] ⟨(47, some (.pv (.v (.bool (h _ fun _ => t))))) :: [(2, some (.pv (lH h leafP sh))), (3, some (.ref 990 0 0)), (4, some (.ref 991 0 0)), (44, some (.pv (lH h leafP sh))), (45, some (.pv (nH h sh.length))), (46, some (.pv (nH h sh.length)))], [(990, some (.var 26 [bH h m, iH h n, bH h xs, iH h p.size, iH h p.sent, iH h p.spots, iH h p.per, iH h p.pat, iH h p.ret] false)), (991, some (.box 28 [.pv (iH h y.id), .pv (iH h y.obj), .pv (iH h y.way), .pv (iH h y.idx), .pv (iH h y.tick), .pv (iH h y.verd), .pv (iH h y.at')] false))]⟩ := by
 have il : (qK ⟨n, ⟨#[97]⟩, p, R, D, 0, false, 0, 0⟩).length = 76 := jR hR hD
 have il1 : ∀ k, (List.drop k (qK ⟨n, ⟨#[97]⟩, p, R, D, 0, false, 0, 0⟩)).length = 76 - k := fun k => by rw [List.length_drop, il]
 have i5 := qgw (n := n) (p := p) hR hD
 unfold jT
 cbv
 repeat' first
  | exact s0
  | apply And.intro
  | (refine fun (_ : PUnit) => ?_; first | assumption | exact ⟨rfl⟩ | exact sg | (simp (maxDischargeDepth := 20) [hh, hR, hD, il, il1, i5, yJ]; done))
  | trivial
  | exact sx
  | (refine sy fun e => ?_; cbv)
  | (refine ⟨_, _, _, hC _ _ _ _ c1, ?_⟩; cbv; clear c1)
  | (refine ⟨_, _, _, hC _ _ _ _ c2, ?_⟩; cbv; clear c2)
 ·refine fun (_ : PUnit) => ?_
  simp (maxDischargeDepth := 20) [hh, hR, hD, il, il1, yJ]
  exact i5 _ Y72 Y72
 refine ⟨Empty, fun x => x.elim, fun x => x.elim, ?_, fun x => x.elim⟩
 cbv
 repeat' first
  | exact s0
  | apply And.intro
  | exact sq
  | (refine fun (_ : PUnit) => ?_; simp [hh, *, hR, hD, qK]; done)
  | trivial
  | (refine sz fun e => ?_; simp [hh, hR] at e <;> (try simp only [qD] at *) <;> omega)
  | (refine sy fun e => ?_; cbv)
theorem qh1 (Z : Ad) (h : Hh) (hh : ∀ α g, h α g = g ()) (m xs : List UInt8) (n : Int) (p : Par) (y : jc) (sh : List j8) (S : List (List UInt8)) (R D : List UInt8) (hR : R.length = 32) (hD : D.length = 32) (pl : List Int) (v : Int) (hv : v = 1 ∨ v = 2) (hpn : pl.length <= 1000) (oks : ∀ a ∈ sh, a.Ok) (hsn : sh.length <= 20) (hsl : ∀ a ∈ sh, a.leaf.length <= 200 /\ a.path.length <= 40)
  (hS : S.length <= 512) (hSw : ∀ l ∈ S, l.length <= 10000) (hpl : ∀ k (_ : k < pl.length), ∃ i, ∃ _ : i < S.length, pl[k] = (i : Int)) (c1 : qi Z 7 [.pv (bH h m), .pv (iH h n), .pv (bH h xs), .pv (uH h p)] (.tup [.pv (.a (h _ fun _ => .l (S.map bP) :: (R.map u8P ++ D.map u8P))), .pv (.v .nilIface)]) [.any, .any, .any, .any]) (c2 : qi Z 8 [.pv (bH h m), .pv (jk h ⟨n, ⟨#[97]⟩, p, R, D, 0, false, 0, 0⟩), .pv (qX h y)] (.tup [.pv (lH h iP pl), .pv (.v .nilIface)]) [.any, .any, .any])
  (c3 : qi Z 10 [.pv (bH h m), .pv (jk h ⟨n, ⟨#[97]⟩, p, R, D, 0, false, 0, 0⟩), .pv (qX h y), .pv (zq h ⟨4, y.id, n, [], tsL S sh pl pl.length, 0, 0, [], 0⟩)] (.tup [.pv (iH h v), .pv (.v .nilIface)]) [.any, .any, .any, .any])
  (hcl : ∀ j (_ : j < (tsL S sh pl pl.length).length), ∃ i, ∃ hi : i < S.length, (tsL S sh pl pl.length)[j].place = (i : Int) /\ (S[i]).length <= 10000 /\ ((tsL S sh pl pl.length)[j]).stored.length <= 10000 /\ (v = 1 -> (tsL S sh pl pl.length)[j].stored ≠ S[i] -> ∃ a b : List UInt8, a ≠ b /\ qz a = qz b /\ a.length <= 20000 /\ b.length <= 20000 /\
   qi Z 11 [.pv (lH h bP S), .pv (nH h i), .pv (bH h (tsL S sh pl pl.length)[j].stored), .pv (lH h aP (tsL S sh pl pl.length)[j].path)] (.tup [.pv (bH h a), .pv (bH h b), .pv (.v (.bool true))]) [.any, .any, .any, .any]))
  (C : FuncId -> List RA -> RA -> List RA -> Prop) (hC : ∀ f xs r ys, qi Z f xs r ys -> C f xs r ys) (t : Bool) : jT Z h [97, 203] 264 Tryz.f3 (.pv (.v (.bool true))) C [1, 1, 1, 1] ⟨(47, some (.pv (.v (.bool (h _ fun _ => t))))) :: [(2, some (.pv (lH h leafP sh))), (3, some (.ref 990 0 0)), (4, some (.ref 991 0 0)), (44, some (.pv (lH h leafP sh))), (45, some (.pv (nH h sh.length))), (46, some (.pv (nH h sh.length)))], [(990, some (.var 26 [bH h m, iH h n, bH h xs, iH h p.size, iH h p.sent, iH h p.spots, iH h p.per, iH h p.pat, iH h p.ret] false)), (991, some (.box 28 [.pv (iH h y.id), .pv (iH h y.obj), .pv (iH h y.way), .pv (iH h y.idx), .pv (iH h y.tick), .pv (iH h y.verd), .pv (iH h y.at')] false))]⟩ := by
 have t3 := qh6 Z h hh S R D hR hD v y.id n (tsL S sh pl pl.length) (by rw [Yg]; exact hpn) hv hcl C hC
 have t2 := qie Z h hh m xs n p y sh S R D ⟨n, ⟨#[97]⟩, p, R, D, 0, false, 0, 0⟩ hR hD hR hD pl v hv hpn oks hsn hsl hS hSw hpl c3 C hC t3
 replace t2 := Hdq t2
 clear t3 c3 hcl oks hsl hSw hpl hv
 have il : (qK ⟨n, ⟨#[97]⟩, p, R, D, 0, false, 0, 0⟩).length = 76 := jR hR hD
 have il1 : ∀ k, (List.drop k (qK ⟨n, ⟨#[97]⟩, p, R, D, 0, false, 0, 0⟩)).length = 76 - k := fun k => by rw [List.length_drop, il]
 have i5 := qgw (n := n) (p := p) hR hD
 unfold jT
 cbv
 repeat' first
  | exact s0
  | apply And.intro
  | (refine fun (_ : PUnit) => ?_; first | assumption | exact ⟨rfl⟩ | exact sg | (simp (maxDischargeDepth := 20) [hh, hR, hD, il, il1, i5, yJ]; done))
  | trivial
  | exact sx
  | (refine sy fun e => ?_; cbv)
  | (refine ⟨_, _, _, hC _ _ _ _ c1, ?_⟩; cbv; clear c1)
  | (refine ⟨_, _, _, hC _ _ _ _ c2, ?_⟩; cbv; clear c2)
 ·refine fun (_ : PUnit) => ?_
  simp (maxDischargeDepth := 20) [hh, hR, hD, il, il1, yJ]
  exact i5 _ Y72 Y72
 refine ⟨Unit, fun _ => ⟨[(2, some (.pv (lH h leafP sh))), (3, some (.ref 991 0 0)), (4, some (.ref 992 0 0)), (9, some (.ref 993 0 0)), (11, some (.ref 994 0 0)), (12, some (.pv (lH h iP pl)))], [(991, some (.var 26 [bH h m, iH h n, bH h xs, iH h p.size, iH h p.sent, iH h p.spots, iH h p.per, iH h p.pat, iH h p.ret] false)), (992, some (.box 28 [.pv (iH h y.id), .pv (iH h y.obj), .pv (iH h y.way), .pv (iH h y.idx), .pv (iH h y.tick), .pv (iH h y.verd), .pv (iH h y.at')] false)), (993, some (.var 38 (h _ fun _ => .l (S.map bP) :: (R.map u8P ++ D.map u8P)) false)), (994, some (.var 44 (h _ fun _ => qK ⟨n, ⟨#[97]⟩, p, R, D, 0, false, 0, 0⟩) false))]⟩, fun _ => True, ?_, fun _ _ => t2.out⟩
 cbv
 repeat' first
  | exact s0
  | apply And.intro
  | exact sq
  | (refine fun (_ : PUnit) => ?_; simp [hh, *, hR, hD, qK]; done)
  | trivial
  | exact sx
  | (refine sy fun e => ?_; cbv)
 refine ⟨(), trivial, ⟨[(991, 990), (992, 991), (993, 9), (994, 11)], rfl, rfl, ⟨?_, ?_, ?_, ?_, trivial⟩, ?_, ?_, ?_, ?_, ?_, ?_, trivial⟩⟩
 ·exact sp
 ·exact sp
 ·cbv; simp [hh, hR, hD]
 ·cbv; simp (maxDischargeDepth := 20) [hh, hR, hD, il, il1, yJ]; exact i5 _ Y72 Y72
 ·exact sp
 ·exact sp
 ·exact sp
 ·exact sp
 ·exact sp
 ·exact sp
end Go.Bl
