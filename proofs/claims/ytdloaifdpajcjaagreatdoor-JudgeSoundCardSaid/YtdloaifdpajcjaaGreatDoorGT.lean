import Derived.Test.YtdloaifdpajcjaaGreatDoorGK
import Derived.Test.YtdloaifdpajcjaaGreatDoorGP
import Derived.Deep.OwnRows
import Derived.Laws.CopyOwn
set_option linter.unusedVariables false
set_option linter.unusedSimpArgs false
set_option maxRecDepth 1000000
set_option maxHeartbeats 8000000
namespace Go.Bl
def qig (l : List UInt8) : Nat := l.foldl (fun n c => n * 256 + c.toNat) 0
end Go.Bl
namespace Go.Bl
open Go.RowKit
def Kn (key : List UInt8) : List UInt8 := if 64 < key.length then qz key else key
theorem qep (key : List UInt8) : (Kn key).length <= 64 := by
 unfold Kn
 split
 ·rw [jv]; decide
 ·omega
def ZU (key : List UInt8) : List UInt8 := Kn key ++ List.replicate (64 - (Kn key).length) 0
theorem Wr (key : List UInt8) : (ZU key).length = 64 := by
 have := qep key
 rw [ZU, List.length_append, List.length_replicate]
 omega
def VI (key : List UInt8) : List UInt8 := (ZU key).map (· ^^^ 54)
def VL (key : List UInt8) : List UInt8 := (ZU key).map (· ^^^ 92)
theorem qdJ (key : List UInt8) : (VI key).length = 64 := by rw [VI, List.length_map, Wr]
theorem qdl (key : List UInt8) : (VL key).length = 64 := by rw [VL, List.length_map, Wr]
def JK (key m : List UInt8) : List UInt8 := qz (VL key ++ qz (VI key ++ m))
theorem xe (key m : List UInt8) : (JK key m).length = 32 := rfl
def JN (key m : List UInt8) : List UInt8 := (JK key m).take 8
theorem yf (key m : List UInt8) : (JN key m).length = 8 := rfl
end Go.Bl
namespace Go.Proofs.YtdloaifdpajcjaaGreatDoor
open Go.RowKit Go.Bl
theorem Kl {ops : Array Oper} {i : Nat} {b : Go.Act} {p : World} (o : Oper) (ho : ops[i]? = some o) (hg : o.guard = none) (k1 k2 k3 : Nat) (hop : o.op = .call { callee := .value (.func 238), args := #[.tmp k1, .tmp k2, .tmp k3], argTypes := #[349, 5, 5] })
  (tb : Nat) (x y : UInt8) (h1 : b.eval (.tmp k1) = .pointer (some ⟨tb, 0, none⟩)) (h2 : b.eval (.tmp k2) = .int .u8 (x.toNat : Int)) (h3 : b.eval (.tmp k3) = .int .u8 (y.toNat : Int)) (hT : At p tb (.cells uZ 370)) :
  opV Tryz.prog ops i b p fun v p' => v = .int .u8 ((zt x y).toNat : Int) /\ Fr [] p p' := by
 have hf : b.eval (.func 238) = .func (.func 238) #[] #[] := rfl
 unfold opV
 simp only [ho, Region.wanted, hg, if_true]
 obtain ⟨ρ, hρ⟩ := exq (b.eval)
 rw [hρ] at h1 h2 h3 hf ⊢
 have hr : (execOp ρ o).run Tryz.prog p = .ok (.enter 238 #[.pointer (some ⟨tb, 0, none⟩), u8v x, u8v y]) p := by
  unfold execOp
  simp [hop, resolve, invoke, go_sem, h1, h2, h3, hf, u8v]
 rw [hr]
 refine (qc7 p tb hT x y).mono ?_
 rintro e p' ⟨rfl, hf⟩
 exact ⟨rfl, hf⟩
theorem JO {w : World} {g i : Nat} {t : TypeId} {xs : List UInt8} (h : At w g (.cells (xs.map u8v).toArray t)) (hi : i < xs.length) : w.cell? ⟨g, i, none⟩ = some (.int .u8 ((xs.getD i 0).toNat : Int)) := by
 rw [qM h]
 simp [List.getD_eq_getElem?_getD, hi, u8v]
theorem Uq (out : List UInt8) (i : Nat) (x : UInt8) : ((xA out i x).map u8v).toArray = ((out.map u8v).toArray).setIfInBounds i (.int .u8 ((out.getD i 0 ^^^ x).toNat : Int)) := by
 unfold xA
 rw [List.map_set]
 simp [u8v]
noncomputable def qbz : Code := ((Tryz.f263.body.bind (qV 9)).getD .skip)
theorem qeC (w : World) (a : Go.Act) (hsz : a.tmps.size = 48) (g tb n i k : Nat) (out : List UInt8) (x y : UInt8) (hik : i + k < n) (hn : n <= 1000000) (hol : out.length = n) (hgt : g ≠ tb) (h6 : slot a 6 = .slice (some ⟨g, 0, none⟩) n n) (h7 : slot a 7 = .int .i64 (i : Int)) (h9 : slot a 9 = .int .i64 (k : Int)) (h5 : slot a 5 = .pointer (some ⟨tb, 0, none⟩)) (h8 : slot a 8 = .int .u8 (x.toNat : Int)) (h10 : slot a 10 = .int .u8 (y.toNat : Int)) (hA : At w g (.cells (out.map u8v).toArray 5)) (hT : At w tb (.cells uZ 370)) (Q : Exit -> Go.Act -> World -> Prop)
  (hQ : ∀ (b : Go.Act) (p : World), b.defers = a.defers -> b.tmps.size = a.tmps.size -> (∀ s, s ∉ ([32, 33, 34, 35, 36, 37, 38, 39, 40, 41, 42, 43] : List Nat) -> slot b s = slot a s) -> Fr [g] w p -> At p g (.cells ((xA out (i + k) (zt x y)).map u8v).toArray 5) -> Q .normal b p) : Code.wp Tryz.prog qbz Q a w := by
 conv => arg 2; whnf
 refine uQ Y55 Y55 [some 32, some 33, some 34, some 35, some 36, some 37, some 38, some 39, some 40, some 41, some 42, some 43, none] [9, 12] [.rd (.slice (some ⟨g, 0, none⟩) n n) 2, .rd (.int .i64 (i : Int)) 2, .rd (.int .i64 (k : Int)) 2, .rd (.int .i64 ((i + k : Nat) : Int)) 2, .rd (.pointer (some ⟨g, i + k, none⟩)) 2, .rd (.int .u8 ((out.getD (i + k) 0).toNat : Int)) 1, .rd (.pointer (some ⟨tb, 0, none⟩)) 2, .rd (.int .u8 (x.toNat : Int)) 2, .rd (.int .u8 (y.toNat : Int)) 2, .st 0, .rd (.int .u8 ((out.getD (i + k) 0 ^^^ zt x y).toNat : Int)) 2, .rd (.pointer (some ⟨g, i + k, none⟩)) 2, .st 1] (fun j => if j = 0 then (.int .u8 ((zt x y).toNat : Int)) else undef) (fun s p => Fr [g] w p /\ At p g (.cells (if s <= 1 then (out.map u8v).toArray else ((xA out (i + k) (zt x y)).map u8v).toArray) 5) /\ At p tb (.cells uZ 370)) Y55 Y72 (by rw [hsz]; rfl) Y55 Y55 Y86 ?_ ⟨?_, ?_, ?_, ?_, ?_, ?_, ?_, ?_, ?_, ?_, ?_, ?_, ?_, trivial⟩ ?_
 ·intro w1 hw1
  exact ⟨hw1.weak, by rw [if_pos Y86]; exact hA.keep0 hw1, hT.keep0 hw1⟩
 ·refine ⟨⟨32, rfl⟩, .inl rfl, fun b p s hs hS h => ?_⟩
  have e0 : b.eval (.tmp 6) = .slice (some ⟨g, 0, none⟩) n n := (h.old 6 Y86).trans h6
  exact Y0
 ·refine ⟨⟨33, rfl⟩, .inl rfl, fun b p s hs hS h => ?_⟩
  have e0 : b.eval (.tmp 7) = .int .i64 (i : Int) := (h.old 7 Y86).trans h7
  exact Y0
 ·refine ⟨⟨34, rfl⟩, .inl rfl, fun b p s hs hS h => ?_⟩
  have e0 : b.eval (.tmp 9) = .int .i64 (k : Int) := (h.old 9 Y86).trans h9
  exact Y0
 ·refine ⟨⟨35, rfl⟩, .inl rfl, fun b p s hs hS h => ?_⟩
  have e0 := h.er 1 33 Y55 rfl rfl
  have e1 := h.er 2 34 Y55 rfl rfl
  have ec : ∀ v, b.eval (.const v) = v := fun _ => rfl
  obtain ⟨ρ, hρ⟩ := exq (b.eval)
  rw [hρ] at e0 e1 ec ⊢
  exact ⟨_, by rfl, rfl, by unfold execOp; simp [go_sem, e0, e1, ec, show IntKind.i64.wrap ((i : Int) + k) = (i : Int) + k by rw [IntKind.wrap_i64]; omega]⟩
 ·refine ⟨⟨36, rfl⟩, .inl rfl, fun b p s hs hS h => ?_⟩
  exact Y10
 ·refine ⟨⟨37, rfl⟩, .inr ⟨12, rfl, by kernel_rfl⟩, fun b p s hs hS h => ?_⟩
  have e0 := h.er 4 36 Y55 rfl rfl
  have c0 := (show p.cell? ⟨g, i + k, none⟩ = some (.int .u8 ((out.getD (i + k) 0).toNat : Int)) from by have hA := hS.2.1; rw [if_pos hs] at hA; exact JO hA Y54)
  exact Y13
 ·refine ⟨⟨38, rfl⟩, .inl rfl, fun b p s hs hS h => ?_⟩
  have e0 : b.eval (.tmp 5) = .pointer (some ⟨tb, 0, none⟩) := (h.old 5 Y86).trans h5
  exact Y0
 ·refine ⟨⟨39, rfl⟩, .inl rfl, fun b p s hs hS h => ?_⟩
  have e0 : b.eval (.tmp 8) = .int .u8 (x.toNat : Int) := (h.old 8 Y86).trans h8
  exact Y0
 ·refine ⟨⟨40, rfl⟩, .inl rfl, fun b p s hs hS h => ?_⟩
  have e0 : b.eval (.tmp 10) = .int .u8 (y.toNat : Int) := (h.old 10 Y86).trans h10
  exact Y0
 ·refine ⟨rfl, .inl rfl, fun b p hS h => ?_⟩
  have e0 := h.er 6 38 Y55 rfl rfl
  have e1 := h.er 7 39 Y55 rfl rfl
  have e2 := h.er 8 40 Y55 rfl rfl
  obtain ⟨hf, hA, hT⟩ := hS
  refine jZ (K := fun v p' => v = .int .u8 ((zt x y).toNat : Int) /\ Fr [] p p') (fun v p' hv => ⟨⟨hf.trans hv.2.weak, by rw [if_pos Y86] at hA ⊢; exact hA.keep0 hv.2, hT.keep0 hv.2⟩, .inr hv.1⟩) ?_
  exact Kl _ Y72 rfl 38 39 40 rfl tb x y e0 e1 e2 hT
 ·refine ⟨⟨42, rfl⟩, .inl rfl, fun b p s hs hS h => ?_⟩
  have e0 := h.er 5 37 Y55 rfl rfl
  have e1 := (show b.eval (.tmp 41) = .int .u8 ((zt x y).toNat : Int) from h.st 9 _ 41 Y55 rfl rfl)
  exact Y29
 ·refine ⟨⟨43, rfl⟩, .inl rfl, fun b p s hs hS h => ?_⟩
  exact Y10
 ·refine ⟨rfl, .inr ⟨9, rfl, by kernel_rfl⟩, fun b p hS h => ?_⟩
  have e0 := h.er 11 43 Y55 rfl rfl
  have e1 := h.er 10 42 Y55 rfl rfl
  obtain ⟨hf, hA, hT⟩ := hS
  rw [if_pos Y86] at hA
  refine jZ (K := fun _ p' => Fr [g] w p' /\ At p' g (.cells ((xA out (i + k) (zt x y)).map u8v).toArray 5) /\ At p' tb (.cells uZ 370)) (fun v p' hv => ⟨by show Fr [g] w p' /\ At p' g (.cells (if 1 + 1 <= 1 then (out.map u8v).toArray else ((xA out (i + k) (zt x y)).map u8v).toArray) 5) /\ At p' tb (.cells uZ 370); rw [if_neg Y86]; exact hv, .inl rfl⟩) ?_
  refine jm (K := fun _ p' => Fr [g] w p' /\ At p' g (.cells ((xA out (i + k) (zt x y)).map u8v).toArray 5) /\ At p' tb (.cells uZ 370)) _ Y72 ?_
  refine qw (.tmp 43) (.tmp 42) rfl rfl (.int .u8 ((out.getD (i + k) 0 ^^^ zt x y).toNat : Int)) e0 e1 hA Y57 Y55 rfl ?_
  intro p1 f1 a1 _
  exact ⟨rfl, rfl, hf.trans f1, by rw [Uq]; exact a1, hT.keep f1 Y78⟩
 ·intro b p h1 h2 h3 h4 h5
  exact hQ b p h1 h2 (fun s hs => h3 s (fun hm => hs (by simpa using hm))) h4.1 (by have := h4.2.1; rwa [if_neg Y86] at this)
theorem Fr.of_below {w w' : World} (h : Below w.heap.size w w') : Fr [] w w' := ⟨h.os, h.tape, h.output, h.size, fun k hk _ => h.block k hk⟩
theorem Ln (A : Nat -> Prop) (w : World) (v : Value) (zs : List UInt8) (hb : Bs A w v zs) (hne : zs ≠ []) (hl : zs.length <= 1000000) :
  Calls Tryz.prog 274 #[v] w fun e w' => e = .returned (.int .i64 ((ZW zs : Int) - 1)) /\ Fr [] w w' := by
 obtain ⟨a, cap, rfl, hI⟩ := qhs A w v zs hb
 refine (callsIn_wide.1 (qgS Fence.wide 3 trivial trivial trivial rfl Y54 a zs.length cap zs hl w (hI hne))).mono ?_
 rintro e w' ⟨rfl, h⟩
 exact ⟨rfl, Fr.of_below h⟩
theorem qd5 (A : Nat -> Prop) (w : World) (v : Value) (zs : List UInt8) (hb : Bs A w v zs) (hne : zs ≠ []) (hl : zs.length <= 1000000) :
  Calls Tryz.prog 268 #[v] w fun e w' => ∃ u, e = .returned u /\ qt 5 w.heap.size w' u (UQ zs) /\ Fr [] w w' := by
 have HB := Hdq hb
 have HD := Hdq (Ln A w v zs hb hne hl)
 have hpl := qbi zs
 obtain ⟨a, cap, rfl, h2, h3, -⟩ := hb
 unfold maxLen at h3
 obtain ⟨m, hm⟩ := exq (ZW zs)
 obtain ⟨N, hN⟩ := exq (zs.length)
 have HT := Hdq (show UQ zs = zs.take m by unfold UQ; rw [hm])
 rw [hm] at HD hpl
 rw [hN] at HD hpl hl h2 HB ⊢
 have HN := Hdq hN
 clear hm hN hne
 have hmm : (m : Int) - 1 + 1 = m := by omega
 go_enter Tryz.func268, Tryz.ntmps268
 go_wp2_with fail
 refine HD.out.mono ?_
 rintro e w1 ⟨rfl, hf⟩
 have HF := Hdq hf
 replace HB := Hdq (HB.out.keep hf Y85)
 have i1 : m <= cap := by omega
 clear hf HD
 go_wp2_with fail
 have hcut := HB.out.take m hpl
 have hs1 := HF.out.size
 refine (clone_any A _ _ _ hcut Y57).mono ?_
 rintro e w2 ⟨u, rfl, ho, hf⟩
 have HO := Hdq (ho.base hs1)
 have HF2 := Hdq (HF.out.trans hf)
 clear ho hf hcut
 go_wp2
 go_ret
 exact ⟨_, rfl, by rw [HT.out]; exact HO.out, HF2.out⟩
theorem zR {A : Nat -> Prop} {w : World} {v : Value} {xs : List UInt8} (h : Bs A w v xs) : ∃ bo bn bc, v = .slice bo bn bc := by
 obtain ⟨a, cap, rfl, -⟩ := h
 exact ⟨_, _, _, rfl⟩
theorem vS {A : Nat -> Prop} {w : World} {a : Option Addr} {n cap : Nat} {xs : List UInt8} (h : Bs A w (.slice a n cap) xs) (j : Nat) (x : UInt8) (hx : xs[j]? = some x) :
  ∃ b off, a = some ⟨b, off, none⟩ /\ w.cell? ⟨b, off + j, none⟩ = some (.int .u8 (x.toNat : Int)) := by
 obtain ⟨a', cap', e, h2, h3, h4⟩ := h
 cases e
 have hj : j < xs.length := (List.getElem?_eq_some_iff.1 hx).1
 obtain ⟨b, off, rfl, -, hc⟩ := h4.some_of Y57
 refine ⟨b, off, rfl, ?_⟩
 rw [hc j Y74, List.getElem?_map, hx]
 rfl
theorem qeV (A : Nat -> Prop) (w : World) (p q : Value) (ps qs : List UInt8) (hp : Bs A w p ps) (hq : Bs A w q qs) (hpn : 0 < ps.length + qs.length) (hl : ps.length + qs.length <= 1000) :
  Calls Tryz.prog 263 #[p, q] w fun e w' => ∃ u, e = .returned u /\ qt 5 w.heap.size w' u (qbP ps qs) /\ Fr [] w w' := by
 have HP := Hdq hp
 have HQ := Hdq hq
 have hp0 := hpn
 obtain ⟨pa, pc, rfl, p2, p3, hpr⟩ := hp
 obtain ⟨qa, qc, rfl, q2, q3, hqr⟩ := hq
 unfold maxLen at p3 q3
 obtain ⟨i0, hi, hz, hsz, hby⟩ := jw Tryz.infoByte
 obtain ⟨P, hP⟩ := exq (ps.length)
 obtain ⟨Q, hQ⟩ := exq (qs.length)
 rw [hP] at HP p2 hl hp0 ⊢
 rw [hQ] at HQ q2 hl hp0 ⊢
 have HPL := Hdq hP
 have HQL := Hdq hQ
 clear hP hQ hpr hqr hpn
 go_enter Tryz.func263, Tryz.ntmps263
 go_wp2_with fail
 refine (Wx _).mono ?_
 rintro e w1 ⟨rfl, hT, hf⟩
 have hs1 := hf.size
 have hlt := hT.lt
 go_wp2_with (refine wpList_make_row _ rfl (.tmp 16) (.tmp 16) 22 rfl 5 i0 (.int .u8 0) Tryz.underlying22 hi hz hsz rfl .i64 .i64 (P + Q) (by show Value.int .i64 ((P : Int) + (Q : Int)) = _; simp) (by show Value.int .i64 ((P : Int) + (Q : Int)) = _; simp) (by rw [hby]; omega) Y54 ?_)
 have hcs : madeCells #[.int .u8 0] (P + Q) = ((List.replicate (P + Q) (0 : UInt8)).map u8v).toArray := by
  apply Array.ext
  ·simp [madeCells]
  ·intro i h1 h2
   simp [madeCells, u8v, Nat.mod_one]
 have HA := Hdq (show At (w1.alloc (.cells (madeCells #[.int .u8 0] (P + Q)) 5)) w1.heap.size (.cells ((zf (ps.take 0) qs 0 (List.replicate (P + Q) 0)).map u8v).toArray 5) by rw [hcs]; exact At.new rfl)
 have HT := Hdq (show At (w1.alloc (.cells (madeCells #[.int .u8 0] (P + Q)) 5)) w.heap.size (.cells uZ 370) from hT.al)
 have HF := Hdq (show Fr [] w (w1.alloc (.cells (madeCells #[.int .u8 0] (P + Q)) 5)) from Fr.al hf)
 obtain ⟨w2, hw2⟩ := exq (w1.alloc (.cells (madeCells #[.int .u8 0] (P + Q)) 5))
 rw [hw2] at HA HT HF ⊢
 obtain ⟨g, hg⟩ := exq (w1.heap.size)
 rw [hg] at HA hs1 hlt ⊢
 clear hT hf hcs hw2 hg hi hz hsz hby
 have hgt : g ≠ w.heap.size := by omega
 go_wp2
 go_loopw [20] (fun i wr => ∃ j : Nat, j <= P /\ i = .int .i64 j /\ Hid (At wr g (.cells ((zf (ps.take j) qs 0 (List.replicate (P + Q) 0)).map u8v).toArray 5)) /\ Hid (At wr w.heap.size (.cells uZ 370)) /\ Hid (Fr [] w wr)) (fun i _ => P - (intOf i).toNat)
 case atStart => exact ⟨0, by omega, rfl, HA.out, HT.out, HF.out⟩
 case round =>
  clear HA HT HF
  obtain ⟨j, hj, rfl, HA, HT, HF⟩ := hrel
  by_cases hjn : j < P
  ·obtain ⟨x, hx⟩ : ∃ x, ps[j]? = some x := ⟨_, List.getElem?_eq_getElem (by have := HPL.out; omega)⟩
   obtain ⟨pb, po, rfl, hcp⟩ := vS HP.out j x hx
   have hcx := zy HF.out hcp
   have HM := Hdq (Zv ps qs j 0 x (List.replicate (P + Q) 0) hx)
   have HL := Hdq (show (zf (ps.take j) qs 0 (List.replicate (P + Q) 0)).length = P + Q by rw [xK, List.length_replicate])
   obtain ⟨out, ho⟩ := exq (zf (ps.take j) qs 0 (List.replicate (P + Q) 0))
   rw [ho] at HA HM HL
   clear hx hcp ho
   go_wp2
   go_loopw [27] (fun i wr => ∃ k : Nat, k <= Q /\ i = .int .i64 k /\ Hid (At wr g (.cells ((uv x (qs.take k) (0 + j) out).map u8v).toArray 5)) /\ Hid (At wr w.heap.size (.cells uZ 370)) /\ Hid (Fr [] w wr)) (fun i _ => Q - (intOf i).toNat)
   case atStart => exact ⟨0, by omega, rfl, HA.out, HT.out, HF.out⟩
   case round =>
    clear HA HT HF hcx
    obtain ⟨k, hk, rfl, HA, HT, HF⟩ := hrel
    by_cases hkn : k < Q
    ·obtain ⟨y, hy⟩ : ∃ y, qs[k]? = some y := ⟨_, List.getElem?_eq_getElem (by have := HQL.out; omega)⟩
     obtain ⟨qb, qo, rfl, hcq⟩ := vS HQ.out k y hy
     have hcy := zy HF.out hcq
     have HR := Hdq (ZE x qs k (0 + j) y out hy)
     have HL2 := Hdq (show (uv x (qs.take k) (0 + j) out).length = P + Q by rw [QT, HL.out])
     obtain ⟨cur, hcur⟩ := exq (uv x (qs.take k) (0 + j) out)
     rw [hcur] at HA HR HL2
     clear hy hcq hcur
     go_wp2_with fail
     refine qeC _ _ rfl g w.heap.size (P + Q) j k cur x y Y54 Y54 HL2.out hgt rfl rfl rfl rfl rfl rfl HA.out HT.out _ ?_
     intro b p h1 h2 h3 hf ha
     obtain ⟨f, hb⟩ := qdr b _ _ h1 h2 h3
     have HA2 := Hdq (show At p g (.cells ((uv x (qs.take (k + 1)) (0 + j) out).map u8v).toArray 5) by rw [HR.out, Nat.zero_add]; exact ha)
     have HT2 := Hdq (HT.out.keep hf Y78)
     have HF2 := Hdq (HF.out.then hf Y61)
     clear h1 h2 h3 hf ha HA HT HF hcy
     subst hb
     simp only [List.foldl_cons, List.foldl_nil, Go.Act.put, List.setIfInBounds_toArray, List.set_cons_succ, List.set_cons_zero]
     go_wp2
     go_roundw
     case rel => exact ⟨k + 1, by omega, by go_num, HA2.out, HT2.out, HF2.out⟩
     case measure => simp [intOf]; omega
    ·obtain rfl : k = Q := by omega
     have HA2 := Hdq (show At wr g (.cells ((zf (ps.take (j + 1)) qs 0 (List.replicate (P + k) 0)).map u8v).toArray 5) by
      rw [HM.out]
      have h := HA.out
      rwa [List.take_of_length_le (by have := HQL.out; omega)] at h)
     clear HA
     go_wp2
     go_roundw
     case rel => exact ⟨j + 1, by omega, by go_num, HA2.out, HT.out, HF.out⟩
     case measure => simp [intOf]; omega
  ·obtain rfl : j = P := by omega
   have hl2 : (zf (ps.take j) qs 0 (List.replicate (j + Q) 0)).length = j + Q := by rw [xK, List.length_replicate]
   have HB := Hdq (show Bs (fun _ => False) wr (.slice (some ⟨g, 0, none⟩) (j + Q) (j + Q)) (zf (ps.take j) qs 0 (List.replicate (j + Q) 0)) from by
    have h := Row.of_block (A := fun _ => False) HA.out Y85
    refine ⟨some ⟨g, 0, none⟩, j + Q, by rw [hl2], by rw [hl2]; exact Nat.le_refl _, by simp [maxLen]; omega, by simpa using h⟩)
   have HR := Hdq (show qbP ps qs = UQ (zf (ps.take j) qs 0 (List.replicate (j + Q) 0)) by
    unfold qbP
    rw [HPL.out, HQL.out, List.take_of_length_le (by have := HPL.out; omega)])
   have HTR := Hdq (qd5 (fun _ => False) wr _ _ HB.out (by intro h; rw [h] at hl2; simp at hl2; omega) (by rw [hl2]; omega))
   have hs2 := HF.out.size
   clear hl2 HA HT HB
   go_wp2_with fail
   refine HTR.out.mono ?_
   rintro e w3 ⟨u, rfl, ho, hf⟩
   have HO := Hdq (ho.base hs2)
   have HF2 := Hdq (HF.out.trans hf)
   clear ho hf HTR
   go_wp2
   go_ret
   exact ⟨_, rfl, by rw [HR.out]; exact HO.out, HF2.out⟩
theorem QF (rs : List UInt8) : ∀ k, (vp (rs.take k)).length <= 1 + 2 * k
 | 0 => by simp [vp]
 | k + 1 => by
  cases h : rs[k]? with
  | none =>
   have hl := List.getElem?_eq_none_iff.1 h
   rw [List.take_of_length_le Y54]
   have := QF rs k
   rw [List.take_of_length_le hl] at this
   omega
  | some r =>
   rw [Zt rs k r h]
   have := qc4 (vp (rs.take k)) [r, 1]
   have := QF rs k
   simp at *
   omega
theorem qfo {e : TypeId} {base : Nat} (w : World) (c : Array Value) (xs : List UInt8) (hb : base <= w.heap.size) (hc : c.toList = xs.map u8v) (hl : xs.length <= 1000) : qt e base (w.alloc (.cells c e)) (.slice (some ⟨w.heap.size, 0, none⟩) xs.length xs.length) xs := by
 have hs : c.size = xs.length := by have := congrArg List.length hc; simpa using this
 refine ⟨by simp, .inr ⟨w.heap.size, xs.length, c, rfl, hb, heap_alloc_new _ _, Nat.le_refl _, by simp [maxLen]; omega, by omega, ?_⟩⟩
 rw [List.take_of_length_le Y57, hc]
theorem qal {A : Nat -> Prop} (w : World) (c : Array Value) (e : TypeId) (xs : List UInt8) (hA : ¬ A w.heap.size) (hc : c.toList = xs.map u8v) (hl : xs.length <= 1000) : Bs A (w.alloc (.cells c e)) (.slice (some ⟨w.heap.size, 0, none⟩) xs.length xs.length) xs :=
 ⟨_, _, rfl, Nat.le_refl _, by simp [maxLen]; omega, by
  have := Row.of_block (A := A) (show (w.alloc (.cells c e)).heap[w.heap.size]? = some (.cells c e (0, 0)) from heap_alloc_new _ _) hA
  rwa [hc] at this⟩
theorem qbu (A : Nat -> Prop) (w : World) (v : Value) (rs : List UInt8) (hb : Bs A w v rs) (hl : rs.length <= 32) :
  Calls Tryz.prog 256 #[v] w fun e w' => ∃ u, e = .returned u /\ qt 5 w.heap.size w' u (vp rs) /\ Fr [] w w' := by
 have HB := Hdq hb
 obtain ⟨a, cap, rfl, h2, h3, -⟩ := hb
 unfold maxLen at h3
 obtain ⟨N, hN⟩ := exq (rs.length)
 rw [hN] at HB h2 hl ⊢
 have HN := Hdq hN
 clear hN
 have HO := Hdq (show qt 5 w.heap.size (w.alloc (.cells #[.int .u8 1] 5)) (.slice (some ⟨w.heap.size, 0, none⟩) 1 1) (vp (rs.take 0)) from qfo w #[.int .u8 1] [1] (Nat.le_refl _) rfl Y85)
 go_enter Tryz.func256, Tryz.ntmps256
 go_wp2
 go_loopw [3, 9] (fun o i wr => ∃ j : Nat, j <= N /\ i = .int .i64 j /\ Hid (qt 5 w.heap.size wr o (vp (rs.take j))) /\ Hid (Fr [] w wr)) (fun _ i _ => N - (intOf i).toNat)
 case atStart => exact ⟨0, by omega, rfl, HO.out, Fr.alloc _ _⟩
 case round =>
  clear HO
  obtain ⟨j, hj, rfl, HO, HF⟩ := hrel
  by_cases hjn : j < N
  ·obtain ⟨x, hx⟩ : ∃ x, rs[j]? = some x := ⟨_, List.getElem?_eq_getElem Y59⟩
   obtain ⟨b, off, rfl, hc⟩ := vS HB.out j x hx
   have hcx := zy HF.out hc
   have HT := Hdq (Zt rs j x hx)
   have HL := Hdq (QF rs j)
   obtain ⟨oo, on, oc, rfl⟩ := zR (HO.out.bs (A := fun _ => False) Y85)
   clear hx hc
   go_wp2_with fail
   have hbs := qal (A := fun _ => False) wr #[.int .u8 (x.toNat : Int), .int .u8 1] 5 [x, 1] Y85 rfl Y85
   have hal : Fr [] wr (wr.alloc (.cells #[.int .u8 (x.toNat : Int), .int .u8 1] 5)) := Fr.alloc _ _
   have hs := (HF.out.trans hal).size
   refine (qeV (fun _ => False) _ _ _ _ _ ((HO.out.keep hal Y85).bs Y85) hbs Y85 (by have := HL.out; simp; omega)).mono ?_
   rintro e w2 ⟨u, rfl, ho, hf⟩
   have HO2 := Hdq (show qt 5 w.heap.size w2 u (vp (rs.take (j + 1))) by rw [HT.out]; exact ho.base hs)
   have HF2 := Hdq ((HF.out.trans hal).trans hf)
   clear ho hf hbs hal HO HF hcx
   go_wp2
   go_roundw
   case rel => exact ⟨j + 1, by omega, by go_num, HO2.out, HF2.out⟩
   case measure => simp [intOf]; omega
  ·obtain rfl : j = N := by omega
   have HE := Hdq (show rs.take j = rs from List.take_of_length_le Y59)
   go_wp2
   go_ret
   exact ⟨_, rfl, by have := HO.out; rwa [HE.out] at this, HF.out⟩
theorem qfO (w : World) : Calls Tryz.prog 237 #[] w fun e w' => ∃ u, e = .returned u /\ qt 5 w.heap.size w' u Yv /\ Fr [] w w' := by
 go_enter Tryz.func237, Tryz.ntmps237
 go_wp2
 go_loopw [1, 3] (fun o i wr => ∃ j : Nat, j <= 32 /\ i = .int .i64 j /\ Hid (qt 5 w.heap.size wr o ((List.range j).map jr)) /\ Hid (Fr [] w wr)) (fun _ i _ => 32 - (intOf i).toNat)
 case atStart => exact ⟨0, by omega, rfl, qt.nil _ _ _, Fr.refl _ _⟩
 case round =>
  obtain ⟨j, hj, rfl, HO, HF⟩ := hrel
  by_cases hjn : j < 32
  ·go_wp2_with fail
   refine (qgb _ j Y54).mono ?_
   rintro e w2 ⟨rfl, hf⟩
   have HO2 := Hdq (HO.out.keep hf Y85)
   have HF2 := Hdq (HF.out.trans hf)
   have HR := Hdq (show (List.range (j + 1)).map jr = (List.range j).map jr ++ [jr j] by simp [List.range_succ])
   clear hf HO HF
   unfold u8v
   obtain ⟨x, hx⟩ := exq (jr j)
   rw [hx] at HR ⊢
   clear hx
   have HBL := Hdq (qal (A := fun _ => False) w2 #[.int .u8 (x.toNat : Int)] 5 [x] Y85 rfl Y85)
   have HO3 := Hdq (HO2.out.keep (Fr.alloc (S := []) w2 (.cells #[.int .u8 (x.toNat : Int)] 5)) Y85)
   have HF3 := Hdq (show Fr [] w (w2.alloc (.cells #[.int .u8 (x.toNat : Int)] 5)) from Fr.al HF2.out)
   have hs := HF3.out.size
   go_wp2_with (at_builtin; refine qd (A := fun _ => False) (ys := [x]) (base := w.heap.size) Tryz.underlying22 Tryz.infoByte rfl (.tmp 6) (.tmp 9) rfl rfl rfl HO3.out HBL.out Y57 hs ?_)
   intro v' w3 h5 h6
   have HO4 := Hdq (show qt 5 w.heap.size w3 v' ((List.range (j + 1)).map jr) by rw [HR.out]; exact h5)
   have HF4 := Hdq (show Fr [] w w3 from qt.fr HO3.out HF3.out h6 (Nat.le_refl _))
   clear h5 h6 HO3 HF3 HBL HO2 HF2
   go_wp2
   go_roundw
   case rel => exact ⟨j + 1, by omega, by go_num, HO4.out, HF4.out⟩
   case measure => simp [intOf]; omega
  ·obtain rfl : j = 32 := by omega
   have HB := Hdq (HO.out.bs (A := fun _ => False) Y85)
   have hs := HF.out.size
   obtain ⟨oo, on, oc, rfl⟩ := zR HB.out
   go_wp2_with fail
   refine (qbu (fun _ => False) _ _ _ HB.out Y85).mono ?_
   rintro e w2 ⟨u, rfl, ho, hf⟩
   have HO2 := Hdq (ho.base hs)
   have HF2 := Hdq (HF.out.trans hf)
   clear ho hf
   go_wp2
   go_ret
   exact ⟨_, rfl, HO2.out, HF2.out⟩
theorem qf6 {S : List Nat} {w p : World} {b i : Nat} {v : Value} (h : Fr S w p) (hb : b ∉ S) (hc : w.cell? ⟨b, i, none⟩ = some v) : p.cell? ⟨b, i, none⟩ = some v := by
 unfold World.cell? at hc ⊢
 rcases Nat.lt_or_ge b w.heap.size with hl | hl
 ·rw [h.block b hl hb]; exact hc
 ·rw [Array.getElem?_eq_none hl] at hc; simp at hc
def zQ (y : UInt8) : Nat -> List UInt8 -> List UInt8
 | 0, r => r
 | k + 1, r => xA (zQ y k r) k (zt y (Yv.getD (31 - k) 0))
theorem ul (y : UInt8) : ∀ (k : Nat) (r : List UInt8), (zQ y k r).length = r.length
 | 0, _ => rfl
 | k + 1, r => by simp only [zQ]; rw [WG, ul y k r]
theorem qgq (l : List UInt8) (i m : Nat) (x : UInt8) (hi : i < l.length) : (xA l i x).getD m 0 = if m = i then l.getD m 0 ^^^ x else l.getD m 0 := by
 unfold xA
 by_cases h : m = i
 ·subst h
  simp [List.getD_eq_getElem?_getD, hi]
 ·simp [List.getD_eq_getElem?_getD, List.getElem?_set_ne (Ne.symm h), h]
theorem Ua (y : UInt8) (m : Nat) : ∀ (k : Nat) (r : List UInt8), k <= r.length -> (zQ y k r).getD m 0 = if m < k then r.getD m 0 ^^^ zt y (Yv.getD (31 - m) 0) else r.getD m 0
 | 0, r, _ => by rw [if_neg Y54]; rfl
 | k + 1, r, h => by
  simp only [zQ]
  rw [qgq _ _ _ _ (by rw [ul]; omega), Ua y m k r Y54]
  by_cases hm : m = k
  ·subst hm
   rw [if_pos rfl, if_neg Y54, if_pos Y54]
  ·rw [if_neg hm]
   by_cases h2 : m < k
   ·rw [if_pos h2, if_pos Y54]
   ·rw [if_neg h2, if_neg Y54]
theorem Kt (R : List UInt8) (c : UInt8) (hR : R.length = 32) : zQ (c ^^^ R.getD 0 0) 32 (R.tail ++ [0]) = vG R c := by
 have hl : (R.tail ++ [0]).length = 32 := by simp [hR]
 have h0 : R.headD 0 = R.getD 0 0 := by cases R <;> rfl
 apply List.ext_getElem
 ·rw [ul, hl, Zj R c hR]
 ·intro m h1 h2
  rw [ul, hl] at h1
  have := Ua (c ^^^ R.getD 0 0) m 32 (R.tail ++ [0]) Y54
  rw [if_pos h1, List.getD_eq_getElem?_getD, List.getElem?_eq_getElem (by rw [ul]; omega), Option.getD_some] at this
  rw [this]
  simp only [vG, List.getElem_mapIdx, h0]
  rw [List.getD_eq_getElem?_getD, List.getElem?_eq_getElem Y54, Option.getD_some]
noncomputable def qe3 : Code := ((Tryz.f203.body.bind (qV 15)).getD .skip)
theorem qgs (w : World) (a : Go.Act) (hsz : a.tmps.size = 58) (g tb gb go gc k : Nat) (out : List UInt8) (y z : UInt8) (hk : k < 32) (hol : out.length = 32) (hgt : g ≠ tb) (hgb : gb ∉ [g]) (h6 : slot a 6 = .slice (some ⟨g, 0, none⟩) 32 32) (h10 : slot a 10 = .int .i64 (k : Int)) (h4 : slot a 4 = .pointer (some ⟨tb, 0, none⟩)) (h9 : slot a 9 = .int .u8 (y.toNat : Int)) (h5 : slot a 5 = .slice (some ⟨gb, go, none⟩) 33 gc) (hz : w.cell? ⟨gb, go + (31 - k), none⟩ = some (.int .u8 (z.toNat : Int))) (hA : At w g (.cells (out.map u8v).toArray 5)) (hT : At w tb (.cells uZ 370)) (Q : Exit -> Go.Act -> World -> Prop)
  (hQ : ∀ (b : Go.Act) (p : World), b.defers = a.defers -> b.tmps.size = a.tmps.size -> (∀ s, s ∉ ([41, 42, 43, 44, 45, 46, 47, 48, 49, 50, 51, 52, 53, 54] : List Nat) -> slot b s = slot a s) -> Fr [g] w p -> At p g (.cells ((xA out k (zt y z)).map u8v).toArray 5) -> Q .normal b p) : Code.wp Tryz.prog qe3 Q a w := by
 conv => arg 2; whnf
 refine uQ Y55 Y55 [some 41, some 42, some 43, some 44, some 45, some 46, some 47, some 48, some 49, some 50, some 51, some 52, some 53, some 54, none] [11, 14] [.rd (.slice (some ⟨g, 0, none⟩) 32 32) 2, .rd (.int .i64 (k : Int)) 2, .rd (.pointer (some ⟨g, k, none⟩)) 2, .rd (.int .u8 ((out.getD k 0).toNat : Int)) 1, .rd (.pointer (some ⟨tb, 0, none⟩)) 2, .rd (.int .u8 (y.toNat : Int)) 2, .rd (.slice (some ⟨gb, go, none⟩) 33 gc) 2, .rd (.int .i64 (k : Int)) 2, .rd (.int .i64 ((31 - k : Nat) : Int)) 2, .rd (.pointer (some ⟨gb, go + (31 - k), none⟩)) 2, .rd (.int .u8 (z.toNat : Int)) 0, .st 0, .rd (.int .u8 ((out.getD k 0 ^^^ zt y z).toNat : Int)) 2, .rd (.pointer (some ⟨g, k, none⟩)) 2, .st 1] (fun j => if j = 0 then (.int .u8 ((zt y z).toNat : Int)) else undef) (fun s p => Fr [g] w p /\ At p g (.cells (if s <= 1 then (out.map u8v).toArray else ((xA out k (zt y z)).map u8v).toArray) 5) /\ At p tb (.cells uZ 370)) Y55 Y72 (by rw [hsz]; rfl) Y55 Y55 Y86 ?_ ⟨?_, ?_, ?_, ?_, ?_, ?_, ?_, ?_, ?_, ?_, ?_, ?_, ?_, ?_, ?_, trivial⟩ ?_
 ·intro w1 hw1
  exact ⟨hw1.weak, by rw [if_pos Y86]; exact hA.keep0 hw1, hT.keep0 hw1⟩
 ·refine ⟨⟨41, rfl⟩, .inl rfl, fun b p s hs hS h => ?_⟩
  have e0 : b.eval (.tmp 6) = .slice (some ⟨g, 0, none⟩) 32 32 := (h.old 6 Y86).trans h6
  exact Y0
 ·refine ⟨⟨42, rfl⟩, .inl rfl, fun b p s hs hS h => ?_⟩
  have e0 : b.eval (.tmp 10) = .int .i64 (k : Int) := (h.old 10 Y86).trans h10
  exact Y0
 ·refine ⟨⟨43, rfl⟩, .inl rfl, fun b p s hs hS h => ?_⟩
  exact Y15
 ·refine ⟨⟨44, rfl⟩, .inr ⟨14, rfl, by kernel_rfl⟩, fun b p s hs hS h => ?_⟩
  have e0 := h.er 2 43 Y55 rfl rfl
  have c0 := (show p.cell? ⟨g, k, none⟩ = some (.int .u8 ((out.getD k 0).toNat : Int)) from by have hA := hS.2.1; rw [if_pos hs] at hA; exact JO hA Y54)
  exact Y13
 ·refine ⟨⟨45, rfl⟩, .inl rfl, fun b p s hs hS h => ?_⟩
  have e0 : b.eval (.tmp 4) = .pointer (some ⟨tb, 0, none⟩) := (h.old 4 Y86).trans h4
  exact Y0
 ·refine ⟨⟨46, rfl⟩, .inl rfl, fun b p s hs hS h => ?_⟩
  have e0 : b.eval (.tmp 9) = .int .u8 (y.toNat : Int) := (h.old 9 Y86).trans h9
  exact Y0
 ·refine ⟨⟨47, rfl⟩, .inl rfl, fun b p s hs hS h => ?_⟩
  have e0 : b.eval (.tmp 5) = .slice (some ⟨gb, go, none⟩) 33 gc := (h.old 5 Y86).trans h5
  exact Y0
 ·refine ⟨⟨48, rfl⟩, .inl rfl, fun b p s hs hS h => ?_⟩
  have e0 : b.eval (.tmp 10) = .int .i64 (k : Int) := (h.old 10 Y86).trans h10
  exact Y0
 ·refine ⟨⟨49, rfl⟩, .inl rfl, fun b p s hs hS h => ?_⟩
  have e0 := h.er 7 48 Y55 rfl rfl
  have ec : ∀ v, b.eval (.const v) = v := fun _ => rfl
  obtain ⟨ρ, hρ⟩ := exq (b.eval)
  rw [hρ] at e0 ec ⊢
  exact ⟨_, by rfl, rfl, by unfold execOp; simp [go_sem, e0, ec, show IntKind.i64.wrap ((31 : Int) - k) = ((31 - k : Nat) : Int) by rw [IntKind.wrap_i64]; omega]⟩
 ·refine ⟨⟨50, rfl⟩, .inl rfl, fun b p s hs hS h => ?_⟩
  have e0 := h.er 6 47 Y55 rfl rfl
  have e1 := h.er 8 49 Y55 rfl rfl
  have ec : ∀ v, b.eval (.const v) = v := fun _ => rfl
  obtain ⟨ρ, hρ⟩ := exq (b.eval)
  rw [hρ] at e0 e1 ec ⊢
  exact ⟨_, by rfl, rfl, by unfold execOp; simp [go_sem, e0, e1, ec, show ¬ (33 : Int) <= ((31 - k : Nat) : Int) by omega]⟩
 ·refine ⟨⟨51, rfl⟩, .inr ⟨11, rfl, by kernel_rfl⟩, fun b p s hs hS h => ?_⟩
  have e0 := h.er 9 50 Y55 rfl rfl
  have c0 := qf6 hS.1 hgb hz
  exact Y13
 ·refine ⟨rfl, .inl rfl, fun b p hS h => ?_⟩
  have e0 := h.er 4 45 Y55 rfl rfl
  have e1 := h.er 5 46 Y55 rfl rfl
  have e2 := h.er 10 51 Y55 rfl rfl
  obtain ⟨hf, hA, hT⟩ := hS
  refine jZ (K := fun v p' => v = .int .u8 ((zt y z).toNat : Int) /\ Fr [] p p') (fun v p' hv => ⟨⟨hf.trans hv.2.weak, by rw [if_pos Y86] at hA ⊢; exact hA.keep0 hv.2, hT.keep0 hv.2⟩, .inr hv.1⟩) ?_
  exact Kl _ Y72 rfl 45 46 51 rfl tb y z e0 e1 e2 hT
 ·refine ⟨⟨53, rfl⟩, .inl rfl, fun b p s hs hS h => ?_⟩
  have e0 := h.er 3 44 Y55 rfl rfl
  have e1 := (show b.eval (.tmp 52) = .int .u8 ((zt y z).toNat : Int) from h.st 11 _ 52 Y55 rfl rfl)
  exact Y29
 ·refine ⟨⟨54, rfl⟩, .inl rfl, fun b p s hs hS h => ?_⟩
  exact Y15
 ·refine ⟨rfl, .inr ⟨11, rfl, by kernel_rfl⟩, fun b p hS h => ?_⟩
  have e0 := h.er 13 54 Y55 rfl rfl
  have e1 := h.er 12 53 Y55 rfl rfl
  obtain ⟨hf, hA, hT⟩ := hS
  rw [if_pos Y86] at hA
  refine jZ (K := fun _ p' => Fr [g] w p' /\ At p' g (.cells ((xA out k (zt y z)).map u8v).toArray 5) /\ At p' tb (.cells uZ 370)) (fun v p' hv => ⟨by show Fr [g] w p' /\ At p' g (.cells (if 1 + 1 <= 1 then (out.map u8v).toArray else ((xA out k (zt y z)).map u8v).toArray) 5) /\ At p' tb (.cells uZ 370); rw [if_neg Y86]; exact hv, .inl rfl⟩) ?_
  refine jm (K := fun _ p' => Fr [g] w p' /\ At p' g (.cells ((xA out k (zt y z)).map u8v).toArray 5) /\ At p' tb (.cells uZ 370)) _ Y72 ?_
  refine qw (.tmp 54) (.tmp 53) rfl rfl (.int .u8 ((out.getD k 0 ^^^ zt y z).toNat : Int)) e0 e1 hA Y57 Y55 rfl ?_
  intro p1 f1 a1 _
  exact ⟨rfl, rfl, hf.trans f1, by rw [Uq]; exact a1, hT.keep f1 Y78⟩
 ·intro b p h1 h2 h3 hS4 h5
  exact hQ b p h1 h2 (fun s hs => h3 s (fun hm => hs (by simpa using hm))) hS4.1 (by have := hS4.2.1; rwa [if_neg Y86] at this)
theorem Yo {w : World} {b i : Nat} {v : Value} (h : w.cell? ⟨b, i, none⟩ = some v) : b < w.heap.size := by
 unfold World.cell? at h
 rcases Nat.lt_or_ge b w.heap.size with hb | hb
 ·exact hb
 ·rw [Array.getElem?_eq_none hb] at h; simp at h
theorem qeK (w : World) (n : Nat) (h1 : 1 <= n) (h2 : n <= 223) : Calls Tryz.prog 235 #[.int .i64 n] w fun e w' => e = .returned (.bool true) /\ Fr [] w w' := by
 go_enter Tryz.func235, Tryz.ntmps235
 go_wp2
 go_ret
 refine ⟨?_, Fr.refl _ _⟩
 show Ending.returned (.bool (decide ((n : Int) <= 223))) = _
 rw [decide_eq_true Y54]
theorem QX (n : Nat) : madeCells #[.int .u8 0] n = ((List.replicate n (0 : UInt8)).map u8v).toArray := by
 apply Array.ext
 ·simp [madeCells]
 ·intro i h1 h2
  simp [madeCells, u8v, Nat.mod_one]
theorem qd1 {A : Nat -> Prop} {w : World} {b0 o n c : Nat} {xs : List UInt8} (S : List Nat) (h : Bs A w (.slice (some ⟨b0, o, none⟩) n c) xs) (hn : b0 ∉ S) : Bs (fun b => b ∈ S) w (.slice (some ⟨b0, o, none⟩) n c) xs := by
 obtain ⟨a, cap, e, h1, h2, h3⟩ := h
 cases e
 refine ⟨_, _, rfl, h1, h2, ?_⟩
 rcases h3 with h | ⟨b, off, cc, e, fz, he, hA, hb, hc⟩
 ·exact .inl h
 ·cases he
  exact .inr ⟨b0, o, cc, e, fz, rfl, hn, hb, hc⟩
theorem qcm (R : List UInt8) (h : R.length = 32) : ((R.tail ++ R.drop 31).set 31 0) = R.tail ++ [0] := by
 have h1 : R.tail.length = 31 := by simp [h]
 rw [List.set_append_right _ _ Y54, h1]
 congr 1
 obtain ⟨x, hx⟩ : ∃ x, R.drop 31 = [x] := by
  have : (R.drop 31).length = 1 := by simp [h]
  match hR : R.drop 31, this with
  | [x], _ => exact ⟨x, rfl⟩
 rw [hx]; rfl
theorem Li (wr : World) (g : Nat) (R : List UInt8) (hR : R.length = 32) (hA : At wr g (.cells (R.map u8v).toArray 5)) :
  ∃ w5, (Builtin.copy_ #[22, 22] 3 #[.slice (some ⟨g, 0, none⟩) 32 32, .slice (some ⟨g, 1, none⟩) 31 31]).run Tryz.prog wr = .ok (.int .i64 31) w5 /\ At w5 g (.cells ((R.tail ++ R.drop 31).map u8v).toArray 5) /\ Fr [g] wr w5 := by
 have hcl : (R.tail.map u8v).length = 31 := by simp [hR]
 have hrun := run_copy_row (P := Tryz.prog) wr 22 22 3 5 g 0 32 32 ⟨g, 1, none⟩ 31 31 (R.map u8v).toArray 5 (R.tail.map u8v) Tryz.underlying22 Y55 hA (by rw [hcl]; rfl) (fun i v hv => by
  have ha : (⟨g, 1, none⟩ : Addr).add i = ⟨g, 1 + i, none⟩ := by unfold Addr.add; split <;> simp_all
  rw [ha, qM hA, <- hv]
  simp [List.getElem?_tail, Nat.add_comm]) (by simp [hR]) (fun v hv => Jl R.tail v hv)
 refine ⟨wr.setRow g ((R.map u8v).toArray.toList.take 0 ++ R.tail.map u8v ++ (R.map u8v).toArray.toList.drop (0 + (R.tail.map u8v).length)).toArray, hrun.trans (by rw [hcl]; rfl), ?_, ⟨rfl, rfl, rfl, by simp [World.setRow], fun k hk hn => setRow_other wr g k _ (by simpa using hn)⟩⟩
 have h := setRow_heap wr g (R.map u8v).toArray ((R.map u8v).toArray.toList.take 0 ++ R.tail.map u8v ++ (R.map u8v).toArray.toList.drop (0 + (R.tail.map u8v).length)).toArray 5 (0, 0) hA
 have e : ((R.map u8v).toArray.toList.take 0 ++ R.tail.map u8v ++ (R.map u8v).toArray.toList.drop (0 + (R.tail.map u8v).length)) = (R.tail ++ R.drop 31).map u8v := by
  rw [hcl]; simp [List.map_drop]
 rw [e] at h ⊢
 exact h
theorem qf4 (A : Nat -> Prop) (w : World) (v : Value) (ds : List UInt8) (hb : Bs A w v ds) (h1 : 1 <= ds.length) (h2 : ds.length <= 223) :
  Calls Tryz.prog 203 #[v] w fun e w' => ∃ u, e = .returned (.tuple #[u, .nilIface]) /\ qt 5 w.heap.size w' u (QP ds) /\ Fr [] w w' := by
 have HB := Hdq hb
 obtain ⟨da, dc, rfl, d2, d3, -⟩ := hb
 unfold maxLen at d3
 obtain ⟨i0, hi, hz, hsz, hby⟩ := jw Tryz.infoByte
 obtain ⟨N, hN⟩ := exq (ds.length)
 rw [hN] at HB d2 h1 h2 ⊢
 have HN := Hdq hN
 clear hN
 go_enter Tryz.func203, Tryz.ntmps203
 go_wp2_with fail
 refine (qeK _ N h1 h2).mono ?_
 rintro e w1 ⟨rfl, f1⟩
 have F1 := Hdq f1
 have hs1 := f1.size
 clear f1
 go_wp2_with fail
 refine (Wx _).mono ?_
 rintro e w2 ⟨rfl, hT, f2⟩
 have HT := Hdq hT
 have F2 := Hdq (F1.out.trans f2)
 have ht2 := hT.lt
 clear hT f2
 go_wp2_with fail
 refine (qfO _).mono ?_
 rintro e w3 ⟨u, rfl, hg, f3⟩
 have hgb := hg.bs (A := fun _ => False) Y85
 obtain ⟨ga, gc, rfl, g2, g3, -⟩ := id hgb
 rw [VF] at hgb g2 ⊢
 obtain ⟨z0, hz0⟩ : ∃ z, Yv[0]? = some z := ⟨_, List.getElem?_eq_getElem (by rw [VF]; omega)⟩
 obtain ⟨gb, go, rfl, hgc⟩ := vS hgb 0 z0 hz0
 have hgl := Yo hgc
 replace HT := Hdq (HT.out.keep0 f3)
 have F3 := Hdq (F2.out.trans f3)
 have HG := Hdq hgb
 have hs3 := f3.size
 clear hg f3 hz0 hgc g2 g3 hgb
 go_wp2_with (refine wpList_make_row _ rfl (.const (.int .i64 32)) (.const (.int .i64 32)) 22 rfl 5 i0 (.int .u8 0) Tryz.underlying22 hi hz hsz rfl .i64 .i64 32 rfl rfl (by rw [hby]; omega) Y54 ?_)
 have hcs := QX 32
 have HA := Hdq (show At (w3.alloc (.cells (madeCells #[.int .u8 0] 32) 5)) w3.heap.size (.cells ((QP (ds.take 0)).map u8v).toArray 5) by rw [hcs]; exact At.new rfl)
 clear hcs
 replace HT := Hdq (show At (w3.alloc (.cells (madeCells #[.int .u8 0] 32) 5)) w1.heap.size (.cells uZ 370) from HT.out.al)
 have HF := Hdq (show Fr [] w (w3.alloc (.cells (madeCells #[.int .u8 0] 32) 5)) from Fr.al F3.out)
 replace HG := Hdq (HG.out.keep (Fr.alloc (S := []) w3 (.cells (madeCells #[.int .u8 0] 32) 5)) Y85)
 obtain ⟨w4, hw4⟩ := exq (w3.alloc (.cells (madeCells #[.int .u8 0] 32) 5))
 rw [hw4] at HA HT HF HG ⊢
 obtain ⟨tb, htb⟩ := exq (w1.heap.size)
 have hs2 := F2.out.size
 rw [htb] at HT ht2 hs1 ⊢
 obtain ⟨g, hg⟩ := exq (w3.heap.size)
 rw [hg] at HA hgl hs3 ⊢
 have hgw : w.heap.size <= g := by omega
 have hgt : g ≠ tb := by omega
 have hgg := Hdq (show gb ∉ [g] by simp; omega)
 clear hw4 hg htb hi hz hsz hby F1 F2 F3 hs1 hs2 hs3 ht2 hgl
 go_wp2
 go_loopw [21] (fun i wr => ∃ j : Nat, j <= N /\ i = .int .i64 j /\ Hid (At wr g (.cells ((QP (ds.take j)).map u8v).toArray 5)) /\ Hid (At wr tb (.cells uZ 370)) /\ Hid (Fr [] w wr) /\ Hid (Bs (fun b => b ∈ [g]) wr (.slice (some ⟨gb, go, none⟩) 33 gc) Yv)) (fun i _ => N - (intOf i).toNat)
 case atStart =>
  exact ⟨0, by omega, rfl, HA.out, HT.out, HF.out, qd1 [g] HG.out hgg.out⟩
 case round =>
  clear HA HT HF HG
  obtain ⟨j, hj, rfl, HA, HT, HF, HG⟩ := hrel
  by_cases hjn : j < N
  ·obtain ⟨x, hx⟩ : ∃ x, ds[j]? = some x := ⟨_, List.getElem?_eq_getElem Y59⟩
   obtain ⟨db, dof, rfl, hcd⟩ := vS HB.out j x hx
   have hcx := zy HF.out hcd
   have HM := Hdq (qbA ds j x hx)
   have HL := Hdq (Vo (ds.take j))
   obtain ⟨R, hR⟩ := exq (QP (ds.take j))
   rw [hR] at HA HM HL
   have hc0 := JO HA.out (show 0 < R.length by rw [HL.out]; omega)
   obtain ⟨r0, hr0⟩ := exq (R.getD 0 0)
   rw [hr0] at hc0
   have hxx := u8_xor_u x r0
   have HST := Hdq (show ∀ n, n = 32 -> zQ (x ^^^ r0) n (R.tail ++ [0]) = vG R x by rintro n rfl; rw [<- hr0]; exact Kt R x HL.out)
   obtain ⟨y, hy⟩ := exq (x ^^^ r0)
   rw [hy] at hxx HST
   clear hx hcd hR hr0 hy
   obtain ⟨w5, hrun, a5, f5⟩ := Li wr g R HL.out HA.out
   have HS := Hdq (qcm R HL.out)
   have hl5 : (((R.tail ++ R.drop 31).map u8v).toArray).size = 32 := by simp [HL.out]
   go_wp2_with (first | (refine qw (.tmp 35) (.const (.int .u8 0)) rfl rfl (.int .u8 0) rfl rfl a5 (by rw [hl5]; omega) Y55 rfl ?_))
   intro w6 f6 a6 hsz6
   clear hsz6
   have HA6 := Hdq (show At w6 g (.cells ((zQ y 0 (R.tail ++ [0])).map u8v).toArray 5) by
    show At w6 g (.cells ((R.tail ++ [0]).map u8v).toArray 5)
    rw [<- HS.out, List.map_set]
    simpa [u8v] using a6)
   have HT6 := Hdq ((HT.out.keep f5 Y78).keep f6 Y78)
   have HF6 := Hdq ((HF.out.then f5 Y61).then f6 Y61)
   have HG6 := Hdq ((HG.out.keep f5 (fun b h => h)).keep f6 (fun b h => h))
   have HL6 := Hdq (show (R.tail ++ [(0 : UInt8)]).length = 32 by simp [HL.out])
   clear hrun a5 f5 a6 f6 HA HT HF HG hc0 hcx hxx hl5 HS
   obtain ⟨R2, hR2⟩ := exq (R.tail ++ [(0 : UInt8)])
   rw [hR2] at HA6 HL6 HST
   clear hR2
   go_wp2
   go_loopw [38] (fun i wr => ∃ k : Nat, k <= 32 /\ i = .int .i64 k /\ Hid (At wr g (.cells ((zQ y k R2).map u8v).toArray 5)) /\ Hid (At wr tb (.cells uZ 370)) /\ Hid (Fr [] w wr) /\ Hid (Bs (fun b => b ∈ [g]) wr (.slice (some ⟨gb, go, none⟩) 33 gc) Yv)) (fun i _ => 32 - (intOf i).toNat)
   case atStart => exact ⟨0, by omega, rfl, HA6.out, HT6.out, HF6.out, HG6.out⟩
   case round =>
    clear HA6 HT6 HF6 HG6
    obtain ⟨k, hk, rfl, HA, HT, HF, HG⟩ := hrel
    by_cases hkn : k < 32
    ·obtain ⟨z, hz⟩ : ∃ z, Yv[31 - k]? = some z := ⟨_, List.getElem?_eq_getElem (by rw [VF]; omega)⟩
     obtain ⟨gb', go', he, hgc⟩ := vS HG.out (31 - k) z hz
     cases he
     have HR := Hdq (show zQ y (k + 1) R2 = xA (zQ y k R2) k (zt y z) by simp only [zQ]; rw [List.getD_eq_getElem?_getD, hz]; rfl)
     have HLc := Hdq (show (zQ y k R2).length = 32 by rw [ul, HL6.out])
     obtain ⟨cur, hcur⟩ := exq (zQ y k R2)
     rw [hcur] at HA HR HLc
     clear hz hcur
     have HGC := Hdq hgc
     clear hgc
     go_wp2_with fail
     refine qgs _ _ rfl g tb gb go gc k cur y z hkn HLc.out hgt hgg.out rfl rfl rfl rfl rfl HGC.out HA.out HT.out _ ?_
     intro b p h1 h2 h3 hf ha
     obtain ⟨f, hb⟩ := qdr b _ _ h1 h2 h3
     have HA2 := Hdq (show At p g (.cells ((zQ y (k + 1) R2).map u8v).toArray 5) by rw [HR.out]; exact ha)
     have HT2 := Hdq (HT.out.keep hf Y78)
     have HF2 := Hdq (HF.out.then hf Y61)
     have HG2 := Hdq (HG.out.keep hf (fun b h => h))
     clear h1 h2 h3 hf ha HA HT HF HG HGC HR
     subst hb
     simp only [List.foldl_cons, List.foldl_nil, Go.Act.put, List.setIfInBounds_toArray, List.set_cons_succ, List.set_cons_zero]
     go_wp2
     go_roundw
     case rel => exact ⟨k + 1, by omega, by go_num, HA2.out, HT2.out, HF2.out, HG2.out⟩
     case measure => simp [intOf]; omega
    ·have hk32 : k = 32 := by omega
     have e := HM.out.trans (HST.out k hk32).symm
     have HA2 := Hdq (show At wr g (.cells ((QP (ds.take (j + 1))).map u8v).toArray 5) by rw [e]; exact HA.out)
     clear HA e HM HST
     subst hk32
     go_wp2
     go_roundw
     case rel => exact ⟨j + 1, by omega, by go_num, HA2.out, HT.out, HF.out, HG.out⟩
     case measure => simp [intOf]; omega
  ·obtain rfl : j = N := by omega
   have HO := Hdq (show qt 5 w.heap.size wr (.slice (some ⟨g, 0, none⟩) 32 32) (QP (ds.take j)) from by
    have hl := Vo (ds.take j)
    refine ⟨by simp, .inr ⟨g, 32, _, by rw [hl], hgw, HA.out, by rw [hl]; omega, by simp [maxLen], by simp [hl], ?_⟩⟩
    rw [List.take_of_length_le Y85])
   have HE := Hdq (show ds.take j = ds from List.take_of_length_le Y59)
   go_wp2
   go_ret2
   exact ⟨_, rfl, by have := HO.out; rwa [HE.out] at this, HF.out⟩
end Go.Proofs.YtdloaifdpajcjaaGreatDoor
namespace Go.Bl
open Go.RowKit
abbrev Dg := List UInt8
def qy (b : List UInt8) : Dg := qz (0 :: b)
def Ud (a b : Dg) : Dg := qz (1 :: (a ++ b))
theorem zx (b : List UInt8) : (qy b).length = 32 := rfl
def qH : List Dg -> List Dg
 | a :: b :: r => Ud a b :: qH r
 | r => r
theorem ze : ∀ l : List Dg, (qH l).length = (l.length + 1) / 2
 | [] => rfl
 | [a] => by simp [qH]
 | a :: b :: r => by
  simp only [qH, List.length_cons, ze r]
  omega
theorem Qz : ∀ (a b : List Dg), a.length % 2 = 0 -> qH (a ++ b) = qH a ++ qH b
 | [], b, _ => rfl
 | [x], b, h => by simp at h
 | x :: y :: r, b, h => by
  simp only [List.length_cons] at h
  simp only [List.cons_append, qH, Qz r b Y54]
def x8 : Nat -> List Dg -> Dg
 | 0, l => l.headD (qz [])
 | n + 1, l => if l.length <= 1 then l.headD (qz []) else x8 n (qH l)
theorem Vl : ∀ (n : Nat) (l : List Dg), l.length <= n + 1 -> x8 (n + 1) l = x8 n l
 | 0, l, h => by simp only [x8]; rw [if_pos Y54]
 | n + 1, l, h => by
  rw [x8]
  conv => rhs; rw [x8]
  split
  ·rfl
  ·rw [Vl n _ (by rw [ze]; omega)]
theorem Jt (l : List Dg) : ∀ (k : Nat), x8 (l.length + k) l = x8 l.length l
 | 0 => rfl
 | k + 1 => by rw [show l.length + (k + 1) = (l.length + k) + 1 by omega, Vl _ _ Y54, Jt l k]
def jA (l : List Dg) : Dg := x8 l.length l
theorem qb4 (d : Dg) : jA [d] = d := rfl
theorem vP {l : List Dg} (h : 2 <= l.length) : jA l = jA (qH l) := by
 obtain ⟨n, hn⟩ : ∃ n, l.length = n + 1 := ⟨l.length - 1, by omega⟩
 unfold jA
 rw [hn, x8, if_neg Y54]
 have := Jt (qH l) (n - (qH l).length)
 rw [<- this, show (qH l).length + (n - (qH l).length) = n by rw [ze]; omega]
def qf (n : Nat) : Nat := if h : n <= 2 then 1 else 2 * qf ((n + 1) / 2)
termination_by n
decreasing_by omega
theorem QR {n : Nat} (h : n <= 2) : qf n = 1 := by rw [qf, dif_pos h]
theorem JI {n : Nat} (h : 2 < n) : qf n = 2 * qf ((n + 1) / 2) := by rw [qf, dif_neg Y54]
theorem qO : ∀ (n : Nat), 2 <= n -> qf n < n /\ n <= 2 * qf n /\ 1 <= qf n
 | n, h => by
  by_cases h2 : n <= 2
  ·obtain rfl : n = 2 := by omega
   rw [QR Y54]
   omega
  ·have := qO ((n + 1) / 2) Y54
   rw [JI Y54]
   omega
termination_by n => n
decreasing_by omega
theorem Uk : ∀ (n : Nat), 2 <= n -> ∃ k, qf n = 2 ^ k
 | n, h => by
  by_cases h2 : n <= 2
  ·exact ⟨0, by rw [QR h2, Nat.pow_zero]⟩
  ·obtain ⟨k, hk⟩ := Uk ((n + 1) / 2) Y54
   exact ⟨k + 1, by rw [JI Y54, hk, Nat.pow_succ]; omega⟩
termination_by n => n
decreasing_by omega
theorem yn : ∀ (n : Nat) (l : List Dg), l.length = n -> 2 <= n -> jA l = Ud (jA (l.take (qf n))) (jA (l.drop (qf n)))
 | n, l, hl, h => by
  by_cases h2 : n <= 2
  ·obtain rfl : n = 2 := by omega
   rw [QR Y54]
   match l, hl with
   | [a, b], _ => rfl
  ·obtain ⟨k, hk⟩ := exq (qf ((n + 1) / 2))
   have hb := qO ((n + 1) / 2) Y54
   rw [hk] at hb
   have hk2 : qf n = 2 * k := by rw [JI Y54, hk]
   have hll : (qH l).length = (n + 1) / 2 := by rw [ze, hl]
   have ih := yn ((n + 1) / 2) (qH l) hll Y54
   rw [vP Y54, ih, hk, hk2]
   have hlen : (l.take (2 * k)).length = 2 * k := by rw [List.length_take]; omega
   have e1 : qH l = qH (l.take (2 * k)) ++ qH (l.drop (2 * k)) := by
    rw [<- Qz _ _ (by rw [hlen]; omega), List.take_append_drop]
   have e2 : (qH (l.take (2 * k))).length = k := by rw [ze, hlen]; omega
   have e3 : (qH l).take k = qH (l.take (2 * k)) := by rw [e1, List.take_append_of_le_length Y54, List.take_of_length_le Y54]
   have e4 : (qH l).drop k = qH (l.drop (2 * k)) := by rw [e1, List.drop_append_of_le_length Y54, List.drop_of_length_le Y54, List.nil_append]
   rw [e3, e4]
   congr 1
   ·rw [<- vP Y54]
   ·by_cases h1 : 2 <= (l.drop (2 * k)).length
    ·rw [<- vP h1]
    ·rw [List.length_drop] at h1
     have : (l.drop (2 * k)).length = 1 := by rw [List.length_drop]; omega
     match l.drop (2 * k), this with
     | [a], _ => rfl
termination_by n => n
decreasing_by omega
def jo (n i : Nat) : List (Bool × Nat × Nat) :=
 if h : n <= 1 then [] else
  if i < qf n then (true, qf n, i) :: jo (qf n) i else (false, n - qf n, i - qf n) :: jo (n - qf n) (i - qf n)
termination_by n
decreasing_by
 ·have := qO n Y54; omega
 ·have := qO n Y54; omega
theorem um {n i : Nat} (h : n <= 1) : jo n i = [] := by rw [jo, dif_pos h]
theorem zZ {n i : Nat} (h : 2 <= n) (hi : i < qf n) : jo n i = (true, qf n, i) :: jo (qf n) i := by rw [jo, dif_neg Y54, if_pos hi]
theorem zv {n i : Nat} (h : 2 <= n) (hi : ¬ i < qf n) : jo n i = (false, n - qf n, i - qf n) :: jo (n - qf n) (i - qf n) := by rw [jo, dif_neg Y54, if_neg hi]
def zH (n i : Nat) : Nat := (jo n i).length
def jF (l : List Dg) (i : Nat) : List Dg :=
 if h : l.length <= 1 then [] else
  if i < qf l.length then jF (l.take (qf l.length)) i ++ [jA (l.drop (qf l.length))]
  else jF (l.drop (qf l.length)) (i - qf l.length) ++ [jA (l.take (qf l.length))]
termination_by l.length
decreasing_by
 ·have := qO l.length Y54; rw [List.length_take]; omega
 ·have := qO l.length Y54; rw [List.length_drop]; omega
theorem y6 {l : List Dg} {i : Nat} (h : l.length <= 1) : jF l i = [] := by rw [jF, dif_pos h]
theorem xJ {l : List Dg} {i : Nat} (h : 2 <= l.length) (hi : i < qf l.length) : jF l i = jF (l.take (qf l.length)) i ++ [jA (l.drop (qf l.length))] := by rw [jF, dif_neg Y54, if_pos hi]
theorem vH {l : List Dg} {i : Nat} (h : 2 <= l.length) (hi : ¬ i < qf l.length) : jF l i = jF (l.drop (qf l.length)) (i - qf l.length) ++ [jA (l.take (qf l.length))] := by rw [jF, dif_neg Y54, if_neg hi]
def zO : List (Bool × Nat × Nat) -> Dg -> List Dg -> Dg
 | [], d, _ => d
 | _ :: _, d, [] => d
 | t :: r, d, p :: q => zO r (if t.1 then Ud d p else Ud p d) q
theorem vE : ∀ (ts : List (Bool × Nat × Nat)) (t : Bool × Nat × Nat) (d p : Dg) (q : List Dg), ts.length = q.length -> zO (ts ++ [t]) d (q ++ [p]) = if t.1 then Ud (zO ts d q) p else Ud p (zO ts d q)
 | [], t, d, p, [], _ => rfl
 | x :: r, t, d, p, y :: q, h => by
  simp only [List.cons_append, zO]
  exact vE r t _ p q Y62
 | [], _, _, _, _ :: _, h => by simp at h
 | _ :: _, _, _, _, [], h => by simp at h
def vl (n i : Nat) (d : Dg) (p : List Dg) : Dg := zO (jo n i).reverse d p
theorem uz : ∀ (n : Nat) (l : List Dg) (i : Nat), l.length = n -> (jF l i).length = zH n i
 | n, l, i, hl => by
  by_cases h : n <= 1
  ·rw [y6 Y54, zH, um h]; rfl
  ·have hb := qO n Y54
   by_cases hi : i < qf n
   ·rw [xJ Y54 Y82, zH, zZ Y54 hi, List.length_append, List.length_cons, hl, uz (qf n) _ i Y84]
    rfl
   ·rw [vH Y54 Y82, zH, zv Y54 hi, List.length_append, List.length_cons, hl, uz (n - qf n) _ _ Y73]
    rfl
termination_by n => n
decreasing_by
 ·omega
 ·omega
theorem QG : ∀ (n : Nat) (l : List Dg) (i : Nat) (d : Dg), l.length = n -> l[i]? = some d -> vl n i d (jF l i) = jA l
 | n, l, i, d, hl, hd => by
  have hin : i < n := by rw [<- hl]; exact (List.getElem?_eq_some_iff.1 hd).1
  by_cases h : n <= 1
  ·rw [y6 Y54, vl, um h]
   match l, hl with
   | [a], h1 =>
    obtain rfl : i = 0 := by simp only [List.length_cons, List.length_nil] at h1; omega
    simp at hd
    rw [hd]
    rfl
   | [], hl => simp at hd
   | a :: b :: r, hl => simp at hl; omega
  ·have hb := qO n Y54
   by_cases hi : i < qf n
   ·have hlt : (l.take (qf n)).length = qf n := by rw [List.length_take]; omega
    rw [xJ Y54 Y82, vl, zZ Y54 hi, List.reverse_cons, hl, vE _ _ _ _ _ (by rw [List.length_reverse, uz _ _ _ hlt]; rfl), yn n l hl Y54]
    simp only [if_true]
    congr 1
    exact QG (qf n) (l.take (qf n)) i d hlt (by rw [List.getElem?_take, if_pos hi]; exact hd)
   ·have hlt : (l.drop (qf n)).length = n - qf n := by rw [List.length_drop]; omega
    rw [vH Y54 Y82, vl, zv Y54 hi, List.reverse_cons, hl, vE _ _ _ _ _ (by rw [List.length_reverse, uz _ _ _ hlt]; rfl), yn n l hl Y54]
    simp only [Bool.false_eq_true, if_false]
    congr 1
    exact QG (n - qf n) (l.drop (qf n)) (i - qf n) d hlt (by rw [List.getElem?_drop, show qf n + (i - qf n) = i by omega]; exact hd)
termination_by n => n
decreasing_by
 ·omega
 ·omega
end Go.Bl
namespace Go.Proofs.YtdloaifdpajcjaaGreatDoor
open Go.RowKit Go.Bl
def b8 (n : Int) : UInt8 := UInt8.ofNat (n % 256).toNat
theorem ZZ (n : Int) : (IntKind.u8.wrap n) = ((b8 n).toNat : Int) := by
 have h : (b8 n).toNat = (n % 256).toNat := by
  unfold b8
  rw [UInt8.toNat_ofNat']
  omega
 rw [h]
 have : IntKind.u8.wrap n = n % 256 := by
  simp [IntKind.wrap, IntKind.signed, IntKind.bits]
 rw [this]
 omega
theorem qdM (n : Int) : ((b8 n).toNat : Int) = n % 256 := by
 rw [<- ZZ]
 simp [IntKind.wrap, IntKind.signed, IntKind.bits]
def beK (k : Nat) (n : Int) : List UInt8 := (List.range k).map fun m => b8 (n / (256 ^ (k - 1 - m) : Nat))
theorem beK_len (k : Nat) (n : Int) : (beK k n).length = k := by simp [beK]
theorem qf2 (n : Int) (e : Nat) (he : e <= 7) : (n % 18446744073709551616 / (256 ^ e : Nat)) % 256 = (n / (256 ^ e : Nat)) % 256 := by
 have : e = 0 ∨ e = 1 ∨ e = 2 ∨ e = 3 ∨ e = 4 ∨ e = 5 ∨ e = 6 ∨ e = 7 := by omega
 rcases this with rfl | rfl | rfl | rfl | rfl | rfl | rfl | rfl <;> omega
theorem qdS (X : Int) (e : Nat) : X / (256 ^ e : Nat) / 256 = X / (256 ^ (e + 1) : Nat) := by
 rw [Int.ediv_ediv_of_nonneg (by exact Int.natCast_nonneg _), Nat.pow_succ]
 congr 1
end Go.Proofs.YtdloaifdpajcjaaGreatDoor
namespace Go.Bl
open Go.RowKit
def uO (fn : Nat -> Nat -> Nat) : Nat -> Nat × Nat -> Nat × Nat
 | 0, p => p
 | k + 1, p => ((uO fn k p).2, (uO fn k p).1 ^^^ fn k (uO fn k p).2)
def J5 (fn : Nat -> Nat -> Nat) : Nat -> Nat × Nat -> Nat × Nat
 | 0, p => p
 | k + 1, p => J5 fn k (p.2 ^^^ fn k p.1, p.1)
theorem Zi (a b : Nat) : a ^^^ b ^^^ b = a := by rw [Nat.xor_assoc, Nat.xor_self, Nat.xor_zero]
theorem qeF (fn : Nat -> Nat -> Nat) : ∀ (k : Nat) (p : Nat × Nat), J5 fn k (uO fn k p) = p
 | 0, p => rfl
 | k + 1, p => by
  simp only [uO, J5, Zi]
  exact qeF fn k p
theorem qeL (fn : Nat -> Nat -> Nat) : ∀ (k : Nat) (p : Nat × Nat), uO fn k (J5 fn k p) = p
 | 0, p => rfl
 | k + 1, p => by
  simp only [uO, J5]
  rw [qeL fn k]
  simp only [Zi]
theorem Z7 {fn : Nat -> Nat -> Nat} {w : Nat} (hf : ∀ k r, fn k r < 2 ^ w) : ∀ (k : Nat) (p : Nat × Nat), p.1 < 2 ^ w -> p.2 < 2 ^ w -> (uO fn k p).1 < 2 ^ w /\ (uO fn k p).2 < 2 ^ w
 | 0, p, h1, h2 => ⟨h1, h2⟩
 | k + 1, p, h1, h2 => by
  obtain ⟨a, b⟩ := Z7 hf k p h1 h2
  exact ⟨b, Nat.xor_lt_two_pow a (hf _ _)⟩
theorem Yy {fn : Nat -> Nat -> Nat} {w : Nat} (hf : ∀ k r, fn k r < 2 ^ w) : ∀ (k : Nat) (p : Nat × Nat), p.1 < 2 ^ w -> p.2 < 2 ^ w -> (J5 fn k p).1 < 2 ^ w /\ (J5 fn k p).2 < 2 ^ w
 | 0, p, h1, h2 => ⟨h1, h2⟩
 | k + 1, p, h1, h2 => Yy hf k _ (Nat.xor_lt_two_pow h2 (hf _ _)) h1
def z6 (w : Nat) (fn : Nat -> Nat -> Nat) (x : Nat) : Nat := (uO fn 4 (x / 2 ^ w, x % 2 ^ w)).1 * 2 ^ w + (uO fn 4 (x / 2 ^ w, x % 2 ^ w)).2
def xm (w : Nat) (fn : Nat -> Nat -> Nat) (x : Nat) : Nat := (J5 fn 4 (x / 2 ^ w, x % 2 ^ w)).1 * 2 ^ w + (J5 fn 4 (x / 2 ^ w, x % 2 ^ w)).2
theorem xy {w x : Nat} (h : x < 4 ^ w) : x / 2 ^ w < 2 ^ w /\ x % 2 ^ w < 2 ^ w := by
 have e : (4 : Nat) ^ w = 2 ^ w * 2 ^ w := by rw [show (4 : Nat) = 2 * 2 from rfl, Nat.mul_pow]
 refine ⟨Nat.div_lt_of_lt_mul (by rwa [<- e]), Nat.mod_lt _ (Nat.two_pow_pos w)⟩
theorem qav {w a b : Nat} (ha : a < 2 ^ w) (hb : b < 2 ^ w) : a * 2 ^ w + b < 4 ^ w := by
 have e : (4 : Nat) ^ w = 2 ^ w * 2 ^ w := by rw [show (4 : Nat) = 2 * 2 from rfl, Nat.mul_pow]
 rw [e]
 calc a * 2 ^ w + b < a * 2 ^ w + 2 ^ w := by omega
  _ = (a + 1) * 2 ^ w := by rw [Nat.add_mul, Nat.one_mul]
  _ <= 2 ^ w * 2 ^ w := Nat.mul_le_mul_right _ ha
theorem We {w a b : Nat} (hb : b < 2 ^ w) : (a * 2 ^ w + b) / 2 ^ w = a /\ (a * 2 ^ w + b) % 2 ^ w = b := by
 have hp := Nat.two_pow_pos w
 rw [Nat.mul_comm a, Nat.mul_add_div hp, Nat.mul_add_mod, Nat.div_eq_of_lt hb, Nat.mod_eq_of_lt hb]
 exact ⟨rfl, rfl⟩
theorem Xm (w x : Nat) : x / 2 ^ w * 2 ^ w + x % 2 ^ w = x := by rw [Nat.mul_comm]; exact Nat.div_add_mod x (2 ^ w)
section
variable {w : Nat} {fn : Nat -> Nat -> Nat} (hf : ∀ k r, fn k r < 2 ^ w)
include hf
theorem U6 {x : Nat} (h : x < 4 ^ w) : z6 w fn x < 4 ^ w := by
 obtain ⟨h1, h2⟩ := xy h
 obtain ⟨a, b⟩ := Z7 hf 4 (x / 2 ^ w, x % 2 ^ w) h1 h2
 exact qav a b
theorem Wi {x : Nat} (h : x < 4 ^ w) : xm w fn x < 4 ^ w := by
 obtain ⟨h1, h2⟩ := xy h
 obtain ⟨a, b⟩ := Yy hf 4 (x / 2 ^ w, x % 2 ^ w) h1 h2
 exact qav a b
theorem Zs {x : Nat} (h : x < 4 ^ w) : xm w fn (z6 w fn x) = x := by
 obtain ⟨h1, h2⟩ := xy h
 obtain ⟨a, b⟩ := Z7 hf 4 (x / 2 ^ w, x % 2 ^ w) h1 h2
 obtain ⟨j1, j2⟩ := We (a := (uO fn 4 (x / 2 ^ w, x % 2 ^ w)).1) b
 unfold xm z6
 rw [j1, j2, show ((uO fn 4 (x / 2 ^ w, x % 2 ^ w)).1, (uO fn 4 (x / 2 ^ w, x % 2 ^ w)).2) = uO fn 4 (x / 2 ^ w, x % 2 ^ w) from rfl, qeF]
 exact Xm w x
theorem Zc {x : Nat} (h : x < 4 ^ w) : z6 w fn (xm w fn x) = x := by
 obtain ⟨h1, h2⟩ := xy h
 obtain ⟨a, b⟩ := Yy hf 4 (x / 2 ^ w, x % 2 ^ w) h1 h2
 obtain ⟨j1, j2⟩ := We (a := (J5 fn 4 (x / 2 ^ w, x % 2 ^ w)).1) b
 unfold xm z6
 rw [j1, j2, show ((J5 fn 4 (x / 2 ^ w, x % 2 ^ w)).1, (J5 fn 4 (x / 2 ^ w, x % 2 ^ w)).2) = J5 fn 4 (x / 2 ^ w, x % 2 ^ w) from rfl, qeL]
 exact Xm w x
end
def qZ (f : Nat -> Nat) : Nat -> Nat -> Nat
 | 0, x => x
 | k + 1, x => f (qZ f k x)
theorem vz (f : Nat -> Nat) : ∀ (k x : Nat), qZ f (k + 1) x = qZ f k (f x)
 | 0, x => rfl
 | k + 1, x => by
  show f (qZ f (k + 1) x) = f (qZ f k (f x))
  rw [vz f k x]
theorem qcT : ∀ (N : Nat) (g : Nat -> Nat), (∀ i, i <= N -> g i < N) -> ∃ i j, i < j /\ j <= N /\ g i = g j
 | 0, g, h => absurd (h 0 (Nat.le_refl _)) Y54
 | N + 1, g, h => by
  by_cases hex : ∃ i, i < N + 1 /\ g i = g (N + 1)
  ·obtain ⟨i, hi, e⟩ := hex
   exact ⟨i, N + 1, hi, Nat.le_refl _, e⟩
  ·have hne : ∀ i, i <= N -> g i ≠ g (N + 1) := fun i hi e => hex ⟨i, by omega, e⟩
   have hl := h (N + 1) (Nat.le_refl _)
   obtain ⟨i, j, hij, hj, e⟩ := qcT N (fun i => if g i < g (N + 1) then g i else g i - 1) (fun i hi => by
    have h1 := h i Y54
    have h2 := hne i hi
    show (if g i < g (N + 1) then g i else g i - 1) < N
    split <;> omega)
   refine ⟨i, j, hij, by omega, ?_⟩
   have h1 := hne i Y54
   have h2 := hne j Y54
   replace e : (if g i < g (N + 1) then g i else g i - 1) = if g j < g (N + 1) then g j else g j - 1 := e
   split at e <;> split at e <;> omega
theorem qii {N : Nat} {f b : Nat -> Nat} (hf : ∀ x, x < N -> f x < N) (hb : ∀ x, x < N -> b (f x) = x) {x : Nat} (hx : x < N) : ∃ p, 1 <= p /\ p <= N /\ qZ f p x = x := by
 have hlt : ∀ k, qZ f k x < N := fun k => by
  induction k with
  | zero => exact hx
  | succ k ih => exact hf _ ih
 obtain ⟨i, j, hij, hj, e⟩ := qcT N (fun k => qZ f k x) (fun k _ => hlt k)
 have key : ∀ i d, qZ f i x = qZ f (i + d) x -> x = qZ f d x := by
  intro i
  induction i with
  | zero => intro d h; rw [Nat.zero_add] at h; exact h
  | succ i ih =>
   intro d h
   refine ih d ?_
   have h1 : f (qZ f i x) = f (qZ f (i + d) x) := by rw [show i + 1 + d = (i + d) + 1 by omega] at h; exact h
   rw [<- hb _ (hlt i), <- hb _ (hlt (i + d)), h1]
 refine ⟨j - i, by omega, by omega, (key i (j - i) ?_).symm⟩
 rw [show i + (j - i) = j by omega]
 exact e
theorem Zy {N n : Nat} {f b : Nat -> Nat} (hf : ∀ x, x < N -> f x < N) (hb : ∀ x, x < N -> b (f x) = x) {x : Nat} (hx : x < n) (hn : n <= N) :
  ∃ K, 1 <= K /\ K <= N /\ qZ f K x < n /\ ∀ j, 1 <= j -> j < K -> ¬ qZ f j x < n := by
 obtain ⟨p, h1, h2, h3⟩ := qii hf hb (Nat.lt_of_lt_of_le hx hn)
 have hp : qZ f p x < n := by rw [h3]; exact hx
 have key : ∀ m k, 1 <= k -> k <= p -> qZ f k x < n -> k <= m -> ∃ K, 1 <= K /\ K <= p /\ qZ f K x < n /\ ∀ j, 1 <= j -> j < K -> ¬ qZ f j x < n := by
  intro m
  induction m with
  | zero => intro k a _ _ d; omega
  | succ m ih =>
   intro k a b c d
   by_cases hex : ∃ j, 1 <= j /\ j < k /\ qZ f j x < n
   ·obtain ⟨j, j1, j2, j3⟩ := hex
    exact ih j j1 Y54 j3 Y54
   ·exact ⟨k, a, b, c, fun j j1 j2 j3 => hex ⟨j, j1, j2, j3⟩⟩
 obtain ⟨K, k1, k2, k3, k4⟩ := key p p h1 (Nat.le_refl _) hp (Nat.le_refl _)
 exact ⟨K, k1, by omega, k3, k4⟩
def Wb (f : Nat -> Nat) (n : Nat) : Nat -> Nat -> Nat
 | 0, x => x
 | k + 1, x => if f x < n then f x else Wb f n k (f x)
theorem UO {f : Nat -> Nat} {n : Nat} : ∀ (k K x : Nat), 1 <= K -> K <= k -> qZ f K x < n -> (∀ j, 1 <= j -> j < K -> ¬ qZ f j x < n) -> Wb f n k x = qZ f K x
 | 0, K, x, h1, h2, _, _ => by omega
 | k + 1, K, x, h1, h2, h3, h4 => by
  rw [Wb]
  by_cases hK : K = 1
  ·subst hK
   rw [if_pos (show f x < n from h3)]
   rfl
  ·rw [if_neg (show ¬ f x < n from h4 1 Y54 Y54), UO k (K - 1) (f x) Y54 Y54 ?_ ?_, <- vz, show K - 1 + 1 = K by omega]
   ·rw [<- vz, show K - 1 + 1 = K by omega]; exact h3
   ·intro j j1 j2
    rw [<- vz]
    exact h4 (j + 1) Y54 Y54
def toN (w n : Nat) (fn : Nat -> Nat -> Nat) (x : Nat) : Nat := Wb (z6 w fn) n (4 ^ w) x
def Uc (w n : Nat) (fn : Nat -> Nat -> Nat) (x : Nat) : Nat := Wb (xm w fn) n (4 ^ w) x
theorem Ya {w : Nat} {f : Nat -> Nat} (h : ∀ x, x < 4 ^ w -> f x < 4 ^ w) {x : Nat} (hx : x < 4 ^ w) : ∀ k, qZ f k x < 4 ^ w
 | 0 => hx
 | k + 1 => h _ (Ya h hx k)
theorem JL {w : Nat} {f b : Nat -> Nat} (h : ∀ x, x < 4 ^ w -> b x < 4 ^ w) (hb : ∀ x, x < 4 ^ w -> f (b x) = x) {x : Nat} (hx : x < 4 ^ w) : ∀ (j k : Nat), qZ f j (qZ b (j + k) x) = qZ b k x
 | 0, k => by rw [Nat.zero_add]; rfl
 | j + 1, k => by
  rw [vz, show j + 1 + k = (j + k) + 1 by omega]
  show qZ f j (f (b (qZ b (j + k) x))) = _
  rw [hb _ (Ya h hx _)]
  exact JL h hb hx j k
section
variable {w n : Nat} {fn : Nat -> Nat -> Nat} (hf : ∀ k r, fn k r < 2 ^ w) (hn : n <= 4 ^ w)
include hf hn
theorem Jv {x : Nat} (hx : x < n) : ∃ K, 1 <= K /\ qZ (z6 w fn) K x = toN w n fn x /\ toN w n fn x < n /\ ∀ j, 1 <= j -> j < K -> ¬ qZ (z6 w fn) j x < n := by
 obtain ⟨K, h1, h2, h3, h4⟩ := Zy (f := z6 w fn) (b := xm w fn) (fun x h => U6 hf h) (fun x h => Zs hf h) hx hn
 have e := UO (4 ^ w) K x h1 h2 h3 h4
 exact ⟨K, h1, e.symm, by unfold toN; rw [e]; exact h3, h4⟩
theorem QS {x : Nat} (hx : x < n) : ∃ K, 1 <= K /\ qZ (xm w fn) K x = Uc w n fn x /\ Uc w n fn x < n /\ ∀ j, 1 <= j -> j < K -> ¬ qZ (xm w fn) j x < n := by
 obtain ⟨K, h1, h2, h3, h4⟩ := Zy (f := xm w fn) (b := z6 w fn) (fun x h => Wi hf h) (fun x h => Zc hf h) hx hn
 have e := UO (4 ^ w) K x h1 h2 h3 h4
 exact ⟨K, h1, e.symm, by unfold Uc; rw [e]; exact h3, h4⟩
theorem qf5 {x : Nat} (hx : x < n) : toN w n fn (Uc w n fn x) = x := by
 obtain ⟨K, h1, h2, h3, h4⟩ := QS hf hn hx
 have hx4 : x < 4 ^ w := Nat.lt_of_lt_of_le hx hn
 have ib := JL (f := z6 w fn) (b := xm w fn) (fun x h => Wi hf h) (fun x h => Zc hf h) hx4
 have hk : qZ (z6 w fn) K (Uc w n fn x) = x := by rw [<- h2]; exact ib K 0
 obtain ⟨M, m1, m2, m3, m4⟩ := Jv hf hn h3
 have hM : M <= K := by
  rcases Nat.lt_or_ge K M with h | h
  ·exact absurd (by rw [hk]; exact hx) (m4 K h1 h)
  ·exact h
 rcases Nat.lt_or_ge M K with h | h
 ·exfalso
  exact Y51
 ·obtain rfl : M = K := by omega
  rw [<- m2]; exact hk
theorem qaH {x : Nat} (hx : x < n) : Uc w n fn (toN w n fn x) = x := by
 obtain ⟨K, h1, h2, h3, h4⟩ := Jv hf hn hx
 have hx4 : x < 4 ^ w := Nat.lt_of_lt_of_le hx hn
 have ib := JL (f := xm w fn) (b := z6 w fn) (fun x h => U6 hf h) (fun x h => Zs hf h) hx4
 have hk : qZ (xm w fn) K (toN w n fn x) = x := by rw [<- h2]; exact ib K 0
 obtain ⟨M, m1, m2, m3, m4⟩ := QS hf hn h3
 have hM : M <= K := by
  rcases Nat.lt_or_ge K M with h | h
  ·exact absurd (by rw [hk]; exact hx) (m4 K h1 h)
  ·exact h
 rcases Nat.lt_or_ge M K with h | h
 ·exfalso
  exact Y51
 ·obtain rfl : M = K := by omega
  rw [<- m2]; exact hk
theorem qgt {x y : Nat} (hx : x < n) (hy : y < n) (h : toN w n fn x = toN w n fn y) : x = y := by
 rw [<- qaH hf hn hx, h, qaH hf hn hy]
end
def uT : Nat -> Nat -> Nat -> Nat
 | 0, w, _ => w
 | k + 1, w, n => if 4 ^ w < n then uT k (w + 1) n else w
def jl (n : Nat) : Nat := uT 10 1 n
end Go.Bl
namespace Go.Bl
open Go.RowKit
def qgn (n : Nat) : Nat := if n = 0 then 8 else (8 - n % 8) % 8
def vD (xs : List UInt8) : List UInt8 := xs ++ List.replicate (qgn xs.length) 0
theorem KA (xs : List UInt8) : (vD xs).length = 8 * max ((xs.length + 7) / 8) 1 := by
 simp only [vD, qgn, List.length_append, List.length_replicate]
 split <;> omega
def ut : Nat -> List UInt8 -> List (List UInt8)
 | 0, _ => []
 | n + 1, l => l.take 8 :: ut n (l.drop 8)
theorem zS : ∀ (n : Nat) (l : List UInt8), (ut n l).length = n
 | 0, _ => rfl
 | n + 1, l => by simp [ut, zS n]
theorem QM : ∀ (n i : Nat) (l : List UInt8), i < n -> (ut n l)[i]? = some ((l.drop (8 * i)).take 8)
 | 0, _, _, h => by omega
 | n + 1, 0, l, _ => by simp [ut]
 | n + 1, i + 1, l, h => by
  simp only [ut, List.getElem?_cons_succ]
  rw [QM n i _ Y54, List.drop_drop, show 8 + 8 * i = 8 * (i + 1) by omega]
theorem Yp (n : Nat) (l : List UInt8) (h : l.length = 8 * n) : ∀ x ∈ ut n l, x.length = 8 := by
 intro x hx
 obtain ⟨i, hi, rfl⟩ := List.getElem_of_mem hx
 rw [zS] at hi
 have := QM n i l hi
 rw [List.getElem?_eq_getElem (by rw [zS]; exact hi)] at this
 rw [Option.some.inj this, List.length_take, List.length_drop]
 omega
def J7 (data : List (List UInt8)) : List (List UInt8) := (List.range 32).map fun i => (List.range 8).map fun j => (QP (data.map fun b => b.getD j 0)).getD i 0
theorem WR (data : List (List UInt8)) : (J7 data).length = 32 := by simp [J7]
def qgi (data : List (List UInt8)) : List (List UInt8) := data ++ J7 data
def uR : List (List UInt8) -> List Nat -> List (List UInt8)
 | _, [] => []
 | data, k :: sh => qgi (data.take k) ++ uR (data.drop k) sh
theorem yY (data : List (List UInt8)) : ∀ (sh : List Nat) (data : List (List UInt8)), sh.sum <= data.length -> (uR data sh).length = sh.sum + 32 * sh.length
 | [], data, h => by simp [uR]
 | k :: sh, data, h => by
  simp only [List.sum_cons] at h
  have hl : (data.take k).length = k := by rw [List.length_take]; omega
  simp only [uR, List.length_append, qgi, WR, hl, List.sum_cons, List.length_cons]
  rw [yY data sh _ Y73]
  omega
end Go.Bl
namespace Go.Bl
open Go.RowKit
def shN (n : Nat) : List Nat := if n <= 223 then [n] else [223, n - 223]
theorem Qd (n : Nat) : (shN n).sum = n := by
 unfold shN
 split
 ·simp
 ·simp; omega
theorem XQ (n : Nat) : (shN n).length <= 2 := by unfold shN; split <;> simp
theorem qhj (n : Nat) (h1 : 1 <= n) (h2 : n <= 250) : ∀ k ∈ shN n, 1 <= k /\ k <= 223 := by
 unfold shN
 intro k hk
 split at hk
 ·simp at hk; omega
 ·simp at hk; omega
theorem Ku (sh : List Nat) (i : Nat) : (sh.take i).sum <= sh.sum := by
 conv => rhs; rw [<- List.take_append_drop i sh, List.sum_append]
 omega
def nB (n : Nat) : Nat := max ((n + 7) / 8) 1
def qa1 (xs : List UInt8) : List (List UInt8) := ut (nB xs.length) (vD xs)
def qF (xs : List UInt8) : List (List UInt8) := uR (qa1 xs) (shN (nB xs.length))
theorem VX (xs : List UInt8) : (qa1 xs).length = nB xs.length := zS _ _
theorem W6 (xs : List UInt8) : ∀ x ∈ qa1 xs, x.length = 8 := Yp _ _ (KA xs)
end Go.Bl
namespace Go.Proofs.YtdloaifdpajcjaaGreatDoor
open Go.RowKit Go.Bl
def qS : List UInt8 := [109, 97, 115, 107]
def ql : List UInt8 := [112, 108, 97, 99, 101]
def qG : List UInt8 := [115, 101, 110, 116, 105, 110, 101, 108]
def jd : List UInt8 := [116, 97, 103]
def jK : List UInt8 := [115, 112, 111, 116]
def qg (m name : List UInt8) (n : Int) : List UInt8 := JK m (name ++ 0 :: beK 8 n)
theorem subL_len (m name : List UInt8) (n : Int) : (qg m name n).length = 32 := rfl
def qj (m : List UInt8) (n : Int) : Nat := if m.length < 16 ∨ 64 < m.length then 9 else if n < 0 ∨ 1099511627776 < n then 1 else 0
theorem yK {m : List UInt8} {n : Int} (h : qj m n = 0) : 16 <= m.length /\ m.length <= 64 /\ 0 <= n /\ n <= 1099511627776 := by
 unfold qj at h
 split at h
 ·cases h
 ·split at h
  ·cases h
  ·omega
theorem Lq {m : List UInt8} {n : Int} (h : m.length < 16 ∨ 64 < m.length) : qj m n = 9 := by rw [qj, if_pos h]
theorem Lt {m : List UInt8} {n : Int} (h : ¬ (m.length < 16 ∨ 64 < m.length)) (h2 : n < 0 ∨ 1099511627776 < n) : qj m n = 1 := by rw [qj, if_neg h, if_pos h2]
theorem qbx {m : List UInt8} {n : Int} (h : ¬ (m.length < 16 ∨ 64 < m.length)) (h2 : ¬ (n < 0 ∨ 1099511627776 < n)) : qj m n = 0 := by rw [qj, if_neg h, if_neg h2]
def jy (key : List UInt8) (i : Int) : List UInt8 := JN key (beK 8 i)
theorem strL_len (key : List UInt8) (i : Int) : (jy key i).length = 8 := rfl
def vx (key : List UInt8) (i : Int) (b : List UInt8) : List UInt8 := (b.zip (jy key i)).map fun x => x.1 ^^^ x.2
theorem y8 (key : List UInt8) (i : Int) (b : List UInt8) (h : b.length = 8) : (vx key i b).length = 8 := by
 rw [vx, List.length_map, List.length_zip, h, strL_len]; rfl
def fnS (key : List UInt8) (w k r : Nat) : Nat := qig (JN key (b8 (k : Int) :: beK 8 (r : Int))) % 2 ^ w
theorem vY (key : List UInt8) (w k r : Nat) : fnS key w k r < 2 ^ w := Nat.mod_lt _ (Nat.two_pow_pos w)
theorem Wv : ∀ (k w n : Nat), n <= 4 ^ (w + k) -> n <= 4 ^ uT k w n
 | 0, w, n, h => h
 | k + 1, w, n, h => by
  rw [uT]
  split
  ·exact Wv k (w + 1) n (by rw [show w + 1 + k = w + (k + 1) by omega]; exact h)
  ·omega
theorem Ka : ∀ (k w n : Nat), w <= uT k w n /\ uT k w n <= w + k
 | 0, w, n => ⟨Nat.le_refl _, Nat.le_refl _⟩
 | k + 1, w, n => by
  rw [uT]
  split
  ·have := Ka k (w + 1) n
   omega
  ·omega
theorem ua (n : Nat) (h : n <= 4194304) : n <= 4 ^ jl n := Wv 10 1 n (Nat.le_trans h Y86)
theorem Jp (n : Nat) : 1 <= jl n /\ jl n <= 11 := Ka 10 1 n
theorem xG {k w n : Nat} (h : 4 ^ w < n) : uT (k + 1) w n = uT k (w + 1) n := by rw [uT, if_pos h]
theorem xH {k w n : Nat} (h : ¬ 4 ^ w < n) : uT k w n = w := by
 cases k with
 | zero => rfl
 | succ k => rw [uT, if_neg h]
def qA (key : List UInt8) (n i : Nat) : Nat := toN (jl n) n (fnS key (jl n)) i
def qhA (key : List UInt8) (n i : Nat) : Nat := Uc (jl n) n (fnS key (jl n)) i
section
variable {key : List UInt8} {n : Nat} (hn : n <= 4194304)
include hn
theorem jO {i : Nat} (h : i < n) : qA key n i < n := by
 obtain ⟨K, h1, h2, h3, h4⟩ := Jv (vY key (jl n)) (ua n hn) h
 exact h3
theorem qgg {i : Nat} (h : i < n) : qhA key n i < n := by
 obtain ⟨K, h1, h2, h3, h4⟩ := QS (vY key (jl n)) (ua n hn) h
 exact h3
theorem Wf {i : Nat} (h : i < n) : qA key n (qhA key n i) = i := qf5 (vY key (jl n)) (ua n hn) h
theorem LG {i j : Nat} (hi : i < n) (hj : j < n) (h : qA key n i = qA key n j) : i = j := qgt (vY key (jl n)) (ua n hn) hi hj h
end
def jL (key : List UInt8) (place : Int) (b : List UInt8) : List UInt8 := b ++ JN key (beK 8 place ++ b)
theorem tgdL_len (key : List UInt8) (place : Int) (b : List UInt8) : (jL key place b).length = b.length + 8 := by rw [jL, List.length_append, yf]
def uf (P : Nat -> Nat) (T : Nat -> List UInt8 -> List UInt8) (bs : List (List UInt8)) : Nat -> List (List UInt8)
 | 0 => List.replicate bs.length []
 | k + 1 => (uf P T bs k).set (P k) (T (P k) (bs.getD k []))
theorem zV (P : Nat -> Nat) (T : Nat -> List UInt8 -> List UInt8) (bs : List (List UInt8)) : ∀ k, (uf P T bs k).length = bs.length
 | 0 => List.length_replicate
 | k + 1 => by rw [uf, List.length_set, zV P T bs k]
theorem Xv {P : Nat -> Nat} {T : Nat -> List UInt8 -> List UInt8} {bs : List (List UInt8)} (hP : ∀ i, i < bs.length -> P i < bs.length) (hi : ∀ i j, i < bs.length -> j < bs.length -> P i = P j -> i = j) :
  ∀ (k : Nat), k <= bs.length -> ∀ i, i < k -> (uf P T bs k)[P i]? = some (T (P i) (bs.getD i []))
 | 0, _, i, h => by omega
 | k + 1, hk, i, h => by
  rw [uf]
  by_cases e : i = k
  ·subst e
   rw [List.getElem?_set_self (by rw [zV]; exact hP i Y54)]
  ·rw [List.getElem?_set_ne (fun h2 => e (hi _ _ Y54 Y54 h2.symm))]
   exact Xv hP hi k Y54 i Y54
def Q1 (kM kS : List UInt8) (bs : List (List UInt8)) (s : Nat) : List (List UInt8) :=
 (bs.mapIdx fun i b => vx kM (i : Int) b) ++ (List.range s).map fun j => jy kS ((j : Nat) : Int)
theorem yg (kM kS : List UInt8) (bs : List (List UInt8)) (s : Nat) : (Q1 kM kS bs s).length = bs.length + s := by simp [Q1]
def zc (m : List UInt8) (n : Int) (xs : List UInt8) (s : Nat) : List (List UInt8) :=
 let all := Q1 (qg m qS n) (qg m qG n) (qF xs) s
 uf (qA (qg m ql n) all.length) (fun p b => jL (qg m jd n) (p : Int) b) all all.length
end Go.Proofs.YtdloaifdpajcjaaGreatDoor
