import Derived.Test.YtnafknkchbfpaaaGreatDoorGP
import Derived.Deep.OwnRows
import Derived.Laws.CopyOwn
set_option maxRecDepth 1000000
set_option maxHeartbeats 8000000
namespace Go.Proofs.YtnafknkchbfpaaaGreatDoor
open Go.RowKit Go.Bl
set_option linter.unusedVariables false
theorem Xp {ops : Array Oper} {i : Nat} {b : Go.Act} {p : World} (o : Oper) (ho : ops[i]? = some o) (hg : o.guard = none) (k1 k2 k3 : Nat) (hop : o.op = .call { callee := .value (.func 187), args := #[.tmp k1, .tmp k2, .tmp k3], argTypes := #[280, 5, 5] })
  (tb : Nat) (x y : UInt8) (h1 : b.eval (.tmp k1) = .pointer (some ⟨tb, 0, none⟩)) (h2 : b.eval (.tmp k2) = .int .u8 (x.toNat : Int)) (h3 : b.eval (.tmp k3) = .int .u8 (y.toNat : Int)) (hT : At p tb (.cells ut 296)) :
  opV Tryz.prog ops i b p fun v p' => v = .int .u8 ((zd x y).toNat : Int) /\ Fr [] p p' := by
 have hf : b.eval (.func 187) = .func (.func 187) #[] #[] := rfl
 unfold opV
 simp only [ho, Region.wanted, hg, if_true]
 obtain ⟨ρ, hρ⟩ := exq (b.eval)
 rw [hρ] at h1 h2 h3 hf ⊢
 have hr : (execOp ρ o).run Tryz.prog p = .ok (.enter 187 #[.pointer (some ⟨tb, 0, none⟩), u8v x, u8v y]) p := by
  unfold execOp
  simp [hop, resolve, invoke, go_sem, h1, h2, h3, hf, u8v]
 rw [hr]
 refine (qb7 p tb hT x y).mono ?_
 rintro e p' ⟨rfl, hf⟩
 exact ⟨rfl, hf⟩
theorem Jl {w : World} {g i : Nat} {t : TypeId} {xs : List UInt8} (h : At w g (.cells (xs.map u8v).toArray t)) (hi : i < xs.length) : w.cell? ⟨g, i, none⟩ = some (.int .u8 ((xs.getD i 0).toNat : Int)) := by
 rw [qK h]
 simp [List.getD_eq_getElem?_getD, hi, u8v]
theorem Uq (out : List UInt8) (i : Nat) (x : UInt8) : ((vU out i x).map u8v).toArray = ((out.map u8v).toArray).setIfInBounds i (.int .u8 ((out.getD i 0 ^^^ x).toNat : Int)) := by
 unfold vU
 rw [List.map_set]
 simp [u8v]
noncomputable def qam : Code := ((Tryz.f206.body.bind (qq 9)).getD .skip)
theorem qc5 (w : World) (a : Go.Act) (hsz : a.tmps.size = 48) (g tb n i k : Nat) (out : List UInt8) (x y : UInt8) (hik : i + k < n) (hn : n <= 1000000) (hol : out.length = n) (hgt : g ≠ tb) (h6 : slot a 6 = .slice (some ⟨g, 0, none⟩) n n) (h7 : slot a 7 = .int .i64 (i : Int)) (h9 : slot a 9 = .int .i64 (k : Int)) (h5 : slot a 5 = .pointer (some ⟨tb, 0, none⟩)) (h8 : slot a 8 = .int .u8 (x.toNat : Int)) (h10 : slot a 10 = .int .u8 (y.toNat : Int)) (hA : At w g (.cells (out.map u8v).toArray 5)) (hT : At w tb (.cells ut 296)) (Q : Exit -> Go.Act -> World -> Prop)
  (hQ : ∀ (b : Go.Act) (p : World), b.defers = a.defers -> b.tmps.size = a.tmps.size -> (∀ s, s ∉ ([32, 33, 34, 35, 36, 37, 38, 39, 40, 41, 42, 43] : List Nat) -> slot b s = slot a s) -> Fr [g] w p -> At p g (.cells ((vU out (i + k) (zd x y)).map u8v).toArray 5) -> Q .normal b p) : Code.wp Tryz.prog qam Q a w := by
 conv => arg 2; whnf
 refine uj qe qe [some 32, some 33, some 34, some 35, some 36, some 37, some 38, some 39, some 40, some 41, some 42, some 43, none] [9, 12] [.rd (.slice (some ⟨g, 0, none⟩) n n) 2, .rd (.int .i64 (i : Int)) 2, .rd (.int .i64 (k : Int)) 2, .rd (.int .i64 ((i + k : Nat) : Int)) 2, .rd (.pointer (some ⟨g, i + k, none⟩)) 2, .rd (.int .u8 ((out.getD (i + k) 0).toNat : Int)) 1, .rd (.pointer (some ⟨tb, 0, none⟩)) 2, .rd (.int .u8 (x.toNat : Int)) 2, .rd (.int .u8 (y.toNat : Int)) 2, .st 0, .rd (.int .u8 ((out.getD (i + k) 0 ^^^ zd x y).toNat : Int)) 2, .rd (.pointer (some ⟨g, i + k, none⟩)) 2, .st 1] (fun j => if j = 0 then (.int .u8 ((zd x y).toNat : Int)) else undef) (fun s p => Fr [g] w p /\ At p g (.cells (if s <= 1 then (out.map u8v).toArray else ((vU out (i + k) (zd x y)).map u8v).toArray) 5) /\ At p tb (.cells ut 296)) qe Y69 W8 qe qe qd ?_ ⟨?_, ?_, ?_, ?_, ?_, ?_, ?_, ?_, ?_, ?_, ?_, ?_, ?_, trivial⟩ ?_
 ·intro w1 hw1
  exact ⟨hw1.weak, by rw [if_pos qd]; exact hA.keep0 hw1, hT.keep0 hw1⟩
 ·refine ⟨⟨32, rfl⟩, .inl rfl, fun b p s hs hS h => ?_⟩
  have e0 : b.eval (.tmp 6) = .slice (some ⟨g, 0, none⟩) n n := (h.old 6 qd).trans h6
  exact Y1
 ·refine ⟨⟨33, rfl⟩, .inl rfl, fun b p s hs hS h => ?_⟩
  have e0 : b.eval (.tmp 7) = .int .i64 (i : Int) := (h.old 7 qd).trans h7
  exact Y1
 ·refine ⟨⟨34, rfl⟩, .inl rfl, fun b p s hs hS h => ?_⟩
  have e0 : b.eval (.tmp 9) = .int .i64 (k : Int) := (h.old 9 qd).trans h9
  exact Y1
 ·refine ⟨⟨35, rfl⟩, .inl rfl, fun b p s hs hS h => ?_⟩
  have e0 := h.er 1 33 qe rfl rfl
  have e1 := h.er 2 34 qe rfl rfl
  have ec : ∀ v, b.eval (.const v) = v := fun _ => rfl
  obtain ⟨ρ, hρ⟩ := exq (b.eval)
  rw [hρ] at e0 e1 ec ⊢
  exact ⟨_, by rfl, rfl, by unfold execOp; simp [go_sem, e0, e1, ec, show IntKind.i64.wrap ((i : Int) + k) = (i : Int) + k by rw [IntKind.wrap_i64]; omega]⟩
 ·refine ⟨⟨36, rfl⟩, .inl rfl, fun b p s hs hS h => ?_⟩
  exact Y19
 ·refine ⟨⟨37, rfl⟩, .inr ⟨12, rfl, by kernel_rfl⟩, fun b p s hs hS h => ?_⟩
  have e0 := h.er 4 36 qe rfl rfl
  have c0 := (show p.cell? ⟨g, i + k, none⟩ = some (.int .u8 ((out.getD (i + k) 0).toNat : Int)) from by have hA := hS.2.1; rw [if_pos hs] at hA; exact Jl hA Y62)
  exact Y22
 ·refine ⟨⟨38, rfl⟩, .inl rfl, fun b p s hs hS h => ?_⟩
  have e0 : b.eval (.tmp 5) = .pointer (some ⟨tb, 0, none⟩) := (h.old 5 qd).trans h5
  exact Y1
 ·refine ⟨⟨39, rfl⟩, .inl rfl, fun b p s hs hS h => ?_⟩
  have e0 : b.eval (.tmp 8) = .int .u8 (x.toNat : Int) := (h.old 8 qd).trans h8
  exact Y1
 ·refine ⟨⟨40, rfl⟩, .inl rfl, fun b p s hs hS h => ?_⟩
  have e0 : b.eval (.tmp 10) = .int .u8 (y.toNat : Int) := (h.old 10 qd).trans h10
  exact Y1
 ·refine ⟨rfl, .inl rfl, fun b p hS h => ?_⟩
  have e0 := h.er 6 38 qe rfl rfl
  have e1 := h.er 7 39 qe rfl rfl
  have e2 := h.er 8 40 qe rfl rfl
  obtain ⟨hf, hA, hT⟩ := hS
  refine jA (K := fun v p' => v = .int .u8 ((zd x y).toNat : Int) /\ Fr [] p p') (fun v p' hv => ⟨⟨hf.trans hv.2.weak, by rw [if_pos qd] at hA ⊢; exact hA.keep0 hv.2, hT.keep0 hv.2⟩, .inr hv.1⟩) ?_
  exact Xp _ Y69 rfl 38 39 40 rfl tb x y e0 e1 e2 hT
 ·refine ⟨⟨42, rfl⟩, .inl rfl, fun b p s hs hS h => ?_⟩
  have e0 := h.er 5 37 qe rfl rfl
  have e1 := (show b.eval (.tmp 41) = .int .u8 ((zd x y).toNat : Int) from h.st 9 _ 41 qe rfl rfl)
  exact Y42
 ·refine ⟨⟨43, rfl⟩, .inl rfl, fun b p s hs hS h => ?_⟩
  exact Y19
 ·refine ⟨rfl, .inr ⟨9, rfl, by kernel_rfl⟩, fun b p hS h => ?_⟩
  have e0 := h.er 11 43 qe rfl rfl
  have e1 := h.er 10 42 qe rfl rfl
  obtain ⟨hf, hA, hT⟩ := hS
  rw [if_pos qd] at hA
  refine jA (K := fun _ p' => Fr [g] w p' /\ At p' g (.cells ((vU out (i + k) (zd x y)).map u8v).toArray 5) /\ At p' tb (.cells ut 296)) (fun v p' hv => ⟨by show Fr [g] w p' /\ At p' g (.cells (if 1 + 1 <= 1 then (out.map u8v).toArray else ((vU out (i + k) (zd x y)).map u8v).toArray) 5) /\ At p' tb (.cells ut 296); rw [if_neg qd]; exact hv, .inl rfl⟩) ?_
  refine jj (K := fun _ p' => Fr [g] w p' /\ At p' g (.cells ((vU out (i + k) (zd x y)).map u8v).toArray 5) /\ At p' tb (.cells ut 296)) _ Y69 ?_
  refine qk (.tmp 43) (.tmp 42) rfl rfl (.int .u8 ((out.getD (i + k) 0 ^^^ zd x y).toNat : Int)) e0 e1 hA Y65 qe rfl ?_
  intro p1 f1 a1 _
  exact ⟨rfl, rfl, hf.trans f1, by rw [Uq]; exact a1, hT.keep f1 qai⟩
 ·intro b p h1 h2 h3 h4 h5
  exact hQ b p h1 h2 (fun s hs => h3 s (fun hm => hs Y87)) h4.1 (by have := h4.2.1; rwa [if_neg qd] at this)
theorem Fr.of_below {w w' : World} (h : Below w.heap.size w w') : Fr [] w w' := ⟨h.os, h.tape, h.output, h.size, fun k hk _ => h.block k hk⟩
theorem Ka (A : Nat -> Prop) (w : World) (v : Value) (zs : List UInt8) (hb : Bs A w v zs) (hne : zs ≠ []) (hl : zs.length <= 1000000) :
  Calls Tryz.prog 215 #[v] w fun e w' => e = .returned (.int .i64 ((JX zs : Int) - 1)) /\ Fr [] w w' := by
 obtain ⟨a, cap, rfl, hI⟩ := qfa A w v zs hb
 refine (callsIn_wide.1 (qfn Fence.wide 3 trivial trivial trivial rfl Y62 a zs.length cap zs hl w (hI hne))).mono ?_
 rintro e w' ⟨rfl, h⟩
 exact ⟨rfl, Fr.of_below h⟩
theorem qc0 (A : Nat -> Prop) (w : World) (v : Value) (zs : List UInt8) (hb : Bs A w v zs) (hne : zs ≠ []) (hl : zs.length <= 1000000) :
  Calls Tryz.prog 210 #[v] w fun e w' => ∃ u, e = .returned u /\ qh 5 w.heap.size w' u (Zl zs) /\ Fr [] w w' := by
 have HB := Hdq hb
 have HD := Hdq (Ka A w v zs hb hne hl)
 have hpl := Lu zs
 obtain ⟨a, cap, rfl, h2, h3, -⟩ := hb
 unfold maxLen at h3
 obtain ⟨m, hm⟩ := exq (JX zs)
 obtain ⟨N, hN⟩ := exq (zs.length)
 have HT := Hdq (show Zl zs = zs.take m by unfold Zl; rw [hm])
 rw [hm] at HD hpl
 rw [hN] at HD hpl hl h2 HB ⊢
 have HN := Hdq hN
 clear hm hN hne
 have hmm : (m : Int) - 1 + 1 = m := by omega
 go_enter Tryz.func210, Tryz.ntmps210
 go_wp2_with fail
 refine HD.out.mono ?_
 rintro e w1 ⟨rfl, hf⟩
 have HF := Hdq hf
 replace HB := Hdq (HB.out.keep hf qf)
 have i1 : m <= cap := by omega
 clear hf HD
 go_wp2_with fail
 have hcut := HB.out.take m hpl
 have hs1 := HF.out.size
 refine (qY A _ _ _ hcut Y65).mono ?_
 rintro e w2 ⟨u, rfl, ho, hf⟩
 have HO := Hdq (ho.base hs1)
 have HF2 := Hdq (HF.out.trans hf)
 clear ho hf hcut
 go_wp2
 go_ret
 exact ⟨_, rfl, by rw [HT.out]; exact HO.out, HF2.out⟩
theorem zu {A : Nat -> Prop} {w : World} {v : Value} {xs : List UInt8} (h : Bs A w v xs) : ∃ bo bn bc, v = .slice bo bn bc := by
 obtain ⟨a, cap, rfl, -⟩ := h
 exact ⟨_, _, _, rfl⟩
theorem vo {A : Nat -> Prop} {w : World} {a : Option Addr} {n cap : Nat} {xs : List UInt8} (h : Bs A w (.slice a n cap) xs) (j : Nat) (x : UInt8) (hx : xs[j]? = some x) :
  ∃ b off, a = some ⟨b, off, none⟩ /\ w.cell? ⟨b, off + j, none⟩ = some (.int .u8 (x.toNat : Int)) := by
 obtain ⟨a', cap', e, h2, h3, h4⟩ := h
 cases e
 have hj : j < xs.length := (List.getElem?_eq_some_iff.1 hx).1
 obtain ⟨b, off, rfl, -, hc⟩ := h4.some_of Y65
 refine ⟨b, off, rfl, ?_⟩
 rw [hc j Y92, List.getElem?_map, hx]
 rfl
theorem qbB (A : Nat -> Prop) (w : World) (p q : Value) (ps qs : List UInt8) (hp : Bs A w p ps) (hq : Bs A w q qs) (hpn : 0 < ps.length + qs.length) (hl : ps.length + qs.length <= 1000) :
  Calls Tryz.prog 206 #[p, q] w fun e w' => ∃ u, e = .returned u /\ qh 5 w.heap.size w' u (L2 ps qs) /\ Fr [] w w' := by
 have HP := Hdq hp
 have HQ := Hdq hq
 have hp0 := hpn
 obtain ⟨pa, pc, rfl, p2, p3, hpr⟩ := hp
 obtain ⟨qa, qc, rfl, q2, q3, hqr⟩ := hq
 unfold maxLen at p3 q3
 obtain ⟨i0, hi, hz, hsz, hby⟩ := qR Tryz.infoByte
 obtain ⟨P, hP⟩ := exq (ps.length)
 obtain ⟨Q, hQ⟩ := exq (qs.length)
 rw [hP] at HP p2 hl hp0 ⊢
 rw [hQ] at HQ q2 hl hp0 ⊢
 have HPL := Hdq hP
 have HQL := Hdq hQ
 clear hP hQ hpr hqr hpn
 go_enter Tryz.func206, Tryz.ntmps206
 go_wp2_with fail
 refine (Yb _).mono ?_
 rintro e w1 ⟨rfl, hT, hf⟩
 have hs1 := hf.size
 have hlt := hT.lt
 go_wp2_with (refine wpList_make_row _ rfl (.tmp 16) (.tmp 16) 22 rfl 5 i0 (.int .u8 0) Tryz.underlying22 hi hz hsz rfl .i64 .i64 (P + Q) (by show Value.int .i64 ((P : Int) + (Q : Int)) = _; simp) (by show Value.int .i64 ((P : Int) + (Q : Int)) = _; simp) (by rw [hby]; omega) Y62 ?_)
 have hcs : madeCells #[.int .u8 0] (P + Q) = ((List.replicate (P + Q) (0 : UInt8)).map u8v).toArray := by
  apply Array.ext
  ·simp [madeCells]
  ·intro i h1 h2
   simp [madeCells, u8v, Nat.mod_one]
 have HA := Hdq (show At (w1.alloc (.cells (madeCells #[.int .u8 0] (P + Q)) 5)) w1.heap.size (.cells ((j6 (ps.take 0) qs 0 (List.replicate (P + Q) 0)).map u8v).toArray 5) by rw [hcs]; exact At.new rfl)
 have HT := Hdq (show At (w1.alloc (.cells (madeCells #[.int .u8 0] (P + Q)) 5)) w.heap.size (.cells ut 296) from hT.al)
 have HF := Hdq (show Fr [] w (w1.alloc (.cells (madeCells #[.int .u8 0] (P + Q)) 5)) from Fr.al hf)
 obtain ⟨w2, hw2⟩ := exq (w1.alloc (.cells (madeCells #[.int .u8 0] (P + Q)) 5))
 rw [hw2] at HA HT HF ⊢
 obtain ⟨g, hg⟩ := exq (w1.heap.size)
 rw [hg] at HA hs1 hlt ⊢
 clear hT hf hcs hw2 hg hi hz hsz hby
 have hgt : g ≠ w.heap.size := by omega
 go_wp2
 go_loopw [20] (fun i wr => ∃ j : Nat, j <= P /\ i = .int .i64 j /\ Hid (At wr g (.cells ((j6 (ps.take j) qs 0 (List.replicate (P + Q) 0)).map u8v).toArray 5)) /\ Hid (At wr w.heap.size (.cells ut 296)) /\ Hid (Fr [] w wr)) (fun i _ => P - (intOf i).toNat)
 case atStart => exact ⟨0, by omega, rfl, HA.out, HT.out, HF.out⟩
 case round =>
  clear HA HT HF
  obtain ⟨j, hj, rfl, HA, HT, HF⟩ := hrel
  by_cases hjn : j < P
  ·obtain ⟨x, hx⟩ : ∃ x, ps[j]? = some x := ⟨_, List.getElem?_eq_getElem (by have := HPL.out; omega)⟩
   obtain ⟨pb, po, rfl, hcp⟩ := vo HP.out j x hx
   have hcx := zf HF.out hcp
   have HM := Hdq (JK ps qs j 0 x (List.replicate (P + Q) 0) hx)
   have HL := Hdq (show (j6 (ps.take j) qs 0 (List.replicate (P + Q) 0)).length = P + Q by rw [vZ, List.length_replicate])
   obtain ⟨out, ho⟩ := exq (j6 (ps.take j) qs 0 (List.replicate (P + Q) 0))
   rw [ho] at HA HM HL
   clear hx hcp ho
   go_wp2
   go_loopw [27] (fun i wr => ∃ k : Nat, k <= Q /\ i = .int .i64 k /\ Hid (At wr g (.cells ((zT x (qs.take k) (0 + j) out).map u8v).toArray 5)) /\ Hid (At wr w.heap.size (.cells ut 296)) /\ Hid (Fr [] w wr)) (fun i _ => Q - (intOf i).toNat)
   case atStart => exact ⟨0, by omega, rfl, HA.out, HT.out, HF.out⟩
   case round =>
    clear HA HT HF hcx
    obtain ⟨k, hk, rfl, HA, HT, HF⟩ := hrel
    by_cases hkn : k < Q
    ·obtain ⟨y, hy⟩ : ∃ y, qs[k]? = some y := ⟨_, List.getElem?_eq_getElem (by have := HQL.out; omega)⟩
     obtain ⟨qb, qo, rfl, hcq⟩ := vo HQ.out k y hy
     have hcy := zf HF.out hcq
     have HR := Hdq (Jy x qs k (0 + j) y out hy)
     have HL2 := Hdq (show (zT x (qs.take k) (0 + j) out).length = P + Q by rw [y9, HL.out])
     obtain ⟨cur, hcur⟩ := exq (zT x (qs.take k) (0 + j) out)
     rw [hcur] at HA HR HL2
     clear hy hcq hcur
     go_wp2_with fail
     refine qc5 _ _ rfl g w.heap.size (P + Q) j k cur x y Y62 Y62 HL2.out hgt rfl rfl rfl rfl rfl rfl HA.out HT.out _ ?_
     intro b p h1 h2 h3 hf ha
     obtain ⟨f, hb⟩ := qcF b _ _ h1 h2 h3
     have HA2 := Hdq (show At p g (.cells ((zT x (qs.take (k + 1)) (0 + j) out).map u8v).toArray 5) by rw [HR.out, Nat.zero_add]; exact ha)
     have HT2 := Hdq (HT.out.keep hf qai)
     have HF2 := Hdq (HF.out.then hf Y79)
     clear h1 h2 h3 hf ha HA HT HF hcy
     subst hb
     simp only [List.foldl_cons, List.foldl_nil, Go.Act.put, List.setIfInBounds_toArray, List.set_cons_succ, List.set_cons_zero]
     go_wp2
     go_roundw
     case rel => exact ⟨k + 1, by omega, by go_num, HA2.out, HT2.out, HF2.out⟩
     case measure => simp [intOf]; omega
    ·obtain rfl : k = Q := by omega
     have HA2 := Hdq (show At wr g (.cells ((j6 (ps.take (j + 1)) qs 0 (List.replicate (P + k) 0)).map u8v).toArray 5) by
      rw [HM.out]
      have h := HA.out
      rwa [List.take_of_length_le (by have := HQL.out; omega)] at h)
     clear HA
     go_wp2
     go_roundw
     case rel => exact ⟨j + 1, by omega, by go_num, HA2.out, HT.out, HF.out⟩
     case measure => simp [intOf]; omega
  ·obtain rfl : j = P := by omega
   have hl2 : (j6 (ps.take j) qs 0 (List.replicate (j + Q) 0)).length = j + Q := by rw [vZ, List.length_replicate]
   have HB := Hdq (show Bs (fun _ => False) wr (.slice (some ⟨g, 0, none⟩) (j + Q) (j + Q)) (j6 (ps.take j) qs 0 (List.replicate (j + Q) 0)) from by
    have h := Row.of_block (A := fun _ => False) HA.out qf
    refine ⟨some ⟨g, 0, none⟩, j + Q, by rw [hl2], by rw [hl2]; exact Nat.le_refl _, by simp [maxLen]; omega, by simpa using h⟩)
   have HR := Hdq (show L2 ps qs = Zl (j6 (ps.take j) qs 0 (List.replicate (j + Q) 0)) by
    unfold L2
    rw [HPL.out, HQL.out, List.take_of_length_le (by have := HPL.out; omega)])
   have HTR := Hdq (qc0 (fun _ => False) wr _ _ HB.out (by intro h; rw [h] at hl2; simp at hl2; omega) (by rw [hl2]; omega))
   have hs2 := HF.out.size
   clear hl2 HA HT HB
   go_wp2_with fail
   refine HTR.out.mono ?_
   rintro e w3 ⟨u, rfl, ho, hf⟩
   have HO := Hdq (ho.base hs2)
   have HF2 := Hdq (HF.out.trans hf)
   clear ho hf HTR
   go_wp2
   go_ret
   exact ⟨_, rfl, by rw [HR.out]; exact HO.out, HF2.out⟩
theorem Qq (rs : List UInt8) : ∀ k, (uF (rs.take k)).length <= 1 + 2 * k
 | 0 => by simp [uF]
 | k + 1 => by
  cases h : rs[k]? with
  | none =>
   have hl := List.getElem?_eq_none_iff.1 h
   rw [List.take_of_length_le Y62]
   have := Qq rs k
   rw [List.take_of_length_le hl] at this
   omega
  | some r =>
   rw [JP rs k r h]
   have := qbL (uF (rs.take k)) [r, 1]
   have := Qq rs k
   simp at *
   omega
theorem qea {e : TypeId} {base : Nat} (w : World) (c : Array Value) (xs : List UInt8) (hb : base <= w.heap.size) (hc : c.toList = xs.map u8v) (hl : xs.length <= 1000) : qh e base (w.alloc (.cells c e)) (.slice (some ⟨w.heap.size, 0, none⟩) xs.length xs.length) xs := by
 have hs : c.size = xs.length := by have := congrArg List.length hc; simpa using this
 refine ⟨by simp, .inr ⟨w.heap.size, xs.length, c, rfl, hb, heap_alloc_new _ _, Nat.le_refl _, by simp [maxLen]; omega, by omega, ?_⟩⟩
 rw [List.take_of_length_le Y65, hc]
theorem KC {A : Nat -> Prop} (w : World) (c : Array Value) (e : TypeId) (xs : List UInt8) (hA : ¬ A w.heap.size) (hc : c.toList = xs.map u8v) (hl : xs.length <= 1000) : Bs A (w.alloc (.cells c e)) (.slice (some ⟨w.heap.size, 0, none⟩) xs.length xs.length) xs :=
 ⟨_, _, rfl, Nat.le_refl _, by simp [maxLen]; omega, by
  have := Row.of_block (A := A) (show (w.alloc (.cells c e)).heap[w.heap.size]? = some (.cells c e (0, 0)) from heap_alloc_new _ _) hA
  rwa [hc] at this⟩
theorem qaG (A : Nat -> Prop) (w : World) (v : Value) (rs : List UInt8) (hb : Bs A w v rs) (hl : rs.length <= 32) :
  Calls Tryz.prog 201 #[v] w fun e w' => ∃ u, e = .returned u /\ qh 5 w.heap.size w' u (uF rs) /\ Fr [] w w' := by
 have HB := Hdq hb
 obtain ⟨a, cap, rfl, h2, h3, -⟩ := hb
 unfold maxLen at h3
 obtain ⟨N, hN⟩ := exq (rs.length)
 rw [hN] at HB h2 hl ⊢
 have HN := Hdq hN
 clear hN
 have HO := Hdq (show qh 5 w.heap.size (w.alloc (.cells #[.int .u8 1] 5)) (.slice (some ⟨w.heap.size, 0, none⟩) 1 1) (uF (rs.take 0)) from qea w #[.int .u8 1] [1] (Nat.le_refl _) rfl qf)
 go_enter Tryz.func201, Tryz.ntmps201
 go_wp2
 go_loopw [3, 9] (fun o i wr => ∃ j : Nat, j <= N /\ i = .int .i64 j /\ Hid (qh 5 w.heap.size wr o (uF (rs.take j))) /\ Hid (Fr [] w wr)) (fun _ i _ => N - (intOf i).toNat)
 case atStart => exact ⟨0, by omega, rfl, HO.out, Fr.alloc _ _⟩
 case round =>
  clear HO
  obtain ⟨j, hj, rfl, HO, HF⟩ := hrel
  by_cases hjn : j < N
  ·obtain ⟨x, hx⟩ : ∃ x, rs[j]? = some x := ⟨_, List.getElem?_eq_getElem Y68⟩
   obtain ⟨b, off, rfl, hc⟩ := vo HB.out j x hx
   have hcx := zf HF.out hc
   have HT := Hdq (JP rs j x hx)
   have HL := Hdq (Qq rs j)
   obtain ⟨oo, on, oc, rfl⟩ := zu (HO.out.bs (A := fun _ => False) qf)
   clear hx hc
   go_wp2_with fail
   have hbs := KC (A := fun _ => False) wr #[.int .u8 (x.toNat : Int), .int .u8 1] 5 [x, 1] qf rfl qf
   have hal : Fr [] wr (wr.alloc (.cells #[.int .u8 (x.toNat : Int), .int .u8 1] 5)) := Fr.alloc _ _
   have hs := (HF.out.trans hal).size
   refine (qbB (fun _ => False) _ _ _ _ _ ((HO.out.keep hal qf).bs qf) hbs qf (by have := HL.out; simp; omega)).mono ?_
   rintro e w2 ⟨u, rfl, ho, hf⟩
   have HO2 := Hdq (show qh 5 w.heap.size w2 u (uF (rs.take (j + 1))) by rw [HT.out]; exact ho.base hs)
   have HF2 := Hdq ((HF.out.trans hal).trans hf)
   clear ho hf hbs hal HO HF hcx
   go_wp2
   go_roundw
   case rel => exact ⟨j + 1, by omega, by go_num, HO2.out, HF2.out⟩
   case measure => simp [intOf]; omega
  ·obtain rfl : j = N := by omega
   have HE := Hdq (show rs.take j = rs from List.take_of_length_le Y68)
   go_wp2
   go_ret
   exact ⟨_, rfl, by have := HO.out; rwa [HE.out] at this, HF.out⟩
theorem qdh (w : World) : Calls Tryz.prog 186 #[] w fun e w' => ∃ u, e = .returned u /\ qh 5 w.heap.size w' u Xg /\ Fr [] w w' := by
 go_enter Tryz.func186, Tryz.ntmps186
 go_wp2
 go_loopw [1, 3] (fun o i wr => ∃ j : Nat, j <= 32 /\ i = .int .i64 j /\ Hid (qh 5 w.heap.size wr o ((List.range j).map jv)) /\ Hid (Fr [] w wr)) (fun _ i _ => 32 - (intOf i).toNat)
 case atStart => exact ⟨0, by omega, rfl, qh.nil _ _ _, Fr.refl _ _⟩
 case round =>
  obtain ⟨j, hj, rfl, HO, HF⟩ := hrel
  by_cases hjn : j < 32
  ·go_wp2_with fail
   refine (qdg _ j Y62).mono ?_
   rintro e w2 ⟨rfl, hf⟩
   have HO2 := Hdq (HO.out.keep hf qf)
   have HF2 := Hdq (HF.out.trans hf)
   have HR := Hdq (show (List.range (j + 1)).map jv = (List.range j).map jv ++ [jv j] by simp [List.range_succ])
   clear hf HO HF
   unfold u8v
   obtain ⟨x, hx⟩ := exq (jv j)
   rw [hx] at HR ⊢
   clear hx
   have HBL := Hdq (KC (A := fun _ => False) w2 #[.int .u8 (x.toNat : Int)] 5 [x] qf rfl qf)
   have HO3 := Hdq (HO2.out.keep (Fr.alloc (S := []) w2 (.cells #[.int .u8 (x.toNat : Int)] 5)) qf)
   have HF3 := Hdq (show Fr [] w (w2.alloc (.cells #[.int .u8 (x.toNat : Int)] 5)) from Fr.al HF2.out)
   have hs := HF3.out.size
   go_wp2_with (at_builtin; refine qg (A := fun _ => False) (ys := [x]) (base := w.heap.size) Tryz.underlying22 Tryz.infoByte rfl (.tmp 6) (.tmp 9) rfl rfl rfl HO3.out HBL.out Y65 hs ?_)
   intro v' w3 h5 h6
   have HO4 := Hdq (show qh 5 w.heap.size w3 v' ((List.range (j + 1)).map jv) by rw [HR.out]; exact h5)
   have HF4 := Hdq (show Fr [] w w3 from qh.fr HO3.out HF3.out h6 (Nat.le_refl _))
   clear h5 h6 HO3 HF3 HBL HO2 HF2
   go_wp2
   go_roundw
   case rel => exact ⟨j + 1, by omega, by go_num, HO4.out, HF4.out⟩
   case measure => simp [intOf]; omega
  ·obtain rfl : j = 32 := by omega
   have HB := Hdq (HO.out.bs (A := fun _ => False) qf)
   have hs := HF.out.size
   obtain ⟨oo, on, oc, rfl⟩ := zu HB.out
   go_wp2_with fail
   refine (qaG (fun _ => False) _ _ _ HB.out qf).mono ?_
   rintro e w2 ⟨u, rfl, ho, hf⟩
   have HO2 := Hdq (ho.base hs)
   have HF2 := Hdq (HF.out.trans hf)
   clear ho hf
   go_wp2
   go_ret
   exact ⟨_, rfl, HO2.out, HF2.out⟩
theorem qdK {S : List Nat} {w p : World} {b i : Nat} {v : Value} (h : Fr S w p) (hb : b ∉ S) (hc : w.cell? ⟨b, i, none⟩ = some v) : p.cell? ⟨b, i, none⟩ = some v := by
 unfold World.cell? at hc ⊢
 rcases Nat.lt_or_ge b w.heap.size with hl | hl
 ·rw [h.block b hl hb]; exact hc
 ·rw [Array.getElem?_eq_none hl] at hc; simp at hc
def zr (y : UInt8) : Nat -> List UInt8 -> List UInt8
 | 0, r => r
 | k + 1, r => vU (zr y k r) k (zd y (Xg.getD (31 - k) 0))
theorem zM (y : UInt8) : ∀ (k : Nat) (r : List UInt8), (zr y k r).length = r.length
 | 0, _ => rfl
 | k + 1, r => by simp only [zr]; rw [Yn, zM y k r]
theorem qeg (l : List UInt8) (i m : Nat) (x : UInt8) (hi : i < l.length) : (vU l i x).getD m 0 = if m = i then l.getD m 0 ^^^ x else l.getD m 0 := by
 unfold vU
 by_cases h : m = i
 ·subst h
  simp [List.getD_eq_getElem?_getD, hi]
 ·simp [List.getD_eq_getElem?_getD, List.getElem?_set_ne (Ne.symm h), h]
theorem ZX (y : UInt8) (m : Nat) : ∀ (k : Nat) (r : List UInt8), k <= r.length -> (zr y k r).getD m 0 = if m < k then r.getD m 0 ^^^ zd y (Xg.getD (31 - m) 0) else r.getD m 0
 | 0, r, _ => by rw [if_neg Y62]; rfl
 | k + 1, r, h => by
  simp only [zr]
  rw [qeg _ _ _ _ (by rw [zM]; omega), ZX y m k r Y62]
  by_cases hm : m = k
  ·subst hm
   rw [if_pos rfl, if_neg Y62, if_pos Y62]
  ·rw [if_neg hm]
   by_cases h2 : m < k
   ·rw [if_pos h2, if_pos Y62]
   ·rw [if_neg h2, if_neg Y62]
theorem Wk (R : List UInt8) (c : UInt8) (hR : R.length = 32) : zr (c ^^^ R.getD 0 0) 32 (R.tail ++ [0]) = vk R c := by
 have hl : (R.tail ++ [0]).length = 32 := by simp [hR]
 have h0 : R.headD 0 = R.getD 0 0 := by cases R <;> rfl
 apply List.ext_getElem
 ·rw [zM, hl, JL R c hR]
 ·intro m h1 h2
  rw [zM, hl] at h1
  have := ZX (c ^^^ R.getD 0 0) m 32 (R.tail ++ [0]) Y62
  rw [if_pos h1, List.getD_eq_getElem?_getD, List.getElem?_eq_getElem (by rw [zM]; omega), Option.getD_some] at this
  rw [this]
  simp only [vk, List.getElem_mapIdx, h0]
  rw [List.getD_eq_getElem?_getD, List.getElem?_eq_getElem Y62, Option.getD_some]
noncomputable def qcn : Code := ((Tryz.f175.body.bind (qq 15)).getD .skip)
theorem qed (w : World) (a : Go.Act) (hsz : a.tmps.size = 58) (g tb gb go gc k : Nat) (out : List UInt8) (y z : UInt8) (hk : k < 32) (hol : out.length = 32) (hgt : g ≠ tb) (hgb : gb ∉ [g]) (h6 : slot a 6 = .slice (some ⟨g, 0, none⟩) 32 32) (h10 : slot a 10 = .int .i64 (k : Int)) (h4 : slot a 4 = .pointer (some ⟨tb, 0, none⟩)) (h9 : slot a 9 = .int .u8 (y.toNat : Int)) (h5 : slot a 5 = .slice (some ⟨gb, go, none⟩) 33 gc) (hz : w.cell? ⟨gb, go + (31 - k), none⟩ = some (.int .u8 (z.toNat : Int))) (hA : At w g (.cells (out.map u8v).toArray 5)) (hT : At w tb (.cells ut 296)) (Q : Exit -> Go.Act -> World -> Prop)
  (hQ : ∀ (b : Go.Act) (p : World), b.defers = a.defers -> b.tmps.size = a.tmps.size -> (∀ s, s ∉ ([41, 42, 43, 44, 45, 46, 47, 48, 49, 50, 51, 52, 53, 54] : List Nat) -> slot b s = slot a s) -> Fr [g] w p -> At p g (.cells ((vU out k (zd y z)).map u8v).toArray 5) -> Q .normal b p) : Code.wp Tryz.prog qcn Q a w := by
 conv => arg 2; whnf
 refine uj qe qe [some 41, some 42, some 43, some 44, some 45, some 46, some 47, some 48, some 49, some 50, some 51, some 52, some 53, some 54, none] [11, 14] [.rd (.slice (some ⟨g, 0, none⟩) 32 32) 2, .rd (.int .i64 (k : Int)) 2, .rd (.pointer (some ⟨g, k, none⟩)) 2, .rd (.int .u8 ((out.getD k 0).toNat : Int)) 1, .rd (.pointer (some ⟨tb, 0, none⟩)) 2, .rd (.int .u8 (y.toNat : Int)) 2, .rd (.slice (some ⟨gb, go, none⟩) 33 gc) 2, .rd (.int .i64 (k : Int)) 2, .rd (.int .i64 ((31 - k : Nat) : Int)) 2, .rd (.pointer (some ⟨gb, go + (31 - k), none⟩)) 2, .rd (.int .u8 (z.toNat : Int)) 0, .st 0, .rd (.int .u8 ((out.getD k 0 ^^^ zd y z).toNat : Int)) 2, .rd (.pointer (some ⟨g, k, none⟩)) 2, .st 1] (fun j => if j = 0 then (.int .u8 ((zd y z).toNat : Int)) else undef) (fun s p => Fr [g] w p /\ At p g (.cells (if s <= 1 then (out.map u8v).toArray else ((vU out k (zd y z)).map u8v).toArray) 5) /\ At p tb (.cells ut 296)) qe Y69 W8 qe qe qd ?_ ⟨?_, ?_, ?_, ?_, ?_, ?_, ?_, ?_, ?_, ?_, ?_, ?_, ?_, ?_, ?_, trivial⟩ ?_
 ·intro w1 hw1
  exact ⟨hw1.weak, by rw [if_pos qd]; exact hA.keep0 hw1, hT.keep0 hw1⟩
 ·refine ⟨⟨41, rfl⟩, .inl rfl, fun b p s hs hS h => ?_⟩
  have e0 : b.eval (.tmp 6) = .slice (some ⟨g, 0, none⟩) 32 32 := (h.old 6 qd).trans h6
  exact Y1
 ·refine ⟨⟨42, rfl⟩, .inl rfl, fun b p s hs hS h => ?_⟩
  have e0 : b.eval (.tmp 10) = .int .i64 (k : Int) := (h.old 10 qd).trans h10
  exact Y1
 ·refine ⟨⟨43, rfl⟩, .inl rfl, fun b p s hs hS h => ?_⟩
  exact Y25
 ·refine ⟨⟨44, rfl⟩, .inr ⟨14, rfl, by kernel_rfl⟩, fun b p s hs hS h => ?_⟩
  have e0 := h.er 2 43 qe rfl rfl
  have c0 := (show p.cell? ⟨g, k, none⟩ = some (.int .u8 ((out.getD k 0).toNat : Int)) from by have hA := hS.2.1; rw [if_pos hs] at hA; exact Jl hA Y62)
  exact Y22
 ·refine ⟨⟨45, rfl⟩, .inl rfl, fun b p s hs hS h => ?_⟩
  have e0 : b.eval (.tmp 4) = .pointer (some ⟨tb, 0, none⟩) := (h.old 4 qd).trans h4
  exact Y1
 ·refine ⟨⟨46, rfl⟩, .inl rfl, fun b p s hs hS h => ?_⟩
  have e0 : b.eval (.tmp 9) = .int .u8 (y.toNat : Int) := (h.old 9 qd).trans h9
  exact Y1
 ·refine ⟨⟨47, rfl⟩, .inl rfl, fun b p s hs hS h => ?_⟩
  have e0 : b.eval (.tmp 5) = .slice (some ⟨gb, go, none⟩) 33 gc := (h.old 5 qd).trans h5
  exact Y1
 ·refine ⟨⟨48, rfl⟩, .inl rfl, fun b p s hs hS h => ?_⟩
  have e0 : b.eval (.tmp 10) = .int .i64 (k : Int) := (h.old 10 qd).trans h10
  exact Y1
 ·refine ⟨⟨49, rfl⟩, .inl rfl, fun b p s hs hS h => ?_⟩
  have e0 := h.er 7 48 qe rfl rfl
  have ec : ∀ v, b.eval (.const v) = v := fun _ => rfl
  obtain ⟨ρ, hρ⟩ := exq (b.eval)
  rw [hρ] at e0 ec ⊢
  exact ⟨_, by rfl, rfl, by unfold execOp; simp [go_sem, e0, ec, show IntKind.i64.wrap ((31 : Int) - k) = ((31 - k : Nat) : Int) by rw [IntKind.wrap_i64]; omega]⟩
 ·refine ⟨⟨50, rfl⟩, .inl rfl, fun b p s hs hS h => ?_⟩
  have e0 := h.er 6 47 qe rfl rfl
  have e1 := h.er 8 49 qe rfl rfl
  have ec : ∀ v, b.eval (.const v) = v := fun _ => rfl
  obtain ⟨ρ, hρ⟩ := exq (b.eval)
  rw [hρ] at e0 e1 ec ⊢
  exact ⟨_, by rfl, rfl, by unfold execOp; simp [go_sem, e0, e1, ec, show ¬ (33 : Int) <= ((31 - k : Nat) : Int) by omega]⟩
 ·refine ⟨⟨51, rfl⟩, .inr ⟨11, rfl, by kernel_rfl⟩, fun b p s hs hS h => ?_⟩
  have e0 := h.er 9 50 qe rfl rfl
  have c0 := qdK hS.1 hgb hz
  exact Y22
 ·refine ⟨rfl, .inl rfl, fun b p hS h => ?_⟩
  have e0 := h.er 4 45 qe rfl rfl
  have e1 := h.er 5 46 qe rfl rfl
  have e2 := h.er 10 51 qe rfl rfl
  obtain ⟨hf, hA, hT⟩ := hS
  refine jA (K := fun v p' => v = .int .u8 ((zd y z).toNat : Int) /\ Fr [] p p') (fun v p' hv => ⟨⟨hf.trans hv.2.weak, by rw [if_pos qd] at hA ⊢; exact hA.keep0 hv.2, hT.keep0 hv.2⟩, .inr hv.1⟩) ?_
  exact Xp _ Y69 rfl 45 46 51 rfl tb y z e0 e1 e2 hT
 ·refine ⟨⟨53, rfl⟩, .inl rfl, fun b p s hs hS h => ?_⟩
  have e0 := h.er 3 44 qe rfl rfl
  have e1 := (show b.eval (.tmp 52) = .int .u8 ((zd y z).toNat : Int) from h.st 11 _ 52 qe rfl rfl)
  exact Y42
 ·refine ⟨⟨54, rfl⟩, .inl rfl, fun b p s hs hS h => ?_⟩
  exact Y25
 ·refine ⟨rfl, .inr ⟨11, rfl, by kernel_rfl⟩, fun b p hS h => ?_⟩
  have e0 := h.er 13 54 qe rfl rfl
  have e1 := h.er 12 53 qe rfl rfl
  obtain ⟨hf, hA, hT⟩ := hS
  rw [if_pos qd] at hA
  refine jA (K := fun _ p' => Fr [g] w p' /\ At p' g (.cells ((vU out k (zd y z)).map u8v).toArray 5) /\ At p' tb (.cells ut 296)) (fun v p' hv => ⟨by show Fr [g] w p' /\ At p' g (.cells (if 1 + 1 <= 1 then (out.map u8v).toArray else ((vU out k (zd y z)).map u8v).toArray) 5) /\ At p' tb (.cells ut 296); rw [if_neg qd]; exact hv, .inl rfl⟩) ?_
  refine jj (K := fun _ p' => Fr [g] w p' /\ At p' g (.cells ((vU out k (zd y z)).map u8v).toArray 5) /\ At p' tb (.cells ut 296)) _ Y69 ?_
  refine qk (.tmp 54) (.tmp 53) rfl rfl (.int .u8 ((out.getD k 0 ^^^ zd y z).toNat : Int)) e0 e1 hA Y65 qe rfl ?_
  intro p1 f1 a1 _
  exact ⟨rfl, rfl, hf.trans f1, by rw [Uq]; exact a1, hT.keep f1 qai⟩
 ·intro b p h1 h2 h3 hS4 h5
  exact hQ b p h1 h2 (fun s hs => h3 s (fun hm => hs Y87)) hS4.1 (by have := hS4.2.1; rwa [if_neg qd] at this)
theorem Xa {w : World} {b i : Nat} {v : Value} (h : w.cell? ⟨b, i, none⟩ = some v) : b < w.heap.size := by
 unfold World.cell? at h
 rcases Nat.lt_or_ge b w.heap.size with hb | hb
 ·exact hb
 ·rw [Array.getElem?_eq_none hb] at h; simp at h
theorem qbS (w : World) (n : Nat) (h1 : 1 <= n) (h2 : n <= 223) : Calls Tryz.prog 184 #[.int .i64 n] w fun e w' => e = .returned (.bool true) /\ Fr [] w w' := by
 go_enter Tryz.func184, Tryz.ntmps184
 go_wp2
 go_ret
 refine ⟨?_, Fr.refl _ _⟩
 show Ending.returned (.bool (decide ((n : Int) <= 223))) = _
 rw [decide_eq_true Y62]
theorem Ql (n : Nat) : madeCells #[.int .u8 0] n = ((List.replicate n (0 : UInt8)).map u8v).toArray := by
 apply Array.ext
 ·simp [madeCells]
 ·intro i h1 h2
  simp [madeCells, u8v, Nat.mod_one]
theorem qbk {A : Nat -> Prop} {w : World} {b0 o n c : Nat} {xs : List UInt8} (S : List Nat) (h : Bs A w (.slice (some ⟨b0, o, none⟩) n c) xs) (hn : b0 ∉ S) : Bs (fun b => b ∈ S) w (.slice (some ⟨b0, o, none⟩) n c) xs := by
 obtain ⟨a, cap, e, h1, h2, h3⟩ := h
 cases e
 refine ⟨_, _, rfl, h1, h2, ?_⟩
 rcases h3 with h | ⟨b, off, cc, e, fz, he, hA, hb, hc⟩
 ·exact .inl h
 ·cases he
  exact .inr ⟨b0, o, cc, e, fz, rfl, hn, hb, hc⟩
theorem qaL (R : List UInt8) (h : R.length = 32) : ((R.tail ++ R.drop 31).set 31 0) = R.tail ++ [0] := by
 have h1 : R.tail.length = 31 := by simp [h]
 rw [List.set_append_right _ _ Y62, h1]
 congr 1
 obtain ⟨x, hx⟩ : ∃ x, R.drop 31 = [x] := by
  have : (R.drop 31).length = 1 := by simp [h]
  match hR : R.drop 31, this with
  | [x], _ => exact ⟨x, rfl⟩
 rw [hx]; rfl
theorem Wy (wr : World) (g : Nat) (R : List UInt8) (hR : R.length = 32) (hA : At wr g (.cells (R.map u8v).toArray 5)) :
  ∃ w5, (Builtin.copy_ #[22, 22] 3 #[.slice (some ⟨g, 0, none⟩) 32 32, .slice (some ⟨g, 1, none⟩) 31 31]).run Tryz.prog wr = .ok (.int .i64 31) w5 /\ At w5 g (.cells ((R.tail ++ R.drop 31).map u8v).toArray 5) /\ Fr [g] wr w5 := by
 have hcl : (R.tail.map u8v).length = 31 := by simp [hR]
 have hrun := run_copy_row (P := Tryz.prog) wr 22 22 3 5 g 0 32 32 ⟨g, 1, none⟩ 31 31 (R.map u8v).toArray 5 (R.tail.map u8v) Tryz.underlying22 qe hA (by rw [hcl]; rfl) (fun i v hv => by
  have ha : (⟨g, 1, none⟩ : Addr).add i = ⟨g, 1 + i, none⟩ := by unfold Addr.add; split <;> simp_all
  rw [ha, qK hA, <- hv]
  simp [List.getElem?_tail, Nat.add_comm]) (by simp [hR]) (fun v hv => zp R.tail v hv)
 refine ⟨wr.setRow g ((R.map u8v).toArray.toList.take 0 ++ R.tail.map u8v ++ (R.map u8v).toArray.toList.drop (0 + (R.tail.map u8v).length)).toArray, hrun.trans (by rw [hcl]; rfl), ?_, ⟨rfl, rfl, rfl, by simp [World.setRow], fun k hk hn => setRow_other wr g k _ (by simpa using hn)⟩⟩
 have h := setRow_heap wr g (R.map u8v).toArray ((R.map u8v).toArray.toList.take 0 ++ R.tail.map u8v ++ (R.map u8v).toArray.toList.drop (0 + (R.tail.map u8v).length)).toArray 5 (0, 0) hA
 have e : ((R.map u8v).toArray.toList.take 0 ++ R.tail.map u8v ++ (R.map u8v).toArray.toList.drop (0 + (R.tail.map u8v).length)) = (R.tail ++ R.drop 31).map u8v := by
  rw [hcl]; simp [List.map_drop]
 rw [e] at h ⊢
 exact h
theorem qdI (A : Nat -> Prop) (w : World) (v : Value) (ds : List UInt8) (hb : Bs A w v ds) (h1 : 1 <= ds.length) (h2 : ds.length <= 223) :
  Calls Tryz.prog 175 #[v] w fun e w' => ∃ u, e = .returned (.tuple #[u, .nilIface]) /\ qh 5 w.heap.size w' u (Qp ds) /\ Fr [] w w' := by
 have HB := Hdq hb
 obtain ⟨da, dc, rfl, d2, d3, -⟩ := hb
 unfold maxLen at d3
 obtain ⟨i0, hi, hz, hsz, hby⟩ := qR Tryz.infoByte
 obtain ⟨N, hN⟩ := exq (ds.length)
 rw [hN] at HB d2 h1 h2 ⊢
 have HN := Hdq hN
 clear hN
 go_enter Tryz.func175, Tryz.ntmps175
 go_wp2_with fail
 refine (qbS _ N h1 h2).mono ?_
 rintro e w1 ⟨rfl, f1⟩
 have F1 := Hdq f1
 have hs1 := f1.size
 clear f1
 go_wp2_with fail
 refine (Yb _).mono ?_
 rintro e w2 ⟨rfl, hT, f2⟩
 have HT := Hdq hT
 have F2 := Hdq (F1.out.trans f2)
 have ht2 := hT.lt
 clear hT f2
 go_wp2_with fail
 refine (qdh _).mono ?_
 rintro e w3 ⟨u, rfl, hg, f3⟩
 have hgb := hg.bs (A := fun _ => False) qf
 obtain ⟨ga, gc, rfl, g2, g3, -⟩ := id hgb
 rw [UA] at hgb g2 ⊢
 obtain ⟨z0, hz0⟩ : ∃ z, Xg[0]? = some z := ⟨_, List.getElem?_eq_getElem (by rw [UA]; omega)⟩
 obtain ⟨gb, go, rfl, hgc⟩ := vo hgb 0 z0 hz0
 have hgl := Xa hgc
 replace HT := Hdq (HT.out.keep0 f3)
 have F3 := Hdq (F2.out.trans f3)
 have HG := Hdq hgb
 have hs3 := f3.size
 clear hg f3 hz0 hgc g2 g3 hgb
 go_wp2_with (refine wpList_make_row _ rfl (.const (.int .i64 32)) (.const (.int .i64 32)) 22 rfl 5 i0 (.int .u8 0) Tryz.underlying22 hi hz hsz rfl .i64 .i64 32 rfl rfl (by rw [hby]; omega) Y62 ?_)
 have hcs := Ql 32
 have HA := Hdq (show At (w3.alloc (.cells (madeCells #[.int .u8 0] 32) 5)) w3.heap.size (.cells ((Qp (ds.take 0)).map u8v).toArray 5) by rw [hcs]; exact At.new rfl)
 clear hcs
 replace HT := Hdq (show At (w3.alloc (.cells (madeCells #[.int .u8 0] 32) 5)) w1.heap.size (.cells ut 296) from HT.out.al)
 have HF := Hdq (show Fr [] w (w3.alloc (.cells (madeCells #[.int .u8 0] 32) 5)) from Fr.al F3.out)
 replace HG := Hdq (HG.out.keep (Fr.alloc (S := []) w3 (.cells (madeCells #[.int .u8 0] 32) 5)) qf)
 obtain ⟨w4, hw4⟩ := exq (w3.alloc (.cells (madeCells #[.int .u8 0] 32) 5))
 rw [hw4] at HA HT HF HG ⊢
 obtain ⟨tb, htb⟩ := exq (w1.heap.size)
 have hs2 := F2.out.size
 rw [htb] at HT ht2 hs1 ⊢
 obtain ⟨g, hg⟩ := exq (w3.heap.size)
 rw [hg] at HA hgl hs3 ⊢
 have hgw : w.heap.size <= g := by omega
 have hgt : g ≠ tb := by omega
 have hgg := Hdq (show gb ∉ [g] by simp; omega)
 clear hw4 hg htb hi hz hsz hby F1 F2 F3 hs1 hs2 hs3 ht2 hgl
 go_wp2
 go_loopw [21] (fun i wr => ∃ j : Nat, j <= N /\ i = .int .i64 j /\ Hid (At wr g (.cells ((Qp (ds.take j)).map u8v).toArray 5)) /\ Hid (At wr tb (.cells ut 296)) /\ Hid (Fr [] w wr) /\ Hid (Bs (fun b => b ∈ [g]) wr (.slice (some ⟨gb, go, none⟩) 33 gc) Xg)) (fun i _ => N - (intOf i).toNat)
 case atStart =>
  exact ⟨0, by omega, rfl, HA.out, HT.out, HF.out, qbk [g] HG.out hgg.out⟩
 case round =>
  clear HA HT HF HG
  obtain ⟨j, hj, rfl, HA, HT, HF, HG⟩ := hrel
  by_cases hjn : j < N
  ·obtain ⟨x, hx⟩ : ∃ x, ds[j]? = some x := ⟨_, List.getElem?_eq_getElem Y68⟩
   obtain ⟨db, dof, rfl, hcd⟩ := vo HB.out j x hx
   have hcx := zf HF.out hcd
   have HM := Hdq (L9 ds j x hx)
   have HL := Hdq (Zz (ds.take j))
   obtain ⟨R, hR⟩ := exq (Qp (ds.take j))
   rw [hR] at HA HM HL
   have hc0 := Jl HA.out (show 0 < R.length by rw [HL.out]; omega)
   obtain ⟨r0, hr0⟩ := exq (R.getD 0 0)
   rw [hr0] at hc0
   have hxx := u8_xor_u x r0
   have HST := Hdq (show ∀ n, n = 32 -> zr (x ^^^ r0) n (R.tail ++ [0]) = vk R x by rintro n rfl; rw [<- hr0]; exact Wk R x HL.out)
   obtain ⟨y, hy⟩ := exq (x ^^^ r0)
   rw [hy] at hxx HST
   clear hx hcd hR hr0 hy
   obtain ⟨w5, hrun, a5, f5⟩ := Wy wr g R HL.out HA.out
   have HS := Hdq (qaL R HL.out)
   have hl5 : (((R.tail ++ R.drop 31).map u8v).toArray).size = 32 := by simp [HL.out]
   go_wp2_with (first | (refine qk (.tmp 35) (.const (.int .u8 0)) rfl rfl (.int .u8 0) rfl rfl a5 (by rw [hl5]; omega) qe rfl ?_))
   intro w6 f6 a6 hsz6
   clear hsz6
   have HA6 := Hdq (show At w6 g (.cells ((zr y 0 (R.tail ++ [0])).map u8v).toArray 5) by
    show At w6 g (.cells ((R.tail ++ [0]).map u8v).toArray 5)
    rw [<- HS.out, List.map_set]
    simpa [u8v] using a6)
   have HT6 := Hdq ((HT.out.keep f5 qai).keep f6 qai)
   have HF6 := Hdq ((HF.out.then f5 Y79).then f6 Y79)
   have HG6 := Hdq ((HG.out.keep f5 (fun b h => h)).keep f6 (fun b h => h))
   have HL6 := Hdq (show (R.tail ++ [(0 : UInt8)]).length = 32 by simp [HL.out])
   clear hrun a5 f5 a6 f6 HA HT HF HG hc0 hcx hxx hl5 HS
   obtain ⟨R2, hR2⟩ := exq (R.tail ++ [(0 : UInt8)])
   rw [hR2] at HA6 HL6 HST
   clear hR2
   go_wp2
   go_loopw [38] (fun i wr => ∃ k : Nat, k <= 32 /\ i = .int .i64 k /\ Hid (At wr g (.cells ((zr y k R2).map u8v).toArray 5)) /\ Hid (At wr tb (.cells ut 296)) /\ Hid (Fr [] w wr) /\ Hid (Bs (fun b => b ∈ [g]) wr (.slice (some ⟨gb, go, none⟩) 33 gc) Xg)) (fun i _ => 32 - (intOf i).toNat)
   case atStart => exact ⟨0, by omega, rfl, HA6.out, HT6.out, HF6.out, HG6.out⟩
   case round =>
    clear HA6 HT6 HF6 HG6
    obtain ⟨k, hk, rfl, HA, HT, HF, HG⟩ := hrel
    by_cases hkn : k < 32
    ·obtain ⟨z, hz⟩ : ∃ z, Xg[31 - k]? = some z := ⟨_, List.getElem?_eq_getElem (by rw [UA]; omega)⟩
     obtain ⟨gb', go', he, hgc⟩ := vo HG.out (31 - k) z hz
     cases he
     have HR := Hdq (show zr y (k + 1) R2 = vU (zr y k R2) k (zd y z) by simp only [zr]; rw [List.getD_eq_getElem?_getD, hz]; rfl)
     have HLc := Hdq (show (zr y k R2).length = 32 by rw [zM, HL6.out])
     obtain ⟨cur, hcur⟩ := exq (zr y k R2)
     rw [hcur] at HA HR HLc
     clear hz hcur
     have HGC := Hdq hgc
     clear hgc
     go_wp2_with fail
     refine qed _ _ rfl g tb gb go gc k cur y z hkn HLc.out hgt hgg.out rfl rfl rfl rfl rfl HGC.out HA.out HT.out _ ?_
     intro b p h1 h2 h3 hf ha
     obtain ⟨f, hb⟩ := qcF b _ _ h1 h2 h3
     have HA2 := Hdq (show At p g (.cells ((zr y (k + 1) R2).map u8v).toArray 5) by rw [HR.out]; exact ha)
     have HT2 := Hdq (HT.out.keep hf qai)
     have HF2 := Hdq (HF.out.then hf Y79)
     have HG2 := Hdq (HG.out.keep hf (fun b h => h))
     clear h1 h2 h3 hf ha HA HT HF HG HGC HR
     subst hb
     simp only [List.foldl_cons, List.foldl_nil, Go.Act.put, List.setIfInBounds_toArray, List.set_cons_succ, List.set_cons_zero]
     go_wp2
     go_roundw
     case rel => exact ⟨k + 1, by omega, by go_num, HA2.out, HT2.out, HF2.out, HG2.out⟩
     case measure => simp [intOf]; omega
    ·have hk32 : k = 32 := by omega
     have e := HM.out.trans (HST.out k hk32).symm
     have HA2 := Hdq (show At wr g (.cells ((Qp (ds.take (j + 1))).map u8v).toArray 5) by rw [e]; exact HA.out)
     clear HA e HM HST
     subst hk32
     go_wp2
     go_roundw
     case rel => exact ⟨j + 1, by omega, by go_num, HA2.out, HT.out, HF.out, HG.out⟩
     case measure => simp [intOf]; omega
  ·obtain rfl : j = N := by omega
   have HO := Hdq (show qh 5 w.heap.size wr (.slice (some ⟨g, 0, none⟩) 32 32) (Qp (ds.take j)) from by
    have hl := Zz (ds.take j)
    refine ⟨by simp, .inr ⟨g, 32, _, by rw [hl], hgw, HA.out, by rw [hl]; omega, by simp [maxLen], by simp [hl], ?_⟩⟩
    rw [List.take_of_length_le qf])
   have HE := Hdq (show ds.take j = ds from List.take_of_length_le Y68)
   go_wp2
   go_ret2
   exact ⟨_, rfl, by have := HO.out; rwa [HE.out] at this, HF.out⟩
end Go.Proofs.YtnafknkchbfpaaaGreatDoor
