import Derived.Test.YtnafknkchbfpaaaGreatDoorGP
import Derived.Deep.OwnRows
import Derived.Laws.CopyOwn
set_option maxRecDepth 1000000
set_option maxHeartbeats 8000000
namespace Go.Proofs.YtnafknkchbfpaaaGreatDoor
open Go.RowKit Go.Bl
set_option linter.unusedVariables false
theorem Vy {ops : Array Oper} {i : Nat} {b : Go.Act} {p : World} (o : Oper) (ho : ops[i]? = some o) (hg : o.guard = none) (k1 k2 k3 : Nat) (hop : o.op = .call { callee := .value (.func 187), args := #[.tmp k1, .tmp k2, .tmp k3], argTypes := #[280, 5, 5] })
  (tb : Nat) (x y : UInt8) (h1 : b.eval (.tmp k1) = .pointer (some ⟨tb, 0, none⟩)) (h2 : b.eval (.tmp k2) = .int .u8 (x.toNat : Int)) (h3 : b.eval (.tmp k3) = .int .u8 (y.toNat : Int)) (hT : At p tb (.cells uI 296)) :
  opV Tryz.prog ops i b p fun v p' => v = .int .u8 ((qX x y).toNat : Int) /\ Fr [] p p' := by
 have hf : b.eval (.func 187) = .func (.func 187) #[] #[] := rfl
 unfold opV
 simp only [ho, Region.wanted, hg, if_true]
 obtain ⟨ρ, hρ⟩ := exq (b.eval)
 rw [hρ] at h1 h2 h3 hf ⊢
 have hr : (execOp ρ o).run Tryz.prog p = .ok (.enter 187 #[.pointer (some ⟨tb, 0, none⟩), u8v x, u8v y]) p := by
  unfold execOp
  simp [hop, resolve, invoke, go_sem, h1, h2, h3, hf, u8v]
 rw [hr]
 refine (Lf p tb hT x y).mono ?_
 rintro e p' ⟨rfl, hf⟩
 exact ⟨rfl, hf⟩
theorem zX {w : World} {g i : Nat} {t : TypeId} {xs : List UInt8} (h : At w g (.cells (xs.map u8v).toArray t)) (hi : i < xs.length) : w.cell? ⟨g, i, none⟩ = some (.int .u8 ((xs.getD i 0).toNat : Int)) := by
 rw [qE h]
 simp [List.getD_eq_getElem?_getD, hi, u8v]
theorem y7 (out : List UInt8) (i : Nat) (x : UInt8) : ((jY out i x).map u8v).toArray = ((out.map u8v).toArray).setIfInBounds i (.int .u8 ((out.getD i 0 ^^^ x).toNat : Int)) := by
 unfold jY
 rw [List.map_set]
 simp [u8v]
noncomputable def Kf : Code := ((Tryz.f206.body.bind (qn 9)).getD .skip)
theorem KZ (w : World) (a : Go.Act) (hsz : a.tmps.size = 48) (g tb n i k : Nat) (out : List UInt8) (x y : UInt8) (hik : i + k < n) (hn : n <= 1000000) (hol : out.length = n) (hgt : g ≠ tb) (h6 : qd a 6 = .slice (some ⟨g, 0, none⟩) n n) (h7 : qd a 7 = .int .i64 (i : Int)) (h9 : qd a 9 = .int .i64 (k : Int)) (h5 : qd a 5 = .pointer (some ⟨tb, 0, none⟩)) (h8 : qd a 8 = .int .u8 (x.toNat : Int)) (h10 : qd a 10 = .int .u8 (y.toNat : Int)) (hA : At w g (.cells (out.map u8v).toArray 5)) (hT : At w tb (.cells uI 296)) (Q : Exit -> Go.Act -> World -> Prop)
  (hQ : ∀ (b : Go.Act) (p : World), b.defers = a.defers -> b.tmps.size = a.tmps.size -> (∀ s, s ∉ ([32, 33, 34, 35, 36, 37, 38, 39, 40, 41, 42, 43] : List Nat) -> qd b s = qd a s) -> Fr [g] w p -> At p g (.cells ((jY out (i + k) (qX x y)).map u8v).toArray 5) -> Q .normal b p) : Code.wp Tryz.prog Kf Q a w := by
 conv => arg 2; whnf
 refine jR qf qf [some 32, some 33, some 34, some 35, some 36, some 37, some 38, some 39, some 40, some 41, some 42, some 43, none] [9, 12] [.rd (.slice (some ⟨g, 0, none⟩) n n) 2, .rd (.int .i64 (i : Int)) 2, .rd (.int .i64 (k : Int)) 2, .rd (.int .i64 ((i + k : Nat) : Int)) 2, .rd (.pointer (some ⟨g, i + k, none⟩)) 2, .rd (.int .u8 ((out.getD (i + k) 0).toNat : Int)) 1, .rd (.pointer (some ⟨tb, 0, none⟩)) 2, .rd (.int .u8 (x.toNat : Int)) 2, .rd (.int .u8 (y.toNat : Int)) 2, .st 0, .rd (.int .u8 ((out.getD (i + k) 0 ^^^ qX x y).toNat : Int)) 2, .rd (.pointer (some ⟨g, i + k, none⟩)) 2, .st 1] (fun j => if j = 0 then (.int .u8 ((qX x y).toNat : Int)) else undef) (fun s p => Fr [g] w p /\ At p g (.cells (if s <= 1 then (out.map u8v).toArray else ((jY out (i + k) (qX x y)).map u8v).toArray) 5) /\ At p tb (.cells uI 296)) qf qw xz qf qf qe ?_ ⟨?_, ?_, ?_, ?_, ?_, ?_, ?_, ?_, ?_, ?_, ?_, ?_, ?_, trivial⟩ ?_
 ·intro w1 hw1
  exact ⟨hw1.weak, by rw [if_pos qe]; exact hA.keep0 hw1, hT.keep0 hw1⟩
 ·refine ⟨⟨32, rfl⟩, .inl rfl, fun b p s hs hS h => ?_⟩
  have e0 : b.eval (.tmp 6) = .slice (some ⟨g, 0, none⟩) n n := (h.old 6 qe).trans h6
  exact Y2
 ·refine ⟨⟨33, rfl⟩, .inl rfl, fun b p s hs hS h => ?_⟩
  have e0 : b.eval (.tmp 7) = .int .i64 (i : Int) := (h.old 7 qe).trans h7
  exact Y2
 ·refine ⟨⟨34, rfl⟩, .inl rfl, fun b p s hs hS h => ?_⟩
  have e0 : b.eval (.tmp 9) = .int .i64 (k : Int) := (h.old 9 qe).trans h9
  exact Y2
 ·refine ⟨⟨35, rfl⟩, .inl rfl, fun b p s hs hS h => ?_⟩
  have e0 := h.er 1 33 qf rfl rfl
  have e1 := h.er 2 34 qf rfl rfl
  exact Y22
 ·refine ⟨⟨36, rfl⟩, .inl rfl, fun b p s hs hS h => ?_⟩
  have e0 := h.er 0 32 qf rfl rfl
  have e1 := h.er 3 35 qf rfl rfl
  exact Y12
 ·refine ⟨⟨37, rfl⟩, .inr ⟨12, rfl, by kernel_rfl⟩, fun b p s hs hS h => ?_⟩
  have e0 := h.er 4 36 qf rfl rfl
  have c0 := (show p.cell? ⟨g, i + k, none⟩ = some (.int .u8 ((out.getD (i + k) 0).toNat : Int)) from by have hA := hS.2.1; rw [if_pos hs] at hA; exact zX hA Y95)
  exact Y7
 ·refine ⟨⟨38, rfl⟩, .inl rfl, fun b p s hs hS h => ?_⟩
  have e0 : b.eval (.tmp 5) = .pointer (some ⟨tb, 0, none⟩) := (h.old 5 qe).trans h5
  exact Y2
 ·refine ⟨⟨39, rfl⟩, .inl rfl, fun b p s hs hS h => ?_⟩
  have e0 : b.eval (.tmp 8) = .int .u8 (x.toNat : Int) := (h.old 8 qe).trans h8
  exact Y2
 ·refine ⟨⟨40, rfl⟩, .inl rfl, fun b p s hs hS h => ?_⟩
  have e0 : b.eval (.tmp 10) = .int .u8 (y.toNat : Int) := (h.old 10 qe).trans h10
  exact Y2
 ·refine ⟨rfl, .inl rfl, fun b p hS h => ?_⟩
  have e0 := h.er 6 38 qf rfl rfl
  have e1 := h.er 7 39 qf rfl rfl
  have e2 := h.er 8 40 qf rfl rfl
  obtain ⟨hf, hA, hT⟩ := hS
  refine jf (K := fun v p' => v = .int .u8 ((qX x y).toNat : Int) /\ Fr [] p p') (fun v p' hv => ⟨⟨hf.trans hv.2.weak, by rw [if_pos qe] at hA ⊢; exact hA.keep0 hv.2, hT.keep0 hv.2⟩, .inr hv.1⟩) ?_
  exact Vy _ qw rfl 38 39 40 rfl tb x y e0 e1 e2 hT
 ·refine ⟨⟨42, rfl⟩, .inl rfl, fun b p s hs hS h => ?_⟩
  have e0 := h.er 5 37 qf rfl rfl
  have e1 := (show b.eval (.tmp 41) = .int .u8 ((qX x y).toNat : Int) from h.st 9 _ 41 qf rfl rfl)
  exact Y20
 ·refine ⟨⟨43, rfl⟩, .inl rfl, fun b p s hs hS h => ?_⟩
  have e0 := h.er 0 32 qf rfl rfl
  have e1 := h.er 3 35 qf rfl rfl
  exact Y12
 ·refine ⟨rfl, .inr ⟨9, rfl, by kernel_rfl⟩, fun b p hS h => ?_⟩
  have e0 := h.er 11 43 qf rfl rfl
  have e1 := h.er 10 42 qf rfl rfl
  obtain ⟨hf, hA, hT⟩ := hS
  rw [if_pos qe] at hA
  refine jf (K := fun _ p' => Fr [g] w p' /\ At p' g (.cells ((jY out (i + k) (qX x y)).map u8v).toArray 5) /\ At p' tb (.cells uI 296)) (fun v p' hv => ⟨by show Fr [g] w p' /\ At p' g (.cells (if 1 + 1 <= 1 then (out.map u8v).toArray else ((jY out (i + k) (qX x y)).map u8v).toArray) 5) /\ At p' tb (.cells uI 296); rw [if_neg qe]; exact hv, .inl rfl⟩) ?_
  refine qW (K := fun _ p' => Fr [g] w p' /\ At p' g (.cells ((jY out (i + k) (qX x y)).map u8v).toArray 5) /\ At p' tb (.cells uI 296)) _ qw ?_
  refine qj (.tmp 43) (.tmp 42) rfl rfl (.int .u8 ((out.getD (i + k) 0 ^^^ qX x y).toNat : Int)) e0 e1 hA jF qf rfl ?_
  intro p1 f1 a1 _
  exact ⟨rfl, rfl, hf.trans f1, by rw [y7]; exact a1, hT.keep f1 Kh⟩
 ·intro b p h1 h2 h3 h4 h5
  exact hQ b p h1 h2 (fun s hs => h3 s (fun hm => hs vd)) h4.1 (by have := h4.2.1; rwa [if_neg qe] at this)
theorem Fr.of_below {w w' : World} (h : Below w.heap.size w w') : Fr [] w w' := ⟨h.os, h.tape, h.output, h.size, fun k hk _ => h.block k hk⟩
theorem XF (A : Nat -> Prop) (w : World) (v : Value) (zs : List UInt8) (hb : Bs A w v zs) (hne : zs ≠ []) (hl : zs.length <= 1000000) :
  Calls Tryz.prog 215 #[v] w fun e w' => e = .returned (.int .i64 ((Je zs : Int) - 1)) /\ Fr [] w w' := by
 obtain ⟨a, cap, rfl, hI⟩ := qc3 A w v zs hb
 refine (callsIn_wide.1 (qc7 Fence.wide 3 trivial trivial trivial rfl Y95 a zs.length cap zs hl w (hI hne))).mono ?_
 rintro e w' ⟨rfl, h⟩
 exact ⟨rfl, Fr.of_below h⟩
theorem Ls (A : Nat -> Prop) (w : World) (v : Value) (zs : List UInt8) (hb : Bs A w v zs) (hne : zs ≠ []) (hl : zs.length <= 1000000) :
  Calls Tryz.prog 210 #[v] w fun e w' => ∃ u, e = .returned u /\ qi 5 w.heap.size w' u (Zh zs) /\ Fr [] w w' := by
 have HB := Hdq hb
 have HD := Hdq (XF A w v zs hb hne hl)
 have hpl := Wa zs
 obtain ⟨a, cap, rfl, h2, h3, -⟩ := hb
 unfold maxLen at h3
 obtain ⟨m, hm⟩ := exq (Je zs)
 obtain ⟨N, hN⟩ := exq (zs.length)
 have HT := Hdq (show Zh zs = zs.take m by unfold Zh; rw [hm])
 rw [hm] at HD hpl
 rw [hN] at HD hpl hl h2 HB ⊢
 have HN := Hdq hN
 clear hm hN hne
 have hmm : (m : Int) - 1 + 1 = m := by omega
 go_enter Tryz.func210, Tryz.ntmps210
 go_wp2_with fail
 refine HD.out.mono ?_
 rintro e w1 ⟨rfl, hf⟩
 have HF := Hdq hf
 replace HB := Hdq (HB.out.keep hf qg)
 have i1 : m <= cap := by omega
 clear hf HD
 go_wp2_with fail
 have hcut := HB.out.take m hpl
 have hs1 := HF.out.size
 refine (jz A _ _ _ hcut jF).mono ?_
 rintro e w2 ⟨u, rfl, ho, hf⟩
 have HO := Hdq (ho.base hs1)
 have HF2 := Hdq (HF.out.trans hf)
 clear ho hf hcut
 go_wp2
 go_ret
 exact ⟨_, rfl, by rw [HT.out]; exact HO.out, HF2.out⟩
theorem zL {A : Nat -> Prop} {w : World} {v : Value} {xs : List UInt8} (h : Bs A w v xs) : ∃ bo bn bc, v = .slice bo bn bc := by
 obtain ⟨a, cap, rfl, -⟩ := h
 exact ⟨_, _, _, rfl⟩
theorem uF {A : Nat -> Prop} {w : World} {a : Option Addr} {n cap : Nat} {xs : List UInt8} (h : Bs A w (.slice a n cap) xs) (j : Nat) (x : UInt8) (hx : xs[j]? = some x) :
  ∃ b off, a = some ⟨b, off, none⟩ /\ w.cell? ⟨b, off + j, none⟩ = some (.int .u8 (x.toNat : Int)) := by
 obtain ⟨a', cap', e, h2, h3, h4⟩ := h
 cases e
 have hj : j < xs.length := (List.getElem?_eq_some_iff.1 hx).1
 obtain ⟨b, off, rfl, -, hc⟩ := h4.some_of jF
 refine ⟨b, off, rfl, ?_⟩
 rw [hc j Ui, List.getElem?_map, hx]
 rfl
theorem qa6 (A : Nat -> Prop) (w : World) (p q : Value) (ps qs : List UInt8) (hp : Bs A w p ps) (hq : Bs A w q qs) (hpn : 0 < ps.length + qs.length) (hl : ps.length + qs.length <= 1000) :
  Calls Tryz.prog 206 #[p, q] w fun e w' => ∃ u, e = .returned u /\ qi 5 w.heap.size w' u (W6 ps qs) /\ Fr [] w w' := by
 have HP := Hdq hp
 have HQ := Hdq hq
 have hp0 := hpn
 obtain ⟨pa, pc, rfl, p2, p3, hpr⟩ := hp
 obtain ⟨qa, qc, rfl, q2, q3, hqr⟩ := hq
 unfold maxLen at p3 q3
 obtain ⟨i0, hi, hz, hsz, hby⟩ := qO Tryz.infoByte
 obtain ⟨P, hP⟩ := exq (ps.length)
 obtain ⟨Q, hQ⟩ := exq (qs.length)
 rw [hP] at HP p2 hl hp0 ⊢
 rw [hQ] at HQ q2 hl hp0 ⊢
 have HPL := Hdq hP
 have HQL := Hdq hQ
 clear hP hQ hpr hqr hpn
 go_enter Tryz.func206, Tryz.ntmps206
 go_wp2_with fail
 refine (Vd _).mono ?_
 rintro e w1 ⟨rfl, hT, hf⟩
 have hs1 := hf.size
 have hlt := hT.lt
 go_wp2_with (refine wpList_make_row _ rfl (.tmp 16) (.tmp 16) 22 rfl 5 i0 (.int .u8 0) Tryz.underlying22 hi hz hsz rfl .i64 .i64 (P + Q) (by show Value.int .i64 ((P : Int) + (Q : Int)) = _; simp) (by show Value.int .i64 ((P : Int) + (Q : Int)) = _; simp) XU Y95 ?_)
 have hcs : madeCells #[.int .u8 0] (P + Q) = ((List.replicate (P + Q) (0 : UInt8)).map u8v).toArray := by
  apply Array.ext
  ·simp [madeCells]
  ·intro i h1 h2
   simp [madeCells, u8v, Nat.mod_one]
 have HA := Hdq (show At (w1.alloc (.cells (madeCells #[.int .u8 0] (P + Q)) 5)) w1.heap.size (.cells ((zo (ps.take 0) qs 0 (List.replicate (P + Q) 0)).map u8v).toArray 5) by rw [hcs]; exact At.new rfl)
 have HT := Hdq (show At (w1.alloc (.cells (madeCells #[.int .u8 0] (P + Q)) 5)) w.heap.size (.cells uI 296) from hT.al)
 have HF := Hdq (show Fr [] w (w1.alloc (.cells (madeCells #[.int .u8 0] (P + Q)) 5)) from Fr.al hf)
 obtain ⟨w2, hw2⟩ := exq (w1.alloc (.cells (madeCells #[.int .u8 0] (P + Q)) 5))
 rw [hw2] at HA HT HF ⊢
 obtain ⟨g, hg⟩ := exq (w1.heap.size)
 rw [hg] at HA hs1 hlt ⊢
 clear hT hf hcs hw2 hg hi hz hsz hby
 have hgt : g ≠ w.heap.size := by omega
 go_wp2
 go_loopw [20] (fun i wr => ∃ j : Nat, j <= P /\ i = .int .i64 j /\ Hid (At wr g (.cells ((zo (ps.take j) qs 0 (List.replicate (P + Q) 0)).map u8v).toArray 5)) /\ Hid (At wr w.heap.size (.cells uI 296)) /\ Hid (Fr [] w wr)) (fun i _ => P - (intOf i).toNat)
 case atStart => exact ⟨0, by omega, rfl, HA.out, HT.out, HF.out⟩
 case round =>
  clear HA HT HF
  obtain ⟨j, hj, rfl, HA, HT, HF⟩ := hrel
  by_cases hjn : j < P
  ·obtain ⟨x, hx⟩ : ∃ x, ps[j]? = some x := ⟨_, List.getElem?_eq_getElem (by have := HPL.out; omega)⟩
   obtain ⟨pb, po, rfl, hcp⟩ := uF HP.out j x hx
   have hcx := jZ HF.out hcp
   have HM := Hdq (QY ps qs j 0 x (List.replicate (P + Q) 0) hx)
   have HL := Hdq (show (zo (ps.take j) qs 0 (List.replicate (P + Q) 0)).length = P + Q by rw [xu, List.length_replicate])
   obtain ⟨out, ho⟩ := exq (zo (ps.take j) qs 0 (List.replicate (P + Q) 0))
   rw [ho] at HA HM HL
   clear hx hcp ho
   go_wp2
   go_loopw [27] (fun i wr => ∃ k : Nat, k <= Q /\ i = .int .i64 k /\ Hid (At wr g (.cells ((zY x (qs.take k) (0 + j) out).map u8v).toArray 5)) /\ Hid (At wr w.heap.size (.cells uI 296)) /\ Hid (Fr [] w wr)) (fun i _ => Q - (intOf i).toNat)
   case atStart => exact ⟨0, by omega, rfl, HA.out, HT.out, HF.out⟩
   case round =>
    clear HA HT HF hcx
    obtain ⟨k, hk, rfl, HA, HT, HF⟩ := hrel
    by_cases hkn : k < Q
    ·obtain ⟨y, hy⟩ : ∃ y, qs[k]? = some y := ⟨_, List.getElem?_eq_getElem (by have := HQL.out; omega)⟩
     obtain ⟨qb, qo, rfl, hcq⟩ := uF HQ.out k y hy
     have hcy := jZ HF.out hcq
     have HR := Hdq (Q6 x qs k (0 + j) y out hy)
     have HL2 := Hdq (show (zY x (qs.take k) (0 + j) out).length = P + Q by rw [yY, HL.out])
     obtain ⟨cur, hcur⟩ := exq (zY x (qs.take k) (0 + j) out)
     rw [hcur] at HA HR HL2
     clear hy hcq hcur
     go_wp2_with fail
     refine KZ _ _ rfl g w.heap.size (P + Q) j k cur x y Y95 Y95 HL2.out hgt rfl rfl rfl rfl rfl rfl HA.out HT.out _ ?_
     intro b p h1 h2 h3 hf ha
     obtain ⟨f, hb⟩ := ZJ b _ _ h1 h2 h3
     have HA2 := Hdq (show At p g (.cells ((zY x (qs.take (k + 1)) (0 + j) out).map u8v).toArray 5) by rw [HR.out, Nat.zero_add]; exact ha)
     have HT2 := Hdq (HT.out.keep hf Kh)
     have HF2 := Hdq (HF.out.then hf Jc)
     clear h1 h2 h3 hf ha HA HT HF hcy
     subst hb
     simp only [List.foldl_cons, List.foldl_nil, Go.Act.put, List.setIfInBounds_toArray, List.set_cons_succ, List.set_cons_zero]
     go_wp2
     go_roundw
     case rel => exact ⟨k + 1, by omega, by go_num, HA2.out, HT2.out, HF2.out⟩
     case measure => simp [intOf]; omega
    ·obtain rfl : k = Q := by omega
     have HA2 := Hdq (show At wr g (.cells ((zo (ps.take (j + 1)) qs 0 (List.replicate (P + k) 0)).map u8v).toArray 5) by
      rw [HM.out]
      have h := HA.out
      rwa [List.take_of_length_le (by have := HQL.out; omega)] at h)
     clear HA
     go_wp2
     go_roundw
     case rel => exact ⟨j + 1, by omega, by go_num, HA2.out, HT.out, HF.out⟩
     case measure => simp [intOf]; omega
  ·obtain rfl : j = P := by omega
   have hl2 : (zo (ps.take j) qs 0 (List.replicate (j + Q) 0)).length = j + Q := by rw [xu, List.length_replicate]
   have HB := Hdq (show Bs (fun _ => False) wr (.slice (some ⟨g, 0, none⟩) (j + Q) (j + Q)) (zo (ps.take j) qs 0 (List.replicate (j + Q) 0)) from by
    have h := Row.of_block (A := fun _ => False) HA.out qg
    refine ⟨some ⟨g, 0, none⟩, j + Q, by rw [hl2], by rw [hl2]; exact Nat.le_refl _, by simp [maxLen]; omega, by simpa using h⟩)
   have HR := Hdq (show W6 ps qs = Zh (zo (ps.take j) qs 0 (List.replicate (j + Q) 0)) by
    unfold W6
    rw [HPL.out, HQL.out, List.take_of_length_le (by have := HPL.out; omega)])
   have HTR := Hdq (Ls (fun _ => False) wr _ _ HB.out (by intro h; rw [h] at hl2; simp at hl2; omega) (by rw [hl2]; omega))
   have hs2 := HF.out.size
   clear hl2 HA HT HB
   go_wp2_with fail
   refine HTR.out.mono ?_
   rintro e w3 ⟨u, rfl, ho, hf⟩
   have HO := Hdq (ho.base hs2)
   have HF2 := Hdq (HF.out.trans hf)
   clear ho hf HTR
   go_wp2
   go_ret
   exact ⟨_, rfl, by rw [HR.out]; exact HO.out, HF2.out⟩
theorem yV (rs : List UInt8) : ∀ k, (uQ (rs.take k)).length <= 1 + 2 * k
 | 0 => by simp [uQ]
 | k + 1 => by
  cases h : rs[k]? with
  | none =>
   have hl := List.getElem?_eq_none_iff.1 h
   rw [List.take_of_length_le Y95]
   have := yV rs k
   rw [List.take_of_length_le hl] at this
   omega
  | some r =>
   rw [QP rs k r h]
   have := qa9 (uQ (rs.take k)) [r, 1]
   have := yV rs k
   simp at *
   omega
theorem qcv {e : TypeId} {base : Nat} (w : World) (c : Array Value) (xs : List UInt8) (hb : base <= w.heap.size) (hc : c.toList = xs.map u8v) (hl : xs.length <= 1000) : qi e base (w.alloc (.cells c e)) (.slice (some ⟨w.heap.size, 0, none⟩) xs.length xs.length) xs := by
 have hs : c.size = xs.length := by have := congrArg List.length hc; simpa using this
 refine ⟨by simp, .inr ⟨w.heap.size, xs.length, c, rfl, hb, heap_alloc_new _ _, Nat.le_refl _, by simp [maxLen]; omega, by omega, ?_⟩⟩
 rw [List.take_of_length_le jF, hc]
theorem XZ {A : Nat -> Prop} (w : World) (c : Array Value) (e : TypeId) (xs : List UInt8) (hA : ¬ A w.heap.size) (hc : c.toList = xs.map u8v) (hl : xs.length <= 1000) : Bs A (w.alloc (.cells c e)) (.slice (some ⟨w.heap.size, 0, none⟩) xs.length xs.length) xs :=
 ⟨_, _, rfl, Nat.le_refl _, by simp [maxLen]; omega, by
  have := Row.of_block (A := A) (show (w.alloc (.cells c e)).heap[w.heap.size]? = some (.cells c e (0, 0)) from heap_alloc_new _ _) hA
  rwa [hc] at this⟩
theorem KI (A : Nat -> Prop) (w : World) (v : Value) (rs : List UInt8) (hb : Bs A w v rs) (hl : rs.length <= 32) :
  Calls Tryz.prog 201 #[v] w fun e w' => ∃ u, e = .returned u /\ qi 5 w.heap.size w' u (uQ rs) /\ Fr [] w w' := by
 have HB := Hdq hb
 obtain ⟨a, cap, rfl, h2, h3, -⟩ := hb
 unfold maxLen at h3
 obtain ⟨N, hN⟩ := exq (rs.length)
 rw [hN] at HB h2 hl ⊢
 have HN := Hdq hN
 clear hN
 have HO := Hdq (show qi 5 w.heap.size (w.alloc (.cells #[.int .u8 1] 5)) (.slice (some ⟨w.heap.size, 0, none⟩) 1 1) (uQ (rs.take 0)) from qcv w #[.int .u8 1] [1] (Nat.le_refl _) rfl qg)
 go_enter Tryz.func201, Tryz.ntmps201
 go_wp2
 go_loopw [3, 9] (fun o i wr => ∃ j : Nat, j <= N /\ i = .int .i64 j /\ Hid (qi 5 w.heap.size wr o (uQ (rs.take j))) /\ Hid (Fr [] w wr)) (fun _ i _ => N - (intOf i).toNat)
 case atStart => exact ⟨0, by omega, rfl, HO.out, Fr.alloc _ _⟩
 case round =>
  clear HO
  obtain ⟨j, hj, rfl, HO, HF⟩ := hrel
  by_cases hjn : j < N
  ·obtain ⟨x, hx⟩ : ∃ x, rs[j]? = some x := ⟨_, List.getElem?_eq_getElem ux⟩
   obtain ⟨b, off, rfl, hc⟩ := uF HB.out j x hx
   have hcx := jZ HF.out hc
   have HT := Hdq (QP rs j x hx)
   have HL := Hdq (yV rs j)
   obtain ⟨oo, on, oc, rfl⟩ := zL (HO.out.bs (A := fun _ => False) qg)
   clear hx hc
   go_wp2_with fail
   have hbs := XZ (A := fun _ => False) wr #[.int .u8 (x.toNat : Int), .int .u8 1] 5 [x, 1] qg rfl qg
   have hal : Fr [] wr (wr.alloc (.cells #[.int .u8 (x.toNat : Int), .int .u8 1] 5)) := Fr.alloc _ _
   have hs := (HF.out.trans hal).size
   refine (qa6 (fun _ => False) _ _ _ _ _ ((HO.out.keep hal qg).bs qg) hbs qg (by have := HL.out; simp; omega)).mono ?_
   rintro e w2 ⟨u, rfl, ho, hf⟩
   have HO2 := Hdq (show qi 5 w.heap.size w2 u (uQ (rs.take (j + 1))) by rw [HT.out]; exact ho.base hs)
   have HF2 := Hdq ((HF.out.trans hal).trans hf)
   clear ho hf hbs hal HO HF hcx
   go_wp2
   go_roundw
   case rel => exact ⟨j + 1, by omega, by go_num, HO2.out, HF2.out⟩
   case measure => simp [intOf]; omega
  ·obtain rfl : j = N := by omega
   have HE := Hdq (show rs.take j = rs from List.take_of_length_le ux)
   go_wp2
   go_ret
   exact ⟨_, rfl, by have := HO.out; rwa [HE.out] at this, HF.out⟩
theorem qcq (w : World) : Calls Tryz.prog 186 #[] w fun e w' => ∃ u, e = .returned u /\ qi 5 w.heap.size w' u vu /\ Fr [] w w' := by
 go_enter Tryz.func186, Tryz.ntmps186
 go_wp2
 go_loopw [1, 3] (fun o i wr => ∃ j : Nat, j <= 32 /\ i = .int .i64 j /\ Hid (qi 5 w.heap.size wr o ((List.range j).map jA)) /\ Hid (Fr [] w wr)) (fun _ i _ => 32 - (intOf i).toNat)
 case atStart => exact ⟨0, by omega, rfl, qi.nil _ _ _, Fr.refl _ _⟩
 case round =>
  obtain ⟨j, hj, rfl, HO, HF⟩ := hrel
  by_cases hjn : j < 32
  ·go_wp2_with fail
   refine (qce _ j Y95).mono ?_
   rintro e w2 ⟨rfl, hf⟩
   have HO2 := Hdq (HO.out.keep hf qg)
   have HF2 := Hdq (HF.out.trans hf)
   have HR := Hdq (show (List.range (j + 1)).map jA = (List.range j).map jA ++ [jA j] by simp [List.range_succ])
   clear hf HO HF
   unfold u8v
   obtain ⟨x, hx⟩ := exq (jA j)
   rw [hx] at HR ⊢
   clear hx
   have HBL := Hdq (XZ (A := fun _ => False) w2 #[.int .u8 (x.toNat : Int)] 5 [x] qg rfl qg)
   have HO3 := Hdq (HO2.out.keep (Fr.alloc (S := []) w2 (.cells #[.int .u8 (x.toNat : Int)] 5)) qg)
   have HF3 := Hdq (show Fr [] w (w2.alloc (.cells #[.int .u8 (x.toNat : Int)] 5)) from Fr.al HF2.out)
   have hs := HF3.out.size
   go_wp2_with (at_builtin; refine qh (A := fun _ => False) (ys := [x]) (base := w.heap.size) Tryz.underlying22 Tryz.infoByte rfl (.tmp 6) (.tmp 9) rfl rfl rfl HO3.out HBL.out jF hs ?_)
   intro v' w3 h5 h6
   have HO4 := Hdq (show qi 5 w.heap.size w3 v' ((List.range (j + 1)).map jA) by rw [HR.out]; exact h5)
   have HF4 := Hdq (show Fr [] w w3 from qi.fr HO3.out HF3.out h6 (Nat.le_refl _))
   clear h5 h6 HO3 HF3 HBL HO2 HF2
   go_wp2
   go_roundw
   case rel => exact ⟨j + 1, by omega, by go_num, HO4.out, HF4.out⟩
   case measure => simp [intOf]; omega
  ·obtain rfl : j = 32 := by omega
   have HB := Hdq (HO.out.bs (A := fun _ => False) qg)
   have hs := HF.out.size
   obtain ⟨oo, on, oc, rfl⟩ := zL HB.out
   go_wp2_with fail
   refine (KI (fun _ => False) _ _ _ HB.out qg).mono ?_
   rintro e w2 ⟨u, rfl, ho, hf⟩
   have HO2 := Hdq (ho.base hs)
   have HF2 := Hdq (HF.out.trans hf)
   clear ho hf
   go_wp2
   go_ret
   exact ⟨_, rfl, HO2.out, HF2.out⟩
theorem qbo {S : List Nat} {w p : World} {b i : Nat} {v : Value} (h : Fr S w p) (hb : b ∉ S) (hc : w.cell? ⟨b, i, none⟩ = some v) : p.cell? ⟨b, i, none⟩ = some v := by
 unfold World.cell? at hc ⊢
 rcases Nat.lt_or_ge b w.heap.size with hl | hl
 ·rw [h.block b hl hb]; exact hc
 ·rw [Array.getElem?_eq_none hl] at hc; simp at hc
def zK (y : UInt8) : Nat -> List UInt8 -> List UInt8
 | 0, r => r
 | k + 1, r => jY (zK y k r) k (qX y (vu.getD (31 - k) 0))
theorem ud (y : UInt8) : ∀ (k : Nat) (r : List UInt8), (zK y k r).length = r.length
 | 0, _ => rfl
 | k + 1, r => by simp only [zK]; rw [vL, ud y k r]
theorem qbX (l : List UInt8) (i m : Nat) (x : UInt8) (hi : i < l.length) : (jY l i x).getD m 0 = if m = i then l.getD m 0 ^^^ x else l.getD m 0 := by
 unfold jY
 by_cases h : m = i
 ·subst h
  simp [List.getD_eq_getElem?_getD, hi]
 ·simp [List.getD_eq_getElem?_getD, List.getElem?_set_ne (Ne.symm h), h]
theorem J3 (y : UInt8) (m : Nat) : ∀ (k : Nat) (r : List UInt8), k <= r.length -> (zK y k r).getD m 0 = if m < k then r.getD m 0 ^^^ qX y (vu.getD (31 - m) 0) else r.getD m 0
 | 0, r, _ => by rw [if_neg Y95]; rfl
 | k + 1, r, h => by
  simp only [zK]
  rw [qbX _ _ _ _ (by rw [ud]; omega), J3 y m k r Y95]
  by_cases hm : m = k
  ·subst hm
   rw [if_pos rfl, if_neg Y95, if_pos Y95]
  ·rw [if_neg hm]
   by_cases h2 : m < k
   ·rw [if_pos h2, if_pos Y95]
   ·rw [if_neg h2, if_neg Y95]
theorem UR (R : List UInt8) (c : UInt8) (hR : R.length = 32) : zK (c ^^^ R.getD 0 0) 32 (R.tail ++ [0]) = uh R c := by
 have hl : (R.tail ++ [0]).length = 32 := by simp [hR]
 have h0 : R.headD 0 = R.getD 0 0 := by cases R <;> rfl
 apply List.ext_getElem
 ·rw [ud, hl, Q5 R c hR]
 ·intro m h1 h2
  rw [ud, hl] at h1
  have := J3 (c ^^^ R.getD 0 0) m 32 (R.tail ++ [0]) Y95
  rw [if_pos h1, List.getD_eq_getElem?_getD, List.getElem?_eq_getElem (by rw [ud]; omega), Option.getD_some] at this
  rw [this]
  simp only [uh, List.getElem_mapIdx, h0]
  rw [List.getD_eq_getElem?_getD, List.getElem?_eq_getElem Y95, Option.getD_some]
noncomputable def qaN : Code := ((Tryz.f175.body.bind (qn 15)).getD .skip)
theorem qb1 (w : World) (a : Go.Act) (hsz : a.tmps.size = 58) (g tb gb go gc k : Nat) (out : List UInt8) (y z : UInt8) (hk : k < 32) (hol : out.length = 32) (hgt : g ≠ tb) (hgb : gb ∉ [g]) (h6 : qd a 6 = .slice (some ⟨g, 0, none⟩) 32 32) (h10 : qd a 10 = .int .i64 (k : Int)) (h4 : qd a 4 = .pointer (some ⟨tb, 0, none⟩)) (h9 : qd a 9 = .int .u8 (y.toNat : Int)) (h5 : qd a 5 = .slice (some ⟨gb, go, none⟩) 33 gc) (hz : w.cell? ⟨gb, go + (31 - k), none⟩ = some (.int .u8 (z.toNat : Int))) (hA : At w g (.cells (out.map u8v).toArray 5)) (hT : At w tb (.cells uI 296)) (Q : Exit -> Go.Act -> World -> Prop)
  (hQ : ∀ (b : Go.Act) (p : World), b.defers = a.defers -> b.tmps.size = a.tmps.size -> (∀ s, s ∉ ([41, 42, 43, 44, 45, 46, 47, 48, 49, 50, 51, 52, 53, 54] : List Nat) -> qd b s = qd a s) -> Fr [g] w p -> At p g (.cells ((jY out k (qX y z)).map u8v).toArray 5) -> Q .normal b p) : Code.wp Tryz.prog qaN Q a w := by
 conv => arg 2; whnf
 refine jR qf qf [some 41, some 42, some 43, some 44, some 45, some 46, some 47, some 48, some 49, some 50, some 51, some 52, some 53, some 54, none] [11, 14] [.rd (.slice (some ⟨g, 0, none⟩) 32 32) 2, .rd (.int .i64 (k : Int)) 2, .rd (.pointer (some ⟨g, k, none⟩)) 2, .rd (.int .u8 ((out.getD k 0).toNat : Int)) 1, .rd (.pointer (some ⟨tb, 0, none⟩)) 2, .rd (.int .u8 (y.toNat : Int)) 2, .rd (.slice (some ⟨gb, go, none⟩) 33 gc) 2, .rd (.int .i64 (k : Int)) 2, .rd (.int .i64 ((31 - k : Nat) : Int)) 2, .rd (.pointer (some ⟨gb, go + (31 - k), none⟩)) 2, .rd (.int .u8 (z.toNat : Int)) 0, .st 0, .rd (.int .u8 ((out.getD k 0 ^^^ qX y z).toNat : Int)) 2, .rd (.pointer (some ⟨g, k, none⟩)) 2, .st 1] (fun j => if j = 0 then (.int .u8 ((qX y z).toNat : Int)) else undef) (fun s p => Fr [g] w p /\ At p g (.cells (if s <= 1 then (out.map u8v).toArray else ((jY out k (qX y z)).map u8v).toArray) 5) /\ At p tb (.cells uI 296)) qf qw xz qf qf qe ?_ ⟨?_, ?_, ?_, ?_, ?_, ?_, ?_, ?_, ?_, ?_, ?_, ?_, ?_, ?_, ?_, trivial⟩ ?_
 ·intro w1 hw1
  exact ⟨hw1.weak, by rw [if_pos qe]; exact hA.keep0 hw1, hT.keep0 hw1⟩
 ·refine ⟨⟨41, rfl⟩, .inl rfl, fun b p s hs hS h => ?_⟩
  have e0 : b.eval (.tmp 6) = .slice (some ⟨g, 0, none⟩) 32 32 := (h.old 6 qe).trans h6
  exact Y2
 ·refine ⟨⟨42, rfl⟩, .inl rfl, fun b p s hs hS h => ?_⟩
  have e0 : b.eval (.tmp 10) = .int .i64 (k : Int) := (h.old 10 qe).trans h10
  exact Y2
 ·refine ⟨⟨43, rfl⟩, .inl rfl, fun b p s hs hS h => ?_⟩
  exact Y37
 ·refine ⟨⟨44, rfl⟩, .inr ⟨14, rfl, by kernel_rfl⟩, fun b p s hs hS h => ?_⟩
  have e0 := h.er 2 43 qf rfl rfl
  have c0 := (show p.cell? ⟨g, k, none⟩ = some (.int .u8 ((out.getD k 0).toNat : Int)) from by have hA := hS.2.1; rw [if_pos hs] at hA; exact zX hA Y95)
  exact Y7
 ·refine ⟨⟨45, rfl⟩, .inl rfl, fun b p s hs hS h => ?_⟩
  have e0 : b.eval (.tmp 4) = .pointer (some ⟨tb, 0, none⟩) := (h.old 4 qe).trans h4
  exact Y2
 ·refine ⟨⟨46, rfl⟩, .inl rfl, fun b p s hs hS h => ?_⟩
  have e0 : b.eval (.tmp 9) = .int .u8 (y.toNat : Int) := (h.old 9 qe).trans h9
  exact Y2
 ·refine ⟨⟨47, rfl⟩, .inl rfl, fun b p s hs hS h => ?_⟩
  have e0 : b.eval (.tmp 5) = .slice (some ⟨gb, go, none⟩) 33 gc := (h.old 5 qe).trans h5
  exact Y2
 ·refine ⟨⟨48, rfl⟩, .inl rfl, fun b p s hs hS h => ?_⟩
  have e0 : b.eval (.tmp 10) = .int .i64 (k : Int) := (h.old 10 qe).trans h10
  exact Y2
 ·refine ⟨⟨49, rfl⟩, .inl rfl, fun b p s hs hS h => ?_⟩
  have e0 := h.er 7 48 qf rfl rfl
  have ec : ∀ v, b.eval (.const v) = v := fun _ => rfl
  obtain ⟨ρ, hρ⟩ := exq (b.eval)
  rw [hρ] at e0 ec ⊢
  exact ⟨_, by rfl, rfl, by unfold execOp; simp [go_sem, e0, ec, show IntKind.i64.wrap ((31 : Int) - k) = ((31 - k : Nat) : Int) by rw [IntKind.wrap_i64]; omega]⟩
 ·refine ⟨⟨50, rfl⟩, .inl rfl, fun b p s hs hS h => ?_⟩
  have e0 := h.er 6 47 qf rfl rfl
  have e1 := h.er 8 49 qf rfl rfl
  have ec : ∀ v, b.eval (.const v) = v := fun _ => rfl
  obtain ⟨ρ, hρ⟩ := exq (b.eval)
  rw [hρ] at e0 e1 ec ⊢
  exact ⟨_, by rfl, rfl, by unfold execOp; simp [go_sem, e0, e1, ec, show ¬ (33 : Int) <= ((31 - k : Nat) : Int) by omega]⟩
 ·refine ⟨⟨51, rfl⟩, .inr ⟨11, rfl, by kernel_rfl⟩, fun b p s hs hS h => ?_⟩
  have e0 := h.er 9 50 qf rfl rfl
  have c0 := qbo hS.1 hgb hz
  exact Y7
 ·refine ⟨rfl, .inl rfl, fun b p hS h => ?_⟩
  have e0 := h.er 4 45 qf rfl rfl
  have e1 := h.er 5 46 qf rfl rfl
  have e2 := h.er 10 51 qf rfl rfl
  obtain ⟨hf, hA, hT⟩ := hS
  refine jf (K := fun v p' => v = .int .u8 ((qX y z).toNat : Int) /\ Fr [] p p') (fun v p' hv => ⟨⟨hf.trans hv.2.weak, by rw [if_pos qe] at hA ⊢; exact hA.keep0 hv.2, hT.keep0 hv.2⟩, .inr hv.1⟩) ?_
  exact Vy _ qw rfl 45 46 51 rfl tb y z e0 e1 e2 hT
 ·refine ⟨⟨53, rfl⟩, .inl rfl, fun b p s hs hS h => ?_⟩
  have e0 := h.er 3 44 qf rfl rfl
  have e1 := (show b.eval (.tmp 52) = .int .u8 ((qX y z).toNat : Int) from h.st 11 _ 52 qf rfl rfl)
  exact Y20
 ·refine ⟨⟨54, rfl⟩, .inl rfl, fun b p s hs hS h => ?_⟩
  exact Y37
 ·refine ⟨rfl, .inr ⟨11, rfl, by kernel_rfl⟩, fun b p hS h => ?_⟩
  have e0 := h.er 13 54 qf rfl rfl
  have e1 := h.er 12 53 qf rfl rfl
  obtain ⟨hf, hA, hT⟩ := hS
  rw [if_pos qe] at hA
  refine jf (K := fun _ p' => Fr [g] w p' /\ At p' g (.cells ((jY out k (qX y z)).map u8v).toArray 5) /\ At p' tb (.cells uI 296)) (fun v p' hv => ⟨by show Fr [g] w p' /\ At p' g (.cells (if 1 + 1 <= 1 then (out.map u8v).toArray else ((jY out k (qX y z)).map u8v).toArray) 5) /\ At p' tb (.cells uI 296); rw [if_neg qe]; exact hv, .inl rfl⟩) ?_
  refine qW (K := fun _ p' => Fr [g] w p' /\ At p' g (.cells ((jY out k (qX y z)).map u8v).toArray 5) /\ At p' tb (.cells uI 296)) _ qw ?_
  refine qj (.tmp 54) (.tmp 53) rfl rfl (.int .u8 ((out.getD k 0 ^^^ qX y z).toNat : Int)) e0 e1 hA jF qf rfl ?_
  intro p1 f1 a1 _
  exact ⟨rfl, rfl, hf.trans f1, by rw [y7]; exact a1, hT.keep f1 Kh⟩
 ·intro b p h1 h2 h3 hS4 h5
  exact hQ b p h1 h2 (fun s hs => h3 s (fun hm => hs vd)) hS4.1 (by have := hS4.2.1; rwa [if_neg qe] at this)
theorem UG {w : World} {b i : Nat} {v : Value} (h : w.cell? ⟨b, i, none⟩ = some v) : b < w.heap.size := by
 unfold World.cell? at h
 rcases Nat.lt_or_ge b w.heap.size with hb | hb
 ·exact hb
 ·rw [Array.getElem?_eq_none hb] at h; simp at h
theorem L1 (w : World) (n : Nat) (h1 : 1 <= n) (h2 : n <= 223) : Calls Tryz.prog 184 #[.int .i64 n] w fun e w' => e = .returned (.bool true) /\ Fr [] w w' := by
 go_enter Tryz.func184, Tryz.ntmps184
 go_wp2
 go_ret
 refine ⟨?_, Fr.refl _ _⟩
 show Ending.returned (.bool (decide ((n : Int) <= 223))) = _
 rw [decide_eq_true Y95]
theorem yO (n : Nat) : madeCells #[.int .u8 0] n = ((List.replicate n (0 : UInt8)).map u8v).toArray := by
 apply Array.ext
 ·simp [madeCells]
 ·intro i h1 h2
  simp [madeCells, u8v, Nat.mod_one]
theorem qak {A : Nat -> Prop} {w : World} {b0 o n c : Nat} {xs : List UInt8} (S : List Nat) (h : Bs A w (.slice (some ⟨b0, o, none⟩) n c) xs) (hn : b0 ∉ S) : Bs (fun b => b ∈ S) w (.slice (some ⟨b0, o, none⟩) n c) xs := by
 obtain ⟨a, cap, e, h1, h2, h3⟩ := h
 cases e
 refine ⟨_, _, rfl, h1, h2, ?_⟩
 rcases h3 with h | ⟨b, off, cc, e, fz, he, hA, hb, hc⟩
 ·exact .inl h
 ·cases he
  exact .inr ⟨b0, o, cc, e, fz, rfl, hn, hb, hc⟩
theorem WV (R : List UInt8) (h : R.length = 32) : ((R.tail ++ R.drop 31).set 31 0) = R.tail ++ [0] := by
 have h1 : R.tail.length = 31 := by simp [h]
 rw [List.set_append_right _ _ Y95, h1]
 congr 1
 obtain ⟨x, hx⟩ : ∃ x, R.drop 31 = [x] := by
  have : (R.drop 31).length = 1 := by simp [h]
  match hR : R.drop 31, this with
  | [x], _ => exact ⟨x, rfl⟩
 rw [hx]; rfl
theorem Yj (wr : World) (g : Nat) (R : List UInt8) (hR : R.length = 32) (hA : At wr g (.cells (R.map u8v).toArray 5)) :
  ∃ w5, (Builtin.copy_ #[22, 22] 3 #[.slice (some ⟨g, 0, none⟩) 32 32, .slice (some ⟨g, 1, none⟩) 31 31]).run Tryz.prog wr = .ok (.int .i64 31) w5 /\ At w5 g (.cells ((R.tail ++ R.drop 31).map u8v).toArray 5) /\ Fr [g] wr w5 := by
 have hcl : (R.tail.map u8v).length = 31 := by simp [hR]
 have hrun := run_copy_row (P := Tryz.prog) wr 22 22 3 5 g 0 32 32 ⟨g, 1, none⟩ 31 31 (R.map u8v).toArray 5 (R.tail.map u8v) Tryz.underlying22 qf hA (by rw [hcl]; rfl) (fun i v hv => by
  have ha : (⟨g, 1, none⟩ : Addr).add i = ⟨g, 1 + i, none⟩ := by unfold Addr.add; split <;> simp_all
  rw [ha, qE hA, <- hv]
  simp [List.getElem?_tail, Nat.add_comm]) (by simp [hR]) (fun v hv => jN R.tail v hv)
 refine ⟨wr.setRow g ((R.map u8v).toArray.toList.take 0 ++ R.tail.map u8v ++ (R.map u8v).toArray.toList.drop (0 + (R.tail.map u8v).length)).toArray, hrun.trans (by rw [hcl]; rfl), ?_, ⟨rfl, rfl, rfl, by simp [World.setRow], fun k hk hn => setRow_other wr g k _ (by simpa using hn)⟩⟩
 have h := setRow_heap wr g (R.map u8v).toArray ((R.map u8v).toArray.toList.take 0 ++ R.tail.map u8v ++ (R.map u8v).toArray.toList.drop (0 + (R.tail.map u8v).length)).toArray 5 (0, 0) hA
 have e : ((R.map u8v).toArray.toList.take 0 ++ R.tail.map u8v ++ (R.map u8v).toArray.toList.drop (0 + (R.tail.map u8v).length)) = (R.tail ++ R.drop 31).map u8v := by
  rw [hcl]; simp [List.map_drop]
 rw [e] at h ⊢
 exact h
theorem qbP (A : Nat -> Prop) (w : World) (v : Value) (ds : List UInt8) (hb : Bs A w v ds) (h1 : 1 <= ds.length) (h2 : ds.length <= 223) :
  Calls Tryz.prog 175 #[v] w fun e w' => ∃ u, e = .returned (.tuple #[u, .nilIface]) /\ qi 5 w.heap.size w' u (zl ds) /\ Fr [] w w' := by
 have HB := Hdq hb
 obtain ⟨da, dc, rfl, d2, d3, -⟩ := hb
 unfold maxLen at d3
 obtain ⟨i0, hi, hz, hsz, hby⟩ := qO Tryz.infoByte
 obtain ⟨N, hN⟩ := exq (ds.length)
 rw [hN] at HB d2 h1 h2 ⊢
 have HN := Hdq hN
 clear hN
 go_enter Tryz.func175, Tryz.ntmps175
 go_wp2_with fail
 refine (L1 _ N h1 h2).mono ?_
 rintro e w1 ⟨rfl, f1⟩
 have F1 := Hdq f1
 have hs1 := f1.size
 clear f1
 go_wp2_with fail
 refine (Vd _).mono ?_
 rintro e w2 ⟨rfl, hT, f2⟩
 have HT := Hdq hT
 have F2 := Hdq (F1.out.trans f2)
 have ht2 := hT.lt
 clear hT f2
 go_wp2_with fail
 refine (qcq _).mono ?_
 rintro e w3 ⟨u, rfl, hg, f3⟩
 have hgb := hg.bs (A := fun _ => False) qg
 obtain ⟨ga, gc, rfl, g2, g3, -⟩ := id hgb
 rw [Qn] at hgb g2 ⊢
 obtain ⟨z0, hz0⟩ : ∃ z, vu[0]? = some z := ⟨_, List.getElem?_eq_getElem (by rw [Qn]; omega)⟩
 obtain ⟨gb, go, rfl, hgc⟩ := uF hgb 0 z0 hz0
 have hgl := UG hgc
 replace HT := Hdq (HT.out.keep0 f3)
 have F3 := Hdq (F2.out.trans f3)
 have HG := Hdq hgb
 have hs3 := f3.size
 clear hg f3 hz0 hgc g2 g3 hgb
 go_wp2_with (refine wpList_make_row _ rfl (.const (.int .i64 32)) (.const (.int .i64 32)) 22 rfl 5 i0 (.int .u8 0) Tryz.underlying22 hi hz hsz rfl .i64 .i64 32 rfl rfl XU Y95 ?_)
 have hcs := yO 32
 have HA := Hdq (show At (w3.alloc (.cells (madeCells #[.int .u8 0] 32) 5)) w3.heap.size (.cells ((zl (ds.take 0)).map u8v).toArray 5) by rw [hcs]; exact At.new rfl)
 clear hcs
 replace HT := Hdq (show At (w3.alloc (.cells (madeCells #[.int .u8 0] 32) 5)) w1.heap.size (.cells uI 296) from HT.out.al)
 have HF := Hdq (show Fr [] w (w3.alloc (.cells (madeCells #[.int .u8 0] 32) 5)) from Fr.al F3.out)
 replace HG := Hdq (HG.out.keep (Fr.alloc (S := []) w3 (.cells (madeCells #[.int .u8 0] 32) 5)) qg)
 obtain ⟨w4, hw4⟩ := exq (w3.alloc (.cells (madeCells #[.int .u8 0] 32) 5))
 rw [hw4] at HA HT HF HG ⊢
 obtain ⟨tb, htb⟩ := exq (w1.heap.size)
 have hs2 := F2.out.size
 rw [htb] at HT ht2 hs1 ⊢
 obtain ⟨g, hg⟩ := exq (w3.heap.size)
 rw [hg] at HA hgl hs3 ⊢
 have hgw : w.heap.size <= g := by omega
 have hgt : g ≠ tb := by omega
 have hgg := Hdq (show gb ∉ [g] by simp; omega)
 clear hw4 hg htb hi hz hsz hby F1 F2 F3 hs1 hs2 hs3 ht2 hgl
 go_wp2
 go_loopw [21] (fun i wr => ∃ j : Nat, j <= N /\ i = .int .i64 j /\ Hid (At wr g (.cells ((zl (ds.take j)).map u8v).toArray 5)) /\ Hid (At wr tb (.cells uI 296)) /\ Hid (Fr [] w wr) /\ Hid (Bs (fun b => b ∈ [g]) wr (.slice (some ⟨gb, go, none⟩) 33 gc) vu)) (fun i _ => N - (intOf i).toNat)
 case atStart =>
  exact ⟨0, by omega, rfl, HA.out, HT.out, HF.out, qak [g] HG.out hgg.out⟩
 case round =>
  clear HA HT HF HG
  obtain ⟨j, hj, rfl, HA, HT, HF, HG⟩ := hrel
  by_cases hjn : j < N
  ·obtain ⟨x, hx⟩ : ∃ x, ds[j]? = some x := ⟨_, List.getElem?_eq_getElem ux⟩
   obtain ⟨db, dof, rfl, hcd⟩ := uF HB.out j x hx
   have hcx := jZ HF.out hcd
   have HM := Hdq (ZL ds j x hx)
   have HL := Hdq (zE (ds.take j))
   obtain ⟨R, hR⟩ := exq (zl (ds.take j))
   rw [hR] at HA HM HL
   have hc0 := zX HA.out (show 0 < R.length by rw [HL.out]; omega)
   obtain ⟨r0, hr0⟩ := exq (R.getD 0 0)
   rw [hr0] at hc0
   have hxx := uk x r0
   have HST := Hdq (show ∀ n, n = 32 -> zK (x ^^^ r0) n (R.tail ++ [0]) = uh R x by rintro n rfl; rw [<- hr0]; exact UR R x HL.out)
   obtain ⟨y, hy⟩ := exq (x ^^^ r0)
   rw [hy] at hxx HST
   clear hx hcd hR hr0 hy
   obtain ⟨w5, hrun, a5, f5⟩ := Yj wr g R HL.out HA.out
   have HS := Hdq (WV R HL.out)
   have hl5 : (((R.tail ++ R.drop 31).map u8v).toArray).size = 32 := by simp [HL.out]
   go_wp2_with (first | (refine qj (.tmp 35) (.const (.int .u8 0)) rfl rfl (.int .u8 0) rfl rfl a5 (by rw [hl5]; omega) qf rfl ?_))
   intro w6 f6 a6 hsz6
   clear hsz6
   have HA6 := Hdq (show At w6 g (.cells ((zK y 0 (R.tail ++ [0])).map u8v).toArray 5) by
    show At w6 g (.cells ((R.tail ++ [0]).map u8v).toArray 5)
    rw [<- HS.out, List.map_set]
    simpa [u8v] using a6)
   have HT6 := Hdq ((HT.out.keep f5 Kh).keep f6 Kh)
   have HF6 := Hdq ((HF.out.then f5 Jc).then f6 Jc)
   have HG6 := Hdq ((HG.out.keep f5 (fun b h => h)).keep f6 (fun b h => h))
   have HL6 := Hdq (show (R.tail ++ [(0 : UInt8)]).length = 32 by simp [HL.out])
   clear hrun a5 f5 a6 f6 HA HT HF HG hc0 hcx hxx hl5 HS
   obtain ⟨R2, hR2⟩ := exq (R.tail ++ [(0 : UInt8)])
   rw [hR2] at HA6 HL6 HST
   clear hR2
   go_wp2
   go_loopw [38] (fun i wr => ∃ k : Nat, k <= 32 /\ i = .int .i64 k /\ Hid (At wr g (.cells ((zK y k R2).map u8v).toArray 5)) /\ Hid (At wr tb (.cells uI 296)) /\ Hid (Fr [] w wr) /\ Hid (Bs (fun b => b ∈ [g]) wr (.slice (some ⟨gb, go, none⟩) 33 gc) vu)) (fun i _ => 32 - (intOf i).toNat)
   case atStart => exact ⟨0, by omega, rfl, HA6.out, HT6.out, HF6.out, HG6.out⟩
   case round =>
    clear HA6 HT6 HF6 HG6
    obtain ⟨k, hk, rfl, HA, HT, HF, HG⟩ := hrel
    by_cases hkn : k < 32
    ·obtain ⟨z, hz⟩ : ∃ z, vu[31 - k]? = some z := ⟨_, List.getElem?_eq_getElem (by rw [Qn]; omega)⟩
     obtain ⟨gb', go', he, hgc⟩ := uF HG.out (31 - k) z hz
     cases he
     have HR := Hdq (show zK y (k + 1) R2 = jY (zK y k R2) k (qX y z) by simp only [zK]; rw [List.getD_eq_getElem?_getD, hz]; rfl)
     have HLc := Hdq (show (zK y k R2).length = 32 by rw [ud, HL6.out])
     obtain ⟨cur, hcur⟩ := exq (zK y k R2)
     rw [hcur] at HA HR HLc
     clear hz hcur
     have HGC := Hdq hgc
     clear hgc
     go_wp2_with fail
     refine qb1 _ _ rfl g tb gb go gc k cur y z hkn HLc.out hgt hgg.out rfl rfl rfl rfl rfl HGC.out HA.out HT.out _ ?_
     intro b p h1 h2 h3 hf ha
     obtain ⟨f, hb⟩ := ZJ b _ _ h1 h2 h3
     have HA2 := Hdq (show At p g (.cells ((zK y (k + 1) R2).map u8v).toArray 5) by rw [HR.out]; exact ha)
     have HT2 := Hdq (HT.out.keep hf Kh)
     have HF2 := Hdq (HF.out.then hf Jc)
     have HG2 := Hdq (HG.out.keep hf (fun b h => h))
     clear h1 h2 h3 hf ha HA HT HF HG HGC HR
     subst hb
     simp only [List.foldl_cons, List.foldl_nil, Go.Act.put, List.setIfInBounds_toArray, List.set_cons_succ, List.set_cons_zero]
     go_wp2
     go_roundw
     case rel => exact ⟨k + 1, by omega, by go_num, HA2.out, HT2.out, HF2.out, HG2.out⟩
     case measure => simp [intOf]; omega
    ·have hk32 : k = 32 := by omega
     have e := HM.out.trans (HST.out k hk32).symm
     have HA2 := Hdq (show At wr g (.cells ((zl (ds.take (j + 1))).map u8v).toArray 5) by rw [e]; exact HA.out)
     clear HA e HM HST
     subst hk32
     go_wp2
     go_roundw
     case rel => exact ⟨j + 1, by omega, by go_num, HA2.out, HT.out, HF.out, HG.out⟩
     case measure => simp [intOf]; omega
  ·obtain rfl : j = N := by omega
   have HO := Hdq (show qi 5 w.heap.size wr (.slice (some ⟨g, 0, none⟩) 32 32) (zl (ds.take j)) from by
    have hl := zE (ds.take j)
    refine ⟨by simp, .inr ⟨g, 32, _, by rw [hl], hgw, HA.out, by rw [hl]; omega, by simp [maxLen], by simp [hl], ?_⟩⟩
    rw [List.take_of_length_le qg])
   have HE := Hdq (show ds.take j = ds from List.take_of_length_le ux)
   go_wp2
   go_ret2
   exact ⟨_, rfl, by have := HO.out; rwa [HE.out] at this, HF.out⟩
end Go.Proofs.YtnafknkchbfpaaaGreatDoor
