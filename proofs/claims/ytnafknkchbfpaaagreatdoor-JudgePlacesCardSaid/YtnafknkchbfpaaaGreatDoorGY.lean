import Derived.Test.YtnafknkchbfpaaaGreatDoorGW
import Derived.Test.YtnafknkchbfpaaaGreatDoorGX
set_option linter.unusedVariables false
set_option linter.unusedSimpArgs false
set_option maxRecDepth 1000000
set_option maxHeartbeats 8000000
namespace Go.Proofs.YtnafknkchbfpaaaGreatDoor
open Go.RowKit Go.Bl
noncomputable def qfD : Code := ((Tryz.f105.body.bind (qr 1)).getD .skip)
def X6 (Z kb g1 g2 : Nat) (v : Value) (key : List UInt8) (ls : List (Value × List UInt8)) (k : Nat) (b : Go.Act) (p : World) : Prop :=
 match k with
 | 0 => slot b 6 = v
 | 1 => jr 22 Z p (slot b 7) (ls.map (·.1)) /\ ∀ q, (slot b 7).ownBlock = some q -> q < p.heap.size
 | 2 => slot b 8 = .pointer (some ⟨kb, 0, none⟩)
 | 3 => slot b 9 = .pointer (some ⟨kb, 0, none⟩)
 | 4 => slot b 10 = .pointer (some ⟨kb, 0, none⟩)
 | 5 => slot b 11 = .slice (some ⟨g1, 0, none⟩) 64 64
 | 6 => ∃ g, slot b 12 = .slice (some ⟨g, 0, none⟩) 1 1 /\ Z <= g /\ At p g (.cells #[.slice (some ⟨g1, 0, none⟩) 64 64] 22)
 | 7 => jr 22 Z p (slot b 13) (.slice (some ⟨g1, 0, none⟩) 64 64 :: ls.map (·.1))
 | 8 => slot b 14 = .agg ((qH (vg key ++ jd ls)).map u8v).toArray
 | 9 => ∃ g c, slot b 5 = .pointer (some ⟨g, 0, none⟩) /\ Z <= g /\ At p g (.cells c 58) /\ c.size = 32
 | 10 => ∃ g, slot b 5 = .pointer (some ⟨g, 0, none⟩) /\ Z <= g /\ At p g (.cells ((qH (vg key ++ jd ls)).map u8v).toArray 58)
 | _ => True
def qen (Z kb g1 g2 : Nat) (v : Value) (key : List UInt8) (ls : List (Value × List UInt8)) (k : Nat) (b : Go.Act) (p : World) : Prop :=
 match k with
 | 0 => ∀ q g, (slot b 7).ownBlock = some q -> slot b 12 = .slice (some ⟨g, 0, none⟩) 1 1 -> g ≠ q
 | _ => True
theorem QJ (Z kb g1 g2 : Nat) (v : Value) (key : List UInt8) (ls : List (Value × List UInt8)) : ∀ (k : Nat) (b : Go.Act) (p p' : World), Fr [] p p' -> X6 Z kb g1 g2 v key ls k b p -> X6 Z kb g1 g2 v key ls k b p'
 | 0, b, p, p', hf, h => h
 | 1, b, p, p', hf, h => ⟨h.1.keep0 hf, fun q hq => Nat.lt_of_lt_of_le (h.2 q hq) hf.size⟩
 | 2, b, p, p', hf, h => h
 | 3, b, p, p', hf, h => h
 | 4, b, p, p', hf, h => h
 | 5, b, p, p', hf, h => h
 | 6, b, p, p', hf, h => let ⟨g, h1, h2, h3⟩ := h; ⟨g, h1, h2, h3.keep0 hf⟩
 | 7, b, p, p', hf, h => h.keep0 hf
 | 8, b, p, p', hf, h => h
 | 9, b, p, p', hf, h => let ⟨g, c, h1, h2, h3, h4⟩ := h; ⟨g, c, h1, h2, h3.keep0 hf, h4⟩
 | 10, b, p, p', hf, h => let ⟨g, h1, h2, h3⟩ := h; ⟨g, h1, h2, h3.keep0 hf⟩
 | k + 11, b, p, p', hf, h => trivial
theorem yl (Z kb g1 g2 : Nat) (v : Value) (key : List UInt8) (ls : List (Value × List UInt8)) : ∀ (k : Nat) (b : Go.Act) (p p' : World), Fr [] p p' -> qen Z kb g1 g2 v key ls k b p -> qen Z kb g1 g2 v key ls k b p'
 | 0, b, p, p', hf, h => h
 | k + 1, b, p, p', hf, h => trivial
theorem ko1 (Z kb g1 g2 : Nat) (v : Value) (key : List UInt8) (ls : List (Value × List UInt8)) (w : World) (a : Go.Act) (hsz : a.tmps.size = 22) (h0 : slot a 0 = .pointer (some ⟨kb, 0, none⟩)) (h1 : slot a 1 = v) (hZ : w.heap.size = Z) (hK : At w kb (.cells #[.slice (some ⟨g1, 0, none⟩) 64 64, .slice (some ⟨g2, 0, none⟩) 64 64] 236)) (hI : At w g1 (.cells ((vg key).map u8v).toArray 233)) (hR : RdB (fun b => w.heap.size <= b) w v ls) (hS : SG w) (hn : 1 <= ls.length) (hl : (jd ls).length <= 90000000) (hls : ls.length <= 1000) (Q : Exit -> Go.Act -> World -> Prop)
  (hQ : ∀ (b : Go.Act) (p : World) (g : Nat), b.defers = a.defers -> b.tmps.size = 22 -> (∀ s, some s ∉ ([some 6, some 7, some 8, some 9, some 10, some 11, some 12, some 13, some 14, some 5, none] : List (Option Nat)) -> slot b s = slot a s) -> Fr [] w p -> slot b 5 = .pointer (some ⟨g, 0, none⟩) -> Z <= g -> At p g (.cells ((qH (vg key ++ jd ls)).map u8v).toArray 58) -> Q .normal b p) : Code.wp Tryz.prog qfD Q a w := by
 conv => arg 2; whnf
 refine jc [] (X6 Z kb g1 g2 v key ls) (qen Z kb g1 g2 v key ls) [some 6, some 7, some 8, some 9, some 10, some 11, some 12, some 13, some 14, some 5, none] [[6], [7], [8], [9], [10], [11], [12], [13], [14], [5], [5]] [[1, 6]] [[7, 12]] [(1, 7), (6, 7), (7, 8), (9, 10)] qb qb qb qb qb qa ?_ ?_ ?_ ?_ ?_
 ·intro w1 hw1 k hk1 hk2
  have hk3 : 11 <= k := hk1
  have hk4 : k < 11 := hk2
  clear hk1 hk2
  omega
 ·intro k b b' p hs h
  match k with
  | 0 => show slot b' 6 = v; rw [<- hs 6 qa]; exact h
  | 1 => show jr 22 Z p (slot b' 7) (ls.map (·.1)) /\ ∀ q, (slot b' 7).ownBlock = some q -> q < p.heap.size; rw [<- hs 7 qa]; exact h
  | 2 => show slot b' 8 = .pointer (some ⟨kb, 0, none⟩); rw [<- hs 8 qa]; exact h
  | 3 => show slot b' 9 = .pointer (some ⟨kb, 0, none⟩); rw [<- hs 9 qa]; exact h
  | 4 => show slot b' 10 = .pointer (some ⟨kb, 0, none⟩); rw [<- hs 10 qa]; exact h
  | 5 => show slot b' 11 = .slice (some ⟨g1, 0, none⟩) 64 64; rw [<- hs 11 qa]; exact h
  | 6 => show ∃ g, slot b' 12 = .slice (some ⟨g, 0, none⟩) 1 1 /\ Z <= g /\ At p g (.cells #[.slice (some ⟨g1, 0, none⟩) 64 64] 22); rw [<- hs 12 qa]; exact h
  | 7 => show jr 22 Z p (slot b' 13) (.slice (some ⟨g1, 0, none⟩) 64 64 :: ls.map (·.1)); rw [<- hs 13 qa]; exact h
  | 8 => show slot b' 14 = .agg ((qH (vg key ++ jd ls)).map u8v).toArray; rw [<- hs 14 qa]; exact h
  | 9 => show ∃ g c, slot b' 5 = .pointer (some ⟨g, 0, none⟩) /\ Z <= g /\ At p g (.cells c 58) /\ c.size = 32; rw [<- hs 5 qa]; exact h
  | 10 => show ∃ g, slot b' 5 = .pointer (some ⟨g, 0, none⟩) /\ Z <= g /\ At p g (.cells ((qH (vg key ++ jd ls)).map u8v).toArray 58); rw [<- hs 5 qa]; exact h
  | k + 11 => trivial
 ·intro k b b' p hs h
  match k with
  | 0 => show ∀ q g, (slot b' 7).ownBlock = some q -> slot b' 12 = .slice (some ⟨g, 0, none⟩) 1 1 -> g ≠ q; rw [<- hs 7 qa, <- hs 12 qa]; exact h
  | k + 1 => trivial
 ·intro i hi dn b p hs ho hf hF hG hdn hdc hr
  have hi9 : i < 11 := hi
  clear hi
  match i, hi9 with
  | 0, _ =>
   have e0 : b.eval (.tmp 1) = v := (ho 1 qa).trans h1
   refine opV_step _ Y72 ?_
   refine qz _ rfl rfl (v) Y73 ?_
   exact ⟨rfl, rfl, hf, fun _ _ _ _ _ h => h, slot_put_self Y67, fun _ _ _ h => h, fun e he hi hx => by exact absurd hi ((show ∀ e, e < 1 -> 0 ∉ ([[1, 6]] : List (List Nat)).getD e [] from by decide) e he)⟩
  | 1, _ =>
   have e0 : b.eval (.tmp 6) = v := fdq hF hr 0
   refine qJ _ Y72 (ql rfl) 148 _ _ rfl #[v] Y70 Y74 ((J8 (fun b => Z <= b) p v (ls.map (·.1)) ((hZ ▸ hR.1).keep0 hf) (fun u hu => by obtain ⟨x, hx, rfl⟩ := List.mem_map.1 hu; obtain ⟨a, c, e, -⟩ := hR.2 x hx; rw [e]; rfl) (by rw [List.length_map]; omega)).mono ?_)
   rintro e p' ⟨v', rfl, hv, hf2⟩
   refine ⟨_, rfl, hf.trans hf2, fun k _ _ _ _ h => QJ Z kb g1 g2 v key ls k _ _ _ hf2 h, ?_, fun e _ _ h => yl Z kb g1 g2 v key ls e _ _ _ hf2 h, ?_⟩
   ·refine qP b 7 _ Y67 (fun b' => X6 Z kb g1 g2 v key ls 1 b' p') ?_
    intro b' hd hne
    show jr 22 Z p' (slot b' 7) (ls.map (·.1)) /\ ∀ q, (slot b' 7).ownBlock = some q -> q < p'.heap.size
    rw [hd]
    exact ⟨hv.base Y88, fun q hq => (hv.lt q hq).2⟩
   ·intro e he hi hx
    match e, he with
    | 0, _ =>
     have f6 := hF 6 (show (6:Nat) < 11 by decide) (fun _ => hx 6 qa qa) (fun c hc => by have hq1 : c = 7 := by { simpa using hc }; subst hq1; cases hq : dn 7 with | false => rfl | true => (have hq2 := hdc 7 1 hq qb; rw [hdn] at hq2; cases hq2))
     obtain ⟨g, h1, h2, h3⟩ := f6
     refine qP b 7 _ Y67 (fun b' => ∀ q g, (slot b' 7).ownBlock = some q -> slot b' 12 = .slice (some ⟨g, 0, none⟩) 1 1 -> g ≠ q) ?_
     intro b' hd hne q g' hq hg
     rw [hne 12 qa, h1] at hg
     cases hg
     rw [hd] at hq
     have := (hv.lt q hq).1
     have := qi h3
     omega
  | 2, _ =>
   have e0 : b.eval (.tmp 0) = .pointer (some ⟨kb, 0, none⟩) := (ho 0 qa).trans h0
   refine opV_step _ Y72 ?_
   refine qz _ rfl rfl (.pointer (some ⟨kb, 0, none⟩)) Y73 ?_
   exact ⟨rfl, rfl, hf, fun _ _ _ _ _ h => h, slot_put_self Y67, fun _ _ _ h => h, fun e he hi hx => by exact absurd hi ((show ∀ e, e < 1 -> 2 ∉ ([[1, 6]] : List (List Nat)).getD e [] from by decide) e he)⟩
  | 3, _ =>
   have e0 : b.eval (.tmp 8) = .pointer (some ⟨kb, 0, none⟩) := fdq hF hr 2
   refine opV_step _ Y72 ?_
   refine qz _ rfl rfl (.pointer (some ⟨kb, 0, none⟩)) Y73 ?_
   exact ⟨rfl, rfl, hf, fun _ _ _ _ _ h => h, slot_put_self Y67, fun _ _ _ h => h, fun e he hi hx => by exact absurd hi ((show ∀ e, e < 1 -> 3 ∉ ([[1, 6]] : List (List Nat)).getD e [] from by decide) e he)⟩
  | 4, _ =>
   have e0 : b.eval (.tmp 9) = .pointer (some ⟨kb, 0, none⟩) := fdq hF hr 3
   refine opV_step _ Y72 ?_
   refine qz _ rfl rfl (.pointer (some ⟨kb, 0, none⟩)) Y73 ?_
   exact ⟨rfl, rfl, hf, fun _ _ _ _ _ h => h, slot_put_self Y67, fun _ _ _ h => h, fun e he hi hx => by exact absurd hi ((show ∀ e, e < 1 -> 4 ∉ ([[1, 6]] : List (List Nat)).getD e [] from by decide) e he)⟩
  | 5, _ =>
   have e0 : b.eval (.tmp 10) = .pointer (some ⟨kb, 0, none⟩) := fdq hF hr 4
   have c1 : p.cell? ⟨kb, 0, none⟩ = some (.slice (some ⟨g1, 0, none⟩) 64 64) := (hK.keep0 hf).cell 0
   refine opV_step _ Y72 ?_
   refine qz _ rfl rfl (.slice (some ⟨g1, 0, none⟩) 64 64) (by obtain ⟨ρ, hρ⟩ := exq (b.eval); rw [hρ] at e0 ⊢; unfold execOp; simp [go_sem, e0, c1]) ?_
   exact ⟨rfl, rfl, hf, fun _ _ _ _ _ h => h, slot_put_self Y67, fun _ _ _ h => h, fun e he hi hx => by exact absurd hi ((show ∀ e, e < 1 -> 5 ∉ ([[1, 6]] : List (List Nat)).getD e [] from by decide) e he)⟩
  | 6, _ =>
   have e0 : b.eval (.tmp 11) = .slice (some ⟨g1, 0, none⟩) 64 64 := fdq hF hr 5
   refine opV_step _ Y72 ?_
   refine Qo Tryz.underlying56 Tryz.infoBytes rfl (.tmp 11) rfl (.slice (some ⟨g1, 0, none⟩) 64 64) e0 rfl ?_
   have hf2 : Fr [] p (p.alloc (.cells #[.slice (some ⟨g1, 0, none⟩) 64 64] 22)) := Fr.alloc _ _
   obtain ⟨p', hp'⟩ : ∃ p', p.alloc (.cells #[.slice (some ⟨g1, 0, none⟩) 64 64] 22) = p' := ⟨_, rfl⟩
   have hA : At p' p.heap.size (.cells #[.slice (some ⟨g1, 0, none⟩) 64 64] 22) := by rw [<- hp']; exact At.new rfl
   rw [hp'] at hf2 ⊢
   clear hp'
   refine ⟨rfl, rfl, hf.trans hf2, fun k _ _ _ _ h => QJ Z kb g1 g2 v key ls k _ _ _ hf2 h, ?_, fun e _ _ h => yl Z kb g1 g2 v key ls e _ _ _ hf2 h, ?_⟩
   ·refine qP b 12 _ Y67 (fun b' => X6 Z kb g1 g2 v key ls 6 b' p') ?_
    intro b' hd hne
    show ∃ g, slot b' 12 = .slice (some ⟨g, 0, none⟩) 1 1 /\ Z <= g /\ At p' g (.cells #[.slice (some ⟨g1, 0, none⟩) 64 64] 22)
    exact ⟨_, hd, by rw [<- hZ]; exact hf.size, hA⟩
   ·intro e he hi hx
    match e, he with
    | 0, _ =>
     have f1 := hF 1 (show (1:Nat) < 11 by decide) (fun _ => hx 1 qa qa) (fun c hc => by have hq1 : c = 7 := by { simpa using hc }; subst hq1; cases hq : dn 7 with | false => rfl | true => (have hq2 := hdc 7 6 hq qb; rw [hdn] at hq2; cases hq2))
     refine qP b 12 _ Y67 (fun b' => ∀ q g, (slot b' 7).ownBlock = some q -> slot b' 12 = .slice (some ⟨g, 0, none⟩) 1 1 -> g ≠ q) ?_
     intro b' hd hne q g' hq hg
     rw [hd] at hg
     cases hg
     rw [hne 7 qa] at hq
     have := f1.2 q hq
     omega
  | 7, _ =>
   have f1 : jr 22 Z p (slot b 7) (ls.map (·.1)) /\ ∀ q, (slot b 7).ownBlock = some q -> q < p.heap.size := hF 1 (show (1:Nat) < 11 by decide) (fun _ => (hr 1 qb).2) (fun c hc => by (have hq1 : c = 7 := by simpa using hc); subst hq1; exact hdn)
   have f6 : ∃ g, slot b 12 = .slice (some ⟨g, 0, none⟩) 1 1 /\ Z <= g /\ At p g (.cells #[.slice (some ⟨g1, 0, none⟩) 64 64] 22) := hF 6 (show (6:Nat) < 11 by decide) (fun _ => (hr 6 qb).2) (fun c hc => by (have hq1 : c = 7 := by simpa using hc); subst hq1; exact hdn)
   obtain ⟨g, b1, b2, b3⟩ := f6
   have hap : ∀ q, (slot b 7).ownBlock = some q -> g ≠ q := fun q hq => hG 0 qa (fun x hx => by have hx2 : x = 1 ∨ x = 6 := by { simpa using hx }; rcases hx2 with rfl | rfl; exact (hr 1 qb).2; exact (hr 6 qb).2) q g hq b1
   have e0 : b.eval (.tmp 7) = slot b 7 := rfl
   have e1 : b.eval (.const (.int .i64 0)) = .int .i64 0 := rfl
   have e2 : b.eval (.tmp 12) = .slice (some ⟨g, 0, none⟩) 1 1 := b1
   refine qJ _ Y72 (ql rfl) 147 _ _ rfl #[slot b 7, .int .i64 0, .slice (some ⟨g, 0, none⟩) 1 1] (by simp only [List.map_toArray, List.map_cons, List.map_nil, e0, e1, e2]) Y74 ((qdd p Z g _ _ (.slice (some ⟨g1, 0, none⟩) 64 64) f1.1 (by rw [List.length_map]; omega) (by rw [List.length_map]; omega) b3 hap Y88 (fun u hu => by obtain ⟨x, hx, rfl⟩ := List.mem_map.1 hu; obtain ⟨a, c, e, -⟩ := hR.2 x hx; rw [e]; rfl) rfl).mono ?_)
   rintro e p' ⟨v', rfl, hv, hf2⟩
   refine ⟨_, rfl, hf.then hf2 (fun z hz => .inr (by have := (f1.1.lt z (by simpa using hz)).1; omega)), fun k hki hnr hco hli h => ?_, ?_, fun _ _ _ h => h, fun e he hi hx => absurd hi ((show ∀ e, e < 1 -> 7 ∉ ([[1, 6]] : List (List Nat)).getD e [] from by decide) e he)⟩
   ·match k with
    | 0 => exact h
    | 1 => exact absurd (List.mem_cons_self) hco
    | 2 => exact h
    | 3 => exact h
    | 4 => exact h
    | 5 => exact h
    | 6 => exact absurd qa hco
    | 7 => exact absurd rfl hki
    | 8 => exact h
    | 9 => (obtain ⟨g5, c, h1, h2, h3, h4⟩ := h; exact ⟨g5, c, h1, h2, h3.keep hf2 (fun hm => zr f1.1 h3 qa WN), h4⟩)
    | 10 => exact Bool.noConfusion (hnr.symm.trans qb : false = true)
    | k + 11 => exact trivial
   ·refine qP b 13 _ Y67 (fun b' => X6 Z kb g1 g2 v key ls 7 b' p') ?_
    intro b' hd hne
    show jr 22 Z p' (slot b' 13) (.slice (some ⟨g1, 0, none⟩) 64 64 :: ls.map (·.1))
    rw [hd]
    exact hv
  | 8, _ =>
   have f7 : jr 22 Z p (slot b 13) (.slice (some ⟨g1, 0, none⟩) 64 64 :: ls.map (·.1)) := hF 7 (show (7:Nat) < 11 by decide) (fun _ => (hr 7 qb).2) (fun c hc => by (have hq1 : c = 8 := by simpa using hc); subst hq1; exact hdn)
   have e0 : b.eval (.tmp 13) = slot b 13 := rfl
   have hRD : RdB (fun b => p.heap.size <= b) p (slot b 13) ((.slice (some ⟨g1, 0, none⟩) 64 64, vg key) :: ls) := by
    refine ⟨?_, fun x hx => ?_⟩
    ·obtain ⟨a, cap, h1, h2, h3, h4⟩ := f7.vs (A := fun _ => False) (fun _ h => h.elim)
     refine ⟨a, cap, h1, h2, h3, ?_⟩
     exact KU h4
    ·rcases List.mem_cons.1 hx with rfl | hx
     ·exact JA (hI.keep0 hf) (ZM key) qa (by have := qi (hI.keep0 hf); omega)
     ·exact (hR.2 x hx).mono hf qc (fun b hb => .inr qbO)
   refine qJ _ Y72 (ql rfl) 76 _ _ rfl #[slot b 13] Y70 Y74 ((VH p (slot b 13) ((.slice (some ⟨g1, 0, none⟩) 64 64, vg key) :: ls) hRD (hS.keep hf).f (hS.keep hf).k (hS.keep hf).g (by simp only [jd, List.map_cons, List.flatten_cons, List.length_append, ZM]; have := hl; unfold jd at this; omega)).mono ?_)
   rintro e p' ⟨rfl, hf2⟩
   refine ⟨_, rfl, hf.trans hf2, fun k _ _ _ _ h => QJ Z kb g1 g2 v key ls k _ _ _ hf2 h, ?_, fun e _ _ h => yl Z kb g1 g2 v key ls e _ _ _ hf2 h, fun e he hi hx => by exact absurd hi ((show ∀ e, e < 1 -> 8 ∉ ([[1, 6]] : List (List Nat)).getD e [] from by decide) e he)⟩
   refine qP b 14 _ Y67 (fun b' => X6 Z kb g1 g2 v key ls 8 b' p') ?_
   intro b' hd hne
   show slot b' 14 = .agg ((qH (vg key ++ jd ls)).map u8v).toArray
   rw [hd]
   simp [jd]
  | 9, _ =>
   refine opV_step _ Y72 ?_
   refine yi rfl (.pointer (some ⟨p.heap.size, 0, none⟩)) (p.alloc (.cells jk 58)) qb ?_
   have hf2 : Fr [] p (p.alloc (.cells jk 58)) := Fr.alloc _ _
   obtain ⟨p', hp'⟩ : ∃ p', p.alloc (.cells jk 58) = p' := ⟨_, rfl⟩
   have hA : At p' p.heap.size (.cells jk 58) := by rw [<- hp']; exact At.new rfl
   rw [hp'] at hf2 ⊢
   clear hp'
   refine ⟨rfl, rfl, hf.trans hf2, fun k _ _ _ _ h => QJ Z kb g1 g2 v key ls k _ _ _ hf2 h, ?_, fun e _ _ h => yl Z kb g1 g2 v key ls e _ _ _ hf2 h, fun e he hi hx => by exact absurd hi ((show ∀ e, e < 1 -> 9 ∉ ([[1, 6]] : List (List Nat)).getD e [] from by decide) e he)⟩
   refine qP b 5 _ Y67 (fun b' => X6 Z kb g1 g2 v key ls 9 b' p') ?_
   exact Y48
  | 10, _ =>
   have f8 : slot b 14 = .agg ((qH (vg key ++ jd ls)).map u8v).toArray := fdq hF hr 8
   have f9 : ∃ g c, slot b 5 = .pointer (some ⟨g, 0, none⟩) /\ Z <= g /\ At p g (.cells c 58) /\ c.size = 32 := hF 9 (show (9:Nat) < 11 by decide) (fun _ => (hr 9 qb).2) (fun c hc => by (have hq1 : c = 10 := by simpa using hc); subst hq1; exact hdn)
   obtain ⟨g, c, b1, b2, b3, b4⟩ := f9
   have e0 : b.eval (.tmp 5) = .pointer (some ⟨g, 0, none⟩) := b1
   have e1 : b.eval (.tmp 14) = .agg ((qH (vg key ++ jd ls)).map u8v).toArray := f8
   refine opV_step _ Y72 ?_
   refine qC (.tmp 5) (.tmp 14) rfl rfl ((qH (vg key ++ jd ls)).map u8v).toArray e0 e1 Y90 b3 (by rw [b4, List.size_toArray, List.length_map]; rfl) (uN _) ?_
   intro p' f1 a1 _
   refine ⟨rfl, rfl, hf.then f1 (fun z hz => .inr Y78), fun k hki hnr hco hli h => ?_, ⟨g, b1, b2, a1⟩, fun _ _ _ h => h, fun e he hi hx => absurd hi ((show ∀ e, e < 1 -> 10 ∉ ([[1, 6]] : List (List Nat)).getD e [] from by decide) e he)⟩
   match k with
   | 0 => exact h
   | 1 => exact absurd (hr 7 qb).2 (by rw [hli 7 qa]; decide)
   | 2 => exact h
   | 3 => exact h
   | 4 => exact h
   | 5 => exact h
   | 6 => exact absurd (hr 7 qb).2 (by rw [hli 7 qa]; decide)
   | 7 => exact absurd (hr 8 qb).2 (by rw [hli 8 qa]; decide)
   | 8 => exact h
   | 9 => exact absurd qa hco
   | 10 => exact absurd rfl hki
   | k + 11 => exact trivial
 ·intro b p hd hs ho hf hall hex
  obtain ⟨g, h1, h2, h3⟩ := hall 10 qa (fun c hc => by simp at hc)
  refine hQ b p g hd (hs.trans hsz) ho hf h1 h2 h3
noncomputable def qfE : Code := ((Tryz.f105.body.bind (qr 2)).getD .skip)
def qaV (Z kb g1 g2 g4 g5 : Nat) (key D : List UInt8) (k : Nat) (b : Go.Act) (p : World) : Prop :=
 match k with
 | 0 => slot b 15 = .pointer (some ⟨kb, 0, none⟩)
 | 1 => slot b 16 = .pointer (some ⟨kb, 0, none⟩)
 | 2 => slot b 17 = .pointer (some ⟨kb, 1, none⟩)
 | 3 => slot b 18 = .slice (some ⟨g2, 0, none⟩) 64 64
 | 4 => slot b 19 = .slice (some ⟨g5, 0, none⟩) 32 32
 | 5 => ∃ g, slot b 20 = .slice (some ⟨g, 0, none⟩) 2 2 /\ At p g (.cells #[.slice (some ⟨g2, 0, none⟩) 64 64, .slice (some ⟨g5, 0, none⟩) 32 32] 22)
 | 6 => slot b 21 = .agg ((qH (vj key ++ D)).map u8v).toArray
 | 7 => At p g4 (.cells ((qH (vj key ++ D)).map u8v).toArray 58)
 | 8 => ∃ c, At p g4 (.cells c 58) /\ c.size = 32
 | _ => True
def qej (Z kb g1 g2 g4 g5 : Nat) (key D : List UInt8) (k : Nat) (b : Go.Act) (p : World) : Prop :=
 match k with
 | _ => True
theorem XZ (Z kb g1 g2 g4 g5 : Nat) (key D : List UInt8) : ∀ (k : Nat) (b : Go.Act) (p p' : World), Fr [] p p' -> qaV Z kb g1 g2 g4 g5 key D k b p -> qaV Z kb g1 g2 g4 g5 key D k b p'
 | 0, b, p, p', hf, h => h
 | 1, b, p, p', hf, h => h
 | 2, b, p, p', hf, h => h
 | 3, b, p, p', hf, h => h
 | 4, b, p, p', hf, h => h
 | 5, b, p, p', hf, h => let ⟨g, h1, h3⟩ := h; ⟨g, h1, h3.keep0 hf⟩
 | 6, b, p, p', hf, h => h
 | 7, b, p, p', hf, h => h.keep0 hf
 | 8, b, p, p', hf, h => let ⟨c, h1, h2⟩ := h; ⟨c, h1.keep0 hf, h2⟩
 | k + 9, b, p, p', hf, h => trivial
theorem U0 (Z kb g1 g2 g4 g5 : Nat) (key D : List UInt8) : ∀ (k : Nat) (b : Go.Act) (p p' : World), Fr [] p p' -> qej Z kb g1 g2 g4 g5 key D k b p -> qej Z kb g1 g2 g4 g5 key D k b p'
 | k, b, p, p', hf, h => trivial
theorem ko2 (Z kb g1 g2 g4 g5 : Nat) (key D : List UInt8) (w : World) (a : Go.Act) (hsz : a.tmps.size = 22) (h0 : slot a 0 = .pointer (some ⟨kb, 0, none⟩)) (h4 : slot a 4 = .pointer (some ⟨g4, 0, none⟩)) (h5 : slot a 5 = .pointer (some ⟨g5, 0, none⟩)) (w0 : World) (hw0 : Fr [] w0 w) (h4z : w0.heap.size <= g4) (h54 : g5 ≠ g4) (hK : At w0 kb (.cells #[.slice (some ⟨g1, 0, none⟩) 64 64, .slice (some ⟨g2, 0, none⟩) 64 64] 236)) (hO : At w0 g2 (.cells ((vj key).map u8v).toArray 233)) (hD : At w g5 (.cells (D.map u8v).toArray 58)) (hDl : D.length = 32) (hS : SG w0) (c40 : Array Value) (h4A : At w g4 (.cells c40 58)) (h4c : c40.size = 32) (Q : Exit -> Go.Act -> World -> Prop)
  (hQ : ∀ (b : Go.Act) (p : World), b.defers = a.defers -> b.tmps.size = 22 -> (∀ s, some s ∉ ([some 15, some 16, some 17, some 18, some 19, some 20, some 21, none] : List (Option Nat)) -> slot b s = slot a s) -> Fr [g4] w p -> At p g4 (.cells ((qH (vj key ++ D)).map u8v).toArray 58) -> Q .normal b p) : Code.wp Tryz.prog qfE Q a w := by
 have F0 : ∀ {p : World}, Fr [g4] w p -> Fr [] w0 p := fun hf => hw0.then hf (fun z hz => .inr Y78)
 conv => arg 2; whnf
 refine jc [g4] (qaV Z kb g1 g2 g4 g5 key D) (qej Z kb g1 g2 g4 g5 key D) [some 15, some 16, some 17, some 18, some 19, some 20, some 21, none] [[15], [16], [17], [18], [19], [20], [21], [], []] [] [] [(5, 6), (8, 7)] qb qb qb qb qb qa ?_ ?_ ?_ ?_ ?_
 ·intro w1 hw1 k hk1 hk2
  have hk3 : 8 <= k := hk1
  have hk4 : k < 9 := hk2
  clear hk1 hk2
  rcases (show k = 8 by omega) with rfl
  ·exact ⟨_, h4A.keep0 hw1, h4c⟩
 ·intro k b b' p hs h
  match k with
  | 0 => show slot b' 15 = .pointer (some ⟨kb, 0, none⟩); rw [<- hs 15 qa]; exact h
  | 1 => show slot b' 16 = .pointer (some ⟨kb, 0, none⟩); rw [<- hs 16 qa]; exact h
  | 2 => show slot b' 17 = .pointer (some ⟨kb, 1, none⟩); rw [<- hs 17 qa]; exact h
  | 3 => show slot b' 18 = .slice (some ⟨g2, 0, none⟩) 64 64; rw [<- hs 18 qa]; exact h
  | 4 => show slot b' 19 = .slice (some ⟨g5, 0, none⟩) 32 32; rw [<- hs 19 qa]; exact h
  | 5 => show ∃ g, slot b' 20 = .slice (some ⟨g, 0, none⟩) 2 2 /\ At p g (.cells #[.slice (some ⟨g2, 0, none⟩) 64 64, .slice (some ⟨g5, 0, none⟩) 32 32] 22); rw [<- hs 20 qa]; exact h
  | 6 => show slot b' 21 = .agg ((qH (vj key ++ D)).map u8v).toArray; rw [<- hs 21 qa]; exact h
  | 7 => show At p g4 (.cells ((qH (vj key ++ D)).map u8v).toArray 58); exact h
  | 8 => show ∃ c, At p g4 (.cells c 58) /\ c.size = 32; exact h
  | k + 9 => trivial
 ·intro k b b' p hs h
  match k with
  | k => trivial
 ·intro i hi dn b p hs ho hf hF hG hdn hdc hr
  have hi9 : i < 8 := hi
  clear hi
  match i, hi9 with
  | 0, _ =>
   have e0 : b.eval (.tmp 0) = .pointer (some ⟨kb, 0, none⟩) := (ho 0 qa).trans h0
   exact Y1
  | 1, _ =>
   have e0 : b.eval (.tmp 15) = .pointer (some ⟨kb, 0, none⟩) := fdq hF hr 0
   exact Y1
  | 2, _ =>
   have e0 : b.eval (.tmp 16) = .pointer (some ⟨kb, 0, none⟩) := fdq hF hr 1
   exact Y1
  | 3, _ =>
   have e0 : b.eval (.tmp 17) = .pointer (some ⟨kb, 1, none⟩) := fdq hF hr 2
   have c1 : p.cell? ⟨kb, 1, none⟩ = some (.slice (some ⟨g2, 0, none⟩) 64 64) := (hK.keep0 (F0 hf)).cell 1
   exact Y4
  | 4, _ =>
   have e0 : b.eval (.tmp 5) = .pointer (some ⟨g5, 0, none⟩) := (ho 5 qa).trans h5
   exact Y1
  | 5, _ =>
   have e0 : b.eval (.tmp 18) = .slice (some ⟨g2, 0, none⟩) 64 64 := fdq hF hr 3
   have e1 : b.eval (.tmp 19) = .slice (some ⟨g5, 0, none⟩) 32 32 := fdq hF hr 4
   refine opV_step _ Y72 ?_
   refine xg Tryz.underlying56 Tryz.infoBytes rfl (.tmp 18) (.tmp 19) rfl (.slice (some ⟨g2, 0, none⟩) 64 64) (.slice (some ⟨g5, 0, none⟩) 32 32) e0 e1 rfl rfl ?_
   have hf2 : Fr [] p (p.alloc (.cells #[.slice (some ⟨g2, 0, none⟩) 64 64, .slice (some ⟨g5, 0, none⟩) 32 32] 22)) := Fr.alloc _ _
   obtain ⟨p', hp'⟩ : ∃ p', p.alloc (.cells #[.slice (some ⟨g2, 0, none⟩) 64 64, .slice (some ⟨g5, 0, none⟩) 32 32] 22) = p' := ⟨_, rfl⟩
   have hA : At p' p.heap.size (.cells #[.slice (some ⟨g2, 0, none⟩) 64 64, .slice (some ⟨g5, 0, none⟩) 32 32] 22) := by rw [<- hp']; exact At.new rfl
   rw [hp'] at hf2 ⊢
   clear hp'
   refine ⟨rfl, rfl, hf.trans (hf2).weak, fun k _ _ _ _ h => XZ Z kb g1 g2 g4 g5 key D k _ _ _ hf2 h, ?_, fun e _ _ h => U0 Z kb g1 g2 g4 g5 key D e _ _ _ hf2 h, fun e he hi hx => by exact absurd he (Nat.not_lt_zero e)⟩
   refine qP b 20 _ Y67 (fun b' => qaV Z kb g1 g2 g4 g5 key D 5 b' p') ?_
   intro b' hd hne
   show ∃ g, slot b' 20 = .slice (some ⟨g, 0, none⟩) 2 2 /\ At p' g (.cells #[.slice (some ⟨g2, 0, none⟩) 64 64, .slice (some ⟨g5, 0, none⟩) 32 32] 22)
   exact ⟨_, hd, hA⟩
  | 6, _ =>
   have f5 : ∃ g, slot b 20 = .slice (some ⟨g, 0, none⟩) 2 2 /\ At p g (.cells #[.slice (some ⟨g2, 0, none⟩) 64 64, .slice (some ⟨g5, 0, none⟩) 32 32] 22) := hF 5 (show (5:Nat) < 9 by decide) (fun _ => (hr 5 qb).2) (fun c hc => by (have hq1 : c = 6 := by simpa using hc); subst hq1; exact hdn)
   obtain ⟨g, b1, b2⟩ := f5
   have e0 : b.eval (.tmp 20) = .slice (some ⟨g, 0, none⟩) 2 2 := b1
   have hRD : RdB (fun b => p.heap.size <= b) p (.slice (some ⟨g, 0, none⟩) 2 2) [(.slice (some ⟨g2, 0, none⟩) 64 64, vj key), (.slice (some ⟨g5, 0, none⟩) 32 32, D)] := by
    refine ⟨⟨_, 2, rfl, by simp, by decide, Row.of_block (c := #[.slice (some ⟨g2, 0, none⟩) 64 64, .slice (some ⟨g5, 0, none⟩) 32 32]) (fz := (0, 0)) b2 qds⟩, fun x hx => ?_⟩
    rcases List.mem_cons.1 hx with rfl | hx
    ·exact JA (hO.keep0 (F0 hf)) (ZS key) qa (by have := qi (hO.keep0 (F0 hf)); omega)
    ·obtain rfl : x = (.slice (some ⟨g5, 0, none⟩) 32 32, D) := by simpa using hx
     exact JA (hD.keep hf (by simpa using h54)) hDl qa (by have := qi (hD.keep hf (by simpa using h54)); omega)
   refine qJ _ Y72 (ql rfl) 76 _ _ rfl #[.slice (some ⟨g, 0, none⟩) 2 2] Y70 Y74 ((VH p _ [(.slice (some ⟨g2, 0, none⟩) 64 64, vj key), (.slice (some ⟨g5, 0, none⟩) 32 32, D)] hRD (hS.keep (F0 hf)).f (hS.keep (F0 hf)).k (hS.keep (F0 hf)).g (by simp only [jd, List.map_cons, List.map_nil, List.flatten_cons, List.flatten_nil, List.length_append, ZS, hDl, List.length_nil]; omega)).mono ?_)
   rintro e p' ⟨rfl, hf2⟩
   refine ⟨_, rfl, hf.trans (hf2).weak, fun k _ _ _ _ h => XZ Z kb g1 g2 g4 g5 key D k _ _ _ hf2 h, ?_, fun e _ _ h => U0 Z kb g1 g2 g4 g5 key D e _ _ _ hf2 h, fun e he hi hx => by exact absurd he (Nat.not_lt_zero e)⟩
   refine qP b 21 _ Y67 (fun b' => qaV Z kb g1 g2 g4 g5 key D 6 b' p') ?_
   intro b' hd hne
   show slot b' 21 = .agg ((qH (vj key ++ D)).map u8v).toArray
   rw [hd]
   simp [jd]
  | 7, _ =>
   have e0 : b.eval (.tmp 4) = .pointer (some ⟨g4, 0, none⟩) := (ho 4 qa).trans h4
   have f6 : slot b 21 = .agg ((qH (vj key ++ D)).map u8v).toArray := fdq hF hr 6
   have f8 : ∃ c, At p g4 (.cells c 58) /\ c.size = 32 := hF 8 (show (8:Nat) < 9 by decide) (fun h => absurd h qa) (fun c hc => by (have hq1 : c = 7 := by simpa using hc); subst hq1; exact hdn)
   have e1 : b.eval (.tmp 21) = .agg ((qH (vj key ++ D)).map u8v).toArray := f6
   obtain ⟨c4, b3, b4⟩ := f8
   refine opV_step _ Y72 ?_
   refine qC (.tmp 4) (.tmp 21) rfl rfl ((qH (vj key ++ D)).map u8v).toArray e0 e1 Y90 b3 (by rw [b4, List.size_toArray, List.length_map]; rfl) (uN _) ?_
   intro p' f1 a1 _
   refine ⟨rfl, rfl, hf.trans f1, fun k hki hnr hco hli h => ?_, a1, fun _ _ _ h => h, fun e he hi hx => absurd he (Nat.not_lt_zero e)⟩
   match k with
   | 0 => exact h
   | 1 => exact h
   | 2 => exact h
   | 3 => exact h
   | 4 => exact h
   | 5 => exact absurd (hr 6 qb).2 (by rw [hli 6 qa]; decide)
   | 6 => exact h
   | 7 => exact absurd rfl hki
   | 8 => exact absurd qa hco
   | k + 9 => exact trivial
 ·intro b p hd hs ho hf hall hex
  exact hQ b p hd (hs.trans hsz) ho hf (hall 7 qa (fun c hc => by simp at hc))
theorem KD (a : Go.Act) (hs : a.tmps.size = 22) (hd : a.defers = []) : a = ⟨(slot a 0 :: slot a 1 :: slot a 2 :: slot a 3 :: slot a 4 :: slot a 5 :: slot a 6 :: slot a 7 :: slot a 8 :: slot a 9 :: slot a 10 :: slot a 11 :: slot a 12 :: slot a 13 :: slot a 14 :: slot a 15 :: slot a 16 :: slot a 17 :: slot a 18 :: slot a 19 :: slot a 20 :: slot a 21 :: []).toArray, []⟩ := uO a 22 hs hd
theorem JW (w0 : World) (kb : Nat) (v : Value) (key : List UInt8) (ls : List (Value × List UInt8)) (hK : ja w0 kb key) (hR : RdB (fun b => w0.heap.size <= b) w0 v ls) (hS : SG w0) (hn : 1 <= ls.length) (hls : ls.length <= 1000) (hl : (jd ls).length <= 90000000) :
  Calls Tryz.prog 105 #[.pointer (some ⟨kb, 0, none⟩), v] w0 fun e w' => e = .returned (.agg ((jO key (jd ls)).map u8v).toArray) /\ Fr [] w0 w' := by
 obtain ⟨g1, g2, k1, k2, k3⟩ := hK
 obtain ⟨Z, hZ⟩ := exq (w0.heap.size)
 have F1 : Fr [] w0 (w0.alloc (.cells jk 58)) := Fr.alloc _ _
 have hs1 : (w0.alloc (.cells jk 58)).heap.size = Z + 1 := by simp [hZ]
 have HH := Hdq (And.intro hs1 (And.intro (k1.keep0 F1) (And.intro (k2.keep0 F1) (And.intro (Z7 (A' := fun b => (w0.alloc (.cells jk 58)).heap.size <= b) hR F1 qc (fun b hb => .inl Y96)) (And.intro (hS.keep F1) (And.intro hn (And.intro hls (And.intro hl (show At (w0.alloc (.cells jk 58)) Z (.cells jk 58) from At.new hZ.symm)))))))))
 have HO := Hdq (And.intro k1 (And.intro k3 (And.intro hS hZ)))
 have HF1 := Hdq F1
 have h1g : g1 < Z := by have := qi k2; omega
 clear k1 k2 k3 hR hS hn hls hl F1 hs1
 obtain ⟨X, hX⟩ := exq (qH (vg key ++ jd ls))
 have HX := Hdq hX
 clear hX
 go_enter Tryz.func105, Tryz.ntmps105
 go_wp2
 obtain ⟨a1, a2, a3, a4, a5, a6, a7, a8, a9⟩ := HH.out
 obtain ⟨c1, c2, c3, c4⟩ := HO.out
 refine ko1 (Z + 1) kb g1 g2 v key ls _ _ rfl rfl rfl a1 a2 a3 a4 a5 a6 a8 a7 _ ?_
 intro b p g hd hs ho hf h5 hg hA
 rw [HX.out] at hA
 rw [KD b hs hd, show slot b 0 = .pointer (some ⟨kb, 0, none⟩) from ho 0 qa, show slot b 4 = .pointer (some ⟨Z, 0, none⟩) from ho 4 qa, h5]
 clear a1 a2 a3 a4 a5 a6 a7 a8 c1 c2 c3
 have HA := Hdq hA
 have HF := Hdq hf
 have HF0 := Hdq (HF1.out.trans hf)
 have H4 := Hdq (a9.keep0 hf)
 clear hA hf a9 h5 ho
 go_wp2
 obtain ⟨c1, c2, c3, c4⟩ := HO.out
 refine ko2 (Z + 1) kb g1 g2 Z g key X p _ rfl rfl rfl rfl w0 HF0.out (by rw [c4]; exact Nat.le_refl _) Y66 c1 c2 HA.out (by rw [<- HX.out]; rfl) c3 _ H4.out rfl _ ?_
 intro b2 p2 hd2 hs2 ho2 hf2 hA2
 rw [KD b2 hs2 hd2, show slot b2 4 = .pointer (some ⟨Z, 0, none⟩) from ho2 4 qa]
 have HE := Hdq hA2
 have HG := Hdq (HF0.out.then hf2 (fun z hz => .inr Y78))
 have HM := Hdq (show qH (vj key ++ X) = jO key (jd ls) by rw [<- HX.out]; rfl)
 clear hA2 hf2 c1 c2 c3
 go_wp2
 refine bodyPost_ret (jT rfl _ _ Z _ rfl (qL HE.out) Tryz.underlying58 rfl (dig_size _ rfl)) rfl ?_
 exact ⟨by rw [HM.out], HG.out⟩
theorem qc2 (w0 : World) (u v : Value) (key : List UInt8) (ls : List (Value × List UInt8)) (hB : Bs (fun b => w0.heap.size <= b) w0 u key) (hk : key.length <= 100000000) (hR : RdB (fun b => w0.heap.size <= b) w0 v ls) (hS : SG w0) (hn : 1 <= ls.length) (hls : ls.length <= 1000) (hl : (jd ls).length <= 90000000) :
  Calls Tryz.prog 169 #[u, v] w0 fun e w' => e = .returned (.agg ((jO key (jd ls)).map u8v).toArray) /\ Fr [] w0 w' := by
 obtain ⟨Z, hZ⟩ := exq (w0.heap.size)
 have F1 : Fr [] w0 (w0.alloc (.cells jk 58)) := Fr.alloc _ _
 have HS1 := Hdq (hS.keep F1)
 have HR1 := Hdq (Z7 (A' := fun b => (w0.alloc (.cells jk 58)).heap.size <= b) hR F1 qc (fun b hb => .inl Y96))
 have HB1 := Hdq (hB.mono (A' := fun b => (w0.alloc (.cells jk 58)).heap.size <= b) F1 qc (fun b hb => .inl Y96))
 have H4 := Hdq (show At (w0.alloc (.cells jk 58)) Z (.cells jk 58) from At.new hZ.symm)
 have HF1 := Hdq F1
 have HL := Hdq (And.intro hn (And.intro hls (And.intro hl hk)))
 have HZ := Hdq hZ
 clear hB hR hS hn hls hl hk F1
 go_enter Tryz.func169, Tryz.ntmps169
 go_wp2_with (go_at_call 103; fail)
 refine (yM _ u key HB1.out HL.out.2.2.2 HS1.out).mono ?_
 rintro e w2 ⟨kb, rfl, hkb, hf2⟩
 have HK2 := Hdq hkb
 have HS2 := Hdq (HS1.out.keep hf2)
 have HR2 := Hdq (Z7 (A' := fun b => w2.heap.size <= b) HR1.out hf2 qc (fun b hb => .inl (by have := hf2.size; omega)))
 have H42 := Hdq (H4.out.keep0 hf2)
 have HF2 := Hdq (HF1.out.trans hf2)
 clear hkb hf2 HB1 HS1 HR1 H4 HF1
 go_wp2_with (go_at_call 105; fail)
 refine (JW _ kb v key ls HK2.out HR2.out HS2.out HL.out.1 HL.out.2.1 HL.out.2.2.1).mono ?_
 rintro e w3 ⟨rfl, hf3⟩
 obtain ⟨o, ho⟩ := exq (jO key (jd ls))
 rw [ho]
 have hol : o.length = 32 := by rw [<- ho]; rfl
 have HOL := Hdq hol
 have HS9 := Hdq (show (Tryz.prog.info? 58).map (·.size) = some (o.map u8v).toArray.size by rw [List.size_toArray]; exact dig_size o hol)
 have H43 := Hdq (H42.out.keep0 hf3)
 have HF3 := Hdq (HF2.out.trans hf3)
 have HZ := Hdq hZ
 have HM := Hdq ho
 clear hol hf3 H42 HF2 HK2 HS2 HR2 ho
 go_wp2_with (refine qC (.tmp 4) (.tmp 8) rfl rfl (o.map u8v).toArray rfl rfl HS9.out H43.out Y87 (uN _) ?_)
 intro w9 f9 a9 s9
 have HF9 := Hdq (HF3.out.then f9 (fun z hz => .inr Y83))
 have HZ9 := Hdq a9
 clear f9 a9 s9
 go_wp2
 refine bodyPost_ret (jT rfl _ _ Z _ rfl (qL HZ9.out) Tryz.underlying58 rfl (dig_size o HOL.out)) rfl ?_
 exact ⟨by rw [HM.out], HF9.out⟩
theorem qaW (w0 : World) (kb : Nat) (v : Value) (key : List UInt8) (ls : List (Value × List UInt8)) (hK : ja w0 kb key) (hR : RdB (fun b => w0.heap.size <= b) w0 v ls) (hS : SG w0) (hn : 1 <= ls.length) (hls : ls.length <= 1000) (hl : (jd ls).length <= 90000000) :
  Calls Tryz.prog 56 #[.pointer (some ⟨kb, 0, none⟩), v] w0 fun e w' => ∃ u, e = .returned u /\ qf 5 w0.heap.size w' u (uV key (jd ls)) /\ Fr [] w0 w' := by
 have HC := Hdq (JW w0 kb v key ls hK hR hS hn hls hl)
 clear hK hR hS hn hls hl
 go_enter Tryz.func56, Tryz.ntmps56
 go_wp2_with (go_at_call 105; fail)
 refine HC.out.mono ?_
 rintro e w3 ⟨rfl, hf3⟩
 obtain ⟨o, ho⟩ := exq (jO key (jd ls))
 rw [ho]
 have hol : o.length = 32 := by rw [<- ho]; rfl
 have HO := Hdq (show uV key (jd ls) = o.take 8 by rw [<- ho]; rfl)
 obtain ⟨Zd, hZd⟩ := exq (w3.heap.size)
 have HOL := Hdq hol
 have HS9 := Hdq (show (Tryz.prog.info? 58).map (·.size) = some (o.map u8v).toArray.size by rw [List.size_toArray]; exact dig_size o hol)
 have F5 : Fr [] w3 (w3.alloc (.cells (o.map u8v).toArray 58)) := Fr.alloc _ _
 have HF5 := Hdq (hf3.trans F5)
 have HB5 := Hdq ((JA (A := fun _ => False) (n := 32) (At.new hZd.symm : At (w3.alloc (.cells (o.map u8v).toArray 58)) Zd (.cells (o.map u8v).toArray 58)) hol qa qc).take 8 Y66)
 have HZD := Hdq hZd
 clear ho hol F5 hf3 HC
 go_wp2_with (first | (refine qT (.tmp 5) (.tmp 8) rfl rfl (o.map u8v).toArray (congrArg (fun n => Value.pointer (some ⟨n, 0, none⟩)) HZD.out.symm) rfl HS9.out (show (32 : Nat) = (o.map u8v).toArray.size by rw [List.size_toArray, List.length_map, HOL.out]) (uN _) ?_) | (go_at_call 59; fail))
 refine (clone_any (fun _ => False) _ _ (o.take 8) HB5.out Y95).mono ?_
 rintro e w4 ⟨u, rfl, hu, hf4⟩
 have HU := Hdq (hu.base HF5.out.size)
 have HF6 := Hdq (HF5.out.trans hf4)
 clear hu hf4
 go_wp2
 go_ret
 exact ⟨_, rfl, by rw [HO.out]; exact HU.out, HF6.out⟩
end Go.Proofs.YtnafknkchbfpaaaGreatDoor
