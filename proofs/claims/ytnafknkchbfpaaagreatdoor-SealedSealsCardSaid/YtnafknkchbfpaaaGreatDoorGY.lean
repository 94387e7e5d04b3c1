import Derived.Test.YtnafknkchbfpaaaGreatDoorGW
import Derived.Test.YtnafknkchbfpaaaGreatDoorGX
set_option maxRecDepth 1000000
set_option maxHeartbeats 8000000
namespace Go.Proofs.YtnafknkchbfpaaaGreatDoor
open Go.RowKit Go.Bl
set_option linter.unusedVariables false
noncomputable def qes : Code := ((Tryz.f105.body.bind (qn 1)).getD .skip)
def Xe (Z kb g1 g2 : Nat) (v : Value) (key : List UInt8) (ls : List (Value × List UInt8)) (k : Nat) (b : Go.Act) (p : World) : Prop :=
 match k with
 | 0 => qd b 6 = v
 | 1 => qM 22 Z p (qd b 7) (ls.map (·.1)) /\ ∀ q, (qd b 7).ownBlock = some q -> q < p.heap.size
 | 2 => qd b 8 = .pointer (some ⟨kb, 0, none⟩)
 | 3 => qd b 9 = .pointer (some ⟨kb, 0, none⟩)
 | 4 => qd b 10 = .pointer (some ⟨kb, 0, none⟩)
 | 5 => qd b 11 = .slice (some ⟨g1, 0, none⟩) 64 64
 | 6 => ∃ g, qd b 12 = .slice (some ⟨g, 0, none⟩) 1 1 /\ Z <= g /\ At p g (.cells #[.slice (some ⟨g1, 0, none⟩) 64 64] 22)
 | 7 => qM 22 Z p (qd b 13) (.slice (some ⟨g1, 0, none⟩) 64 64 :: ls.map (·.1))
 | 8 => qd b 14 = .agg ((jE (zR key ++ jl ls)).map u8v).toArray
 | 9 => ∃ g c, qd b 5 = .pointer (some ⟨g, 0, none⟩) /\ Z <= g /\ At p g (.cells c 58) /\ c.size = 32
 | 10 => ∃ g, qd b 5 = .pointer (some ⟨g, 0, none⟩) /\ Z <= g /\ At p g (.cells ((jE (zR key ++ jl ls)).map u8v).toArray 58)
 | _ => True
def qdo (Z kb g1 g2 : Nat) (v : Value) (key : List UInt8) (ls : List (Value × List UInt8)) (k : Nat) (b : Go.Act) (p : World) : Prop :=
 match k with
 | 0 => ∀ q g, (qd b 7).ownBlock = some q -> qd b 12 = .slice (some ⟨g, 0, none⟩) 1 1 -> g ≠ q
 | _ => True
theorem Qg (Z kb g1 g2 : Nat) (v : Value) (key : List UInt8) (ls : List (Value × List UInt8)) : ∀ (k : Nat) (b : Go.Act) (p p' : World), Fr [] p p' -> Xe Z kb g1 g2 v key ls k b p -> Xe Z kb g1 g2 v key ls k b p'
 | 0, b, p, p', hf, h => h
 | 1, b, p, p', hf, h => ⟨h.1.keep0 hf, fun q hq => Nat.lt_of_lt_of_le (h.2 q hq) hf.size⟩
 | 2, b, p, p', hf, h => h
 | 3, b, p, p', hf, h => h
 | 4, b, p, p', hf, h => h
 | 5, b, p, p', hf, h => h
 | 6, b, p, p', hf, h => let ⟨g, h1, h2, h3⟩ := h; ⟨g, h1, h2, h3.keep0 hf⟩
 | 7, b, p, p', hf, h => h.keep0 hf
 | 8, b, p, p', hf, h => h
 | 9, b, p, p', hf, h => let ⟨g, c, h1, h2, h3, h4⟩ := h; ⟨g, c, h1, h2, h3.keep0 hf, h4⟩
 | 10, b, p, p', hf, h => let ⟨g, h1, h2, h3⟩ := h; ⟨g, h1, h2, h3.keep0 hf⟩
 | k + 11, b, p, p', hf, h => trivial
theorem yD (Z kb g1 g2 : Nat) (v : Value) (key : List UInt8) (ls : List (Value × List UInt8)) : ∀ (k : Nat) (b : Go.Act) (p p' : World), Fr [] p p' -> qdo Z kb g1 g2 v key ls k b p -> qdo Z kb g1 g2 v key ls k b p'
 | 0, b, p, p', hf, h => h
 | k + 1, b, p, p', hf, h => trivial
theorem ko1 (Z kb g1 g2 : Nat) (v : Value) (key : List UInt8) (ls : List (Value × List UInt8)) (w : World) (a : Go.Act) (hsz : a.tmps.size = 22) (h0 : qd a 0 = .pointer (some ⟨kb, 0, none⟩)) (h1 : qd a 1 = v) (hZ : w.heap.size = Z) (hK : At w kb (.cells #[.slice (some ⟨g1, 0, none⟩) 64 64, .slice (some ⟨g2, 0, none⟩) 64 64] 236)) (hI : At w g1 (.cells ((zR key).map u8v).toArray 233)) (hR : RdB (fun b => w.heap.size <= b) w v ls) (hS : SG w) (hn : 1 <= ls.length) (hl : (jl ls).length <= 90000000) (hls : ls.length <= 1000) (Q : Exit -> Go.Act -> World -> Prop)
  (hQ : ∀ (b : Go.Act) (p : World) (g : Nat), b.defers = a.defers -> b.tmps.size = 22 -> (∀ s, some s ∉ ([some 6, some 7, some 8, some 9, some 10, some 11, some 12, some 13, some 14, some 5, none] : List (Option Nat)) -> qd b s = qd a s) -> Fr [] w p -> qd b 5 = .pointer (some ⟨g, 0, none⟩) -> Z <= g -> At p g (.cells ((jE (zR key ++ jl ls)).map u8v).toArray 58) -> Q .normal b p) : Code.wp Tryz.prog qes Q a w := by
 conv => arg 2; whnf
 refine qP [] (Xe Z kb g1 g2 v key ls) (qdo Z kb g1 g2 v key ls) [some 6, some 7, some 8, some 9, some 10, some 11, some 12, some 13, some 14, some 5, none] [[6], [7], [8], [9], [10], [11], [12], [13], [14], [5], [5]] [[1, 6]] [[7, 12]] [(1, 7), (6, 7), (7, 8), (9, 10)] qf qf qf qf qf qe ?_ ?_ ?_ ?_ ?_
 ·intro w1 hw1 k hk1 hk2
  have hk3 : 11 <= k := hk1
  have hk4 : k < 11 := hk2
  clear hk1 hk2
  omega
 ·intro k b b' p hs h
  match k with
  | 0 => show qd b' 6 = v; rw [<- hs 6 qe]; exact h
  | 1 => show qM 22 Z p (qd b' 7) (ls.map (·.1)) /\ ∀ q, (qd b' 7).ownBlock = some q -> q < p.heap.size; rw [<- hs 7 qe]; exact h
  | 2 => show qd b' 8 = .pointer (some ⟨kb, 0, none⟩); rw [<- hs 8 qe]; exact h
  | 3 => show qd b' 9 = .pointer (some ⟨kb, 0, none⟩); rw [<- hs 9 qe]; exact h
  | 4 => show qd b' 10 = .pointer (some ⟨kb, 0, none⟩); rw [<- hs 10 qe]; exact h
  | 5 => show qd b' 11 = .slice (some ⟨g1, 0, none⟩) 64 64; rw [<- hs 11 qe]; exact h
  | 6 => show ∃ g, qd b' 12 = .slice (some ⟨g, 0, none⟩) 1 1 /\ Z <= g /\ At p g (.cells #[.slice (some ⟨g1, 0, none⟩) 64 64] 22); rw [<- hs 12 qe]; exact h
  | 7 => show qM 22 Z p (qd b' 13) (.slice (some ⟨g1, 0, none⟩) 64 64 :: ls.map (·.1)); rw [<- hs 13 qe]; exact h
  | 8 => show qd b' 14 = .agg ((jE (zR key ++ jl ls)).map u8v).toArray; rw [<- hs 14 qe]; exact h
  | 9 => show ∃ g c, qd b' 5 = .pointer (some ⟨g, 0, none⟩) /\ Z <= g /\ At p g (.cells c 58) /\ c.size = 32; rw [<- hs 5 qe]; exact h
  | 10 => show ∃ g, qd b' 5 = .pointer (some ⟨g, 0, none⟩) /\ Z <= g /\ At p g (.cells ((jE (zR key ++ jl ls)).map u8v).toArray 58); rw [<- hs 5 qe]; exact h
  | k + 11 => trivial
 ·intro k b b' p hs h
  match k with
  | 0 => show ∀ q g, (qd b' 7).ownBlock = some q -> qd b' 12 = .slice (some ⟨g, 0, none⟩) 1 1 -> g ≠ q; rw [<- hs 7 qe, <- hs 12 qe]; exact h
  | k + 1 => trivial
 ·intro i hi dn b p hs ho hf hF hG hdn hdc hr
  have hi9 : i < 11 := hi
  clear hi
  match i, hi9 with
  | 0, _ =>
   have e0 : b.eval (.tmp 1) = v := (ho 1 qe).trans h1
   refine qp _ qw ?_
   refine qC _ rfl rfl (v) WY ?_
   exact ⟨rfl, rfl, hf, fun _ _ _ _ _ h => h, qt Y97, fun _ _ _ h => h, fun e he hi hx => by exact absurd hi ((show ∀ e, e < 1 -> 0 ∉ ([[1, 6]] : List (List Nat)).getD e [] from by decide) e he)⟩
  | 1, _ =>
   have e0 : b.eval (.tmp 6) = v := fdq hF hr 0
   refine qG _ qw (qq rfl) 148 _ _ rfl #[v] Y98 zC ((Xu (fun b => Z <= b) p v (ls.map (·.1)) ((hZ ▸ hR.1).keep0 hf) (fun u hu => by obtain ⟨x, hx, rfl⟩ := List.mem_map.1 hu; obtain ⟨a, c, e, -⟩ := hR.2 x hx; rw [e]; rfl) Vv).mono ?_)
   rintro e p' ⟨v', rfl, hv, hf2⟩
   refine ⟨_, rfl, hf.trans hf2, fun k _ _ _ _ h => Qg Z kb g1 g2 v key ls k _ _ _ hf2 h, ?_, fun e _ _ h => yD Z kb g1 g2 v key ls e _ _ _ hf2 h, ?_⟩
   ·refine qJ b 7 _ Y97 (fun b' => Xe Z kb g1 g2 v key ls 1 b' p') ?_
    intro b' hd hne
    show qM 22 Z p' (qd b' 7) (ls.map (·.1)) /\ ∀ q, (qd b' 7).ownBlock = some q -> q < p'.heap.size
    rw [hd]
    exact ⟨hv.base Jh, fun q hq => (hv.lt q hq).2⟩
   ·intro e he hi hx
    match e, he with
    | 0, _ =>
     have f6 := hF 6 (show (6:Nat) < 11 by decide) (fun _ => hx 6 qe qe) (fun c hc => by have hq1 : c = 7 := by { simpa using hc }; subst hq1; cases hq : dn 7 with | false => rfl | true => (have hq2 := hdc 7 1 hq qf; rw [hdn] at hq2; cases hq2))
     obtain ⟨g, h1, h2, h3⟩ := f6
     refine qJ b 7 _ Y97 (fun b' => ∀ q g, (qd b' 7).ownBlock = some q -> qd b' 12 = .slice (some ⟨g, 0, none⟩) 1 1 -> g ≠ q) ?_
     intro b' hd hne q g' hq hg
     rw [hne 12 qe, h1] at hg
     cases hg
     rw [hd] at hq
     have := (hv.lt q hq).1
     have := qx h3
     omega
  | 2, _ =>
   have e0 : b.eval (.tmp 0) = .pointer (some ⟨kb, 0, none⟩) := (ho 0 qe).trans h0
   refine qp _ qw ?_
   refine qC _ rfl rfl (.pointer (some ⟨kb, 0, none⟩)) WY ?_
   exact ⟨rfl, rfl, hf, fun _ _ _ _ _ h => h, qt Y97, fun _ _ _ h => h, fun e he hi hx => by exact absurd hi ((show ∀ e, e < 1 -> 2 ∉ ([[1, 6]] : List (List Nat)).getD e [] from by decide) e he)⟩
  | 3, _ =>
   have e0 : b.eval (.tmp 8) = .pointer (some ⟨kb, 0, none⟩) := fdq hF hr 2
   refine qp _ qw ?_
   refine qC _ rfl rfl (.pointer (some ⟨kb, 0, none⟩)) WY ?_
   exact ⟨rfl, rfl, hf, fun _ _ _ _ _ h => h, qt Y97, fun _ _ _ h => h, fun e he hi hx => by exact absurd hi ((show ∀ e, e < 1 -> 3 ∉ ([[1, 6]] : List (List Nat)).getD e [] from by decide) e he)⟩
  | 4, _ =>
   have e0 : b.eval (.tmp 9) = .pointer (some ⟨kb, 0, none⟩) := fdq hF hr 3
   refine qp _ qw ?_
   refine qC _ rfl rfl (.pointer (some ⟨kb, 0, none⟩)) WY ?_
   exact ⟨rfl, rfl, hf, fun _ _ _ _ _ h => h, qt Y97, fun _ _ _ h => h, fun e he hi hx => by exact absurd hi ((show ∀ e, e < 1 -> 4 ∉ ([[1, 6]] : List (List Nat)).getD e [] from by decide) e he)⟩
  | 5, _ =>
   have e0 : b.eval (.tmp 10) = .pointer (some ⟨kb, 0, none⟩) := fdq hF hr 4
   have c1 : p.cell? ⟨kb, 0, none⟩ = some (.slice (some ⟨g1, 0, none⟩) 64 64) := (hK.keep0 hf).cell 0
   refine qp _ qw ?_
   refine qC _ rfl rfl (.slice (some ⟨g1, 0, none⟩) 64 64) (by obtain ⟨ρ, hρ⟩ := exq (b.eval); rw [hρ] at e0 ⊢; unfold execOp; simp [go_sem, e0, c1]) ?_
   exact ⟨rfl, rfl, hf, fun _ _ _ _ _ h => h, qt Y97, fun _ _ _ h => h, fun e he hi hx => by exact absurd hi ((show ∀ e, e < 1 -> 5 ∉ ([[1, 6]] : List (List Nat)).getD e [] from by decide) e he)⟩
  | 6, _ =>
   have e0 : b.eval (.tmp 11) = .slice (some ⟨g1, 0, none⟩) 64 64 := fdq hF hr 5
   refine qp _ qw ?_
   refine uR Tryz.underlying56 Tryz.infoBytes rfl (.tmp 11) rfl (.slice (some ⟨g1, 0, none⟩) 64 64) e0 rfl ?_
   have hf2 : Fr [] p (p.alloc (.cells #[.slice (some ⟨g1, 0, none⟩) 64 64] 22)) := Fr.alloc _ _
   obtain ⟨p', hp'⟩ : ∃ p', p.alloc (.cells #[.slice (some ⟨g1, 0, none⟩) 64 64] 22) = p' := ⟨_, rfl⟩
   have hA : At p' p.heap.size (.cells #[.slice (some ⟨g1, 0, none⟩) 64 64] 22) := by rw [<- hp']; exact At.new rfl
   rw [hp'] at hf2 ⊢
   clear hp'
   refine ⟨rfl, rfl, hf.trans hf2, fun k _ _ _ _ h => Qg Z kb g1 g2 v key ls k _ _ _ hf2 h, ?_, fun e _ _ h => yD Z kb g1 g2 v key ls e _ _ _ hf2 h, ?_⟩
   ·refine qJ b 12 _ Y97 (fun b' => Xe Z kb g1 g2 v key ls 6 b' p') ?_
    intro b' hd hne
    show ∃ g, qd b' 12 = .slice (some ⟨g, 0, none⟩) 1 1 /\ Z <= g /\ At p' g (.cells #[.slice (some ⟨g1, 0, none⟩) 64 64] 22)
    exact ⟨_, hd, by rw [<- hZ]; exact hf.size, hA⟩
   ·intro e he hi hx
    match e, he with
    | 0, _ =>
     have f1 := hF 1 (show (1:Nat) < 11 by decide) (fun _ => hx 1 qe qe) (fun c hc => by have hq1 : c = 7 := by { simpa using hc }; subst hq1; cases hq : dn 7 with | false => rfl | true => (have hq2 := hdc 7 6 hq qf; rw [hdn] at hq2; cases hq2))
     refine qJ b 12 _ Y97 (fun b' => ∀ q g, (qd b' 7).ownBlock = some q -> qd b' 12 = .slice (some ⟨g, 0, none⟩) 1 1 -> g ≠ q) ?_
     intro b' hd hne q g' hq hg
     rw [hd] at hg
     cases hg
     rw [hne 7 qe] at hq
     have := f1.2 q hq
     omega
  | 7, _ =>
   have f1 : qM 22 Z p (qd b 7) (ls.map (·.1)) /\ ∀ q, (qd b 7).ownBlock = some q -> q < p.heap.size := hF 1 (show (1:Nat) < 11 by decide) (fun _ => (hr 1 qf).2) (fun c hc => by (have hq1 : c = 7 := by simpa using hc); subst hq1; exact hdn)
   have f6 : ∃ g, qd b 12 = .slice (some ⟨g, 0, none⟩) 1 1 /\ Z <= g /\ At p g (.cells #[.slice (some ⟨g1, 0, none⟩) 64 64] 22) := hF 6 (show (6:Nat) < 11 by decide) (fun _ => (hr 6 qf).2) (fun c hc => by (have hq1 : c = 7 := by simpa using hc); subst hq1; exact hdn)
   obtain ⟨g, b1, b2, b3⟩ := f6
   have hap : ∀ q, (qd b 7).ownBlock = some q -> g ≠ q := fun q hq => hG 0 qe (fun x hx => by have hx2 : x = 1 ∨ x = 6 := by { simpa using hx }; rcases hx2 with rfl | rfl; exact (hr 1 qf).2; exact (hr 6 qf).2) q g hq b1
   have e0 : b.eval (.tmp 7) = qd b 7 := rfl
   have e1 : b.eval (.const (.int .i64 0)) = .int .i64 0 := rfl
   have e2 : b.eval (.tmp 12) = .slice (some ⟨g, 0, none⟩) 1 1 := b1
   refine qG _ qw (qq rfl) 147 _ _ rfl #[qd b 7, .int .i64 0, .slice (some ⟨g, 0, none⟩) 1 1] (by simp only [List.map_toArray, List.map_cons, List.map_nil, e0, e1, e2]) zC ((qbR p Z g _ _ (.slice (some ⟨g1, 0, none⟩) 64 64) f1.1 Vv Vv b3 hap Jh (fun u hu => by obtain ⟨x, hx, rfl⟩ := List.mem_map.1 hu; obtain ⟨a, c, e, -⟩ := hR.2 x hx; rw [e]; rfl) rfl).mono ?_)
   rintro e p' ⟨v', rfl, hv, hf2⟩
   refine ⟨_, rfl, hf.then hf2 (fun z hz => .inr (by have := (f1.1.lt z (by simpa using hz)).1; omega)), fun k hki hnr hco hli h => ?_, ?_, fun _ _ _ h => h, fun e he hi hx => absurd hi ((show ∀ e, e < 1 -> 7 ∉ ([[1, 6]] : List (List Nat)).getD e [] from by decide) e he)⟩
   ·match k with
    | 0 => exact h
    | 1 => exact absurd (List.mem_cons_self) hco
    | 2 => exact h
    | 3 => exact h
    | 4 => exact h
    | 5 => exact h
    | 6 => exact absurd qe hco
    | 7 => exact absurd rfl hki
    | 8 => exact h
    | 9 => (obtain ⟨g5, c, h1, h2, h3, h4⟩ := h; exact ⟨g5, c, h1, h2, h3.keep hf2 (fun hm => jO f1.1 h3 qe vd), h4⟩)
    | 10 => exact Bool.noConfusion (hnr.symm.trans qf : false = true)
    | k + 11 => exact trivial
   ·refine qJ b 13 _ Y97 (fun b' => Xe Z kb g1 g2 v key ls 7 b' p') ?_
    intro b' hd hne
    show qM 22 Z p' (qd b' 13) (.slice (some ⟨g1, 0, none⟩) 64 64 :: ls.map (·.1))
    rw [hd]
    exact hv
  | 8, _ =>
   have f7 : qM 22 Z p (qd b 13) (.slice (some ⟨g1, 0, none⟩) 64 64 :: ls.map (·.1)) := hF 7 (show (7:Nat) < 11 by decide) (fun _ => (hr 7 qf).2) (fun c hc => by (have hq1 : c = 8 := by simpa using hc); subst hq1; exact hdn)
   have e0 : b.eval (.tmp 13) = qd b 13 := rfl
   have hRD : RdB (fun b => p.heap.size <= b) p (qd b 13) ((.slice (some ⟨g1, 0, none⟩) 64 64, zR key) :: ls) := by
    refine ⟨?_, fun x hx => ?_⟩
    ·obtain ⟨a, cap, h1, h2, h3, h4⟩ := f7.vs (A := fun _ => False) (fun _ h => h.elim)
     refine ⟨a, cap, h1, h2, h3, ?_⟩
     exact Jo h4
    ·rcases List.mem_cons.1 hx with rfl | hx
     ·exact zB (hI.keep0 hf) (vC key) qe (by have := qx (hI.keep0 hf); omega)
     ·exact (hR.2 x hx).mono hf qg (fun b hb => .inr Kd)
   refine qG _ qw (qq rfl) 76 _ _ rfl #[qd b 13] Y98 zC ((QD p (qd b 13) ((.slice (some ⟨g1, 0, none⟩) 64 64, zR key) :: ls) hRD (hS.keep hf).f (hS.keep hf).k (hS.keep hf).g (by simp only [jl, List.map_cons, List.flatten_cons, List.length_append, vC]; have := hl; unfold jl at this; omega)).mono ?_)
   rintro e p' ⟨rfl, hf2⟩
   refine ⟨_, rfl, hf.trans hf2, fun k _ _ _ _ h => Qg Z kb g1 g2 v key ls k _ _ _ hf2 h, ?_, fun e _ _ h => yD Z kb g1 g2 v key ls e _ _ _ hf2 h, fun e he hi hx => by exact absurd hi ((show ∀ e, e < 1 -> 8 ∉ ([[1, 6]] : List (List Nat)).getD e [] from by decide) e he)⟩
   refine qJ b 14 _ Y97 (fun b' => Xe Z kb g1 g2 v key ls 8 b' p') ?_
   intro b' hd hne
   show qd b' 14 = .agg ((jE (zR key ++ jl ls)).map u8v).toArray
   rw [hd]
   simp [jl]
  | 9, _ =>
   refine qp _ qw ?_
   refine xw rfl (.pointer (some ⟨p.heap.size, 0, none⟩)) (p.alloc (.cells qD 58)) qf ?_
   have hf2 : Fr [] p (p.alloc (.cells qD 58)) := Fr.alloc _ _
   obtain ⟨p', hp'⟩ : ∃ p', p.alloc (.cells qD 58) = p' := ⟨_, rfl⟩
   have hA : At p' p.heap.size (.cells qD 58) := by rw [<- hp']; exact At.new rfl
   rw [hp'] at hf2 ⊢
   clear hp'
   refine ⟨rfl, rfl, hf.trans hf2, fun k _ _ _ _ h => Qg Z kb g1 g2 v key ls k _ _ _ hf2 h, ?_, fun e _ _ h => yD Z kb g1 g2 v key ls e _ _ _ hf2 h, fun e he hi hx => by exact absurd hi ((show ∀ e, e < 1 -> 9 ∉ ([[1, 6]] : List (List Nat)).getD e [] from by decide) e he)⟩
   refine qJ b 5 _ Y97 (fun b' => Xe Z kb g1 g2 v key ls 9 b' p') ?_
   exact Y75
  | 10, _ =>
   have f8 : qd b 14 = .agg ((jE (zR key ++ jl ls)).map u8v).toArray := fdq hF hr 8
   have f9 : ∃ g c, qd b 5 = .pointer (some ⟨g, 0, none⟩) /\ Z <= g /\ At p g (.cells c 58) /\ c.size = 32 := hF 9 (show (9:Nat) < 11 by decide) (fun _ => (hr 9 qf).2) (fun c hc => by (have hq1 : c = 10 := by simpa using hc); subst hq1; exact hdn)
   obtain ⟨g, c, b1, b2, b3, b4⟩ := f9
   have e0 : b.eval (.tmp 5) = .pointer (some ⟨g, 0, none⟩) := b1
   have e1 : b.eval (.tmp 14) = .agg ((jE (zR key ++ jl ls)).map u8v).toArray := f8
   refine qp _ qw ?_
   refine ql (.tmp 5) (.tmp 14) rfl rfl ((jE (zR key ++ jl ls)).map u8v).toArray e0 e1 qcr b3 (by rw [b4, List.size_toArray, List.length_map]; rfl) (jv _) ?_
   intro p' f1 a1 _
   refine ⟨rfl, rfl, hf.then f1 (fun z hz => .inr vV), fun k hki hnr hco hli h => ?_, ⟨g, b1, b2, a1⟩, fun _ _ _ h => h, fun e he hi hx => absurd hi ((show ∀ e, e < 1 -> 10 ∉ ([[1, 6]] : List (List Nat)).getD e [] from by decide) e he)⟩
   match k with
   | 0 => exact h
   | 1 => exact absurd (hr 7 qf).2 (by rw [hli 7 qe]; decide)
   | 2 => exact h
   | 3 => exact h
   | 4 => exact h
   | 5 => exact h
   | 6 => exact absurd (hr 7 qf).2 (by rw [hli 7 qe]; decide)
   | 7 => exact absurd (hr 8 qf).2 (by rw [hli 8 qe]; decide)
   | 8 => exact h
   | 9 => exact absurd qe hco
   | 10 => exact absurd rfl hki
   | k + 11 => exact trivial
 ·intro b p hd hs ho hf hall hex
  obtain ⟨g, h1, h2, h3⟩ := hall 10 qe (fun c hc => by simp at hc)
  refine hQ b p g hd (hs.trans hsz) ho hf h1 h2 h3
noncomputable def qen : Code := ((Tryz.f105.body.bind (qn 2)).getD .skip)
def LL (Z kb g1 g2 g4 g5 : Nat) (key D : List UInt8) (k : Nat) (b : Go.Act) (p : World) : Prop :=
 match k with
 | 0 => qd b 15 = .pointer (some ⟨kb, 0, none⟩)
 | 1 => qd b 16 = .pointer (some ⟨kb, 0, none⟩)
 | 2 => qd b 17 = .pointer (some ⟨kb, 1, none⟩)
 | 3 => qd b 18 = .slice (some ⟨g2, 0, none⟩) 64 64
 | 4 => qd b 19 = .slice (some ⟨g5, 0, none⟩) 32 32
 | 5 => ∃ g, qd b 20 = .slice (some ⟨g, 0, none⟩) 2 2 /\ At p g (.cells #[.slice (some ⟨g2, 0, none⟩) 64 64, .slice (some ⟨g5, 0, none⟩) 32 32] 22)
 | 6 => qd b 21 = .agg ((jE (zM key ++ D)).map u8v).toArray
 | 7 => At p g4 (.cells ((jE (zM key ++ D)).map u8v).toArray 58)
 | 8 => ∃ c, At p g4 (.cells c 58) /\ c.size = 32
 | _ => True
def qcT (Z kb g1 g2 g4 g5 : Nat) (key D : List UInt8) (k : Nat) (b : Go.Act) (p : World) : Prop :=
 match k with
 | _ => True
theorem VM (Z kb g1 g2 g4 g5 : Nat) (key D : List UInt8) : ∀ (k : Nat) (b : Go.Act) (p p' : World), Fr [] p p' -> LL Z kb g1 g2 g4 g5 key D k b p -> LL Z kb g1 g2 g4 g5 key D k b p'
 | 0, b, p, p', hf, h => h
 | 1, b, p, p', hf, h => h
 | 2, b, p, p', hf, h => h
 | 3, b, p, p', hf, h => h
 | 4, b, p, p', hf, h => h
 | 5, b, p, p', hf, h => let ⟨g, h1, h3⟩ := h; ⟨g, h1, h3.keep0 hf⟩
 | 6, b, p, p', hf, h => h
 | 7, b, p, p', hf, h => h.keep0 hf
 | 8, b, p, p', hf, h => let ⟨c, h1, h2⟩ := h; ⟨c, h1.keep0 hf, h2⟩
 | k + 9, b, p, p', hf, h => trivial
theorem Zu (Z kb g1 g2 g4 g5 : Nat) (key D : List UInt8) : ∀ (k : Nat) (b : Go.Act) (p p' : World), Fr [] p p' -> qcT Z kb g1 g2 g4 g5 key D k b p -> qcT Z kb g1 g2 g4 g5 key D k b p'
 | k, b, p, p', hf, h => trivial
theorem ko2 (Z kb g1 g2 g4 g5 : Nat) (key D : List UInt8) (w : World) (a : Go.Act) (hsz : a.tmps.size = 22) (h0 : qd a 0 = .pointer (some ⟨kb, 0, none⟩)) (h4 : qd a 4 = .pointer (some ⟨g4, 0, none⟩)) (h5 : qd a 5 = .pointer (some ⟨g5, 0, none⟩)) (w0 : World) (hw0 : Fr [] w0 w) (h4z : w0.heap.size <= g4) (h54 : g5 ≠ g4) (hK : At w0 kb (.cells #[.slice (some ⟨g1, 0, none⟩) 64 64, .slice (some ⟨g2, 0, none⟩) 64 64] 236)) (hO : At w0 g2 (.cells ((zM key).map u8v).toArray 233)) (hD : At w g5 (.cells (D.map u8v).toArray 58)) (hDl : D.length = 32) (hS : SG w0) (c40 : Array Value) (h4A : At w g4 (.cells c40 58)) (h4c : c40.size = 32) (Q : Exit -> Go.Act -> World -> Prop)
  (hQ : ∀ (b : Go.Act) (p : World), b.defers = a.defers -> b.tmps.size = 22 -> (∀ s, some s ∉ ([some 15, some 16, some 17, some 18, some 19, some 20, some 21, none] : List (Option Nat)) -> qd b s = qd a s) -> Fr [g4] w p -> At p g4 (.cells ((jE (zM key ++ D)).map u8v).toArray 58) -> Q .normal b p) : Code.wp Tryz.prog qen Q a w := by
 have F0 : ∀ {p : World}, Fr [g4] w p -> Fr [] w0 p := fun hf => hw0.then hf (fun z hz => .inr vV)
 conv => arg 2; whnf
 refine qP [g4] (LL Z kb g1 g2 g4 g5 key D) (qcT Z kb g1 g2 g4 g5 key D) [some 15, some 16, some 17, some 18, some 19, some 20, some 21, none] [[15], [16], [17], [18], [19], [20], [21], [], []] [] [] [(5, 6), (8, 7)] qf qf qf qf qf qe ?_ ?_ ?_ ?_ ?_
 ·intro w1 hw1 k hk1 hk2
  have hk3 : 8 <= k := hk1
  have hk4 : k < 9 := hk2
  clear hk1 hk2
  rcases (show k = 8 by omega) with rfl
  ·exact ⟨_, h4A.keep0 hw1, h4c⟩
 ·intro k b b' p hs h
  match k with
  | 0 => show qd b' 15 = .pointer (some ⟨kb, 0, none⟩); rw [<- hs 15 qe]; exact h
  | 1 => show qd b' 16 = .pointer (some ⟨kb, 0, none⟩); rw [<- hs 16 qe]; exact h
  | 2 => show qd b' 17 = .pointer (some ⟨kb, 1, none⟩); rw [<- hs 17 qe]; exact h
  | 3 => show qd b' 18 = .slice (some ⟨g2, 0, none⟩) 64 64; rw [<- hs 18 qe]; exact h
  | 4 => show qd b' 19 = .slice (some ⟨g5, 0, none⟩) 32 32; rw [<- hs 19 qe]; exact h
  | 5 => show ∃ g, qd b' 20 = .slice (some ⟨g, 0, none⟩) 2 2 /\ At p g (.cells #[.slice (some ⟨g2, 0, none⟩) 64 64, .slice (some ⟨g5, 0, none⟩) 32 32] 22); rw [<- hs 20 qe]; exact h
  | 6 => show qd b' 21 = .agg ((jE (zM key ++ D)).map u8v).toArray; rw [<- hs 21 qe]; exact h
  | 7 => show At p g4 (.cells ((jE (zM key ++ D)).map u8v).toArray 58); exact h
  | 8 => show ∃ c, At p g4 (.cells c 58) /\ c.size = 32; exact h
  | k + 9 => trivial
 ·intro k b b' p hs h
  match k with
  | k => trivial
 ·intro i hi dn b p hs ho hf hF hG hdn hdc hr
  have hi9 : i < 8 := hi
  clear hi
  match i, hi9 with
  | 0, _ =>
   have e0 : b.eval (.tmp 0) = .pointer (some ⟨kb, 0, none⟩) := (ho 0 qe).trans h0
   exact Y1
  | 1, _ =>
   have e0 : b.eval (.tmp 15) = .pointer (some ⟨kb, 0, none⟩) := fdq hF hr 0
   exact Y1
  | 2, _ =>
   have e0 : b.eval (.tmp 16) = .pointer (some ⟨kb, 0, none⟩) := fdq hF hr 1
   exact Y1
  | 3, _ =>
   have e0 : b.eval (.tmp 17) = .pointer (some ⟨kb, 1, none⟩) := fdq hF hr 2
   have c1 : p.cell? ⟨kb, 1, none⟩ = some (.slice (some ⟨g2, 0, none⟩) 64 64) := (hK.keep0 (F0 hf)).cell 1
   exact Y3
  | 4, _ =>
   have e0 : b.eval (.tmp 5) = .pointer (some ⟨g5, 0, none⟩) := (ho 5 qe).trans h5
   exact Y1
  | 5, _ =>
   have e0 : b.eval (.tmp 18) = .slice (some ⟨g2, 0, none⟩) 64 64 := fdq hF hr 3
   have e1 : b.eval (.tmp 19) = .slice (some ⟨g5, 0, none⟩) 32 32 := fdq hF hr 4
   refine qp _ qw ?_
   refine xi Tryz.underlying56 Tryz.infoBytes rfl (.tmp 18) (.tmp 19) rfl (.slice (some ⟨g2, 0, none⟩) 64 64) (.slice (some ⟨g5, 0, none⟩) 32 32) e0 e1 rfl rfl ?_
   have hf2 : Fr [] p (p.alloc (.cells #[.slice (some ⟨g2, 0, none⟩) 64 64, .slice (some ⟨g5, 0, none⟩) 32 32] 22)) := Fr.alloc _ _
   obtain ⟨p', hp'⟩ : ∃ p', p.alloc (.cells #[.slice (some ⟨g2, 0, none⟩) 64 64, .slice (some ⟨g5, 0, none⟩) 32 32] 22) = p' := ⟨_, rfl⟩
   have hA : At p' p.heap.size (.cells #[.slice (some ⟨g2, 0, none⟩) 64 64, .slice (some ⟨g5, 0, none⟩) 32 32] 22) := by rw [<- hp']; exact At.new rfl
   rw [hp'] at hf2 ⊢
   clear hp'
   refine ⟨rfl, rfl, hf.trans (hf2).weak, fun k _ _ _ _ h => VM Z kb g1 g2 g4 g5 key D k _ _ _ hf2 h, ?_, fun e _ _ h => Zu Z kb g1 g2 g4 g5 key D e _ _ _ hf2 h, fun e he hi hx => by exact absurd he (Nat.not_lt_zero e)⟩
   refine qJ b 20 _ Y97 (fun b' => LL Z kb g1 g2 g4 g5 key D 5 b' p') ?_
   intro b' hd hne
   show ∃ g, qd b' 20 = .slice (some ⟨g, 0, none⟩) 2 2 /\ At p' g (.cells #[.slice (some ⟨g2, 0, none⟩) 64 64, .slice (some ⟨g5, 0, none⟩) 32 32] 22)
   exact ⟨_, hd, hA⟩
  | 6, _ =>
   have f5 : ∃ g, qd b 20 = .slice (some ⟨g, 0, none⟩) 2 2 /\ At p g (.cells #[.slice (some ⟨g2, 0, none⟩) 64 64, .slice (some ⟨g5, 0, none⟩) 32 32] 22) := hF 5 (show (5:Nat) < 9 by decide) (fun _ => (hr 5 qf).2) (fun c hc => by (have hq1 : c = 6 := by simpa using hc); subst hq1; exact hdn)
   obtain ⟨g, b1, b2⟩ := f5
   have e0 : b.eval (.tmp 20) = .slice (some ⟨g, 0, none⟩) 2 2 := b1
   have hRD : RdB (fun b => p.heap.size <= b) p (.slice (some ⟨g, 0, none⟩) 2 2) [(.slice (some ⟨g2, 0, none⟩) 64 64, zM key), (.slice (some ⟨g5, 0, none⟩) 32 32, D)] := by
    refine ⟨⟨_, 2, rfl, by simp, by decide, Row.of_block (c := #[.slice (some ⟨g2, 0, none⟩) 64 64, .slice (some ⟨g5, 0, none⟩) 32 32]) (fz := (0, 0)) b2 qbH⟩, fun x hx => ?_⟩
    rcases List.mem_cons.1 hx with rfl | hx
    ·exact zB (hO.keep0 (F0 hf)) (vF key) qe (by have := qx (hO.keep0 (F0 hf)); omega)
    ·obtain rfl : x = (.slice (some ⟨g5, 0, none⟩) 32 32, D) := by simpa using hx
     exact zB (hD.keep hf (by simpa using h54)) hDl qe (by have := qx (hD.keep hf (by simpa using h54)); omega)
   refine qG _ qw (qq rfl) 76 _ _ rfl #[.slice (some ⟨g, 0, none⟩) 2 2] Y98 zC ((QD p _ [(.slice (some ⟨g2, 0, none⟩) 64 64, zM key), (.slice (some ⟨g5, 0, none⟩) 32 32, D)] hRD (hS.keep (F0 hf)).f (hS.keep (F0 hf)).k (hS.keep (F0 hf)).g (by simp only [jl, List.map_cons, List.map_nil, List.flatten_cons, List.flatten_nil, List.length_append, vF, hDl, List.length_nil]; omega)).mono ?_)
   rintro e p' ⟨rfl, hf2⟩
   refine ⟨_, rfl, hf.trans (hf2).weak, fun k _ _ _ _ h => VM Z kb g1 g2 g4 g5 key D k _ _ _ hf2 h, ?_, fun e _ _ h => Zu Z kb g1 g2 g4 g5 key D e _ _ _ hf2 h, fun e he hi hx => by exact absurd he (Nat.not_lt_zero e)⟩
   refine qJ b 21 _ Y97 (fun b' => LL Z kb g1 g2 g4 g5 key D 6 b' p') ?_
   intro b' hd hne
   show qd b' 21 = .agg ((jE (zM key ++ D)).map u8v).toArray
   rw [hd]
   simp [jl]
  | 7, _ =>
   have e0 : b.eval (.tmp 4) = .pointer (some ⟨g4, 0, none⟩) := (ho 4 qe).trans h4
   have f6 : qd b 21 = .agg ((jE (zM key ++ D)).map u8v).toArray := fdq hF hr 6
   have f8 : ∃ c, At p g4 (.cells c 58) /\ c.size = 32 := hF 8 (show (8:Nat) < 9 by decide) (fun h => absurd h qe) (fun c hc => by (have hq1 : c = 7 := by simpa using hc); subst hq1; exact hdn)
   have e1 : b.eval (.tmp 21) = .agg ((jE (zM key ++ D)).map u8v).toArray := f6
   obtain ⟨c4, b3, b4⟩ := f8
   refine qp _ qw ?_
   refine ql (.tmp 4) (.tmp 21) rfl rfl ((jE (zM key ++ D)).map u8v).toArray e0 e1 qcr b3 (by rw [b4, List.size_toArray, List.length_map]; rfl) (jv _) ?_
   intro p' f1 a1 _
   refine ⟨rfl, rfl, hf.trans f1, fun k hki hnr hco hli h => ?_, a1, fun _ _ _ h => h, fun e he hi hx => absurd he (Nat.not_lt_zero e)⟩
   match k with
   | 0 => exact h
   | 1 => exact h
   | 2 => exact h
   | 3 => exact h
   | 4 => exact h
   | 5 => exact absurd (hr 6 qf).2 (by rw [hli 6 qe]; decide)
   | 6 => exact h
   | 7 => exact absurd rfl hki
   | 8 => exact absurd qe hco
   | k + 9 => exact trivial
 ·intro b p hd hs ho hf hall hex
  exact hQ b p hd (hs.trans hsz) ho hf (hall 7 qe (fun c hc => by simp at hc))
theorem Yw (a : Go.Act) (hs : a.tmps.size = 22) (hd : a.defers = []) : a = ⟨(qd a 0 :: qd a 1 :: qd a 2 :: qd a 3 :: qd a 4 :: qd a 5 :: qd a 6 :: qd a 7 :: qd a 8 :: qd a 9 :: qd a 10 :: qd a 11 :: qd a 12 :: qd a 13 :: qd a 14 :: qd a 15 :: qd a 16 :: qd a 17 :: qd a 18 :: qd a 19 :: qd a 20 :: qd a 21 :: []).toArray, []⟩ := j6 a 22 hs hd
theorem Js (w0 : World) (kb : Nat) (v : Value) (key : List UInt8) (ls : List (Value × List UInt8)) (hK : jp w0 kb key) (hR : RdB (fun b => w0.heap.size <= b) w0 v ls) (hS : SG w0) (hn : 1 <= ls.length) (hls : ls.length <= 1000) (hl : (jl ls).length <= 90000000) :
  Calls Tryz.prog 105 #[.pointer (some ⟨kb, 0, none⟩), v] w0 fun e w' => e = .returned (.agg ((zm key (jl ls)).map u8v).toArray) /\ Fr [] w0 w' := by
 obtain ⟨g1, g2, k1, k2, k3⟩ := hK
 obtain ⟨Z, hZ⟩ := exq (w0.heap.size)
 have F1 : Fr [] w0 (w0.alloc (.cells qD 58)) := Fr.alloc _ _
 have hs1 : (w0.alloc (.cells qD 58)).heap.size = Z + 1 := by simp [hZ]
 have HH := Hdq (And.intro hs1 (And.intro (k1.keep0 F1) (And.intro (k2.keep0 F1) (And.intro (xA (A' := fun b => (w0.alloc (.cells qD 58)).heap.size <= b) hR F1 qg (fun b hb => .inl WT)) (And.intro (hS.keep F1) (And.intro hn (And.intro hls (And.intro hl (show At (w0.alloc (.cells qD 58)) Z (.cells qD 58) from At.new hZ.symm)))))))))
 have HO := Hdq (And.intro k1 (And.intro k3 (And.intro hS hZ)))
 have HF1 := Hdq F1
 have h1g : g1 < Z := by have := qx k2; omega
 clear k1 k2 k3 hR hS hn hls hl F1 hs1
 obtain ⟨X, hX⟩ := exq (jE (zR key ++ jl ls))
 have HX := Hdq hX
 clear hX
 go_enter Tryz.func105, Tryz.ntmps105
 go_wp2
 obtain ⟨a1, a2, a3, a4, a5, a6, a7, a8, a9⟩ := HH.out
 obtain ⟨c1, c2, c3, c4⟩ := HO.out
 refine ko1 (Z + 1) kb g1 g2 v key ls _ _ rfl rfl rfl a1 a2 a3 a4 a5 a6 a8 a7 _ ?_
 intro b p g hd hs ho hf h5 hg hA
 rw [HX.out] at hA
 rw [Yw b hs hd, show qd b 0 = .pointer (some ⟨kb, 0, none⟩) from ho 0 qe, show qd b 4 = .pointer (some ⟨Z, 0, none⟩) from ho 4 qe, h5]
 clear a1 a2 a3 a4 a5 a6 a7 a8 c1 c2 c3
 have HA := Hdq hA
 have HF := Hdq hf
 have HF0 := Hdq (HF1.out.trans hf)
 have H4 := Hdq (a9.keep0 hf)
 clear hA hf a9 h5 ho
 go_wp2
 obtain ⟨c1, c2, c3, c4⟩ := HO.out
 refine ko2 (Z + 1) kb g1 g2 Z g key X p _ rfl rfl rfl rfl w0 HF0.out (by rw [c4]; exact Nat.le_refl _) Y95 c1 c2 HA.out (by rw [<- HX.out]; rfl) c3 _ H4.out rfl _ ?_
 intro b2 p2 hd2 hs2 ho2 hf2 hA2
 rw [Yw b2 hs2 hd2, show qd b2 4 = .pointer (some ⟨Z, 0, none⟩) from ho2 4 qe]
 have HE := Hdq hA2
 have HG := Hdq (HF0.out.then hf2 (fun z hz => .inr vV))
 have HM := Hdq (show jE (zM key ++ X) = zm key (jl ls) by rw [<- HX.out]; rfl)
 clear hA2 hf2 c1 c2 c3
 go_wp2
 refine bodyPost_ret (qR rfl _ _ Z _ rfl (qr HE.out) Tryz.underlying58 rfl (jt _ rfl)) rfl ?_
 exact ⟨by rw [HM.out], HG.out⟩
theorem qco (w0 : World) (u v : Value) (key : List UInt8) (ls : List (Value × List UInt8)) (hB : Bs (fun b => w0.heap.size <= b) w0 u key) (hk : key.length <= 100000000) (hR : RdB (fun b => w0.heap.size <= b) w0 v ls) (hS : SG w0) (hn : 1 <= ls.length) (hls : ls.length <= 1000) (hl : (jl ls).length <= 90000000) :
  Calls Tryz.prog 169 #[u, v] w0 fun e w' => e = .returned (.agg ((zm key (jl ls)).map u8v).toArray) /\ Fr [] w0 w' := by
 obtain ⟨Z, hZ⟩ := exq (w0.heap.size)
 have F1 : Fr [] w0 (w0.alloc (.cells qD 58)) := Fr.alloc _ _
 have HS1 := Hdq (hS.keep F1)
 have HR1 := Hdq (xA (A' := fun b => (w0.alloc (.cells qD 58)).heap.size <= b) hR F1 qg (fun b hb => .inl WT))
 have HB1 := Hdq (hB.mono (A' := fun b => (w0.alloc (.cells qD 58)).heap.size <= b) F1 qg (fun b hb => .inl WT))
 have H4 := Hdq (show At (w0.alloc (.cells qD 58)) Z (.cells qD 58) from At.new hZ.symm)
 have HF1 := Hdq F1
 have HL := Hdq (And.intro hn (And.intro hls (And.intro hl hk)))
 have HZ := Hdq hZ
 clear hB hR hS hn hls hl hk F1
 go_enter Tryz.func169, Tryz.ntmps169
 go_wp2_with (go_at_call 103; fail)
 refine (vU _ u key HB1.out HL.out.2.2.2 HS1.out).mono ?_
 rintro e w2 ⟨kb, rfl, hkb, hf2⟩
 have HK2 := Hdq hkb
 have HS2 := Hdq (HS1.out.keep hf2)
 have HR2 := Hdq (xA (A' := fun b => w2.heap.size <= b) HR1.out hf2 qg (fun b hb => .inl (by have := hf2.size; omega)))
 have H42 := Hdq (H4.out.keep0 hf2)
 have HF2 := Hdq (HF1.out.trans hf2)
 clear hkb hf2 HB1 HS1 HR1 H4 HF1
 go_wp2_with (go_at_call 105; fail)
 refine (Js _ kb v key ls HK2.out HR2.out HS2.out HL.out.1 HL.out.2.1 HL.out.2.2.1).mono ?_
 rintro e w3 ⟨rfl, hf3⟩
 obtain ⟨o, ho⟩ := exq (zm key (jl ls))
 rw [ho]
 have hol : o.length = 32 := by rw [<- ho]; rfl
 have HOL := Hdq hol
 have HS9 := Hdq (show (Tryz.prog.info? 58).map (·.size) = some (o.map u8v).toArray.size by rw [List.size_toArray]; exact jt o hol)
 have H43 := Hdq (H42.out.keep0 hf3)
 have HF3 := Hdq (HF2.out.trans hf3)
 have HZ := Hdq hZ
 have HM := Hdq ho
 clear hol hf3 H42 HF2 HK2 HS2 HR2 ho
 go_wp2_with (refine ql (.tmp 4) (.tmp 8) rfl rfl (o.map u8v).toArray rfl rfl HS9.out H43.out VB (jv _) ?_)
 intro w9 f9 a9 s9
 have HF9 := Hdq (HF3.out.then f9 (fun z hz => .inr vH))
 have HZ9 := Hdq a9
 clear f9 a9 s9
 go_wp2
 refine bodyPost_ret (qR rfl _ _ Z _ rfl (qr HZ9.out) Tryz.underlying58 rfl (jt o HOL.out)) rfl ?_
 exact ⟨by rw [HM.out], HF9.out⟩
theorem qaV (w0 : World) (kb : Nat) (v : Value) (key : List UInt8) (ls : List (Value × List UInt8)) (hK : jp w0 kb key) (hR : RdB (fun b => w0.heap.size <= b) w0 v ls) (hS : SG w0) (hn : 1 <= ls.length) (hls : ls.length <= 1000) (hl : (jl ls).length <= 90000000) :
  Calls Tryz.prog 56 #[.pointer (some ⟨kb, 0, none⟩), v] w0 fun e w' => ∃ u, e = .returned u /\ qi 5 w0.heap.size w' u (xm key (jl ls)) /\ Fr [] w0 w' := by
 have HC := Hdq (Js w0 kb v key ls hK hR hS hn hls hl)
 clear hK hR hS hn hls hl
 go_enter Tryz.func56, Tryz.ntmps56
 go_wp2_with (go_at_call 105; fail)
 refine HC.out.mono ?_
 rintro e w3 ⟨rfl, hf3⟩
 obtain ⟨o, ho⟩ := exq (zm key (jl ls))
 rw [ho]
 have hol : o.length = 32 := by rw [<- ho]; rfl
 have HO := Hdq (show xm key (jl ls) = o.take 8 by rw [<- ho]; rfl)
 obtain ⟨Zd, hZd⟩ := exq (w3.heap.size)
 have HOL := Hdq hol
 have HS9 := Hdq (show (Tryz.prog.info? 58).map (·.size) = some (o.map u8v).toArray.size by rw [List.size_toArray]; exact jt o hol)
 have F5 : Fr [] w3 (w3.alloc (.cells (o.map u8v).toArray 58)) := Fr.alloc _ _
 have HF5 := Hdq (hf3.trans F5)
 have HB5 := Hdq ((zB (A := fun _ => False) (n := 32) (At.new hZd.symm : At (w3.alloc (.cells (o.map u8v).toArray 58)) Zd (.cells (o.map u8v).toArray 58)) hol qe qg).take 8 Y95)
 have HZD := Hdq hZd
 clear ho hol F5 hf3 HC
 go_wp2_with (first | (refine qy (.tmp 5) (.tmp 8) rfl rfl (o.map u8v).toArray (congrArg (fun n => Value.pointer (some ⟨n, 0, none⟩)) HZD.out.symm) rfl HS9.out (show (32 : Nat) = (o.map u8v).toArray.size by rw [List.size_toArray, List.length_map, HOL.out]) (jv _) ?_) | (go_at_call 59; fail))
 refine (jz (fun _ => False) _ _ (o.take 8) HB5.out JP).mono ?_
 rintro e w4 ⟨u, rfl, hu, hf4⟩
 have HU := Hdq (hu.base HF5.out.size)
 have HF6 := Hdq (HF5.out.trans hf4)
 clear hu hf4
 go_wp2
 go_ret
 exact ⟨_, rfl, by rw [HO.out]; exact HU.out, HF6.out⟩
end Go.Proofs.YtnafknkchbfpaaaGreatDoor
