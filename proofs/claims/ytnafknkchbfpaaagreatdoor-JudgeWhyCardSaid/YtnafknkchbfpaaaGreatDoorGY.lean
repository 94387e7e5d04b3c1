import Derived.Test.YtnafknkchbfpaaaGreatDoorGW
import Derived.Test.YtnafknkchbfpaaaGreatDoorGX
set_option linter.unusedVariables false
set_option linter.unusedSimpArgs false
set_option maxRecDepth 1000000
set_option maxHeartbeats 8000000
namespace Go.Proofs.YtnafknkchbfpaaaGreatDoor
open Go.RowKit Go.Bl
noncomputable def qf2 : Code := ((Tryz.f105.body.bind (qN 1)).getD .skip)
def Wr (Z kb g1 g2 : Nat) (v : Value) (key : List UInt8) (ls : List (Value × List UInt8)) (k : Nat) (b : Go.Act) (p : World) : Prop :=
 match k with
 | 0 => slot b 6 = v
 | 1 => jn 22 Z p (slot b 7) (ls.map (·.1)) /\ ∀ q, (slot b 7).ownBlock = some q -> q < p.heap.size
 | 2 => slot b 8 = .pointer (some ⟨kb, 0, none⟩)
 | 3 => slot b 9 = .pointer (some ⟨kb, 0, none⟩)
 | 4 => slot b 10 = .pointer (some ⟨kb, 0, none⟩)
 | 5 => slot b 11 = .slice (some ⟨g1, 0, none⟩) 64 64
 | 6 => ∃ g, slot b 12 = .slice (some ⟨g, 0, none⟩) 1 1 /\ Z <= g /\ At p g (.cells #[.slice (some ⟨g1, 0, none⟩) 64 64] 22)
 | 7 => jn 22 Z p (slot b 13) (.slice (some ⟨g1, 0, none⟩) 64 64 :: ls.map (·.1))
 | 8 => slot b 14 = .agg ((qw (uU key ++ ju ls)).map u8v).toArray
 | 9 => ∃ g c, slot b 5 = .pointer (some ⟨g, 0, none⟩) /\ Z <= g /\ At p g (.cells c 58) /\ c.size = 32
 | 10 => ∃ g, slot b 5 = .pointer (some ⟨g, 0, none⟩) /\ Z <= g /\ At p g (.cells ((qw (uU key ++ ju ls)).map u8v).toArray 58)
 | _ => True
def qfs (Z kb g1 g2 : Nat) (v : Value) (key : List UInt8) (ls : List (Value × List UInt8)) (k : Nat) (b : Go.Act) (p : World) : Prop :=
 match k with
 | 0 => ∀ q g, (slot b 7).ownBlock = some q -> slot b 12 = .slice (some ⟨g, 0, none⟩) 1 1 -> g ≠ q
 | _ => True
theorem QF (Z kb g1 g2 : Nat) (v : Value) (key : List UInt8) (ls : List (Value × List UInt8)) : ∀ (k : Nat) (b : Go.Act) (p p' : World), Fr [] p p' -> Wr Z kb g1 g2 v key ls k b p -> Wr Z kb g1 g2 v key ls k b p'
 | 0, b, p, p', hf, h => h
 | 1, b, p, p', hf, h => ⟨h.1.keep0 hf, fun q hq => Nat.lt_of_lt_of_le (h.2 q hq) hf.size⟩
 | 2, b, p, p', hf, h => h
 | 3, b, p, p', hf, h => h
 | 4, b, p, p', hf, h => h
 | 5, b, p, p', hf, h => h
 | 6, b, p, p', hf, h => let ⟨g, h1, h2, h3⟩ := h; ⟨g, h1, h2, h3.keep0 hf⟩
 | 7, b, p, p', hf, h => h.keep0 hf
 | 8, b, p, p', hf, h => h
 | 9, b, p, p', hf, h => let ⟨g, c, h1, h2, h3, h4⟩ := h; ⟨g, c, h1, h2, h3.keep0 hf, h4⟩
 | 10, b, p, p', hf, h => let ⟨g, h1, h2, h3⟩ := h; ⟨g, h1, h2, h3.keep0 hf⟩
 | k + 11, b, p, p', hf, h => trivial
theorem yV (Z kb g1 g2 : Nat) (v : Value) (key : List UInt8) (ls : List (Value × List UInt8)) : ∀ (k : Nat) (b : Go.Act) (p p' : World), Fr [] p p' -> qfs Z kb g1 g2 v key ls k b p -> qfs Z kb g1 g2 v key ls k b p'
 | 0, b, p, p', hf, h => h
 | k + 1, b, p, p', hf, h => trivial
theorem ko1 (Z kb g1 g2 : Nat) (v : Value) (key : List UInt8) (ls : List (Value × List UInt8)) (w : World) (a : Go.Act) (hsz : a.tmps.size = 22) (h0 : slot a 0 = .pointer (some ⟨kb, 0, none⟩)) (h1 : slot a 1 = v) (hZ : w.heap.size = Z) (hK : At w kb (.cells #[.slice (some ⟨g1, 0, none⟩) 64 64, .slice (some ⟨g2, 0, none⟩) 64 64] 236)) (hI : At w g1 (.cells ((uU key).map u8v).toArray 233)) (hR : RdB (fun b => w.heap.size <= b) w v ls) (hS : SG w) (hn : 1 <= ls.length) (hl : (ju ls).length <= 90000000) (hls : ls.length <= 1000) (Q : Exit -> Go.Act -> World -> Prop)
  (hQ : ∀ (b : Go.Act) (p : World) (g : Nat), b.defers = a.defers -> b.tmps.size = 22 -> (∀ s, some s ∉ ([some 6, some 7, some 8, some 9, some 10, some 11, some 12, some 13, some 14, some 5, none] : List (Option Nat)) -> slot b s = slot a s) -> Fr [] w p -> slot b 5 = .pointer (some ⟨g, 0, none⟩) -> Z <= g -> At p g (.cells ((qw (uU key ++ ju ls)).map u8v).toArray 58) -> Q .normal b p) : Code.wp Tryz.prog qf2 Q a w := by
 conv => arg 2; whnf
 refine uH [] (Wr Z kb g1 g2 v key ls) (qfs Z kb g1 g2 v key ls) [some 6, some 7, some 8, some 9, some 10, some 11, some 12, some 13, some 14, some 5, none] [[6], [7], [8], [9], [10], [11], [12], [13], [14], [5], [5]] [[1, 6]] [[7, 12]] [(1, 7), (6, 7), (7, 8), (9, 10)] Y45 Y45 Y45 Y45 Y45 Y76 ?_ ?_ ?_ ?_ ?_
 ·intro w1 hw1 k hk1 hk2
  have hk3 : 11 <= k := hk1
  have hk4 : k < 11 := hk2
  clear hk1 hk2
  omega
 ·intro k b b' p hs h
  match k with
  | 0 => show slot b' 6 = v; rw [<- hs 6 Y76]; exact h
  | 1 => show jn 22 Z p (slot b' 7) (ls.map (·.1)) /\ ∀ q, (slot b' 7).ownBlock = some q -> q < p.heap.size; rw [<- hs 7 Y76]; exact h
  | 2 => show slot b' 8 = .pointer (some ⟨kb, 0, none⟩); rw [<- hs 8 Y76]; exact h
  | 3 => show slot b' 9 = .pointer (some ⟨kb, 0, none⟩); rw [<- hs 9 Y76]; exact h
  | 4 => show slot b' 10 = .pointer (some ⟨kb, 0, none⟩); rw [<- hs 10 Y76]; exact h
  | 5 => show slot b' 11 = .slice (some ⟨g1, 0, none⟩) 64 64; rw [<- hs 11 Y76]; exact h
  | 6 => show ∃ g, slot b' 12 = .slice (some ⟨g, 0, none⟩) 1 1 /\ Z <= g /\ At p g (.cells #[.slice (some ⟨g1, 0, none⟩) 64 64] 22); rw [<- hs 12 Y76]; exact h
  | 7 => show jn 22 Z p (slot b' 13) (.slice (some ⟨g1, 0, none⟩) 64 64 :: ls.map (·.1)); rw [<- hs 13 Y76]; exact h
  | 8 => show slot b' 14 = .agg ((qw (uU key ++ ju ls)).map u8v).toArray; rw [<- hs 14 Y76]; exact h
  | 9 => show ∃ g c, slot b' 5 = .pointer (some ⟨g, 0, none⟩) /\ Z <= g /\ At p g (.cells c 58) /\ c.size = 32; rw [<- hs 5 Y76]; exact h
  | 10 => show ∃ g, slot b' 5 = .pointer (some ⟨g, 0, none⟩) /\ Z <= g /\ At p g (.cells ((qw (uU key ++ ju ls)).map u8v).toArray 58); rw [<- hs 5 Y76]; exact h
  | k + 11 => trivial
 ·intro k b b' p hs h
  match k with
  | 0 => show ∀ q g, (slot b' 7).ownBlock = some q -> slot b' 12 = .slice (some ⟨g, 0, none⟩) 1 1 -> g ≠ q; rw [<- hs 7 Y76, <- hs 12 Y76]; exact h
  | k + 1 => trivial
 ·intro i hi dn b p hs ho hf hF hG hdn hdc hr
  have hi9 : i < 11 := hi
  clear hi
  match i, hi9 with
  | 0, _ =>
   have e0 : b.eval (.tmp 1) = v := (ho 1 Y76).trans h1
   refine opV_step _ Y61 ?_
   refine zD _ rfl rfl (v) Y50 ?_
   exact ⟨rfl, rfl, hf, fun _ _ _ _ _ h => h, slot_put_self Y49, fun _ _ _ h => h, fun e he hi hx => by exact absurd hi ((show ∀ e, e < 1 -> 0 ∉ ([[1, 6]] : List (List Nat)).getD e [] from by decide) e he)⟩
  | 1, _ =>
   have e0 : b.eval (.tmp 6) = v := fdq hF hr 0
   refine zH _ Y61 (jh rfl) 148 _ _ rfl #[v] Y64 Y66 ((Uc (fun b => Z <= b) p v (ls.map (·.1)) ((hZ ▸ hR.1).keep0 hf) (fun u hu => by obtain ⟨x, hx, rfl⟩ := List.mem_map.1 hu; obtain ⟨a, c, e, -⟩ := hR.2 x hx; rw [e]; rfl) (by rw [List.length_map]; omega)).mono ?_)
   rintro e p' ⟨v', rfl, hv, hf2⟩
   refine ⟨_, rfl, hf.trans hf2, fun k _ _ _ _ h => QF Z kb g1 g2 v key ls k _ _ _ hf2 h, ?_, fun e _ _ h => yV Z kb g1 g2 v key ls e _ _ _ hf2 h, ?_⟩
   ·refine uL b 7 _ Y49 (fun b' => Wr Z kb g1 g2 v key ls 1 b' p') ?_
    intro b' hd hne
    show jn 22 Z p' (slot b' 7) (ls.map (·.1)) /\ ∀ q, (slot b' 7).ownBlock = some q -> q < p'.heap.size
    rw [hd]
    exact ⟨hv.base (by rw [<- hZ]; exact hf.size), fun q hq => (hv.lt q hq).2⟩
   ·intro e he hi hx
    match e, he with
    | 0, _ =>
     have f6 := hF 6 (show (6:Nat) < 11 by decide) (fun _ => hx 6 Y76 Y76) (fun c hc => by have hq1 : c = 7 := by { simpa using hc }; subst hq1; cases hq : dn 7 with | false => rfl | true => (have hq2 := hdc 7 1 hq Y45; rw [hdn] at hq2; cases hq2))
     obtain ⟨g, h1, h2, h3⟩ := f6
     refine uL b 7 _ Y49 (fun b' => ∀ q g, (slot b' 7).ownBlock = some q -> slot b' 12 = .slice (some ⟨g, 0, none⟩) 1 1 -> g ≠ q) ?_
     intro b' hd hne q g' hq hg
     rw [hne 12 Y76, h1] at hg
     cases hg
     rw [hd] at hq
     have := (hv.lt q hq).1
     have := qo h3
     omega
  | 2, _ =>
   have e0 : b.eval (.tmp 0) = .pointer (some ⟨kb, 0, none⟩) := (ho 0 Y76).trans h0
   refine opV_step _ Y61 ?_
   refine zD _ rfl rfl (.pointer (some ⟨kb, 0, none⟩)) Y50 ?_
   exact ⟨rfl, rfl, hf, fun _ _ _ _ _ h => h, slot_put_self Y49, fun _ _ _ h => h, fun e he hi hx => by exact absurd hi ((show ∀ e, e < 1 -> 2 ∉ ([[1, 6]] : List (List Nat)).getD e [] from by decide) e he)⟩
  | 3, _ =>
   have e0 : b.eval (.tmp 8) = .pointer (some ⟨kb, 0, none⟩) := fdq hF hr 2
   refine opV_step _ Y61 ?_
   refine zD _ rfl rfl (.pointer (some ⟨kb, 0, none⟩)) Y50 ?_
   exact ⟨rfl, rfl, hf, fun _ _ _ _ _ h => h, slot_put_self Y49, fun _ _ _ h => h, fun e he hi hx => by exact absurd hi ((show ∀ e, e < 1 -> 3 ∉ ([[1, 6]] : List (List Nat)).getD e [] from by decide) e he)⟩
  | 4, _ =>
   have e0 : b.eval (.tmp 9) = .pointer (some ⟨kb, 0, none⟩) := fdq hF hr 3
   refine opV_step _ Y61 ?_
   refine zD _ rfl rfl (.pointer (some ⟨kb, 0, none⟩)) Y50 ?_
   exact ⟨rfl, rfl, hf, fun _ _ _ _ _ h => h, slot_put_self Y49, fun _ _ _ h => h, fun e he hi hx => by exact absurd hi ((show ∀ e, e < 1 -> 4 ∉ ([[1, 6]] : List (List Nat)).getD e [] from by decide) e he)⟩
  | 5, _ =>
   have e0 : b.eval (.tmp 10) = .pointer (some ⟨kb, 0, none⟩) := fdq hF hr 4
   have c1 : p.cell? ⟨kb, 0, none⟩ = some (.slice (some ⟨g1, 0, none⟩) 64 64) := (hK.keep0 hf).cell 0
   refine opV_step _ Y61 ?_
   refine zD _ rfl rfl (.slice (some ⟨g1, 0, none⟩) 64 64) (by obtain ⟨ρ, hρ⟩ := exq (b.eval); rw [hρ] at e0 ⊢; unfold execOp; simp [go_sem, e0, c1]) ?_
   exact ⟨rfl, rfl, hf, fun _ _ _ _ _ h => h, slot_put_self Y49, fun _ _ _ h => h, fun e he hi hx => by exact absurd hi ((show ∀ e, e < 1 -> 5 ∉ ([[1, 6]] : List (List Nat)).getD e [] from by decide) e he)⟩
  | 6, _ =>
   have e0 : b.eval (.tmp 11) = .slice (some ⟨g1, 0, none⟩) 64 64 := fdq hF hr 5
   refine opV_step _ Y61 ?_
   refine KK Tryz.underlying56 Tryz.infoBytes rfl (.tmp 11) rfl (.slice (some ⟨g1, 0, none⟩) 64 64) e0 rfl ?_
   have hf2 : Fr [] p (p.alloc (.cells #[.slice (some ⟨g1, 0, none⟩) 64 64] 22)) := Fr.alloc _ _
   obtain ⟨p', hp'⟩ : ∃ p', p.alloc (.cells #[.slice (some ⟨g1, 0, none⟩) 64 64] 22) = p' := ⟨_, rfl⟩
   have hA : At p' p.heap.size (.cells #[.slice (some ⟨g1, 0, none⟩) 64 64] 22) := by rw [<- hp']; exact At.new rfl
   rw [hp'] at hf2 ⊢
   clear hp'
   refine ⟨rfl, rfl, hf.trans hf2, fun k _ _ _ _ h => QF Z kb g1 g2 v key ls k _ _ _ hf2 h, ?_, fun e _ _ h => yV Z kb g1 g2 v key ls e _ _ _ hf2 h, ?_⟩
   ·refine uL b 12 _ Y49 (fun b' => Wr Z kb g1 g2 v key ls 6 b' p') ?_
    intro b' hd hne
    show ∃ g, slot b' 12 = .slice (some ⟨g, 0, none⟩) 1 1 /\ Z <= g /\ At p' g (.cells #[.slice (some ⟨g1, 0, none⟩) 64 64] 22)
    exact ⟨_, hd, by rw [<- hZ]; exact hf.size, hA⟩
   ·intro e he hi hx
    match e, he with
    | 0, _ =>
     have f1 := hF 1 (show (1:Nat) < 11 by decide) (fun _ => hx 1 Y76 Y76) (fun c hc => by have hq1 : c = 7 := by { simpa using hc }; subst hq1; cases hq : dn 7 with | false => rfl | true => (have hq2 := hdc 7 6 hq Y45; rw [hdn] at hq2; cases hq2))
     refine uL b 12 _ Y49 (fun b' => ∀ q g, (slot b' 7).ownBlock = some q -> slot b' 12 = .slice (some ⟨g, 0, none⟩) 1 1 -> g ≠ q) ?_
     intro b' hd hne q g' hq hg
     rw [hd] at hg
     cases hg
     rw [hne 7 Y76] at hq
     have := f1.2 q hq
     omega
  | 7, _ =>
   have f1 : jn 22 Z p (slot b 7) (ls.map (·.1)) /\ ∀ q, (slot b 7).ownBlock = some q -> q < p.heap.size := hF 1 (show (1:Nat) < 11 by decide) (fun _ => (hr 1 Y45).2) (fun c hc => by (have hq1 : c = 7 := by simpa using hc); subst hq1; exact hdn)
   have f6 : ∃ g, slot b 12 = .slice (some ⟨g, 0, none⟩) 1 1 /\ Z <= g /\ At p g (.cells #[.slice (some ⟨g1, 0, none⟩) 64 64] 22) := hF 6 (show (6:Nat) < 11 by decide) (fun _ => (hr 6 Y45).2) (fun c hc => by (have hq1 : c = 7 := by simpa using hc); subst hq1; exact hdn)
   obtain ⟨g, b1, b2, b3⟩ := f6
   have hap : ∀ q, (slot b 7).ownBlock = some q -> g ≠ q := fun q hq => hG 0 Y76 (fun x hx => by have hx2 : x = 1 ∨ x = 6 := by { simpa using hx }; rcases hx2 with rfl | rfl; exact (hr 1 Y45).2; exact (hr 6 Y45).2) q g hq b1
   have e0 : b.eval (.tmp 7) = slot b 7 := rfl
   have e1 : b.eval (.const (.int .i64 0)) = .int .i64 0 := rfl
   have e2 : b.eval (.tmp 12) = .slice (some ⟨g, 0, none⟩) 1 1 := b1
   refine zH _ Y61 (jh rfl) 147 _ _ rfl #[slot b 7, .int .i64 0, .slice (some ⟨g, 0, none⟩) 1 1] (by simp only [List.map_toArray, List.map_cons, List.map_nil, e0, e1, e2]) Y66 ((qdx p Z g _ _ (.slice (some ⟨g1, 0, none⟩) 64 64) f1.1 (by rw [List.length_map]; omega) (by rw [List.length_map]; omega) b3 hap (by rw [<- hZ]; exact hf.size) (fun u hu => by obtain ⟨x, hx, rfl⟩ := List.mem_map.1 hu; obtain ⟨a, c, e, -⟩ := hR.2 x hx; rw [e]; rfl) rfl).mono ?_)
   rintro e p' ⟨v', rfl, hv, hf2⟩
   refine ⟨_, rfl, hf.then hf2 (fun z hz => .inr (by have := (f1.1.lt z (by simpa using hz)).1; omega)), fun k hki hnr hco hli h => ?_, ?_, fun _ _ _ h => h, fun e he hi hx => absurd hi ((show ∀ e, e < 1 -> 7 ∉ ([[1, 6]] : List (List Nat)).getD e [] from by decide) e he)⟩
   ·match k with
    | 0 => exact h
    | 1 => exact absurd (List.mem_cons_self) hco
    | 2 => exact h
    | 3 => exact h
    | 4 => exact h
    | 5 => exact h
    | 6 => exact absurd Y76 hco
    | 7 => exact absurd rfl hki
    | 8 => exact h
    | 9 => (obtain ⟨g5, c, h1, h2, h3, h4⟩ := h; exact ⟨g5, c, h1, h2, h3.keep hf2 (fun hm => zd f1.1 h3 Y76 (by simpa using hm)), h4⟩)
    | 10 => exact Bool.noConfusion (hnr.symm.trans Y45 : false = true)
    | k + 11 => exact trivial
   ·refine uL b 13 _ Y49 (fun b' => Wr Z kb g1 g2 v key ls 7 b' p') ?_
    intro b' hd hne
    show jn 22 Z p' (slot b' 13) (.slice (some ⟨g1, 0, none⟩) 64 64 :: ls.map (·.1))
    rw [hd]
    exact hv
  | 8, _ =>
   have f7 : jn 22 Z p (slot b 13) (.slice (some ⟨g1, 0, none⟩) 64 64 :: ls.map (·.1)) := hF 7 (show (7:Nat) < 11 by decide) (fun _ => (hr 7 Y45).2) (fun c hc => by (have hq1 : c = 8 := by simpa using hc); subst hq1; exact hdn)
   have e0 : b.eval (.tmp 13) = slot b 13 := rfl
   have hRD : RdB (fun b => p.heap.size <= b) p (slot b 13) ((.slice (some ⟨g1, 0, none⟩) 64 64, uU key) :: ls) := by
    refine ⟨?_, fun x hx => ?_⟩
    ·obtain ⟨a, cap, h1, h2, h3, h4⟩ := f7.vs (A := fun _ => False) (fun _ h => h.elim)
     refine ⟨a, cap, h1, h2, h3, ?_⟩
     exact Ll h4
    ·rcases List.mem_cons.1 hx with rfl | hx
     ·exact Yh (hI.keep0 hf) (Zp key) Y76 (by have := qo (hI.keep0 hf); omega)
     ·exact (hR.2 x hx).mono hf Y77 (fun b hb => .inr (by have := hf.size; omega))
   refine zH _ Y61 (jh rfl) 76 _ _ rfl #[slot b 13] Y64 Y66 ((Xk p (slot b 13) ((.slice (some ⟨g1, 0, none⟩) 64 64, uU key) :: ls) hRD (hS.keep hf).f (hS.keep hf).k (hS.keep hf).g (by simp only [ju, List.map_cons, List.flatten_cons, List.length_append, Zp]; have := hl; unfold ju at this; omega)).mono ?_)
   rintro e p' ⟨rfl, hf2⟩
   refine ⟨_, rfl, hf.trans hf2, fun k _ _ _ _ h => QF Z kb g1 g2 v key ls k _ _ _ hf2 h, ?_, fun e _ _ h => yV Z kb g1 g2 v key ls e _ _ _ hf2 h, fun e he hi hx => by exact absurd hi ((show ∀ e, e < 1 -> 8 ∉ ([[1, 6]] : List (List Nat)).getD e [] from by decide) e he)⟩
   refine uL b 14 _ Y49 (fun b' => Wr Z kb g1 g2 v key ls 8 b' p') ?_
   intro b' hd hne
   show slot b' 14 = .agg ((qw (uU key ++ ju ls)).map u8v).toArray
   rw [hd]
   simp [ju]
  | 9, _ =>
   refine opV_step _ Y61 ?_
   refine VK rfl (.pointer (some ⟨p.heap.size, 0, none⟩)) (p.alloc (.cells zi 58)) Y45 ?_
   have hf2 : Fr [] p (p.alloc (.cells zi 58)) := Fr.alloc _ _
   obtain ⟨p', hp'⟩ : ∃ p', p.alloc (.cells zi 58) = p' := ⟨_, rfl⟩
   have hA : At p' p.heap.size (.cells zi 58) := by rw [<- hp']; exact At.new rfl
   rw [hp'] at hf2 ⊢
   clear hp'
   refine ⟨rfl, rfl, hf.trans hf2, fun k _ _ _ _ h => QF Z kb g1 g2 v key ls k _ _ _ hf2 h, ?_, fun e _ _ h => yV Z kb g1 g2 v key ls e _ _ _ hf2 h, fun e he hi hx => by exact absurd hi ((show ∀ e, e < 1 -> 9 ∉ ([[1, 6]] : List (List Nat)).getD e [] from by decide) e he)⟩
   refine uL b 5 _ Y49 (fun b' => Wr Z kb g1 g2 v key ls 9 b' p') ?_
   intro b' hd hne
   show ∃ g c, slot b' 5 = .pointer (some ⟨g, 0, none⟩) /\ Z <= g /\ At p' g (.cells c 58) /\ c.size = 32
   exact ⟨_, _, hd, by rw [<- hZ]; exact hf.size, hA, rfl⟩
  | 10, _ =>
   have f8 : slot b 14 = .agg ((qw (uU key ++ ju ls)).map u8v).toArray := fdq hF hr 8
   have f9 : ∃ g c, slot b 5 = .pointer (some ⟨g, 0, none⟩) /\ Z <= g /\ At p g (.cells c 58) /\ c.size = 32 := hF 9 (show (9:Nat) < 11 by decide) (fun _ => (hr 9 Y45).2) (fun c hc => by (have hq1 : c = 10 := by simpa using hc); subst hq1; exact hdn)
   obtain ⟨g, c, b1, b2, b3, b4⟩ := f9
   have e0 : b.eval (.tmp 5) = .pointer (some ⟨g, 0, none⟩) := b1
   have e1 : b.eval (.tmp 14) = .agg ((qw (uU key ++ ju ls)).map u8v).toArray := f8
   refine opV_step _ Y61 ?_
   refine qX (.tmp 5) (.tmp 14) rfl rfl ((qw (uU key ++ ju ls)).map u8v).toArray e0 e1 (by rw [List.size_toArray]; exact vS _ rfl) b3 (by rw [b4, List.size_toArray, List.length_map]; rfl) (Qu _) ?_
   intro p' f1 a1 _
   refine ⟨rfl, rfl, hf.then f1 (fun z hz => .inr Y63), fun k hki hnr hco hli h => ?_, ⟨g, b1, b2, a1⟩, fun _ _ _ h => h, fun e he hi hx => absurd hi ((show ∀ e, e < 1 -> 10 ∉ ([[1, 6]] : List (List Nat)).getD e [] from by decide) e he)⟩
   match k with
   | 0 => exact h
   | 1 => exact absurd (hr 7 Y45).2 (by rw [hli 7 Y76]; decide)
   | 2 => exact h
   | 3 => exact h
   | 4 => exact h
   | 5 => exact h
   | 6 => exact absurd (hr 7 Y45).2 (by rw [hli 7 Y76]; decide)
   | 7 => exact absurd (hr 8 Y45).2 (by rw [hli 8 Y76]; decide)
   | 8 => exact h
   | 9 => exact absurd Y76 hco
   | 10 => exact absurd rfl hki
   | k + 11 => exact trivial
 ·intro b p hd hs ho hf hall hex
  obtain ⟨g, h1, h2, h3⟩ := hall 10 Y76 (fun c hc => by simp at hc)
  refine hQ b p g hd (hs.trans hsz) ho hf h1 h2 h3
noncomputable def qfY : Code := ((Tryz.f105.body.bind (qN 2)).getD .skip)
def qca (Z kb g1 g2 g4 g5 : Nat) (key D : List UInt8) (k : Nat) (b : Go.Act) (p : World) : Prop :=
 match k with
 | 0 => slot b 15 = .pointer (some ⟨kb, 0, none⟩)
 | 1 => slot b 16 = .pointer (some ⟨kb, 0, none⟩)
 | 2 => slot b 17 = .pointer (some ⟨kb, 1, none⟩)
 | 3 => slot b 18 = .slice (some ⟨g2, 0, none⟩) 64 64
 | 4 => slot b 19 = .slice (some ⟨g5, 0, none⟩) 32 32
 | 5 => ∃ g, slot b 20 = .slice (some ⟨g, 0, none⟩) 2 2 /\ At p g (.cells #[.slice (some ⟨g2, 0, none⟩) 64 64, .slice (some ⟨g5, 0, none⟩) 32 32] 22)
 | 6 => slot b 21 = .agg ((qw (uY key ++ D)).map u8v).toArray
 | 7 => At p g4 (.cells ((qw (uY key ++ D)).map u8v).toArray 58)
 | 8 => ∃ c, At p g4 (.cells c 58) /\ c.size = 32
 | _ => True
def qe1 (Z kb g1 g2 g4 g5 : Nat) (key D : List UInt8) (k : Nat) (b : Go.Act) (p : World) : Prop :=
 match k with
 | _ => True
theorem Wt (Z kb g1 g2 g4 g5 : Nat) (key D : List UInt8) : ∀ (k : Nat) (b : Go.Act) (p p' : World), Fr [] p p' -> qca Z kb g1 g2 g4 g5 key D k b p -> qca Z kb g1 g2 g4 g5 key D k b p'
 | 0, b, p, p', hf, h => h
 | 1, b, p, p', hf, h => h
 | 2, b, p, p', hf, h => h
 | 3, b, p, p', hf, h => h
 | 4, b, p, p', hf, h => h
 | 5, b, p, p', hf, h => let ⟨g, h1, h3⟩ := h; ⟨g, h1, h3.keep0 hf⟩
 | 6, b, p, p', hf, h => h
 | 7, b, p, p', hf, h => h.keep0 hf
 | 8, b, p, p', hf, h => let ⟨c, h1, h2⟩ := h; ⟨c, h1.keep0 hf, h2⟩
 | k + 9, b, p, p', hf, h => trivial
theorem Vf (Z kb g1 g2 g4 g5 : Nat) (key D : List UInt8) : ∀ (k : Nat) (b : Go.Act) (p p' : World), Fr [] p p' -> qe1 Z kb g1 g2 g4 g5 key D k b p -> qe1 Z kb g1 g2 g4 g5 key D k b p'
 | k, b, p, p', hf, h => trivial
theorem ko2 (Z kb g1 g2 g4 g5 : Nat) (key D : List UInt8) (w : World) (a : Go.Act) (hsz : a.tmps.size = 22) (h0 : slot a 0 = .pointer (some ⟨kb, 0, none⟩)) (h4 : slot a 4 = .pointer (some ⟨g4, 0, none⟩)) (h5 : slot a 5 = .pointer (some ⟨g5, 0, none⟩)) (w0 : World) (hw0 : Fr [] w0 w) (h4z : w0.heap.size <= g4) (h54 : g5 ≠ g4) (hK : At w0 kb (.cells #[.slice (some ⟨g1, 0, none⟩) 64 64, .slice (some ⟨g2, 0, none⟩) 64 64] 236)) (hO : At w0 g2 (.cells ((uY key).map u8v).toArray 233)) (hD : At w g5 (.cells (D.map u8v).toArray 58)) (hDl : D.length = 32) (hS : SG w0) (c40 : Array Value) (h4A : At w g4 (.cells c40 58)) (h4c : c40.size = 32) (Q : Exit -> Go.Act -> World -> Prop)
  (hQ : ∀ (b : Go.Act) (p : World), b.defers = a.defers -> b.tmps.size = 22 -> (∀ s, some s ∉ ([some 15, some 16, some 17, some 18, some 19, some 20, some 21, none] : List (Option Nat)) -> slot b s = slot a s) -> Fr [g4] w p -> At p g4 (.cells ((qw (uY key ++ D)).map u8v).toArray 58) -> Q .normal b p) : Code.wp Tryz.prog qfY Q a w := by
 have F0 : ∀ {p : World}, Fr [g4] w p -> Fr [] w0 p := fun hf => hw0.then hf (fun z hz => .inr Y63)
 conv => arg 2; whnf
 refine uH [g4] (qca Z kb g1 g2 g4 g5 key D) (qe1 Z kb g1 g2 g4 g5 key D) [some 15, some 16, some 17, some 18, some 19, some 20, some 21, none] [[15], [16], [17], [18], [19], [20], [21], [], []] [] [] [(5, 6), (8, 7)] Y45 Y45 Y45 Y45 Y45 Y76 ?_ ?_ ?_ ?_ ?_
 ·intro w1 hw1 k hk1 hk2
  have hk3 : 8 <= k := hk1
  have hk4 : k < 9 := hk2
  clear hk1 hk2
  rcases (show k = 8 by omega) with rfl
  ·exact ⟨_, h4A.keep0 hw1, h4c⟩
 ·intro k b b' p hs h
  match k with
  | 0 => show slot b' 15 = .pointer (some ⟨kb, 0, none⟩); rw [<- hs 15 Y76]; exact h
  | 1 => show slot b' 16 = .pointer (some ⟨kb, 0, none⟩); rw [<- hs 16 Y76]; exact h
  | 2 => show slot b' 17 = .pointer (some ⟨kb, 1, none⟩); rw [<- hs 17 Y76]; exact h
  | 3 => show slot b' 18 = .slice (some ⟨g2, 0, none⟩) 64 64; rw [<- hs 18 Y76]; exact h
  | 4 => show slot b' 19 = .slice (some ⟨g5, 0, none⟩) 32 32; rw [<- hs 19 Y76]; exact h
  | 5 => show ∃ g, slot b' 20 = .slice (some ⟨g, 0, none⟩) 2 2 /\ At p g (.cells #[.slice (some ⟨g2, 0, none⟩) 64 64, .slice (some ⟨g5, 0, none⟩) 32 32] 22); rw [<- hs 20 Y76]; exact h
  | 6 => show slot b' 21 = .agg ((qw (uY key ++ D)).map u8v).toArray; rw [<- hs 21 Y76]; exact h
  | 7 => show At p g4 (.cells ((qw (uY key ++ D)).map u8v).toArray 58); exact h
  | 8 => show ∃ c, At p g4 (.cells c 58) /\ c.size = 32; exact h
  | k + 9 => trivial
 ·intro k b b' p hs h
  match k with
  | k => trivial
 ·intro i hi dn b p hs ho hf hF hG hdn hdc hr
  have hi9 : i < 8 := hi
  clear hi
  match i, hi9 with
  | 0, _ =>
   have e0 : b.eval (.tmp 0) = .pointer (some ⟨kb, 0, none⟩) := (ho 0 Y76).trans h0
   exact Y2
  | 1, _ =>
   have e0 : b.eval (.tmp 15) = .pointer (some ⟨kb, 0, none⟩) := fdq hF hr 0
   exact Y2
  | 2, _ =>
   have e0 : b.eval (.tmp 16) = .pointer (some ⟨kb, 0, none⟩) := fdq hF hr 1
   exact Y2
  | 3, _ =>
   have e0 : b.eval (.tmp 17) = .pointer (some ⟨kb, 1, none⟩) := fdq hF hr 2
   have c1 : p.cell? ⟨kb, 1, none⟩ = some (.slice (some ⟨g2, 0, none⟩) 64 64) := (hK.keep0 (F0 hf)).cell 1
   exact Y21
  | 4, _ =>
   have e0 : b.eval (.tmp 5) = .pointer (some ⟨g5, 0, none⟩) := (ho 5 Y76).trans h5
   exact Y2
  | 5, _ =>
   have e0 : b.eval (.tmp 18) = .slice (some ⟨g2, 0, none⟩) 64 64 := fdq hF hr 3
   have e1 : b.eval (.tmp 19) = .slice (some ⟨g5, 0, none⟩) 32 32 := fdq hF hr 4
   refine opV_step _ Y61 ?_
   refine KV Tryz.underlying56 Tryz.infoBytes rfl (.tmp 18) (.tmp 19) rfl (.slice (some ⟨g2, 0, none⟩) 64 64) (.slice (some ⟨g5, 0, none⟩) 32 32) e0 e1 rfl rfl ?_
   have hf2 : Fr [] p (p.alloc (.cells #[.slice (some ⟨g2, 0, none⟩) 64 64, .slice (some ⟨g5, 0, none⟩) 32 32] 22)) := Fr.alloc _ _
   obtain ⟨p', hp'⟩ : ∃ p', p.alloc (.cells #[.slice (some ⟨g2, 0, none⟩) 64 64, .slice (some ⟨g5, 0, none⟩) 32 32] 22) = p' := ⟨_, rfl⟩
   have hA : At p' p.heap.size (.cells #[.slice (some ⟨g2, 0, none⟩) 64 64, .slice (some ⟨g5, 0, none⟩) 32 32] 22) := by rw [<- hp']; exact At.new rfl
   rw [hp'] at hf2 ⊢
   clear hp'
   refine ⟨rfl, rfl, hf.trans (hf2).weak, fun k _ _ _ _ h => Wt Z kb g1 g2 g4 g5 key D k _ _ _ hf2 h, ?_, fun e _ _ h => Vf Z kb g1 g2 g4 g5 key D e _ _ _ hf2 h, fun e he hi hx => by exact absurd he (Nat.not_lt_zero e)⟩
   refine uL b 20 _ Y49 (fun b' => qca Z kb g1 g2 g4 g5 key D 5 b' p') ?_
   intro b' hd hne
   show ∃ g, slot b' 20 = .slice (some ⟨g, 0, none⟩) 2 2 /\ At p' g (.cells #[.slice (some ⟨g2, 0, none⟩) 64 64, .slice (some ⟨g5, 0, none⟩) 32 32] 22)
   exact ⟨_, hd, hA⟩
  | 6, _ =>
   have f5 : ∃ g, slot b 20 = .slice (some ⟨g, 0, none⟩) 2 2 /\ At p g (.cells #[.slice (some ⟨g2, 0, none⟩) 64 64, .slice (some ⟨g5, 0, none⟩) 32 32] 22) := hF 5 (show (5:Nat) < 9 by decide) (fun _ => (hr 5 Y45).2) (fun c hc => by (have hq1 : c = 6 := by simpa using hc); subst hq1; exact hdn)
   obtain ⟨g, b1, b2⟩ := f5
   have e0 : b.eval (.tmp 20) = .slice (some ⟨g, 0, none⟩) 2 2 := b1
   have hRD : RdB (fun b => p.heap.size <= b) p (.slice (some ⟨g, 0, none⟩) 2 2) [(.slice (some ⟨g2, 0, none⟩) 64 64, uY key), (.slice (some ⟨g5, 0, none⟩) 32 32, D)] := by
    refine ⟨⟨_, 2, rfl, by simp, by decide, Row.of_block (c := #[.slice (some ⟨g2, 0, none⟩) 64 64, .slice (some ⟨g5, 0, none⟩) 32 32]) (fz := (0, 0)) b2 (by have := qo b2; omega)⟩, fun x hx => ?_⟩
    rcases List.mem_cons.1 hx with rfl | hx
    ·exact Yh (hO.keep0 (F0 hf)) (Z7 key) Y76 (by have := qo (hO.keep0 (F0 hf)); omega)
    ·obtain rfl : x = (.slice (some ⟨g5, 0, none⟩) 32 32, D) := by simpa using hx
     exact Yh (hD.keep hf (by simpa using h54)) hDl Y76 (by have := qo (hD.keep hf (by simpa using h54)); omega)
   refine zH _ Y61 (jh rfl) 76 _ _ rfl #[.slice (some ⟨g, 0, none⟩) 2 2] Y64 Y66 ((Xk p _ [(.slice (some ⟨g2, 0, none⟩) 64 64, uY key), (.slice (some ⟨g5, 0, none⟩) 32 32, D)] hRD (hS.keep (F0 hf)).f (hS.keep (F0 hf)).k (hS.keep (F0 hf)).g (by simp only [ju, List.map_cons, List.map_nil, List.flatten_cons, List.flatten_nil, List.length_append, Z7, hDl, List.length_nil]; omega)).mono ?_)
   rintro e p' ⟨rfl, hf2⟩
   refine ⟨_, rfl, hf.trans (hf2).weak, fun k _ _ _ _ h => Wt Z kb g1 g2 g4 g5 key D k _ _ _ hf2 h, ?_, fun e _ _ h => Vf Z kb g1 g2 g4 g5 key D e _ _ _ hf2 h, fun e he hi hx => by exact absurd he (Nat.not_lt_zero e)⟩
   refine uL b 21 _ Y49 (fun b' => qca Z kb g1 g2 g4 g5 key D 6 b' p') ?_
   intro b' hd hne
   show slot b' 21 = .agg ((qw (uY key ++ D)).map u8v).toArray
   rw [hd]
   simp [ju]
  | 7, _ =>
   have e0 : b.eval (.tmp 4) = .pointer (some ⟨g4, 0, none⟩) := (ho 4 Y76).trans h4
   have f6 : slot b 21 = .agg ((qw (uY key ++ D)).map u8v).toArray := fdq hF hr 6
   have f8 : ∃ c, At p g4 (.cells c 58) /\ c.size = 32 := hF 8 (show (8:Nat) < 9 by decide) (fun h => absurd h Y76) (fun c hc => by (have hq1 : c = 7 := by simpa using hc); subst hq1; exact hdn)
   have e1 : b.eval (.tmp 21) = .agg ((qw (uY key ++ D)).map u8v).toArray := f6
   obtain ⟨c4, b3, b4⟩ := f8
   refine opV_step _ Y61 ?_
   refine qX (.tmp 4) (.tmp 21) rfl rfl ((qw (uY key ++ D)).map u8v).toArray e0 e1 (by rw [List.size_toArray]; exact vS _ rfl) b3 (by rw [b4, List.size_toArray, List.length_map]; rfl) (Qu _) ?_
   intro p' f1 a1 _
   refine ⟨rfl, rfl, hf.trans f1, fun k hki hnr hco hli h => ?_, a1, fun _ _ _ h => h, fun e he hi hx => absurd he (Nat.not_lt_zero e)⟩
   match k with
   | 0 => exact h
   | 1 => exact h
   | 2 => exact h
   | 3 => exact h
   | 4 => exact h
   | 5 => exact absurd (hr 6 Y45).2 (by rw [hli 6 Y76]; decide)
   | 6 => exact h
   | 7 => exact absurd rfl hki
   | 8 => exact absurd Y76 hco
   | k + 9 => exact trivial
 ·intro b p hd hs ho hf hall hex
  exact hQ b p hd (hs.trans hsz) ho hf (hall 7 Y76 (fun c hc => by simp at hc))
theorem Lh (a : Go.Act) (hs : a.tmps.size = 22) (hd : a.defers = []) : a = ⟨(slot a 0 :: slot a 1 :: slot a 2 :: slot a 3 :: slot a 4 :: slot a 5 :: slot a 6 :: slot a 7 :: slot a 8 :: slot a 9 :: slot a 10 :: slot a 11 :: slot a 12 :: slot a 13 :: slot a 14 :: slot a 15 :: slot a 16 :: slot a 17 :: slot a 18 :: slot a 19 :: slot a 20 :: slot a 21 :: []).toArray, []⟩ := Ue a 22 hs hd
theorem qdD (w0 : World) (kb : Nat) (v : Value) (key : List UInt8) (ls : List (Value × List UInt8)) (hK : xf w0 kb key) (hR : RdB (fun b => w0.heap.size <= b) w0 v ls) (hS : SG w0) (hn : 1 <= ls.length) (hls : ls.length <= 1000) (hl : (ju ls).length <= 90000000) :
  Calls Tryz.prog 105 #[.pointer (some ⟨kb, 0, none⟩), v] w0 fun e w' => e = .returned (.agg ((vN key (ju ls)).map u8v).toArray) /\ Fr [] w0 w' := by
 obtain ⟨g1, g2, k1, k2, k3⟩ := hK
 obtain ⟨Z, hZ⟩ := exq (w0.heap.size)
 have F1 : Fr [] w0 (w0.alloc (.cells zi 58)) := Fr.alloc _ _
 have hs1 : (w0.alloc (.cells zi 58)).heap.size = Z + 1 := by simp [hZ]
 have HH := Hdq (And.intro hs1 (And.intro (k1.keep0 F1) (And.intro (k2.keep0 F1) (And.intro (Z6 (A' := fun b => (w0.alloc (.cells zi 58)).heap.size <= b) hR F1 Y77 (fun b hb => .inl (by have := F1.size; omega))) (And.intro (hS.keep F1) (And.intro hn (And.intro hls (And.intro hl (show At (w0.alloc (.cells zi 58)) Z (.cells zi 58) from At.new hZ.symm)))))))))
 have HO := Hdq (And.intro k1 (And.intro k3 (And.intro hS hZ)))
 have HF1 := Hdq F1
 have h1g : g1 < Z := by have := qo k2; omega
 clear k1 k2 k3 hR hS hn hls hl F1 hs1
 obtain ⟨X, hX⟩ := exq (qw (uU key ++ ju ls))
 have HX := Hdq hX
 clear hX
 go_enter Tryz.func105, Tryz.ntmps105
 go_wp2
 obtain ⟨a1, a2, a3, a4, a5, a6, a7, a8, a9⟩ := HH.out
 obtain ⟨c1, c2, c3, c4⟩ := HO.out
 refine ko1 (Z + 1) kb g1 g2 v key ls _ _ rfl rfl rfl a1 a2 a3 a4 a5 a6 a8 a7 _ ?_
 intro b p g hd hs ho hf h5 hg hA
 rw [HX.out] at hA
 rw [Lh b hs hd, show slot b 0 = .pointer (some ⟨kb, 0, none⟩) from ho 0 Y76, show slot b 4 = .pointer (some ⟨Z, 0, none⟩) from ho 4 Y76, h5]
 clear a1 a2 a3 a4 a5 a6 a7 a8 c1 c2 c3
 have HA := Hdq hA
 have HF := Hdq hf
 have HF0 := Hdq (HF1.out.trans hf)
 have H4 := Hdq (a9.keep0 hf)
 clear hA hf a9 h5 ho
 go_wp2
 obtain ⟨c1, c2, c3, c4⟩ := HO.out
 refine ko2 (Z + 1) kb g1 g2 Z g key X p _ rfl rfl rfl rfl w0 HF0.out (by rw [c4]; exact Nat.le_refl _) Y44 c1 c2 HA.out (by rw [<- HX.out]; rfl) c3 _ H4.out rfl _ ?_
 intro b2 p2 hd2 hs2 ho2 hf2 hA2
 rw [Lh b2 hs2 hd2, show slot b2 4 = .pointer (some ⟨Z, 0, none⟩) from ho2 4 Y76]
 have HE := Hdq hA2
 have HG := Hdq (HF0.out.then hf2 (fun z hz => .inr Y63))
 have HM := Hdq (show qw (uY key ++ X) = vN key (ju ls) by rw [<- HX.out]; rfl)
 clear hA2 hf2 c1 c2 c3
 go_wp2
 refine bodyPost_ret (zf rfl _ _ Z _ rfl (jb HE.out) Tryz.underlying58 rfl (vS _ rfl)) rfl ?_
 exact ⟨by rw [HM.out], HG.out⟩
theorem qdz (w0 : World) (u v : Value) (key : List UInt8) (ls : List (Value × List UInt8)) (hB : Bs (fun b => w0.heap.size <= b) w0 u key) (hk : key.length <= 100000000) (hR : RdB (fun b => w0.heap.size <= b) w0 v ls) (hS : SG w0) (hn : 1 <= ls.length) (hls : ls.length <= 1000) (hl : (ju ls).length <= 90000000) :
  Calls Tryz.prog 169 #[u, v] w0 fun e w' => e = .returned (.agg ((vN key (ju ls)).map u8v).toArray) /\ Fr [] w0 w' := by
 obtain ⟨Z, hZ⟩ := exq (w0.heap.size)
 have F1 : Fr [] w0 (w0.alloc (.cells zi 58)) := Fr.alloc _ _
 have HS1 := Hdq (hS.keep F1)
 have HR1 := Hdq (Z6 (A' := fun b => (w0.alloc (.cells zi 58)).heap.size <= b) hR F1 Y77 (fun b hb => .inl (by have := F1.size; omega)))
 have HB1 := Hdq (hB.mono (A' := fun b => (w0.alloc (.cells zi 58)).heap.size <= b) F1 Y77 (fun b hb => .inl (by have := F1.size; omega)))
 have H4 := Hdq (show At (w0.alloc (.cells zi 58)) Z (.cells zi 58) from At.new hZ.symm)
 have HF1 := Hdq F1
 have HL := Hdq (And.intro hn (And.intro hls (And.intro hl hk)))
 have HZ := Hdq hZ
 clear hB hR hS hn hls hl hk F1
 go_enter Tryz.func169, Tryz.ntmps169
 go_wp2_with (go_at_call 103; fail)
 refine (qae _ u key HB1.out HL.out.2.2.2 HS1.out).mono ?_
 rintro e w2 ⟨kb, rfl, hkb, hf2⟩
 have HK2 := Hdq hkb
 have HS2 := Hdq (HS1.out.keep hf2)
 have HR2 := Hdq (Z6 (A' := fun b => w2.heap.size <= b) HR1.out hf2 Y77 (fun b hb => .inl (by have := hf2.size; omega)))
 have H42 := Hdq (H4.out.keep0 hf2)
 have HF2 := Hdq (HF1.out.trans hf2)
 clear hkb hf2 HB1 HS1 HR1 H4 HF1
 go_wp2_with (go_at_call 105; fail)
 refine (qdD _ kb v key ls HK2.out HR2.out HS2.out HL.out.1 HL.out.2.1 HL.out.2.2.1).mono ?_
 rintro e w3 ⟨rfl, hf3⟩
 obtain ⟨o, ho⟩ := exq (vN key (ju ls))
 rw [ho]
 have hol : o.length = 32 := by rw [<- ho]; rfl
 have HOL := Hdq hol
 have HS9 := Hdq (show (Tryz.prog.info? 58).map (·.size) = some (o.map u8v).toArray.size by rw [List.size_toArray]; exact vS o hol)
 have H43 := Hdq (H42.out.keep0 hf3)
 have HF3 := Hdq (HF2.out.trans hf3)
 have HZ := Hdq hZ
 have HM := Hdq ho
 clear hol hf3 H42 HF2 HK2 HS2 HR2 ho
 go_wp2_with (refine qX (.tmp 4) (.tmp 8) rfl rfl (o.map u8v).toArray rfl rfl HS9.out H43.out Y70 (Qu _) ?_)
 intro w9 f9 a9 s9
 have HF9 := Hdq (HF3.out.then f9 (fun z hz => .inr Y57))
 have HZ9 := Hdq a9
 clear f9 a9 s9
 go_wp2
 refine bodyPost_ret (zf rfl _ _ Z _ rfl (jb HZ9.out) Tryz.underlying58 rfl (vS o HOL.out)) rfl ?_
 exact ⟨by rw [HM.out], HF9.out⟩
end Go.Proofs.YtnafknkchbfpaaaGreatDoor
