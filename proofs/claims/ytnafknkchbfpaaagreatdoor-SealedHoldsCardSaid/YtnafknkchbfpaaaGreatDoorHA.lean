import Derived.Test.YtnafknkchbfpaaaGreatDoorGZ
set_option maxRecDepth 1000000
set_option maxHeartbeats 8000000
namespace Go.Proofs.YtnafknkchbfpaaaGreatDoor
open Go.RowKit Go.Bl
set_option linter.unusedVariables false
theorem LZ (A : Nat -> Prop) (w : World) (v : Value) (xs : List UInt8) (hB : Bs A w v xs) (hl : xs.length <= 100000000) :
  Calls Tryz.prog 161 #[v] w fun e w' => ∃ u, e = .returned u /\ qh 5 w.heap.size w' u (0 :: xs) /\ Fr [] w w' := by
 have F1 : Fr [] w (w.alloc (.cells #[.int .u8 0] 5)) := Fr.alloc _ _
 have HB := Hdq (hB.keep F1 qf)
 have HO := Hdq (show qh 5 w.heap.size (w.alloc (.cells #[.int .u8 0] 5)) (.slice (some ⟨w.heap.size, 0, none⟩) 1 1) [0] from qJ.lit 5 w.heap.size w #[.int .u8 0] (Nat.le_refl _) qd)
 have HF := Hdq F1
 have HL := Hdq hl
 have HS := Hdq F1.size
 clear hB F1 hl
 go_enter Tryz.func161, Tryz.ntmps161
 go_wp2_with (at_builtin; refine qg (A := A) (ys := xs) (base := w.heap.size) Tryz.underlying22 Tryz.infoByte rfl (.tmp 3) (.tmp 4) rfl rfl rfl HO.out HB.out (by have := HL.out; simp; omega) HS.out ?_)
 intro v' w2 h5 h6
 have HO2 := Hdq (show qh 5 w.heap.size w2 v' (0 :: xs) from h5)
 have HF2 := Hdq (qh.fr HO.out HF.out h6 (Nat.le_refl _))
 clear h5 h6 HO HF
 go_wp2
 go_ret
 exact ⟨_, rfl, HO2.out, HF2.out⟩
theorem qc7 (w0 : World) (v : Value) (xs : List UInt8) (hB : Bs (fun _ => False) w0 v xs) (hl : xs.length <= 10000000) (hS : SG w0) :
  Calls Tryz.prog 131 #[v] w0 fun e w' => e = .returned (.agg ((qS xs).map u8v).toArray) /\ Fr [] w0 w' := by
 obtain ⟨Z, hZ⟩ := exq (w0.heap.size)
 have F1 : Fr [] w0 (w0.alloc (.cells qZ 58)) := Fr.alloc _ _
 have HA := Hdq (show At (w0.alloc (.cells qZ 58)) Z (.cells qZ 58) from At.new hZ.symm)
 have HC := Hdq (LZ (fun _ => False) (w0.alloc (.cells qZ 58)) v xs (hB.keep F1 qf) Y62)
 have HS := Hdq (hS.keep F1)
 have HF1 := Hdq F1
 have HL := Hdq hl
 clear hB hl hS F1
 go_enter Tryz.func131, Tryz.ntmps131
 go_wp2_with (go_at_call 161; fail)
 refine HC.out.mono ?_
 rintro e w2 ⟨u, rfl, hu, hf⟩
 have hub := hu.bs (A := fun _ => False) (fun _ h => h.elim)
 obtain ⟨ua, uc, rfl, -, -, -⟩ := id hub
 obtain ⟨un, hun⟩ := exq ((0 :: xs : List UInt8).length)
 rw [hun] at hub ⊢
 obtain ⟨Z2, hZ2⟩ := exq (w2.heap.size)
 have F3 : Fr [] w2 (w2.alloc (.cells #[.slice ua un uc] 22)) := Fr.alloc _ _
 have HR := Hdq (show RdB (fun b => (w2.alloc (.cells #[.slice ua un uc] 22)).heap.size <= b) (w2.alloc (.cells #[.slice ua un uc] 22)) (.slice (some ⟨Z2, 0, none⟩) 1 1) [(.slice ua un uc, 0 :: xs)] from by
  refine ⟨⟨_, 1, rfl, by simp, by decide, Row.of_block (c := #[.slice ua un uc]) (fz := (0, 0)) (At.new hZ2.symm : At (w2.alloc (.cells #[.slice ua un uc] 22)) Z2 _) Y65⟩, fun x hx => zk ?_⟩
  obtain rfl : x = (.slice ua un uc, 0 :: xs) := by simpa using hx
  exact hub.keep F3 qf)
 have HF3 := Hdq ((HF1.out.trans hf).trans F3)
 have HS3 := Hdq ((HS.out.keep hf).keep F3)
 have HA3 := Hdq ((HA.out.keep0 hf).keep0 F3)
 clear hu hub hf F3 HC HS HA HF1 hun
 have HZ2 := Hdq hZ2
 go_wp2_with (go_at_call 76; fail)
 refine (Qa _ _ [(.slice ua un uc, 0 :: xs)] HR.out HS3.out.f HS3.out.k HS3.out.g (by have := HL.out; simp [qP]; omega)).mono ?_
 rintro e w4 ⟨rfl, hf⟩
 obtain ⟨o, ho⟩ := exq (jf (qP [(Value.slice ua un uc, 0 :: xs)]))
 rw [ho]
 have HO := Hdq (show qS xs = o by rw [<- ho]; simp [qP, qS])
 have hol : o.length = 32 := by rw [<- ho, jY]
 have HS9 := Hdq (show (Tryz.prog.info? 58).map (·.size) = some (o.map u8v).toArray.size by rw [List.size_toArray]; exact dig_size o hol)
 have HOL := Hdq hol
 have HF4 := Hdq (HF3.out.trans hf)
 have HA4 := Hdq (HA3.out.keep0 hf)
 clear ho hol hf HF3 HA3 HR HS3
 have hZ := hZ
 go_wp2_with (refine qx (.tmp 2) (.tmp 6) rfl rfl (o.map u8v).toArray rfl rfl HS9.out HA4.out Y77 (zC _) ?_)
 intro w9 f9 a9 s9
 have HF9 := Hdq (HF4.out.then f9 (fun z hz => .inr Y74))
 have HA9 := Hdq a9
 clear f9 a9 s9
 go_wp2
 refine bodyPost_ret (jk rfl _ _ Z _ rfl (qC HA9.out) Tryz.underlying58 rfl (dig_size o HOL.out)) rfl ?_
 exact ⟨by rw [HO.out], HF9.out⟩
theorem qcM {e : TypeId} {base : Nat} {w : World} {a : Option Addr} {n cap : Nat} {xs : List UInt8} (h : qh e base w (.slice a n cap) xs) (k : Nat) (hk : k <= xs.length) : qh e base w (.slice a k cap) (xs.take k) := by
 obtain ⟨h1, h2⟩ := h
 unfold qh
 rw [List.length_take, Nat.min_eq_left hk]
 refine ⟨by simp [hk], ?_⟩
 rcases h2 with ⟨h2, h3⟩ | ⟨g, cap', cur, h2, h3, h4, h5, h6, h7, h8⟩
 ·cases h2
  have : k = 0 := by omega
  subst this
  exact .inl ⟨rfl, rfl⟩
 ·cases h2
  refine .inr ⟨g, cap, cur, rfl, h3, h4, by omega, h6, h7, ?_⟩
  rw [List.map_take, <- h8, List.take_take]
  congr 1
  omega
theorem qcZ (w : World) (n : Nat) (hn : n <= 10000000) :
  Calls Tryz.prog 104 #[.slice none 0 0, .int .i64 n] w fun e w' => ∃ u, e = .returned u /\ qh 5 w.heap.size w' u [] /\ Fr [] w w' := by
 by_cases h0 : n = 0
 ·subst h0
  go_enter Tryz.func104, Tryz.ntmps104
  go_wp2
  go_ret
  exact ⟨_, rfl, qh.nil _ _ _, Fr.refl _ _⟩
 ·go_enter Tryz.func104, Tryz.ntmps104
  go_wp2_with (refine yN (kn := .i64) Tryz.underlying22 Tryz.underlying3 Tryz.infoByte rfl (.tmp 20) (.tmp 21) rfl rfl rfl rfl (qh.nil _ w.heap.size _) ?hl ?hb ?_)
  case hl => simp; omega
  case hb => exact Nat.le_refl _
  intro v' w1 ho hg
  have HF := Hdq (show Fr [] w w1 from qh.fr (qh.nil 5 w.heap.size w) (Fr.refl [] w) hg (Nat.le_refl _))
  obtain ⟨a, cap, rfl, hc, hm, -⟩ := ho.bs (A := fun _ => False) qf
  rw [List.length_replicate] at ho hc ⊢
  have HO := Hdq (qcM ho 0 (Nat.zero_le _))
  unfold maxLen at hm
  clear ho hg
  exact Y9
def RdL (A : Nat -> Prop) (w : World) (v : Value) (ls : List (Value × List UInt8)) : Prop := Vs A w v (ls.map (·.1)) /\ ∀ x ∈ ls, Bs A w x.1 x.2
def cat (ls : List (Value × List UInt8)) : List UInt8 := ls.flatMap (·.2)
theorem YE (ls : List (Value × List UInt8)) (j : Nat) (x : Value × List UInt8) (h : ls[j]? = some x) : cat (ls.take (j + 1)) = cat (ls.take j) ++ x.2 := by
 unfold cat
 rw [List.take_add_one, h]
 simp
theorem qeQ (ls : List (Value × List UInt8)) (j : Nat) : (cat (ls.take j)).length <= (cat ls).length := by
 have : cat ls = cat (ls.take j) ++ cat (ls.drop j) := by
  unfold cat
  rw [<- List.flatMap_append, List.take_append_drop]
 rw [this]
 simp
theorem Qw (A : Nat -> Prop) (w : World) (v : Value) (ls : List (Value × List UInt8)) (hr : RdL A w v ls) (hl : ls.length <= 1000) (hn : (cat ls).length <= 4000000) :
  Calls Tryz.prog 55 #[v] w fun e w' => ∃ u, e = .returned u /\ qh 5 w.heap.size w' u (cat ls) /\ Fr [] w w' := by
 have HR := Hdq hr
 obtain ⟨a, cap, rfl, h2, h3, h4⟩ := id hr.1
 simp only [List.length_map] at h2 HR ⊢
 obtain ⟨N, hN⟩ := exq (ls.length)
 rw [hN] at h2 hl HR ⊢
 have HN := Hdq hN
 have H4 := Hdq h4
 have HL := Hdq (qeQ ls)
 obtain ⟨S, hS⟩ := exq ((cat ls).length)
 have HS := Hdq hS
 rw [hS] at hn
 clear hr hN h4 hS
 unfold maxLen at h3
 have HX := Hdq (show ∀ j, j < N -> ∃ x b off, ls[j]? = some x /\ a = some ⟨b, off, none⟩ /\ w.cell? ⟨b, off + j, none⟩ = some x.1 /\ Bs A w x.1 x.2 from fun j hj => by
  obtain ⟨x, hx⟩ : ∃ x, ls[j]? = some x := ⟨_, List.getElem?_eq_getElem Y68⟩
  obtain ⟨b, off, rfl, -, hc⟩ := H4.out.some_of Y63
  refine ⟨x, b, off, hx, rfl, ?_, HR.out.2 x (List.mem_of_getElem? hx)⟩
  rw [hc j Y63]
  simp [hx])
 clear H4
 go_enter Tryz.func55, Tryz.ntmps55
 go_wp2
 go_loopw [3, 11] (fun s i wr => ∃ j : Nat, j <= N /\ i = .int .i64 j /\ s = .int .i64 ((cat (ls.take j)).length : Nat) /\ Hid (wr = w)) (fun _ i _ => N - (intOf i).toNat)
 case atStart => exact ⟨0, by omega, rfl, by simp [cat], rfl⟩
 case round =>
  obtain ⟨j, hj, rfl, rfl, hw⟩ := hrel
  by_cases hjn : j < N
  ·obtain ⟨x, b, off, hx, rfl, hc, hb⟩ := HX.out j hjn
   have hct := YE ls j x hx
   have hle := HL.out (j + 1)
   rw [hct, List.length_append, HS.out] at hle
   have HCT := Hdq hct
   obtain ⟨ba, bc, hxe, -⟩ := id hb
   obtain ⟨xv, xs⟩ := x
   simp only at hxe hb hle hc
   subst hxe
   obtain ⟨L, hL⟩ := exq ((cat (ls.take j)).length)
   obtain ⟨M, hM⟩ := exq (xs.length)
   rw [hL, hM] at hle
   rw [hL]
   rw [hM] at hc
   have HLM := Hdq (And.intro hL hM)
   have hw' := hw.out.symm
   subst hw'
   clear hct hx hb hL hM hw
   go_wp2
   go_roundw
   case rel => exact ⟨j + 1, by omega, by go_num, by rw [HCT.out, List.length_append, HLM.out.1, HLM.out.2]; go_num, by first | exact rfl | exact trivial⟩
   case measure => simp [intOf]; omega
  ·obtain rfl : N = j := by omega
   have hta : ls.take N = ls := List.take_of_length_le Y68
   rw [hta, HS.out]
   have hw' := hw.out.symm
   subst hw'
   clear hta hw
   go_wp2_with fail
   refine (qcZ _ S Y62).mono ?_
   rintro e w1 ⟨u, rfl, ho, hf⟩
   have HO := Hdq ho
   have HF := Hdq hf
   clear ho hf
   go_wp2
   go_loopw [6, 27] (fun o i wr => ∃ j : Nat, j <= N /\ i = .int .i64 j /\ Hid (qh 5 w.heap.size wr o (cat (ls.take j))) /\ Hid (Fr [] w wr)) (fun _ i _ => N - (intOf i).toNat)
   case atStart => exact ⟨0, by omega, rfl, by simp only [cat, List.take_zero, List.flatMap_nil]; exact HO, HF⟩
   case round =>
    obtain ⟨j, hj, rfl, HO, HF⟩ := hrel
    by_cases hjn : j < N
    ·obtain ⟨x, b, off, hx, rfl, hc, hb⟩ := HX.out j hjn
     have hct := YE ls j x hx
     have hle := HL.out (j + 1)
     rw [hct, List.length_append, HS.out] at hle
     have HCT := Hdq hct
     obtain ⟨ba, bc, hxe, -⟩ := id hb
     obtain ⟨xv, xs⟩ := x
     simp only at hxe hb hle hc
     subst hxe
     have BX := Hdq (hb.keep HF.out qf)
     have hsz := HF.out.size
     obtain ⟨M, hM⟩ := exq (xs.length)
     have hc2 : wr.cell? ⟨b, off + j, none⟩ = some (.slice ba M bc) := by rw [<- hM]; exact zf HF.out hc
     rw [hM] at BX
     have HM := Hdq hM
     clear hct hx hb hM hc
     go_wp2_with (at_builtin; refine qg (ys := xs) (base := w.heap.size) Tryz.underlying22 Tryz.infoByte rfl (.tmp 31) (.tmp 32) rfl rfl rfl HO.out BX.out Y62 hsz ?_)
     intro v' w2 h5 h6
     have HO3 := Hdq (show qh 5 w.heap.size w2 v' (cat (ls.take (j + 1))) by rw [HCT.out]; exact h5)
     have HF3 := Hdq (show Fr [] w w2 from qh.fr HO.out HF.out h6 (Nat.le_refl _))
     clear h5 h6 HO HF
     go_wp2
     go_roundw
     case rel => exact ⟨j + 1, by omega, by go_num, HO3.out, HF3.out⟩
     case measure => simp [intOf]; omega
    ·obtain rfl : j = N := by omega
     have hta : ls.take j = ls := List.take_of_length_le Y68
     rw [hta] at HO
     clear hta
     exact Y9
noncomputable def qgv : Code := ((Tryz.f164.body.bind (qq 1)).getD .skip)
theorem qec (a : Go.Act) (hs : a.tmps.size = 10) (hd : a.defers = []) : a = ⟨(slot a 0 :: slot a 1 :: slot a 2 :: slot a 3 :: slot a 4 :: slot a 5 :: slot a 6 :: slot a 7 :: slot a 8 :: slot a 9 :: []).toArray, []⟩ := zF a 10 hs hd
def qaI (Z g2 g3 : Nat) (dx dy : List UInt8) (k : Nat) (b : Go.Act) (p : World) : Prop :=
 match k with
 | 0 => ∃ g, slot b 5 = .slice (some ⟨g, 0, none⟩) 1 1 /\ At p g (.cells #[.int .u8 1] 5)
 | 1 => slot b 6 = .slice (some ⟨g2, 0, none⟩) 32 32
 | 2 => slot b 7 = .slice (some ⟨g3, 0, none⟩) 32 32
 | 3 => ∃ g, slot b 8 = .slice (some ⟨g, 0, none⟩) 3 3 /\ At p g (.cells #[slot b 5, .slice (some ⟨g2, 0, none⟩) 32 32, .slice (some ⟨g3, 0, none⟩) 32 32] 22)
 | 4 => qh 5 Z p (slot b 9) (1 :: (dx ++ dy))
 | 5 => slot b 4 = slot b 9
 | _ => True
def qfo (Z g2 g3 : Nat) (dx dy : List UInt8) (k : Nat) (b : Go.Act) (p : World) : Prop :=
 match k with
 | _ => True
theorem Uk (Z g2 g3 : Nat) (dx dy : List UInt8) : ∀ (k : Nat) (b : Go.Act) (p p' : World), Fr [] p p' -> qaI Z g2 g3 dx dy k b p -> qaI Z g2 g3 dx dy k b p'
 | 0, b, p, p', hf, h => let ⟨g, h1, h3⟩ := h; ⟨g, h1, h3.keep0 hf⟩
 | 1, b, p, p', hf, h => h
 | 2, b, p, p', hf, h => h
 | 3, b, p, p', hf, h => let ⟨g, h1, h3⟩ := h; ⟨g, h1, h3.keep0 hf⟩
 | 4, b, p, p', hf, h => h.keep hf (fun _ h => by cases h)
 | 5, b, p, p', hf, h => h
 | k + 6, b, p, p', hf, h => trivial
theorem Q4 (Z g2 g3 : Nat) (dx dy : List UInt8) : ∀ (k : Nat) (b : Go.Act) (p p' : World), Fr [] p p' -> qfo Z g2 g3 dx dy k b p -> qfo Z g2 g3 dx dy k b p'
 | k, b, p, p', hf, h => trivial
theorem in1 (Z g2 g3 : Nat) (dx dy : List UInt8) (w : World) (a : Go.Act) (hsz : a.tmps.size = 10) (h2 : slot a 2 = .pointer (some ⟨g2, 0, none⟩)) (h3 : slot a 3 = .pointer (some ⟨g3, 0, none⟩)) (hZ : w.heap.size = Z) (h2A : At w g2 (.cells (dx.map u8v).toArray 58)) (h3A : At w g3 (.cells (dy.map u8v).toArray 58)) (hx : dx.length = 32) (hy : dy.length = 32) (Q : Exit -> Go.Act -> World -> Prop)
  (hQ : ∀ (b : Go.Act) (p : World), b.defers = a.defers -> b.tmps.size = 10 -> (∀ s, some s ∉ ([some 5, some 6, some 7, some 8, some 9, some 4] : List (Option Nat)) -> slot b s = slot a s) -> Fr [] w p -> qh 5 Z p (slot b 4) (1 :: (dx ++ dy)) -> Q .normal b p) : Code.wp Tryz.prog qgv Q a w := by
 conv => arg 2; whnf
 refine qN [] (qaI Z g2 g3 dx dy) (qfo Z g2 g3 dx dy) [some 5, some 6, some 7, some 8, some 9, some 4] [[5], [6], [7], [5, 8], [9], [4, 9]] [] [] [(0, 4), (3, 4)] qe qe qe qe qe qd ?_ ?_ ?_ ?_ ?_
 ·intro w1 hw1 k hk1 hk2
  have hk3 : 6 <= k := hk1
  have hk4 : k < 6 := hk2
  clear hk1 hk2
  omega
 ·intro k b b' p hs h
  match k with
  | 0 => show ∃ g, slot b' 5 = .slice (some ⟨g, 0, none⟩) 1 1 /\ At p g (.cells #[.int .u8 1] 5); rw [<- hs 5 qd]; exact h
  | 1 => show slot b' 6 = .slice (some ⟨g2, 0, none⟩) 32 32; rw [<- hs 6 qd]; exact h
  | 2 => show slot b' 7 = .slice (some ⟨g3, 0, none⟩) 32 32; rw [<- hs 7 qd]; exact h
  | 3 => show ∃ g, slot b' 8 = .slice (some ⟨g, 0, none⟩) 3 3 /\ At p g (.cells #[slot b' 5, .slice (some ⟨g2, 0, none⟩) 32 32, .slice (some ⟨g3, 0, none⟩) 32 32] 22); rw [<- hs 5 qd, <- hs 8 qd]; exact h
  | 4 => show qh 5 Z p (slot b' 9) (1 :: (dx ++ dy)); rw [<- hs 9 qd]; exact h
  | 5 => show slot b' 4 = slot b' 9; rw [<- hs 4 qd, <- hs 9 qd]; exact h
  | k + 6 => trivial
 ·intro k b b' p hs h
  match k with
  | k => trivial
 ·intro i hi dn b p hs ho hf hF hG hdn hdc hr
  have hi9 : i < 6 := hi
  clear hi
  match i, hi9 with
  | 0, _ =>
   refine opV_step _ Y69 ?_
   refine xe Tryz.underlying22 Tryz.infoByte rfl (.const (.int .u8 1)) rfl (.int .u8 1) rfl rfl ?_
   have hf2 : Fr [] p (p.alloc (.cells #[.int .u8 1] 5)) := Fr.alloc _ _
   obtain ⟨p', hp'⟩ : ∃ p', p.alloc (.cells #[.int .u8 1] 5) = p' := ⟨_, rfl⟩
   have hA : At p' p.heap.size (.cells #[.int .u8 1] 5) := by rw [<- hp']; exact At.new rfl
   rw [hp'] at hf2 ⊢
   clear hp'
   refine ⟨rfl, rfl, hf.trans hf2, fun k _ _ _ _ h => Uk Z g2 g3 dx dy k _ _ _ hf2 h, ?_, fun e _ _ h => Q4 Z g2 g3 dx dy e _ _ _ hf2 h, fun e he hi hx => by exact absurd he (Nat.not_lt_zero e)⟩
   refine qA b 5 _ Y64 (fun b' => qaI Z g2 g3 dx dy 0 b' p') ?_
   intro b' hd hne
   show ∃ g, slot b' 5 = .slice (some ⟨g, 0, none⟩) 1 1 /\ At p' g (.cells #[.int .u8 1] 5)
   exact ⟨_, hd, hA⟩
  | 1, _ =>
   have e0 : b.eval (.tmp 2) = .pointer (some ⟨g2, 0, none⟩) := (ho 2 qd).trans h2
   exact Y0
  | 2, _ =>
   have e0 : b.eval (.tmp 3) = .pointer (some ⟨g3, 0, none⟩) := (ho 3 qd).trans h3
   exact Y0
  | 3, _ =>
   have f0 : ∃ g, slot b 5 = .slice (some ⟨g, 0, none⟩) 1 1 /\ At p g (.cells #[.int .u8 1] 5) := hF 0 (show (0:Nat) < 6 by decide) (fun _ => (hr 0 qe).2) (fun c hc => by (have hq1 : c = 4 := by simpa using hc); subst hq1; exact (by cases hq : dn 4 with | false => rfl | true => (have hq2 := hdc 4 3 hq qe; rw [hdn] at hq2; cases hq2)))
   have e0 : b.eval (.tmp 6) = .slice (some ⟨g2, 0, none⟩) 32 32 := fdq hF hr 1
   have e1 : b.eval (.tmp 7) = .slice (some ⟨g3, 0, none⟩) 32 32 := fdq hF hr 2
   have hc0 : (slot b 5).cells = #[slot b 5] := by obtain ⟨z, e, -⟩ := f0; rw [e]; rfl
   refine opV_step _ Y69 ?_
   refine Ke Tryz.underlying56 Tryz.infoBytes rfl (.tmp 5) (.tmp 6) (.tmp 7) rfl (slot b 5) (.slice (some ⟨g2, 0, none⟩) 32 32) (.slice (some ⟨g3, 0, none⟩) 32 32) rfl e0 e1 hc0 rfl rfl ?_
   have hf2 : Fr [] p (p.alloc (.cells #[slot b 5, .slice (some ⟨g2, 0, none⟩) 32 32, .slice (some ⟨g3, 0, none⟩) 32 32] 22)) := Fr.alloc _ _
   obtain ⟨p', hp'⟩ : ∃ p', p.alloc (.cells #[slot b 5, .slice (some ⟨g2, 0, none⟩) 32 32, .slice (some ⟨g3, 0, none⟩) 32 32] 22) = p' := ⟨_, rfl⟩
   have hA : At p' p.heap.size (.cells #[slot b 5, .slice (some ⟨g2, 0, none⟩) 32 32, .slice (some ⟨g3, 0, none⟩) 32 32] 22) := by rw [<- hp']; exact At.new rfl
   rw [hp'] at hf2 ⊢
   clear hp'
   refine ⟨rfl, rfl, hf.trans hf2, fun k _ _ _ _ h => Uk Z g2 g3 dx dy k _ _ _ hf2 h, ?_, fun e _ _ h => Q4 Z g2 g3 dx dy e _ _ _ hf2 h, fun e he hi hx => by exact absurd he (Nat.not_lt_zero e)⟩
   refine qA b 8 _ Y64 (fun b' => qaI Z g2 g3 dx dy 3 b' p') ?_
   intro b' hd hne
   show ∃ g, slot b' 8 = .slice (some ⟨g, 0, none⟩) 3 3 /\ At p' g (.cells #[slot b' 5, .slice (some ⟨g2, 0, none⟩) 32 32, .slice (some ⟨g3, 0, none⟩) 32 32] 22)
   rw [hne 5 qd]
   exact ⟨_, hd, hA⟩
  | 4, _ =>
   have f0 : ∃ g, slot b 5 = .slice (some ⟨g, 0, none⟩) 1 1 /\ At p g (.cells #[.int .u8 1] 5) := hF 0 (show (0:Nat) < 6 by decide) (fun _ => (hr 0 qe).2) (fun c hc => by (have hq1 : c = 4 := by simpa using hc); subst hq1; exact hdn)
   have f3 : ∃ g, slot b 8 = .slice (some ⟨g, 0, none⟩) 3 3 /\ At p g (.cells #[slot b 5, .slice (some ⟨g2, 0, none⟩) 32 32, .slice (some ⟨g3, 0, none⟩) 32 32] 22) := hF 3 (show (3:Nat) < 6 by decide) (fun _ => (hr 3 qe).2) (fun c hc => by (have hq1 : c = 4 := by simpa using hc); subst hq1; exact hdn)
   obtain ⟨g, b1, b2⟩ := f3
   have e0 : b.eval (.tmp 8) = .slice (some ⟨g, 0, none⟩) 3 3 := b1
   have hRD : RdL (fun _ => False) p (.slice (some ⟨g, 0, none⟩) 3 3) [(slot b 5, [1]), (.slice (some ⟨g2, 0, none⟩) 32 32, dx), (.slice (some ⟨g3, 0, none⟩) 32 32, dy)] := by
    refine ⟨⟨_, 3, rfl, by simp, by decide, Row.of_block (c := #[slot b 5, .slice (some ⟨g2, 0, none⟩) 32 32, .slice (some ⟨g3, 0, none⟩) 32 32]) (fz := (0, 0)) b2 qf⟩, fun z hz => ?_⟩
    rcases List.mem_cons.1 hz with rfl | hz
    ·obtain ⟨g6, d1, d2⟩ := f0
     have := xD (A := fun _ => False) (n := 1) (xs := [1]) d2 rfl qd qf
     rw [<- d1] at this
     exact this
    ·rcases List.mem_cons.1 hz with rfl | hz
     ·exact xD (h2A.keep0 hf) hx qd qf
     ·obtain rfl : z = (.slice (some ⟨g3, 0, none⟩) 32 32, dy) := by simpa using hz
      exact xD (h3A.keep0 hf) hy qd qf
   refine qV _ Y69 (qu rfl) 55 _ _ rfl #[.slice (some ⟨g, 0, none⟩) 3 3] Y66 Y75 ((Qw (fun _ => False) p _ [(slot b 5, [1]), (.slice (some ⟨g2, 0, none⟩) 32 32, dx), (.slice (some ⟨g3, 0, none⟩) 32 32, dy)] hRD qf (by simp [cat, hx, hy])).mono ?_)
   rintro e p' ⟨u, rfl, hu, hf2⟩
   refine ⟨_, rfl, hf.trans hf2, fun k _ _ _ _ h => Uk Z g2 g3 dx dy k _ _ _ hf2 h, ?_, fun e _ _ h => Q4 Z g2 g3 dx dy e _ _ _ hf2 h, fun e he hi hx => by exact absurd he (Nat.not_lt_zero e)⟩
   refine qA b 9 _ Y64 (fun b' => qaI Z g2 g3 dx dy 4 b' p') ?_
   intro b' hd hne
   show qh 5 Z p' (slot b' 9) (1 :: (dx ++ dy))
   rw [hd]
   exact (by simpa [cat] using hu.base qbs : qh 5 Z p' u (1 :: (dx ++ dy)))
  | 5, _ =>
   refine opV_step _ Y69 ?_
   refine qy _ rfl rfl (b.eval (.tmp 9)) (by obtain ⟨ρ, hρ⟩ := exq (b.eval); rw [hρ]; unfold execOp; simp [go_sem]) ?_
   exact ⟨rfl, rfl, hf, fun _ _ _ _ _ h => h, (slot_put_self Y64).trans (slot_put_ne (by rintro ⟨⟩)).symm, fun _ _ _ h => h, fun e he hi hx => by exact absurd he (Nat.not_lt_zero e)⟩
 ·intro b p hd hs ho hf hall hex
  have e5 := hall 5 qd (fun c hc => by simp at hc)
  have e4 := hall 4 qd (fun c hc => by simp at hc)
  refine hQ b p hd (hs.trans hsz) ho hf ?_
  rw [show slot b 4 = slot b 9 from e5]
  exact e4
theorem L5 (w0 : World) (x y : List UInt8) (hx : x.length = 32) (hy : y.length = 32) :
  Calls Tryz.prog 164 #[.agg (x.map u8v).toArray, .agg (y.map u8v).toArray] w0 fun e w' => ∃ u, e = .returned u /\ qh 5 w0.heap.size w' u (1 :: (x ++ y)) /\ Fr [] w0 w' := by
 obtain ⟨Z, hZ⟩ := exq (w0.heap.size)
 have HF := Hdq (show Fr [] w0 ((w0.alloc (.cells (x.map u8v).toArray 58)).alloc (.cells (y.map u8v).toArray 58)) from (Fr.alloc _ _).trans (Fr.alloc _ _))
 have HX := Hdq (show At ((w0.alloc (.cells (x.map u8v).toArray 58)).alloc (.cells (y.map u8v).toArray 58)) Z (.cells (x.map u8v).toArray 58) from (At.new hZ.symm).al)
 have HY := Hdq (show At ((w0.alloc (.cells (x.map u8v).toArray 58)).alloc (.cells (y.map u8v).toArray 58)) (Z + 1) (.cells (y.map u8v).toArray 58) from At.new Y94)
 have HS := Hdq (show ((w0.alloc (.cells (x.map u8v).toArray 58)).alloc (.cells (y.map u8v).toArray 58)).heap.size = Z + 2 by simp [hZ])
 obtain ⟨xc, hxc⟩ := exq ((x.map u8v).toArray)
 obtain ⟨yc, hyc⟩ := exq ((y.map u8v).toArray)
 rw [hxc] at HF HX HY HS ⊢
 rw [hyc] at HF HX HY HS ⊢
 have HXC := Hdq hxc
 have HYC := Hdq hyc
 clear hxc hyc
 go_enter Tryz.func164, Tryz.ntmps164
 go_wp2_with (first | (refine js (.tmp 0) rfl rfl xc rfl ?_) | (refine js (.tmp 1) rfl rfl yc rfl ?_))
 refine in1 (Z + 2) Z (Z + 1) x y _ _ rfl rfl rfl HS.out (by rw [HXC.out]; exact HX.out) (by rw [HYC.out]; exact HY.out) hx hy _ ?_
 intro b p hd hs ho hf h4
 obtain ⟨u, hu⟩ := exq (slot b 4)
 rw [hu] at h4
 rw [qec b hs hd, hu]
 have HU := Hdq (h4.base (base' := Z) Y62)
 have HF2 := Hdq (HF.out.trans hf)
 clear h4 hf ho hu
 go_wp2
 go_ret
 exact ⟨_, rfl, HU.out, HF2.out⟩
theorem qcx (w0 : World) (x y : List UInt8) (hx : x.length = 32) (hy : y.length = 32) (hS : SG w0) :
  Calls Tryz.prog 135 #[.agg (x.map u8v).toArray, .agg (y.map u8v).toArray] w0 fun e w' => e = .returned (.agg ((jE x y).map u8v).toArray) /\ Fr [] w0 w' := by
 obtain ⟨Z, hZ⟩ := exq (w0.heap.size)
 have F3 : Fr [] w0 ((((w0.alloc (.cells (x.map u8v).toArray 58)).alloc (.cells (y.map u8v).toArray 58))).alloc (.cells qZ 58)) := ((Fr.alloc _ _).trans (Fr.alloc _ _)).trans (Fr.alloc _ _)
 have HX := Hdq (show At ((((w0.alloc (.cells (x.map u8v).toArray 58)).alloc (.cells (y.map u8v).toArray 58))).alloc (.cells qZ 58)) Z (.cells (x.map u8v).toArray 58) from (At.new hZ.symm).al.al)
 have HY := Hdq (show At ((((w0.alloc (.cells (x.map u8v).toArray 58)).alloc (.cells (y.map u8v).toArray 58))).alloc (.cells qZ 58)) (Z + 1) (.cells (y.map u8v).toArray 58) from (At.new Y94).al)
 have HA := Hdq (show At ((((w0.alloc (.cells (x.map u8v).toArray 58)).alloc (.cells (y.map u8v).toArray 58))).alloc (.cells qZ 58)) (Z + 2) (.cells qZ 58) from At.new Y94)
 have HS := Hdq (hS.keep F3)
 have HF3 := Hdq F3
 have HC := Hdq (L5 ((((w0.alloc (.cells (x.map u8v).toArray 58)).alloc (.cells (y.map u8v).toArray 58))).alloc (.cells qZ 58)) x y hx hy)
 have HSX := Hdq (dig_size x hx)
 have HSY := Hdq (dig_size y hy)
 have HL := Hdq (And.intro hx hy)
 obtain ⟨xl, hxl⟩ := exq (x.map u8v)
 obtain ⟨yl, hyl⟩ := exq (y.map u8v)
 rw [hxl] at HX HY HA HS HF3 HC HSX ⊢
 rw [hyl] at HX HY HA HS HF3 HC HSY ⊢
 have HXL := Hdq hxl
 have HYL := Hdq hyl
 clear hS F3 hx hy hxl hyl
 go_enter Tryz.func135, Tryz.ntmps135
 go_wp2_with (first | (refine js (.tmp 0) rfl rfl xl.toArray rfl ?_) | (refine js (.tmp 1) rfl rfl yl.toArray rfl ?_) | (refine qI (.tmp 2) rfl rfl Z 0 xl rfl (qC HX.out) Tryz.underlying58 rfl HSX.out ?_) | (refine qI (.tmp 3) rfl rfl (Z + 1) 0 yl rfl (qC HY.out) Tryz.underlying58 rfl HSY.out ?_) | (go_at_call 164; fail))
 refine HC.out.mono ?_
 rintro e w2 ⟨u, rfl, hu, hf⟩
 have hub := hu.bs (A := fun _ => False) (fun _ h => h.elim)
 obtain ⟨ua, uc, rfl, -, -, -⟩ := id hub
 obtain ⟨un, hun⟩ := exq ((1 :: (x ++ y) : List UInt8).length)
 rw [hun] at hub ⊢
 obtain ⟨Z2, hZ2⟩ := exq (w2.heap.size)
 have F3 : Fr [] w2 (w2.alloc (.cells #[.slice ua un uc] 22)) := Fr.alloc _ _
 have HR := Hdq (show RdB (fun b => (w2.alloc (.cells #[.slice ua un uc] 22)).heap.size <= b) (w2.alloc (.cells #[.slice ua un uc] 22)) (.slice (some ⟨Z2, 0, none⟩) 1 1) [(.slice ua un uc, 1 :: (x ++ y))] from by
  refine ⟨⟨_, 1, rfl, by simp, by decide, Row.of_block (c := #[.slice ua un uc]) (fz := (0, 0)) (At.new hZ2.symm : At (w2.alloc (.cells #[.slice ua un uc] 22)) Z2 _) Y65⟩, fun z hz => zk ?_⟩
  obtain rfl : z = (.slice ua un uc, 1 :: (x ++ y)) := by simpa using hz
  exact hub.keep F3 qf)
 have HF4 := Hdq ((HF3.out.trans hf).trans F3)
 have HS4 := Hdq ((HS.out.keep hf).keep F3)
 have HA4 := Hdq ((HA.out.keep0 hf).keep0 F3)
 clear hu hub hf F3 HC HS HA HF3 hun HX HY
 have HZ2 := Hdq hZ2
 go_wp2_with (go_at_call 76; fail)
 refine (Qa _ _ [(.slice ua un uc, 1 :: (x ++ y))] HR.out HS4.out.f HS4.out.k HS4.out.g (by have := HL.out; simp [qP]; omega)).mono ?_
 rintro e w4 ⟨rfl, hf⟩
 obtain ⟨o, ho⟩ := exq (jf (qP [(Value.slice ua un uc, 1 :: (x ++ y))]))
 rw [ho]
 have HO := Hdq (show jE x y = o by rw [<- ho]; simp [qP, jE])
 have hol : o.length = 32 := by rw [<- ho, jY]
 have HS9 := Hdq (show (Tryz.prog.info? 58).map (·.size) = some (o.map u8v).toArray.size by rw [List.size_toArray]; exact dig_size o hol)
 have HOL := Hdq hol
 have HF5 := Hdq (HF4.out.trans hf)
 have HA5 := Hdq (HA4.out.keep0 hf)
 clear ho hol hf HF4 HA4 HR HS4
 go_wp2_with (refine qx (.tmp 4) (.tmp 9) rfl rfl (o.map u8v).toArray rfl rfl HS9.out HA5.out Y77 (zC _) ?_)
 intro w9 f9 a9 s9
 have HF9 := Hdq (HF5.out.then f9 (fun z hz => .inr Y74))
 have HA9 := Hdq a9
 clear f9 a9 s9
 go_wp2
 refine bodyPost_ret (jk rfl _ _ (Z + 2) _ rfl (qC HA9.out) Tryz.underlying58 rfl (dig_size o HOL.out)) rfl ?_
 exact ⟨by rw [HO.out], HF9.out⟩
theorem Tryz.infoDig : (Tryz.prog.info? 58).map (fun i => (i.zero, i.size, i.bytes)) = some (some (.agg qZ), 32, 32) := by kernel_rfl
def dgK (ds : List Dg) : List (List Value) := ds.map fun d => d.map u8v
theorem jU (ds : List Dg) : (dgK ds).length = ds.length := List.length_map _
theorem KK (w0 : World) (v : Value) (ls : List (Value × List UInt8)) (hR : RdB (fun _ => False) w0 v ls) (hl : ∀ x ∈ ls, x.2.length <= 10000000) (hn : ls.length <= 100000) (hS : SG w0) :
  Calls Tryz.prog 84 #[v] w0 fun e w' => ∃ u, e = .returned u /\ jc 58 w0.heap.size 32 w' u (dgK (ls.map fun x => qS x.2)) /\ Fr [] w0 w' := by
 obtain ⟨va, vc, rfl, hv1, hv2⟩ := zx hR
 unfold maxLen at hv2
 obtain ⟨n, hnn⟩ := exq (ls.length)
 rw [hnn] at hR hv1 hn ⊢
 have HH := Hdq (And.intro hS (And.intro hR hl))
 have HN := Hdq hnn
 have HNL := Hdq hn
 clear hl hS hR hnn hn
 obtain ⟨DL, hDL⟩ := exq ((ls.map fun x => qS x.2))
 rw [hDL]
 have HDL := Hdq hDL
 clear hDL
 go_enter Tryz.func84, Tryz.ntmps84
 go_wp2
 go_loopw [3, 8] (fun o i wr => ∃ k : Nat, k <= n /\ i = .int .i64 (k : Int) /\ Hid (jc 58 w0.heap.size 32 wr o (dgK (DL.take k))) /\ Hid (Fr [] w0 wr)) (fun _ i _ => n - (intOf i).toNat)
 case atStart => exact ⟨0, by omega, rfl, Hdq (jc.nil _ _ _ _), Hdq (Fr.refl _ _)⟩
 case round =>
  obtain ⟨k, hk, rfl, HO, HF⟩ := hrel
  by_cases hkn : k < n
  ·obtain ⟨x, hx⟩ : ∃ x, ls[k]? = some x := ⟨_, List.getElem?_eq_getElem (by rw [HN.out]; exact hkn)⟩
   obtain ⟨b, off, rfl, hc, hbx⟩ := vM (HH.out.2.1.keep HF.out qf) k x hx
   have HBX := Hdq hbx
   have HXL := Hdq (HH.out.2.2 x (List.mem_of_getElem? hx))
   have HUP := Hdq (show dgK (DL.take (k + 1)) = dgK (DL.take k) ++ [(qS x.2).map u8v] by rw [<- HDL.out, List.take_add_one, List.getElem?_map, hx]; simp [dgK])
   have hki : (k : Int) < (n : Int) := by omega
   clear hx hbx
   go_wp2_with (go_at_call 131; fail)
   refine (qc7 wr x.1 x.2 HBX.out HXL.out (HH.out.1.keep HF.out)).mono ?_
   rintro e w3 ⟨rfl, hf⟩
   obtain ⟨o, ho⟩ := exq ((qS x.2).map u8v)
   rw [ho] at HUP ⊢
   have hol : o.length = 32 := by rw [<- ho, List.length_map]; rfl
   have HOL := Hdq hol
   have HO1 := Hdq (show ∀ u ∈ o, u.oneCell' = true from by rw [<- ho]; exact zp _)
   have HO3 := Hdq (HO.out.keep0 (hf.trans (Fr.alloc w3 (.cells o.toArray 58))))
   have HF3 := Hdq ((HF.out.trans hf).trans (Fr.alloc w3 (.cells o.toArray 58)))
   have HSZ := Hdq HF3.out.size
   have HKL := Hdq (show (dgK (DL.take k)).length <= 100000 by rw [jU, List.length_take]; have := HNL.out; omega)
   clear hol ho hf HO HF hc
   go_wp2_with (first | (refine ya Tryz.underlying70 Tryz.infoDig qd qd rfl (.tmp 14) rfl o rfl HOL.out ?_) | (at_builtin; refine xh Tryz.underlying70 Tryz.infoDig Y69 qd rfl (.tmp 12) (.tmp 15) rfl rfl rfl (At.new rfl) HOL.out HO1.out HO3.out (by have := HKL.out; omega) (by have := HKL.out; unfold maxLen; omega) HSZ.out ?_))
   intro v' w4 ho hg
   have HO4 := Hdq (show jc 58 w0.heap.size 32 w4 v' (dgK (DL.take (k + 1))) by rw [HUP.out]; exact ho)
   have HF4 := Hdq (jc.fr HF3.out HO3.out hg (Nat.le_refl _))
   clear ho hg HO3 HF3 HUP
   go_wp2
   go_roundw
   case rel => exact ⟨k + 1, by omega, by simp, HO4, HF4⟩
   case measure => simp [intOf]; omega
  ·obtain rfl : k = n := by omega
   go_wp2
   go_ret
   exact ⟨_, rfl, by have h := HO.out; rw [List.take_of_length_le (by rw [<- HDL.out, List.length_map, HN.out]; exact Nat.le_refl _)] at h; exact h, HF.out⟩
theorem KB (A : Nat -> Prop) (w : World) (v : Value) (rs : List (List Value)) (hb : RdK A 32 w v rs) (h1 : ∀ r ∈ rs, ∀ u ∈ r, u.oneCell' = true) (hl : rs.length <= 100000) :
   Calls Tryz.prog 133 #[v] w fun e w' => ∃ v', e = .returned v' /\ jc 58 w.heap.size 32 w' v' rs /\ Fr [] w w' := by
  obtain ⟨⟨a, cap, rfl, h2, h3, h4⟩, h5⟩ := hb
  cases a with
  | none =>
    have hx : rs = [] := by
      rcases h4 with h | ⟨b, off, c, e, fz, h, _⟩
      · cases rs with
        | nil => rfl
        | cons r t =>
          have hr := h5 r List.mem_cons_self
          rw [List.flatten_cons] at h
          have := congrArg List.length h
          rw [List.length_append, hr, List.length_nil] at this
          omega
      · cases h
    subst hx
    have hn : ∀ w, (binOp .eql 70 (.slice none 0 cap) (.slice none 0 0)).run Tryz.prog w = .ok (.bool true) w := fun w => @Lib.run_eql_slice_nil Tryz.prog w 70 58 none 0 cap 0 0 Tryz.underlying70
    go_enter Tryz.func133, Tryz.ntmps133
    go_wp2
    go_ret
    exact ⟨_, rfl, jc.nil _ _ _ _, Fr.refl _ _⟩
  | some ad =>
    have hn : ∀ w, (binOp .eql 70 (.slice (some ad) rs.length cap) (.slice none 0 0)).run Tryz.prog w = .ok (.bool false) w := fun w => @Lib.run_eql_slice_nil Tryz.prog w 70 58 (some ad) _ cap 0 0 Tryz.underlying70
    have h0 : (w.alloc (.cells #[] 58)).ownsRow w.heap.size 58 32 (.slice (some ⟨w.heap.size, 0, none⟩) 0 0) 0 [] := World.ownsRow_lit (size := 32) w #[] 0 (Nat.le_refl _) qd rfl
    have HL := Hdq (show rs.flatten.length = rs.length * 32 by exact Uj 32 rs h5)
    have HR := Hdq (h4.keep (Fr.alloc (S := []) w (.cells #[] 58)) qf)
    have H1 := Hdq (show ∀ u ∈ rs.flatten, u.oneCell' = true from fun u hu => by obtain ⟨r, hr, hu⟩ := List.mem_flatten.1 hu; exact h1 r hr u hu)
    have H5 := Hdq h5
    have H0 := Hdq h0
    obtain ⟨i, hi, hz, hsz, hby⟩ := qR Tryz.infoDig
    have HI := Hdq (And.intro hi (And.intro hz (And.intro hsz hby)))
    clear h4 h5 h1 h0 hi hz hsz hby
    go_enter Tryz.func133, Tryz.ntmps133
    go_wp2_with (at_builtin; refine xf (A := A) rfl (.tmp 5) (.tmp 6) 70 rfl w.heap.size 58 i _ 32 32 Tryz.underlying70 HI.out.1 HI.out.2.1 HI.out.2.2.1 HI.out.2.2.2 rfl qd _ 0 [] rfl H0.out (some ad) rs.length cap rs.flatten rfl HL.out HR.out H1.out ?h63 ?hl ?hb ?_)
    case h63 => simp [maxLen]; omega
    case hl => simp; omega
    case hb => simp
    intro v' w' h5 h6
    have HO := Hdq (show jc 58 w.heap.size 32 w' v' rs from ⟨by simpa using h5, H5.out⟩)
    have HF := Hdq (Fr.own (S := []) (w0 := w) (Fr.alloc w (.cells #[] 58)) h6 H0.out (Nat.le_refl _))
    clear h5 h6
    exact Y9
end Go.Proofs.YtnafknkchbfpaaaGreatDoor
