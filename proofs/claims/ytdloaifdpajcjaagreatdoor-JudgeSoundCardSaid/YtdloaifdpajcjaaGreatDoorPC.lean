import Derived.Test.YtdloaifdpajcjaaGreatDoorPB
set_option linter.unusedVariables false
set_option linter.unusedSimpArgs false
namespace Go.Bl
open Go.RowKit
section
variable {α : Type} {P : Program} {X : Cx} {L : Pl} {F : Nat -> Prop} {β : Nat -> Option Bk} {σ : St} {a : Act} {w : World} {C : FuncId -> List RA -> RA -> List RA -> Prop} {b : α} {l : List Lc} {A : Nat -> Prop}
theorem Row.add {ad : Addr} {us : List Value} (h : Row A w (some ad) us) (k : Nat) : Row A w (some (ad.add k)) (us.drop k) := by
 rcases h with rfl | ⟨b', off', c, e, fz, he, hn, hb, hc⟩
 ·exact .inl Y85
 ·cases he
  rw [uA]
  exact Row.drop (.inr ⟨b', off', c, e, fz, rfl, hn, hb, hc⟩) k
theorem ug (hX : Cok P X L) {t e : TypeId} {ti te : TI} (ht : X.T t = some ti) (hd : ti.desc = .slice e) (he : X.T e = some te) (ad : Addr) (len cap : Nat) (kd : IntKind) (i : Int) (h0 : 0 <= i) (h1 : i < len) :
  (Instr.indexAt t (.slice (some ad) len cap) (.int kd i)).run P w = .ok (.pointer (some (ad.add (i.toNat * te.size)))) w := by
 have hu := jx (P := P) (w := w) hX ht
 rw [hd] at hu
 simp [Instr.indexAt, asIntOf, hu, h0, h1, run_sizeOf hX he]
theorem vO (hX : Cok P X L) {t e : TypeId} {n : Nat} {ti te : TI} (ht : X.T t = some ti) (hd : ti.desc = .array n e) (he : X.T e = some te) (ad : Addr) (kd : IntKind) (i : Int) (h0 : 0 <= i) (h1 : i < n) :
  (Instr.indexAt t (.pointer (some ad)) (.int kd i)).run P w = .ok (.pointer (some (ad.add (i.toNat * te.size)))) w := by
 have hu := jx (P := P) (w := w) hX ht
 rw [hd] at hu
 simp [Instr.indexAt, asIntOf, hu, h0, h1, run_sizeOf hX he, Instr.sureAddr]
theorem ZV (hX : Cok P X L) (S : Sim L F β σ a w) {t : TypeId} {x : AV} {u : Value} {kd : IntKind} {i : Int} {k : AV -> RM α} (hx : qq β (Mut L.A0 β σ) w x u) (h : (Vc X t x i k).runs C σ b l) :
  ∃ y v l', (k y).runs C σ b l' /\ qq β (Mut L.A0 β σ) w y v /\ (Instr.indexAt t u (.int kd i)).run P w = .ok v w := by
 obtain ⟨ti, ht, h⟩ := qm h
 cases hd : ti.desc with
 | slice e =>
  rw [hd] at h
  obtain ⟨te, he, h⟩ := qm h
  cases x with
  | pv x =>
   cases x with
   | l xs =>
    obtain ⟨ad, cap, s, us, rfl, g1, g2, g3, g4, g5, g6, g7⟩ := VR hx
    obtain ⟨h1, h⟩ := h
    obtain ⟨h0, h1, h2⟩ := h1 ()
    have hi : i.toNat < xs.length := by omega
    have hs : s = te.size := by rw [<- g2 _ (xl hi)]; exact h2
    have hl := g1.length
    rw [jq g2] at hl
    have hpos : 0 < us.length := by rw [<- hl]; exact Nat.mul_pos Y54 g4
    obtain ⟨bk, off, rfl, -, -⟩ := g7.some_of hpos
    refine ⟨_, _, _, h, ?_, ug hX ht hd he _ _ _ _ _ h0 Y54⟩
    rw [hX.h]
    refine .pv (.p (us := (us.drop (i.toNat * s)).take s) (by rw [Je hi g2]; exact (g1.drop _).take _) (g3 _ (xl hi)) ?_)
    rw [<- hs]
    exact (Row.add g7 _).take _
   | _ => exact h.elim
  | own n =>
   obtain ⟨o, l2, ho, -, h⟩ := h
   cases o with
   | row e' s xs sh =>
    obtain ⟨h1, h⟩ := h
    obtain ⟨hs, h0, h1⟩ := h1 ()
    obtain ⟨kk, hk, rfl⟩ := za hx
    obtain ⟨k', us, q1, q2, q3, q4, q5, q6, q7, q8, q9⟩ := (S.objs n _ ho).row_mem
    rw [hk] at q1; cases q1
    cases hb : kk.blk with
    | none =>
     obtain ⟨rfl, -⟩ := (S.objs n _ ho).nil_row hk hb
     simp at h1
     omega
    | some bk =>
     obtain ⟨hv, -⟩ := q9 bk hb
     rw [hv]
     refine ⟨_, _, _, h, ?_, ug hX ht hd he _ _ _ _ _ h0 Y54⟩
     rw [hX.h, uA, Nat.zero_add, <- hs, <- q2]
     exact .ref hk hb
   | _ => exact h.elim
  | sl n off len =>
   obtain ⟨o, l2, ho, -, h⟩ := h
   have fin : ∀ {s : Nat}, (∀ kk, β n = some kk -> kk.s = s) -> s = te.size -> 0 <= i -> i < len -> (k (.ref n (X.h _ fun _ => off + i.toNat) 0)).runs C σ b l2 ->
     ∃ y v l', (k y).runs C σ b l' /\ qq β (Mut L.A0 β σ) w y v /\ (Instr.indexAt t u (.int kd i)).run P w = .ok v w := by
    intro s hks hs h0 h1 h
    cases hx with
    | @sl _ _ _ bk c kk hk hb hc hlc hm =>
     refine ⟨_, _, _, h, ?_, ug hX ht hd he _ _ _ _ _ h0 h1⟩
     rw [hX.h, uA, <- hs, <- hks kk hk, <- Nat.add_mul]
     exact .ref hk hb
    | sl0 => omega
   cases o with
   | row e' s xs sh =>
    obtain ⟨h1, h⟩ := h
    obtain ⟨hs, h0, h1⟩ := h1 ()
    refine fin (s := s) (fun kk hk => ?_) hs h0 h1 h
    obtain ⟨k', us, q1, q2, -⟩ := (S.objs n _ ho).row_mem
    rw [hk] at q1; cases q1
    exact q2
   | var t' xs sh =>
    obtain ⟨h1, h⟩ := h
    obtain ⟨hs, h0, h1⟩ := h1 ()
    refine fin (s := 1) (fun kk hk => ?_) hs.symm h0 h1 h
    obtain ⟨k', us, b', q1, q2, -⟩ := S.objs n _ ho
    rw [hk] at q1; cases q1
    exact q2
   | _ => exact h.elim
  | _ => exact h.elim
 | array len e =>
  rw [hd] at h
  obtain ⟨te, he, h⟩ := qm h
  obtain ⟨h1, h⟩ := h
  obtain ⟨h0, h1⟩ := h1 ()
  cases x with
  | pv x =>
   cases x with
   | p xs =>
    obtain ⟨ad, us, rfl, g1, g2, g3⟩ := UX hx
    refine ⟨_, _, _, h, ?_, vO hX ht hd he _ _ _ h0 Y54⟩
    rw [hX.h]
    exact .pv (.p (g1.drop _) (fun c hc => g2 c (List.mem_of_mem_drop hc)) (Row.add g3 _))
   | _ => exact h.elim
  | ref n i0 j =>
   obtain ⟨kk, bk, hk, hb, rfl⟩ := vF hx
   obtain ⟨o, l2, ho, -, h⟩ := h
   have hr := vO (P := P) (w := w) (kd := kd) hX ht hd he ⟨bk, i0 * kk.s + j, none⟩ _ h0 Y54
   rw [uA] at hr
   cases o with
   | mrow _ _ _ => exact h.elim
   | map _ _ _ => exact h.elim
   | row e' s xs sh =>
    refine ⟨_, _, _, h, ?_, hr⟩
    rw [hX.h, Nat.add_assoc]
    exact .ref hk hb
   | var t' xs sh =>
    obtain ⟨k', us, b', q1, q2, -⟩ := S.objs n _ ho
    rw [hk] at q1; cases q1
    simp only at h
    split at h
    ·rename_i hte
     have hte : te.size = 1 := by simpa using hte
     refine ⟨_, _, _, h, ?_, hr⟩
     rw [hX.h, hte, show i0 * kk.s + j + i.toNat * 1 = (i0 + i.toNat) * kk.s + j by rw [q2]; omega]
     exact .ref hk hb
    ·refine ⟨_, _, _, h, ?_, hr⟩
     rw [hX.h, show i0 * kk.s + j + i.toNat * te.size = (i0 + i.toNat * te.size) * kk.s + j by rw [q2]; omega]
     exact .ref hk hb
   | box t' xs sh =>
    obtain ⟨k', us, b', q1, q2, -⟩ := S.objs n _ ho
    rw [hk] at q1; cases q1
    refine ⟨_, _, _, h, ?_, hr⟩
    rw [show i0 * kk.s + j + i.toNat * te.size = (i0 + i.toNat * te.size) * kk.s + j by rw [q2]; omega]
    exact .ref hk hb
  | _ => exact h.elim
 | _ => rw [hd] at h; exact h.elim
theorem jV (isS : Bool) {n cap : Nat} {lo hi : Option Value} {l h : Nat} (hlo : (lo = none /\ l = 0) ∨ ∃ kd, lo = some (.int kd (l : Int))) (hhi : (hi = none /\ h = n) ∨ ∃ kd, hi = some (.int kd (h : Int))) (h1 : l <= h) (h2 : h <= n) (h3 : n <= cap) :
  (Instr.sliceBounds isS n cap lo hi none).run P w = .ok (l, h, cap) w := by
 have hh : h <= cap := by omega
 have hl : l <= h := h1
 have hh' : ¬ cap < h := by omega
 have hl' : ¬ h < l := by omega
 rcases hlo with ⟨rfl, rfl⟩ | ⟨kd, rfl⟩ <;> rcases hhi with ⟨rfl, rfl⟩ | ⟨kd', rfl⟩ <;> simp_all [Instr.sliceBounds, Instr.sliceBound, asIntOf]
theorem vm {X : Cx} (hX : ∀ α f, X.h α f = f ()) {n : Unit -> Nat} {lo hi : Option Int} {k : Nat -> Option Nat -> RM α} (h : (VM X n lo hi k).runs C σ b l) :
  ∃ lq hq l', (k lq hq).runs C σ b l' /\ lq <= hq.getD (n ()) /\ hq.getD (n ()) <= n () /\ (∀ kl kh, (((lo.map fun q => Value.int kl q) = none /\ lq = 0) ∨ ∃ kd, (lo.map fun q => Value.int kl q) = some (.int kd (lq : Int))) /\ (((hi.map fun q => Value.int kh q) = none /\ hq.getD (n ()) = n ()) ∨ ∃ kd, (hi.map fun q => Value.int kh q) = some (.int kd ((hq.getD (n ()) : Nat) : Int)))) /\ (lo = none -> lq = 0) := by
 cases lo with
 | none =>
  cases hi with
  | none => exact ⟨_, _, _, h, Nat.zero_le _, Nat.le_refl _, fun kl kh => ⟨.inl ⟨rfl, rfl⟩, .inl ⟨rfl, rfl⟩⟩, fun _ => rfl⟩
  | some q =>
   obtain ⟨h1, h⟩ := h
   obtain ⟨h1, h2⟩ := h1 ()
   refine ⟨_, _, _, h, Nat.zero_le _, ?_, fun kl kh => ⟨.inl ⟨rfl, rfl⟩, .inr ⟨kh, ?_⟩⟩, fun _ => rfl⟩
   ·simp only [hX, Option.getD_some]; omega
   ·simp only [hX, Option.getD_some, Option.map_some, Int.toNat_of_nonneg h1]
 | some p =>
  cases hi with
  | none =>
   obtain ⟨h1, h⟩ := h
   obtain ⟨h1, h2⟩ := h1 ()
   refine ⟨_, _, _, h, ?_, Nat.le_refl _, fun kl kh => ⟨.inr ⟨kl, ?_⟩, .inl ⟨rfl, rfl⟩⟩, fun e => by cases e⟩
   ·simp only [hX, Option.getD_none]; omega
   ·simp only [hX, Option.map_some, Int.toNat_of_nonneg h1]
  | some q =>
   obtain ⟨h1, h⟩ := h
   obtain ⟨h1, h2, h3⟩ := h1 ()
   refine ⟨_, _, _, h, ?_, ?_, fun kl kh => ⟨.inr ⟨kl, ?_⟩, .inr ⟨kh, ?_⟩⟩, fun e => by cases e⟩
   ·simp only [hX, Option.getD_some]; omega
   ·simp only [hX, Option.getD_some]; omega
   ·simp only [hX, Option.map_some, Int.toNat_of_nonneg h1]
   ·have : 0 <= q := by omega
    simp only [hX, Option.getD_some, Option.map_some, Int.toNat_of_nonneg this]
theorem uw {t : TypeId} {k : TI -> RM α} (h : (ZJ X t k).runs C σ b l) : ∃ ti e te, X.T t = some ti /\ ti.desc = .slice e /\ X.T e = some te /\ (k te).runs C σ b l := by
 obtain ⟨ti, ht, h⟩ := qm h
 cases hd : ti.desc with
 | slice e =>
  rw [hd] at h
  obtain ⟨te, he, h⟩ := qm h
  exact ⟨ti, e, te, ht, hd, he, h⟩
 | _ => rw [hd] at h; exact h.elim
theorem zC (hX : Cok P X L) {t e : TypeId} {ti te : TI} (ht : X.T t = some ti) (hd : ti.desc = .slice e) (he : X.T e = some te) {ad : Option Addr} {n cap l h : Nat} {lo hi : Option Value} (hb : (Instr.sliceBounds true n cap lo hi none).run P w = .ok (l, h, cap) w) :
  (Instr.sliceAt t (.slice ad n cap) lo hi none).run P w = .ok (.slice (if cap = l then ad else ad.map (·.add (l * te.size))) (h - l) (cap - l)) w := by
 have hu := jx (P := P) (w := w) hX ht
 rw [hd] at hu
 simp [Instr.sliceAt, Instr.slice, hu, hb, run_sizeOf hX he]
theorem qa2 {γ : Type} {lq : Nat} {hq : Option Nat} {xs : List γ} (h1 : lq <= hq.getD xs.length) (h2 : hq.getD xs.length <= xs.length) : qcE lq hq xs = (xs.drop lq).take (hq.getD xs.length - lq) := by
 cases hq with
 | none => simp only [qcE, Option.getD_none]; rw [List.take_of_length_le Y73]
 | some q => simp only [qcE, Option.getD_some]; rw [List.drop_take]
theorem X9 (hX : Cok P X L) (S : Sim L F β σ a w) {t : TypeId} {x : AV} {u : Value} {p q : Int} {kp kq : IntKind} {out : Out} (hx : qq β (Mut L.A0 β σ) w x u) (h : (Yh X t x p q).runs C σ out l) :
  ∃ y v, out = ⟨some y, []⟩ /\ qq β (Mut L.A0 β σ) w y v /\ (Instr.sliceAt t u none (some (.int kp p)) (some (.int kq q))).run P w = .ok v w := by
 unfold Yh at h
 split at h
 ·rename_i n
  obtain ⟨o, l2, ho, -, h⟩ := h
  cases o with
  | row e' s xs sh =>
   obtain ⟨ti, e, te, ht, hd, he, h⟩ := uw h
   obtain ⟨h4, h⟩ := h
   obtain ⟨hs, h1, h2, h3⟩ := h4 ()
   obtain ⟨rfl, -⟩ := h
   obtain ⟨kk, hk, rfl⟩ := za hx
   obtain ⟨k', us, q1, q2, q3, q4, q5, q6, q7, q8, q9⟩ := (S.objs n _ ho).row_mem
   rw [hk] at q1; cases q1
   have hu := jx (P := P) (w := w) hX ht
   rw [hd] at hu
   obtain ⟨pn, rfl⟩ := Int.eq_ofNat_of_zero_le h1
   obtain ⟨qn, rfl⟩ := Int.eq_ofNat_of_zero_le (Int.le_trans h1 h2)
   have h2 : pn <= qn := Int.ofNat_le.1 h2
   have h3 : qn <= xs.length := Int.ofNat_le.1 h3
   have bnd : ∀ cap, qn <= cap -> (Instr.sliceBounds true xs.length cap none (some (.int kp (pn : Int))) (some (.int kq (qn : Int)))).run P w = .ok (0, pn, qn) w := fun cap hc => by
    have n1 : ¬ cap < qn := by omega
    have n2 : ¬ qn < pn := by omega
    simp_all [Instr.sliceBounds, Instr.sliceBound, asIntOf]
   have run : ∀ (ad : Option Addr) (cap : Nat), qn <= cap -> (Instr.sliceAt t (.slice ad xs.length cap) none (some (.int kp (pn : Int))) (some (.int kq (qn : Int)))).run P w = .ok (.slice (if qn = 0 then ad else ad.map (·.add (0 * te.size))) (pn - 0) (qn - 0)) w := fun ad cap hc => by
    simp [Instr.sliceAt, Instr.slice, hu, bnd cap hc, run_sizeOf hX he]
   cases hb : kk.blk with
   | none =>
    obtain ⟨rfl, hv⟩ := (S.objs n _ ho).nil_row hk hb
    rw [hv]
    have z1 : qn = 0 := by simpa using h3
    have z2 : pn = 0 := by omega
    subst z1 z2
    refine ⟨_, _, rfl, ?_, run none 0 (Nat.le_refl _)⟩
    rw [hX.h]
    exact .sl0
   | some bk =>
    obtain ⟨hv, hn, hcm, -⟩ := q9 bk hb
    rw [hv]
    refine ⟨_, _, rfl, ?_, run _ _ Y54⟩
    rw [hX.h, Int.toNat_natCast]
    by_cases hc : qn = 0
    ·subst hc
     have z2 : pn = 0 := by omega
     subst z2
     rw [if_pos rfl]
     exact .sl0
    ·have hsl := qq.sl (A := Mut L.A0 β σ) (w := w) (off := 0) (len := pn) (c := qn) hk hb Y54 h2 hcm
     rw [Nat.zero_mul] at hsl
     rw [if_neg hc, Option.map_some, uA, Nat.zero_mul, Nat.zero_add, Nat.sub_zero, Nat.sub_zero]
     exact hsl
  | _ => exact h.elim
 ·exact Y8
theorem WY (hX : Cok P X L) (S : Sim L F β σ a w) {t : TypeId} {x : AV} {u : Value} {lo hi : Option Int} {kl kh : IntKind} {k : AV -> RM α} (hx : qq β (Mut L.A0 β σ) w x u) (h : (Lr X t x lo hi k).runs C σ b l) :
    ∃ y v l', (k y).runs C σ b l' /\ qq β (Mut L.A0 β σ) w y v /\ (Instr.sliceAt t u (lo.map fun q => Value.int kl q) (hi.map fun q => Value.int kh q) none).run P w = .ok v w := by
  unfold Lr at h
  split at h
  · rename_i s
    obtain ⟨rfl, -⟩ := qW hx
    obtain ⟨ti, ht, h⟩ := qm h
    cases hd : ti.desc with
    | string =>
      rw [hd] at h
      obtain ⟨lq, hq, l', h1, h2, h3, h4, -⟩ := vm hX.h h
      obtain ⟨h5, h6⟩ := h4 kl kh
      have hu := jx (P := P) (w := w) hX ht
      rw [hd] at hu
      refine ⟨_, _, l', h1, .pv (.v rfl), ?_⟩
      have hb := jV (P := P) (w := w) false (cap := s.size) h5 h6 h2 h3 (Nat.le_refl _)
      simp [Instr.sliceAt, Instr.slice, hu, hb, hX.h]
    | _ => rw [hd] at h; exact h.elim
  · rename_i xs
    obtain ⟨ad, cap, s, us, rfl, g1, g2, g3, g4, g5, g6, g7⟩ := VR hx
    obtain ⟨ti, e, te, ht, hd, he, h⟩ := uw h
    obtain ⟨hw, h⟩ := h
    obtain ⟨lq, hq, l', h1, h2, h3, h4, h5⟩ := vm hX.h h
    obtain ⟨h6, h7⟩ := h4 kl kh
    refine ⟨_, _, l', h1, ?_, zC hX ht hd he (jV true h6 h7 h2 h3 g5)⟩
    rw [hX.h, qa2 h2 h3]
    generalize hQ : hq.getD xs.length = Q at *
    have hs : lq * te.size = lq * s := by
      rcases hw () with hw | hw
      · rw [h5 hw]; simp
      · cases xs with
        | nil => simp at h3; have : lq = 0 := by omega
                 rw [this]; simp
        | cons x xs => rw [<- g2 x List.mem_cons_self, hw x List.mem_cons_self]
    refine .pv (Z5 g1 g2 g3 g4 Y54 Y54 Y54 ?_)
    rw [hs]
    refine (g7.cut lq cap s fun e => ?_).take _
    have hl := g1.length
    rw [jq g2] at hl
    rw [List.drop_eq_nil_iff, <- hl]
    exact Nat.mul_le_mul_right _ Y54
  · have := uc hx
    subst this
    obtain ⟨ti, e, te, ht, hd, he, h⟩ := uw h
    obtain ⟨lq, hq, l', h1, h2, h3, h4, h5⟩ := vm hX.h h
    obtain ⟨h6, h7⟩ := h4 kl kh
    refine ⟨_, _, l', h1, ?_, zC hX ht hd he (jV true h6 h7 h2 h3 (Nat.le_refl _))⟩
    have h8 : hq.getD 0 = 0 := by omega
    have h9 : lq = 0 := by omega
    rw [h8, h9]
    exact .pv (qN.nil _ _)
  · rename_i n
    obtain ⟨o, l2, ho, -, h⟩ := h
    cases o with
    | row e' s xs sh =>
      obtain ⟨ti, e, te, ht, hd, he, h⟩ := uw h
      obtain ⟨hs, h⟩ := h
      have hs := hs ()
      obtain ⟨lq, hq, l', h1, h2, h3, h4, h5⟩ := vm hX.h h
      obtain ⟨h6, h7⟩ := h4 kl kh
      obtain ⟨kk, hk, rfl⟩ := za hx
      obtain ⟨k', us, q1, q2, q3, q4, q5, q6, q7, q8, q9⟩ := (S.objs n _ ho).row_mem
      rw [hk] at q1; cases q1
      cases hb : kk.blk with
      | none =>
        obtain ⟨rfl, hv⟩ := (S.objs n _ ho).nil_row hk hb
        rw [hv]
        refine ⟨_, _, l', h1, ?_, zC hX ht hd he (jV true h6 h7 h2 h3 (Nat.le_refl _))⟩
        have h8 : hq.getD 0 = 0 := by simpa using h3
        have h9 : lq = 0 := by simp at h2; omega
        rw [hX.h]
        simp only [List.length_nil]
        rw [h8, h9]
        exact .sl0
      | some bk =>
        obtain ⟨hv, hn, hcm, -⟩ := q9 bk hb
        rw [hv]
        refine ⟨_, _, l', h1, ?_, zC hX ht hd he (jV true h6 h7 h2 h3 hn)⟩
        rw [hX.h]
        generalize hQ : hq.getD xs.length = Q at *
        by_cases hc : kk.cap = lq
        · rw [if_pos hc, show Q - lq = 0 by omega, show kk.cap - lq = 0 by omega]
          exact .sl0
        · rw [if_neg hc, Option.map_some, uA, Nat.zero_add, <- hs, <- q2]
          exact .sl hk hb Y54 Y54 hcm
    | _ => exact h.elim
  · rename_i n off len
    obtain ⟨o, l2, ho, -, h⟩ := h
    have fin : ∀ {s : Nat} {te : TI}, (∀ kk, β n = some kk -> kk.s = s) -> s = te.size -> (∃ ti e, X.T t = some ti /\ ti.desc = .slice e /\ X.T e = some te) ->
        (VM X (fun _ => len) lo hi fun l h => k (.sl n (X.h _ fun _ => off + l) (X.h _ fun _ => h.getD len - l))).runs C σ b l2 ->
        ∃ y v l', (k y).runs C σ b l' /\ qq β (Mut L.A0 β σ) w y v /\ (Instr.sliceAt t u (lo.map fun q => Value.int kl q) (hi.map fun q => Value.int kh q) none).run P w = .ok v w := by
      rintro s te hks hs ⟨ti, e, ht, hd, he⟩ h
      obtain ⟨lq, hq, l', h1, h2, h3, h4, h5⟩ := vm hX.h h
      obtain ⟨h6, h7⟩ := h4 kl kh
      cases hx with
      | @sl _ _ _ bk c kk hk hb hc hlc hm =>
        refine ⟨_, _, l', h1, ?_, zC hX ht hd he (jV true h6 h7 h2 h3 hlc)⟩
        rw [hX.h, hX.h]
        generalize hQ : hq.getD len = Q at *
        by_cases hc : c = lq
        · rw [if_pos hc, show Q - lq = 0 by omega, show c - lq = 0 by omega]
          exact .sl0
        · rw [if_neg hc, Option.map_some, uA, <- hs, <- hks kk hk, <- Nat.add_mul]
          exact .sl hk hb Y54 Y54 hm
      | sl0 =>
        have h8 : hq.getD 0 = 0 := by omega
        have h9 : lq = 0 := by omega
        refine ⟨_, _, l', h1, ?_, zC hX ht hd he (jV true h6 h7 h2 h3 (Nat.le_refl _))⟩
        rw [hX.h, hX.h, h8, h9]
        exact .sl0
    cases o with
    | row e' s xs sh =>
      obtain ⟨ti, e, te, ht, hd, he, h⟩ := uw h
      obtain ⟨hs, h⟩ := h
      refine fin (s := s) (fun kk hk => ?_) (hs ()) ⟨ti, e, ht, hd, he⟩ h
      obtain ⟨k', us, q1, q2, -⟩ := (S.objs n _ ho).row_mem
      rw [hk] at q1; cases q1
      exact q2
    | var t' xs sh =>
      obtain ⟨ti, e, te, ht, hd, he, h⟩ := uw h
      obtain ⟨hs, h⟩ := h
      refine fin (s := 1) (fun kk hk => ?_) (hs ()).symm ⟨ti, e, ht, hd, he⟩ h
      obtain ⟨k', us, b', q1, q2, -⟩ := S.objs n _ ho
      rw [hk] at q1; cases q1
      exact q2
    | _ => exact h.elim
  · rename_i xs
    obtain ⟨ad, us, rfl, g1, g2, g3⟩ := UX hx
    obtain ⟨ti, ht, h⟩ := qm h
    cases hd : ti.desc with
    | array len e =>
      rw [hd] at h
      obtain ⟨te, he, h⟩ := qm h
      obtain ⟨hw, h⟩ := h
      obtain ⟨hs, hw, hm⟩ := hw ()
      obtain ⟨lq, hq, l', h1, h2, h3, h4, h5⟩ := vm hX.h h
      obtain ⟨h6, h7⟩ := h4 kl kh
      have hu := jx (P := P) (w := w) hX ht
      rw [hd] at hu
      have hb := jV (P := P) (w := w) false (cap := len) h6 h7 h2 h3 (Nat.le_refl _)
      refine ⟨_, _, l', h1, ?_, by (simp only [Instr.sliceAt, Sem.run_bind, hu, Result.andThen_ok, Instr.sureAddr, Sem.run_pure, hb, run_sizeOf hX he]; rfl)⟩
      rw [hX.h]
      generalize hQ : hq.getD len = Q at *
      have hle : Q <= xs.length := by omega
      rw [qa2 Y77 (by simpa using hle), Option.getD_some]
      have hf := vh g2
      refine .pv (Z5 (s := 1) (us := us) (by rw [hf]; exact g1) (fun x hx => by rw [zw (g2 x hx)]; rfl) (fun x hx c hc => by rw [zw (g2 x hx)] at hc; simp at hc; subst hc; exact g2 _ hx) Y86 Y54 Y54 Y54 ?_)
      rw [hs, Nat.mul_one, Nat.mul_one]
      by_cases hc : len = lq
      · rw [if_pos hc, show Q - lq = 0 by omega, List.take_zero]
        exact .inl rfl
      · rw [if_neg hc]
        exact (Row.add g3 _).take _
    | _ => rw [hd] at h; exact h.elim
  · rename_i n i j
    obtain ⟨kk, bk, hk, hb, rfl⟩ := vF hx
    obtain ⟨ti, ht, h⟩ := qm h
    cases hd : ti.desc with
    | array len e =>
      rw [hd] at h
      obtain ⟨te, he, h⟩ := qm h
      obtain ⟨o, l2, ho, -, h⟩ := h
      cases o with
      | var t' xs sh =>
        obtain ⟨hw, h⟩ := h
        obtain ⟨hs, hw, hm⟩ := hw ()
        obtain ⟨lq, hq, l', h1, h2, h3, h4, h5⟩ := vm hX.h h
        obtain ⟨h6, h7⟩ := h4 kl kh
        have hu := jx (P := P) (w := w) hX ht
        rw [hd] at hu
        have hb' := jV (P := P) (w := w) false (cap := len) h6 h7 h2 h3 (Nat.le_refl _)
        refine ⟨_, _, l', h1, ?_, by (simp only [Instr.sliceAt, Sem.run_bind, hu, Result.andThen_ok, Instr.sureAddr, Sem.run_pure, hb', run_sizeOf hX he]; rfl)⟩
        obtain ⟨k', us, b', q1, q2, q3, q4, q5, q6, q7⟩ := S.objs n _ ho
        rw [hk] at q1; cases q1
        rw [hX.h, hX.h, hs, Nat.mul_one]
        generalize hQ : hq.getD len = Q at *
        by_cases hc : len = lq
        · rw [if_pos hc, show Q - lq = 0 by omega, show len - lq = 0 by omega]
          exact .sl0
        · rw [if_neg hc, uA, show i * kk.s + j + lq = (i + j + lq) * kk.s by rw [q2]; omega]
          exact .sl hk hb Y54 Y54 Y54
      | _ => exact h.elim
    | _ => rw [hd] at h; exact h.elim
  ·exact Y8
end
end Go.Bl
namespace Go.Bl
open Go.RowKit
section
variable {α : Type} {P : Program} {X : Cx} {L : Pl} {F : Nat -> Prop} {β : Nat -> Option Bk} {σ : St} {a : Act} {w : World} {C : FuncId -> List RA -> RA -> List RA -> Prop} {b : α} {l : List Lc} {A : Nat -> Prop}
theorem yk (hX : ∀ α f, X.h α f = f ()) (S : Sim L F β σ a w) {x : AV} {u : Value} {k : List PV -> RM α} (hx : qq β (Mut L.A0 β σ) w x u) (h : (Vf X x k).runs C σ b l) :
  ∃ ys l', (k ys).runs C σ b l' /\ ((∃ s, u = .string s /\ ys = s.data.toList.map u8P /\ x = .pv (.v (.string s))) ∨ ∃ ad n cap s us, u = .slice ad n cap /\ n = ys.length /\ n <= cap /\ cap <= maxLen /\ 0 < s /\ qe (Mut L.A0 β σ) w (ys.flatMap PV.cells) us /\ (∀ y ∈ ys, y.cells.length = s) /\ (∀ y ∈ ys, ∀ c ∈ y.cells, c.one = true) /\
   Row (fun _ => False) w ad us) := by
 unfold Vf at h
 split at h
 ·obtain ⟨ad, cap, s, us, rfl, g1, g2, g3, g4, g5, g6, g7⟩ := VR hx
  exact ⟨_, _, h, .inr ⟨ad, _, cap, s, us, rfl, rfl, g5, g6, g4, g1, g2, g3, g7.mono (Fr.refl [] w) Y85 (fun _ h => h.elim)⟩⟩
 ·have := uc hx
  subst this
  exact ⟨_, _, h, .inr ⟨none, 0, 0, 1, [], rfl, rfl, Nat.le_refl _, by simp [maxLen], by decide, .nil, by simp, by simp, .inl rfl⟩⟩
 ·rename_i n
  obtain ⟨o, l2, ho, -, h⟩ := h
  cases o with
  | row e' s xs sh =>
   obtain ⟨kk, hk, rfl⟩ := za hx
   obtain ⟨k', us, q1, q2, q3, q4, q5, q6, q7, q8, q9⟩ := (S.objs n _ ho).row_mem
   rw [hk] at q1; cases q1
   obtain ⟨ad, cap, hv, hc, hm, hR⟩ := Row.of_own' q8 (A := fun _ => False) fun b hb h => h
   exact ⟨_, _, h, .inr ⟨ad, _, cap, s, us, hv, rfl, hc, hm, q3, q4, q5, q6, hR⟩⟩
  | mrow e' xs sh =>
   obtain ⟨kk, hk, rfl⟩ := za hx
   obtain ⟨k', bs, g, cur, fz, h1, h2, rfl, h4, h5, h6, h7, h8, h9, h10⟩ := S.objs n _ ho
   rw [hk] at h1; cases h1
   exact ⟨_, _, h, .inr ⟨_, _, kk.cap, 1, bs.map u8v, h4, by simp, h7, h8, by decide, by rw [z8]; exact y9 _, fun x hx => by obtain ⟨y, -, rfl⟩ := List.mem_map.1 hx; rfl, fun x hx c hc => by obtain ⟨y, -, rfl⟩ := List.mem_map.1 hx; simp [PV.cells, u8P] at hc; subst hc; rfl, Ub h5 (fun h => h) h10⟩⟩
  | _ => exact h.elim
 ·rename_i n off len
  obtain ⟨o, l2, ho, -, h⟩ := h
  have fin : ∀ {ys : List PV}, ys.length = 0 -> ∀ {ad : Option Addr} {cap : Nat}, cap <= maxLen -> (k ys).runs C σ b l2 -> u = .slice ad 0 cap -> ∃ ys l', (k ys).runs C σ b l' /\ ((∃ s, u = .string s /\ ys = s.data.toList.map u8P /\ AV.sl n off len = .pv (.v (.string s))) ∨ ∃ ad n cap s us, u = .slice ad n cap /\ n = ys.length /\ n <= cap /\ cap <= maxLen /\ 0 < s /\ qe (Mut L.A0 β σ) w (ys.flatMap PV.cells) us /\ (∀ y ∈ ys, y.cells.length = s) /\ (∀ y ∈ ys, ∀ c ∈ y.cells, c.one = true) /\ Row (fun _ => False) w ad us) := by
   intro ys h0 ad cap hm h hu
   have := List.eq_nil_of_length_eq_zero h0
   subst this
   exact ⟨_, _, h, .inr ⟨ad, 0, cap, 1, [], hu, rfl, Nat.zero_le _, hm, by decide, .nil, by simp, by simp, .inl rfl⟩⟩
  cases o with
  | row e' s xs sh =>
   obtain ⟨h1, h⟩ := h
   have h1 := h1 ()
   rw [hX] at h
   cases hx with
   | @sl _ _ _ bk c kk hk hb hc hlc hm =>
    obtain ⟨k', us, q1, q2, q3, q4, q5, q6, q7, q8, q9⟩ := (S.objs n _ ho).row_mem
    rw [hk] at q1; cases q1
    obtain ⟨hv, hn, hcm, cur, hh, hs, hcur⟩ := q9 bk hb
    refine ⟨_, _, h, .inr ⟨_, _, c, s, (us.drop (off * s)).take (len * s), rfl, by rw [List.length_take, List.length_drop]; omega, hlc, by omega, q3, ?_, fun y hy => q5 y (List.mem_of_mem_drop (List.mem_of_mem_take hy)), fun y hy => q6 y (List.mem_of_mem_drop (List.mem_of_mem_take hy)), ?_⟩⟩
    ·rw [xM len fun x hx => q5 x (List.mem_of_mem_drop hx), vv off q5]
     exact (q4.drop _).take _
    ·rw [q2]
     refine jS hh (fun h => h) _ fun i hi => ?_
     rw [Q4 hi, List.getElem?_drop]
     rw [List.length_take, List.length_drop] at hi
     exact hcur _ Y54
   | sl0 => exact fin Y85 (by simp [maxLen]) h rfl
  | var t' xs sh =>
   obtain ⟨h1, h⟩ := h
   have h1 := h1 ()
   rw [hX] at h
   cases hx with
   | @sl _ _ _ bk c kk hk hb hc hlc hm =>
    obtain ⟨us, q2, q3, q4, q7, hh⟩ := Q6 (S.objs n _ ho) hk hb
    have hf := vh q4
    have q5 : ∀ x ∈ xs, x.cells.length = 1 := fun x hx => by rw [zw (q4 x hx)]; rfl
    refine ⟨_, _, h, .inr ⟨_, _, c, 1, (us.drop (off * 1)).take (len * 1), rfl, by rw [List.length_take, List.length_drop]; omega, hlc, by omega, by decide, ?_, fun y hy => q5 y (List.mem_of_mem_drop (List.mem_of_mem_take hy)), fun y hy c hc => ?_, ?_⟩⟩
    ·rw [xM len fun x hx => q5 x (List.mem_of_mem_drop hx), vv off q5, hf]
     exact (q3.drop _).take _
    ·have := q4 y (List.mem_of_mem_drop (List.mem_of_mem_take hy))
     rw [zw this] at hc
     simp at hc; subst hc; exact this
    ·rw [q2]
     refine jS hh (fun h => h) _ fun i hi => ?_
     rw [Q4 hi, List.getElem?_drop]
     simp
   | sl0 => exact fin Y85 (by simp [maxLen]) h rfl
  | _ => exact h.elim
 ·rename_i s
  obtain ⟨rfl, -⟩ := qW hx
  rw [hX] at h
  exact ⟨_, _, h, .inl ⟨s, rfl, rfl, rfl⟩⟩
 ·exact Y8
theorem LS (hX : Cok P X L) {s t e : TypeId} {si ti te : TI} (hs : X.T s = some si) (ht : X.T t = some ti) (he : X.T e = some te) (ds : si.desc = .slice e) (dt : ti.desc = .string) (de : te.desc = .int .u8) {ad : Option Addr} {n cap : Nat} {bs : List UInt8}
  (hn : n = bs.length) (hR : Row (fun _ => False) w ad (bs.map u8v)) : (convert s t (.slice ad n cap)).run P w = .ok (.string ⟨bs.toArray⟩) w := by
 have e1 := (hX.T s si hs).1
 have e2 := (hX.T t ti ht).1
 have e3 := (hX.T e te he).1
 rw [ds] at e1; rw [dt] at e2; rw [de] at e3
 rw [run_convert_bytes_string (P := P) w s t e ad n cap e1 e3 e2]
 cases ad with
 | none =>
  have : bs = [] := by
   rcases hR with h | ⟨b', off, c, e, fz, h, -⟩
   ·simpa using h
   ·cases h
  subst this
  rfl
 | some ad =>
  have hl := run_loadCells_list (P := P) w ad (bs.map u8v) hR.mem
  rw [List.length_map] at hl
  subst hn
  rw [run_bytesToString w ad _ cap (bs.map fun b => (b.toNat : Int)) (by rw [hl]; simp [u8v])]
  rw [foldl_push_byteCells]
  simp
theorem Ly (hX : Cok P X L) (S : Sim L F β σ a w) {s t : TypeId} {si ti : TI} (hs : X.T s = some si) (ht : X.T t = some ti) {x : AV} {u : Value} {out : Out} (hx : qq β (Mut L.A0 β σ) w x u) {dst : Option Nat} (h : (qcS X dst si ti x).runs C σ out l) :
  (∃ y v, out = ⟨some y, []⟩ /\ qq β (Mut L.A0 β σ) w y v /\ (convert s t u).run P w = .ok v w) ∨ ∃ d e w' cap cur fz, ∃ bs : List UInt8, dst = some d /\ out = ⟨some (.own d), [(d, some (.mrow e (bs.map u8P) false))]⟩ /\ (convert s t u).run P w = .ok (.slice (some ⟨w.heap.size, 0, none⟩) bs.length cap) w' /\ Fr [] w w' /\
   w'.heap[w.heap.size]? = some (.cells cur e fz) /\ J4 cur.size fz /\ bs.length <= cap /\ cap <= maxLen /\ cur.size = cap /\ cur.toList.take bs.length = bs.map u8v := by
 have e1 := (hX.T s si hs).1
 have e2 := (hX.T t ti ht).1
 unfold qcS at h
 split at h
 ·rename_i kt ks d1 d2
  rw [d1] at e2; rw [d2] at e1
  obtain ⟨kd, n, rfl, h⟩ := zm h
  obtain ⟨rfl, -⟩ := h
  obtain ⟨rfl, -⟩ := qW hx
  refine .inl ⟨_, _, rfl, .pv (.v rfl), ?_⟩
  simp [convert, run_underlying e1, run_underlying e2, Conv.intToInt, hX.h]
 ·rename_i d1 d2
  rw [d1] at e2; rw [d2] at e1
  split at h
  ·obtain ⟨rfl, -⟩ := h
   obtain ⟨rfl, -⟩ := qW hx
   exact .inl ⟨_, _, rfl, .pv (.v rfl), by simp [convert, run_underlying e1, run_underlying e2]⟩
  ·exact Y8
 ·rename_i e d1 d2
  obtain ⟨te, he, h⟩ := qm h
  split at h
  ·rename_i d3
   split at h
   ·exact Y8
   ·rename_i x hnv
    obtain ⟨ys, l2, h, hy⟩ := yk hX.h S hx h
    obtain ⟨h1, h⟩ := h
    obtain ⟨rfl, -⟩ := h
    have hb := Jn (h1 ())
    refine .inl ⟨_, _, rfl, .pv (.v rfl), ?_⟩
    rw [hX.h]
    rcases hy with ⟨q, rfl, rfl, rfl⟩ | ⟨ad, n, cap, sz, us, rfl, hn, hc, hm, hsz, hr, hw, ho, hR⟩
    ·exact absurd rfl (hnv _)
    ·rw [hb, z8] at hr
     have := JV hr
     subst this
     exact LS hX hs ht he d2 d1 d3 (by rw [hn, List.length_map]) hR
  ·exact Y8
 ·rename_i e d1 d2
  split at h
  ·rename_i bs
   obtain ⟨te, he, h⟩ := qm h
   split at h
   ·rename_i d3
    have e3 := (hX.T e te he).1
    rw [d1] at e2; rw [d2] at e1; rw [d3] at e3
    cases dst with
    | none => exact h.elim
    | some d =>
     obtain ⟨h1, h⟩ := h
     have h1 := h1 ()
     obtain ⟨rfl, -⟩ := h
     obtain ⟨rfl, -⟩ := qW hx
     have hl : bs.data.toList.length = bs.size := by rw [Array.length_toList]; rfl
     have h3 := grownCap_ge w bs.size 0 e
     have h4 := grownCap_le_maxLen w bs.size 0 e (by rw [maxLen] at h1 ⊢; omega)
     have hr := run_bytes_of_string w s t e bs e1 e2 e3
     obtain ⟨cap, hcap⟩ := exq (grownCap w bs.size 0 e)
     rw [hcap] at hr h3 h4
     have hsz : (bytesRow bs cap).size = cap := by simp [bytesRow]; have : bs.data.size = bs.size := rfl; omega
     rw [<- hl] at hr h3
     refine .inr ⟨d, e, _, cap, bytesRow bs cap, _, bs.data.toList, rfl, by rw [hX.h], hr, ⟨rfl, rfl, rfl, by simp, fun k hk _ => Below.heap_alloc w.drew _ k hk⟩, heap_alloc_new w.drew _, fun j hj h9 => ?_, h3, h4, hsz, ?_⟩
     ·have := h9.1
      simp only at this
      omega
     ·rw [bytesRow, Array.toList_append, hl]
      have h8 : (bs.data.map (fun b => Value.int .u8 b.toNat)).toList = bs.data.toList.map u8v := by rw [Array.toList_map]; rfl
      rw [h8, show bs.size = (bs.data.toList.map u8v).length by rw [List.length_map, hl]]
      exact List.take_left
   ·exact Y8
  ·exact Y8
 ·exact Y8
theorem Ko (hX : Cok P X L) (S : Sim L F β σ a w) {t e : TypeId} {n : Nat} {ti te : TI} (ht : X.T t = some ti) (hd : ti.desc = .array n e) {x : AV} {u : Value} {out : Out} (hx : qq β (Mut L.A0 β σ) w x u) (h : (K0 X n te x).runs C σ out l) :
  ∃ y v, out = ⟨some y, []⟩ /\ qq β (Mut L.A0 β σ) w y v /\ (Instr.arrayAt t u).run P w = .ok v w := by
 have hu := (hX.T t ti ht).1
 rw [hd] at hu
 have go : ∀ {ad : Option Addr} {len cap : Nat}, n <= len -> (Instr.arrayAt t (.slice ad len cap)).run P w = .ok (.pointer ad) w := fun {ad len cap} h => by
  have := Nat.not_lt.2 h
  simp [Instr.arrayAt, run_underlying hu, this]
 unfold K0 at h
 split at h
 ·obtain ⟨ad, cap, s, us, rfl, g1, g2, g3, g4, g5, g6, g7⟩ := VR hx
  obtain ⟨h1, h⟩ := h
  obtain ⟨h0, h1, h2, h3⟩ := h1 ()
  obtain ⟨rfl, -⟩ := h
  have hl := g1.length
  rw [jq g2] at hl
  have hpos : 0 < us.length := by rw [<- hl]; exact Nat.mul_pos Y54 g4
  obtain ⟨bk, off, rfl, -, -⟩ := g7.some_of hpos
  refine ⟨_, _, rfl, ?_, go h1⟩
  rw [hX.h]
  exact .pv (.p g1 (Qb g3) g7)
 ·rename_i m
  obtain ⟨o, l2, ho, -, h⟩ := h
  cases o with
  | row e' s xs sh =>
   obtain ⟨h1, h⟩ := h
   obtain ⟨h0, h1⟩ := h1 ()
   obtain ⟨rfl, -⟩ := h
   obtain ⟨kk, hk, rfl⟩ := za hx
   obtain ⟨k', us, q1, q2, q3, q4, q5, q6, q7, q8, q9⟩ := (S.objs m _ ho).row_mem
   rw [hk] at q1; cases q1
   cases hb : kk.blk with
   | none => obtain ⟨rfl, -⟩ := (S.objs m _ ho).nil_row hk hb; simp at h1; omega
   | some bk =>
    obtain ⟨hv, -⟩ := q9 bk hb
    rw [hv]
    refine ⟨_, _, rfl, ?_, go h1⟩
    have := qq.ref (β := β) (A := Mut L.A0 β σ) (w := w) (i := 0) (j := 0) hk hb
    simpa using this
  | _ => exact h.elim
 ·obtain ⟨h1, h⟩ := h
  obtain ⟨h0, h1⟩ := h1 ()
  obtain ⟨rfl, -⟩ := h
  cases hx with
  | sl hk hb hc hlc hm => exact ⟨_, _, rfl, .ref hk hb (j := 0), go h1⟩
  | sl0 => omega
 ·exact Y8
theorem yj (hX : Cok P X L) {t : TypeId} {ti : TI} (ht : X.T t = some ti) {us : List Value} {off : Nat} (h0 : ti.isAgg = false -> off < us.length) :
  (part t us.toArray off).run P w = .ok (match ti.isAgg with | true => .agg ((us.drop off).take ti.size).toArray | false => (us.drop off).getD 0 undef) w := by
 unfold part
 simp only [Sem.run_bind, J0 hX ht, Result.andThen_ok]
 cases hg : ti.isAgg with
 | true => simp [run_sizeOf hX ht, List.extract_eq_take_drop]
 | false =>
  have h1 := h0 hg
  simp [List.getElem?_eq_getElem h1, List.getD_eq_getElem?_getD]
theorem Xk : ∀ {fs : List Field} {f : Field}, X.flatF fs = true -> f ∈ fs -> ∃ ti, X.T f.type = some ti /\ ti.isAgg = false
 | g :: fs, f, h, hf => by
  simp only [Cx.flatF] at h
  split at h
  ·rename_i ti ht
   simp only [Bool.and_eq_true, Bool.not_eq_true'] at h
   rcases List.mem_cons.1 hf with rfl | hf
   ·exact ⟨ti, ht, h.1⟩
   ·exact Xk h.2 hf
  ·cases h
theorem KC (hX : Cok P X L) (S : Sim L F β σ a w) {t : TypeId} {ti tf : TI} {fs : Array Field} {f : Nat} {fd : Field} (ht : X.T t = some ti) (hd : ti.desc = .struct fs) (hf : fs[f]? = some fd) (hT : X.T fd.type = some tf) {x : AV} {u : Value} {out : Out}
  (hx : qq β (Mut L.A0 β σ) w x u) (h : (qad X fs fd tf x).runs C σ out l) : ∃ y v, out = ⟨some y, []⟩ /\ qq β (Mut L.A0 β σ) w y v /\ (Instr.field t u f).run P w = .ok v w := by
 have hu := jx (P := P) (w := w) hX ht
 rw [hd] at hu
 have go : ∀ {us : List Value}, (Instr.field t (.agg us.toArray) f).run P w = (part fd.type us.toArray fd.offset).run P w := by
  intro us
  simp [Instr.field, hu, hf, asAgg]
 unfold qad at h
 split at h
 ·rename_i xs
  obtain ⟨us, rfl, g1, g2⟩ := Xr hx
  split at h
  ·rename_i hfl
   obtain ⟨tf', h5, h6⟩ := Xk hfl (List.mem_of_getElem? (by simpa using hf))
   rw [hT] at h5; cases h5
   split at h
   ·rename_i y hy
    obtain ⟨rfl, -⟩ := h
    obtain ⟨v, h1, h2⟩ := g1.get hy
    have hlt : fd.offset < us.length := by
     rcases Nat.lt_or_ge fd.offset us.length with h | h
     ·exact h
     ·rw [List.getElem?_eq_none h] at h1; cases h1
    refine ⟨_, _, rfl, .pv h2, ?_⟩
    rw [go, yj hX hT (fun _ => hlt), h6]
    simp [List.getD_eq_getElem?_getD, h1]
   ·exact Y8
  ·obtain ⟨y, l2, h1, h2, h3, h4⟩ := QQ hX hT (cs := fun _ => xs.drop fd.offset) (us := us.drop fd.offset) (g1.drop _) (fun c hc => g2 c (List.mem_of_mem_drop hc)) h
   obtain ⟨rfl, -⟩ := h1
   rw [List.length_drop] at h2 h3
   exact ⟨_, _, rfl, .pv h4, by rw [go]; exact yj hX hT (fun e => by have := h3 e; omega)⟩
 ·rename_i cs
  obtain ⟨us, rfl, g1, g2⟩ := La hx
  have hl := g1.length
  split at h
  ·rename_i hag
   obtain ⟨h1, h⟩ := h
   obtain ⟨rfl, -⟩ := h
   refine ⟨_, _, rfl, Qc ((g1.drop fd.offset).take tf.size) (fun c hc => g2 c (List.mem_of_mem_drop (List.mem_of_mem_take hc))), ?_⟩
   rw [go, yj hX hT (fun e => by rw [hag] at e; cases e), hag]
  ·rename_i hag
   split at h
   ·rename_i y hy
    obtain ⟨rfl, -⟩ := h
    obtain ⟨v, h1, h2⟩ := g1.get hy
    have hlt : fd.offset < us.length := by
     rcases Nat.lt_or_ge fd.offset us.length with h | h
     ·exact h
     ·rw [List.getElem?_eq_none h] at h1; cases h1
    refine ⟨_, _, rfl, h2, ?_⟩
    rw [go, yj hX hT (fun _ => hlt), hag]
    simp [List.getD_eq_getElem?_getD, h1]
   ·exact Y8
 ·exact Y8
theorem Wk (hX : Cok P X L) (S : Sim L F β σ a w) {t e : TypeId} {len : Nat} {ti te : TI} (ht : X.T t = some ti) (hd : ti.desc = .array len e) (he : X.T e = some te) {xs : List PV} {u : Value} {kd : IntKind} {n : Int} {out : Out}
  (hx : qq β (Mut L.A0 β σ) w (.pv (.a xs)) u) (h0 : 0 <= n) (h1 : n < len) (h : (Zr X e te 0 (fun _ => xs.drop (n.toNat * te.size)) val).runs C σ out l) :
  ∃ y v, out = ⟨some y, []⟩ /\ qq β (Mut L.A0 β σ) w y v /\ (Instr.index t u (.int kd n)).run P w = .ok v w := by
 have hu := jx (P := P) (w := w) hX ht
 rw [hd] at hu
 obtain ⟨us, rfl, g1, g2⟩ := Xr hx
 obtain ⟨y, l2, q1, q2, q3, q4⟩ := QQ hX he (cs := fun _ => xs.drop (n.toNat * te.size)) (us := us.drop (n.toNat * te.size)) (g1.drop _) (fun c hc => g2 c (List.mem_of_mem_drop hc)) h
 obtain ⟨rfl, -⟩ := q1
 rw [List.length_drop] at q2 q3
 refine ⟨_, _, rfl, .pv q4, ?_⟩
 refine Eq.trans ?_ (yj hX he (us := us) (off := n.toNat * te.size) (fun e => by have := q3 e; omega))
 simp [Instr.index, asIntOf, hu, h0, h1, run_sizeOf hX he]
theorem qbW (hX : Cok P X L) (S : Sim L F β σ a w) {t : TypeId} {x : AV} {u : Value} {k : Int -> RM α} {ty : TypeId} (hx : qq β (Mut L.A0 β σ) w x u) (h : (qh4 X t x k).runs C σ b l) :
  ∃ n l', (k n).runs C σ b l' /\ (Builtin.len_ #[t] ty #[u]).run P w = .ok (.int .i64 n) w := by
 obtain ⟨ti, ht, h⟩ := qm h
 have hu := jx (P := P) (w := w) hX ht
 cases hd : ti.desc with
 | slice e =>
  rw [hd] at h hu
  simp only at h
  split at h
  ·obtain ⟨ad, cap, s, us, rfl, -⟩ := VR hx
   exact ⟨_, _, h, by simp [Builtin.len_, hu, hX.h, goInt]⟩
  ·have := uc hx
   subst this
   exact ⟨_, _, h, by simp [Builtin.len_, hu, goInt]⟩
  ·obtain ⟨o, l2, ho, -, h⟩ := h
   cases o with
   | row e' s xs sh =>
    obtain ⟨kk, hk, rfl⟩ := za hx
    obtain ⟨k', us, q1, q2, q3, q4, q5, q6, q7, q8, q9⟩ := (S.objs _ _ ho).row_mem
    rw [hk] at q1; cases q1
    obtain ⟨ad, cap, hv, -⟩ := Row.of_own' q8 (A := fun _ => False) fun b hb h => h
    exact ⟨_, _, h, by rw [hv]; simp [Builtin.len_, hu, hX.h, goInt]⟩
   | mrow e' xs sh =>
    obtain ⟨kk, hk, rfl⟩ := za hx
    obtain ⟨k', bs, g, cur, fz, h1, h2, rfl, h4, -⟩ := S.objs _ _ ho
    rw [hk] at h1; cases h1
    exact ⟨_, _, h, by rw [h4]; simp [Builtin.len_, hu, hX.h, goInt]⟩
   | _ => exact h.elim
  ·cases hx with
   | sl hk hb hc hlc hm => exact ⟨_, _, h, by simp [Builtin.len_, hu, hX.h, goInt]⟩
   | sl0 => exact ⟨_, _, h, by simp [Builtin.len_, hu, hX.h, goInt]⟩
  ·exact Y8
 | string =>
  rw [hd] at h hu
  simp only at h
  split at h
  ·obtain ⟨rfl, -⟩ := qW hx
   exact ⟨_, _, h, by simp [Builtin.len_, hu, hX.h, goInt]⟩
  ·exact Y8
 | array n e =>
  rw [hd] at h hu
  exact ⟨_, _, h, by simp [Builtin.len_, hu, goInt]⟩
 | map kt et =>
  rw [hd] at h hu
  simp only at h
  split at h
  ·obtain ⟨o, l2, ho, -, h⟩ := h
   cases o with
   | map ks vs sh =>
    obtain ⟨kk, hk, rfl⟩ := za hx
    obtain ⟨k', es, ck, b, us, h1, h2, h3, h4, h5, h6⟩ := S.objs _ _ ho
    rw [hk] at h1; cases h1
    have hl : es.size = ks.length := by have := congrArg List.length h4; simpa using this
    exact ⟨_, _, h, by rw [h2]; simp [Builtin.len_, hu, hX.h, goInt, getObj, Sem.run, h3, hl]⟩
   | _ => exact h.elim
  ·cases hx with
   | pv hx =>
    cases hx with
    | m h1 h2 =>
     rcases h2 with ⟨rfl, rfl, rfl⟩ | ⟨b, es, ck, rfl, h3, h4, h5, h6⟩
     ·exact ⟨_, _, h, by simp [Builtin.len_, hu, hX.h, goInt]⟩
     ·have hl := congrArg List.length h5
      simp only [List.length_map, Array.length_toList] at hl
      exact ⟨_, _, h, by simp [Builtin.len_, hu, hX.h, goInt, getObj, Sem.run, h4, hl]⟩
  ·exact Y8
 | _ => rw [hd] at h; exact h.elim
end
end Go.Bl
