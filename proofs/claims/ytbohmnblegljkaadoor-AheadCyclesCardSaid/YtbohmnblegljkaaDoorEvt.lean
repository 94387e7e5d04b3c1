/-
  Layer 40: events, Silent.
-/
import Derived.Test.YtbohmnblegljkaaDoorEvP
import Derived.Test.YtbohmnblegljkaaDoorTick
namespace Go.Proofs.YtbohmnblegljkaaDoor
open Go.RowKit Go.Bl
set_option linter.unusedVariables false

def evC (e : Ev) : List Value := [.int .i64 e.1, .int .i64 e.2.1, .int .i64 e.2.2]
def OwnE (ty base : Nat) (w : World) (v : Value) (l : List Ev) : Prop := w.ownsRow base ty 3 v l.length (l.flatMap evC)
theorem OwnE.keep {ty base : Nat} {w w' : World} {v : Value} {l : List Ev} {S : List Nat} (h : OwnE ty base w v l) (hf : Fr S w w') (hS : ∀ g ∈ S, g < base) : OwnE ty base w' v l :=
  own_keep h hf fun g hg hm => by have := h.lt g hg; have := hS g hm; omega
theorem OwnE.keep0 {ty base : Nat} {w w' : World} {v : Value} {l : List Ev} (h : OwnE ty base w v l) (hf : Fr [] w w') : OwnE ty base w' v l := h.keep hf (by simp)
theorem OwnE.ne {ty base : Nat} {w : World} {v : Value} {l : List Ev} (h : OwnE ty base w v l) {b : Nat} (hb : b < base) : v.ownBlock ≠ some b := own_ne h hb
theorem evC_one (l : List Ev) : ∀ u ∈ l.flatMap evC, u.oneCell' = true := by
  intro u hu
  obtain ⟨e, -, h⟩ := List.mem_flatMap.1 hu
  simp only [evC, List.mem_cons, List.not_mem_nil, or_false] at h
  rcases h with rfl | rfl | rfl <;> rfl
theorem evC_len (l : List Ev) : (l.flatMap evC).length = l.length * 3 := by
  induction l with
  | nil => rfl
  | cons e l ih => simp only [List.flatMap_cons, List.length_append, ih, List.length_cons, evC, List.length_nil]; omega

/-- append of one event -/
theorem wpl_append_e {P : Program} {w : World} {ops : Array Oper} {rest : List Oper} {o : Oper} {a : Act} {Q : Exit → Act → World → Prop} {t e : TypeId} {z : Value} {bytes : Nat}
    (ht : P.underlying t = some (.slice e)) (hinfo : (P.info? e).map (fun i => (i.zero, i.size, i.bytes)) = some (some z, 3, bytes)) (hz1 : z.cells.size = 3) (hbb : bytes ≤ 64) (hgd : o.guard = none) (s x : Operand)
    (ho : o.op = .call { callee := .builtin .append, args := #[s, x], argTypes := #[t, t] })
    {base b : Nat} {v : Value} {l : List Ev} {n : Ev} (hs : a.eval s = v) (hx : a.eval x = .slice (some ⟨b, 0, none⟩) 1 1) (hb : w.heap[b]? = some (.cells #[.int .i64 n.1, .int .i64 n.2.1, .int .i64 n.2.2] e (0, 0))) (hown : OwnE e base w v l)
    (hlen : l.length ≤ 1000000) (hbase : base ≤ w.heap.size)
    (h : ∀ v' w', OwnE e base w' v' (l ++ [n]) → w.grownBy w' v.ownBlock → wpList P ops Q rest (a.put o.dst v') w') : wpList P ops Q (o :: rest) a w := by
  obtain ⟨i, hi, hz, hsz, hby⟩ := info_bytes hinfo
  have hr : Row (fun _ => False) w (some ⟨b, 0, none⟩) (evC n) := Row.of_block hb (by simp)
  refine wpl_append hgd s x t ho base e i z 3 bytes ht hi hz hsz hby hz1 (by decide) v l.length _ hs hown (some ⟨b, 0, none⟩) 1 1 (evC n) hx rfl hr (by simpa using evC_one [n]) (by simp [maxLen]; omega) ?_ hbase fun v' w' h1 h2 => ?_
  · have : (l.length + 1) * bytes ≤ (l.length + 1) * 64 := Nat.mul_le_mul_left _ hbb
    omega
  · refine h v' w' ?_ h2
    unfold OwnE
    rw [List.length_append, List.flatMap_append]
    simpa using h1

theorem Tryd.infoEvent : (Tryd.prog.info? 52).map (fun i => (i.zero, i.size, i.bytes)) = some (some (.agg #[.int .i64 0, .int .i64 0, .int .i64 0]), 3, 24) := by kernel_rfl

set_option maxHeartbeats 1000000 in
theorem nop_ok (w : World) (rb : Nat) (a b c : Int) : Calls Tryd.prog 45 #[.pointer (some ⟨rb, 0, none⟩), .agg #[.int .i64 a, .int .i64 b, .int .i64 c]] w fun e w' => e = .returned (.tuple #[]) ∧ Fr [] w w' := by
  go_enter Tryd.func45, Tryd.ntmps45
  go_wp2
  go_end0
  exact ⟨rfl, Fr.alloc _ _⟩

set_option maxRecDepth 100000 in
set_option maxHeartbeats 4000000 in
theorem events_silent (L : List Nat) (E : Nat → Addr) (B : Nat) (w : World) (hE : Errs L E B w) (h1 : 1 ∈ L) (h8 : 8 ∈ L) (h18 : 18 ∈ L) (p : Par) (hc : chk p = 0) (from_ : Int) (hf0 : 0 ≤ from_) (hf1 : from_ ≤ 1099511627776) (n : Nat) (hn : n ≤ 2000) :
    Calls Tryd.prog 44 #[pv p, .int .i64 from_, .int .i64 (from_ + n), .func (.func 45) #[] #[]] w fun e w' => ∃ v, e = .returned v ∧ OwnE 52 w.heap.size w' v (evL false p from_ n) ∧ Fr [] w w' := by
  have HNew := Lib.hid fun w => new_ok w p hc from_ ⟨hf0, by omega⟩
  have HST := Lib.hid (stS_I false p hc from_ hf0)
  have HLN := Lib.hid (evL_len false p from_)
  have HE := Lib.hid hE
  have HC := Lib.hid hc
  have HP0 := Lib.hid (show At (w.alloc (parO' p 36)) w.heap.size (parO' p 36) from At.new rfl)
  clear hE hc
  unfold pv tv at *
  go_enter Tryd.func44, Tryd.ntmps44
  go_wp2
  refine wp_region_pf [(.val, 1), (.val, 2), (.call, 3), (.val, 0), (.val, 4), (.mem, 5), (.val, 6)] (by kernel_rfl) (by kernel_rfl) ?_
  intro wa ha
  have HPa := Lib.hid (HP0.out.keep0 ha)
  have G := Lib.hid (Fr.trans (Fr.al (Fr.refl [] w)) ha)
  have hkin := fun x : Kin wa => parCells (HPa.out.keep0 x.fr)
  have k0 := fun x : Kin wa => (hkin x).1
  have k1 := fun x : Kin wa => (hkin x).2.1
  have k2 := fun x : Kin wa => (hkin x).2.2.1
  have k3 := fun x : Kin wa => (hkin x).2.2.2.1
  have k4 := fun x : Kin wa => (hkin x).2.2.2.2.1
  have k5 := fun x : Kin wa => (hkin x).2.2.2.2.2
  clear hkin
  refine poF_vals 2 _ _ _ (by kernel_rfl) ?_
  simp only [opersOf, List.take_succ_cons, List.take_zero, List.filterMap_cons, List.filterMap_nil, List.getElem?_toArray, List.getElem?_cons_succ, List.getElem?_cons_zero, List.drop_succ_cons, List.drop_zero]
  show wpQuiet _ _ _ _ [_, _] _
  iterate 2 go_big_quiet_step (fail)
  refine wpQuiet_nil ?_
  refine poF_call _ (by simp only [List.getElem?_toArray, List.getElem?_cons_succ, List.getElem?_cons_zero]; rfl) ?_
  intro u hu
  go_wp2_with fail
  refine (HNew.out _).mono ?_
  rintro e ub ⟨rfl, hf⟩
  rename_i K hK
  refine hK _ _ ?_
  refine ⟨rfl, rfl, hf, ?_⟩
  clear hK K
  refine poF_vals 2 _ _ _ (by kernel_rfl) ?_
  simp only [opersOf, List.take_succ_cons, List.take_zero, List.filterMap_cons, List.filterMap_nil, List.getElem?_toArray, List.getElem?_cons_succ, List.getElem?_cons_zero, List.drop_succ_cons, List.drop_zero]
  show wpQuiet _ _ _ _ [_, _] _
  iterate 2 go_big_quiet_step (fail)
  refine wpQuiet_nil ?_
  refine poF_new _ (by simp only [List.getElem?_toArray, List.getElem?_cons_succ, List.getElem?_cons_zero]; rfl) rfl (runO p (newT p from_) 0) (fun b => .pointer (some ⟨b, 0, none⟩)) (fun _ => by kernel_rfl) ?_
  intro rb wb hbs hwb hAt
  go_frame
  refine poF_vals 1 _ _ _ (by kernel_rfl) ?_
  simp only [opersOf, List.take_succ_cons, List.take_zero, List.filterMap_cons, List.filterMap_nil, List.getElem?_toArray, List.getElem?_cons_succ, List.getElem?_cons_zero, List.drop_succ_cons, List.drop_zero]
  show wpQuiet _ _ _ _ [_] _
  iterate 1 go_big_quiet_step (fail)
  refine wpQuiet_nil ?_
  refine poF_end ?_
  intro wc hwc
  have HEc := Lib.hid (HE.out.keep0 (G.out.trans (((hu.trans hf).trans hwb).trans hwc)))
  have G := Lib.hid (G.out.trans (((hu.trans hf).trans hwb).trans hwc))
  have HR := Lib.hid (At.keep0 hAt hwc)
  have hrb := HR.out.lt
  have hsz := G.out.size
  have hrw : w.heap.size ≤ rb := by have := (Fr.trans (Fr.al (Fr.refl [] w)) ha).size; omega
  clear hu hf hwb hwc hAt ha k0 k1 k2 k3 k4 k5 HPa HP0 hbs
  go_wp2
  go_loopw [10, 11] (fun v c wr => ∃ k : Nat, k ≤ n ∧ c = .int .i64 (from_ + 1 + k) ∧ Hid (OwnE 52 (rb + 1) wr v (evL false p from_ k)) ∧ Hid (At wr rb (runO p (stS false p from_ k).1 (stS false p from_ k).2)) ∧ Hid (Fr [] w wr)) (fun _ c _ => (from_ + n + 1 - intOf c).toNat)
  case atStart => exact ⟨0, Nat.zero_le _, by simp, World.ownsRow_nil _ _ _ _, HR.out, G.out⟩
  case round =>
    obtain ⟨k, hk, rfl, HO, HRr, HF⟩ := hrel
    by_cases hkn : k < n
    · have hI := HST.out k
      have hB := hI.big hf0 hf1 (by omega)
      have HLAST := Lib.hid hI.last
      have hEV : evL false p from_ (k + 1) = evL false p from_ k ++ evS p (from_ + 1 + k) (stS false p from_ k) := rfl
      have hSS : stS false p from_ (k + 1) = stepS p (from_ + 1 + k) (stS false p from_ k) := by
        show shutS false p _ _ = _
        unfold shutS
        rw [if_neg (by simp)]
      have hlen := HLN.out k
      have hsz2 := HF.out.size
      have hsz3 := HRr.out.lt
      obtain ⟨⟨t, m⟩, hs⟩ : ∃ s, stS false p from_ k = s := ⟨_, rfl⟩
      rw [hs] at hB hEV hSS HRr HLAST
      obtain ⟨hTB, hM⟩ := hB
      have HTB := Lib.hid hTB
      have HM := Lib.hid hM
      have HBG := Lib.hid (show Big (from_ + 1 + k) from ⟨by omega, by omega⟩)
      have HEr := Lib.hid (HE.out.keep0 HF.out)
      have HEV := Lib.hid hEV
      have HSS := Lib.hid hSS
      have HOWN := Lib.hid (fun g hg => (World.ownsRow.lt HO.out g hg).2)
      clear hI hs hTB hM hEV hSS
      have hcs : wantsF p t (from_ + 1 + k) = 0 ∨ wantsF p t (from_ + 1 + k) = 1 ∨ wantsF p t (from_ + 1 + k) = 2 ∨ wantsF p t (from_ + 1 + k) = 3 := by
        rcases wants_cases p t (from_ + 1 + k) with ⟨-, -, g⟩ | ⟨-, -, g⟩ | ⟨-, -, g⟩ | ⟨-, -, -, g⟩ | ⟨-, -, -, g⟩ <;> rw [g] <;> simp
      rcases hcs with g | g | g | g
      all_goals simp only [evS, stepS, g, if_true, Int.reduceEq, if_false] at HEV HSS
      · go_wp2_with fail
        refine (tick_0 L E B _ HEr.out h1 h8 h18 t HTB.out p HC.out _ HBG.out m HM.out rb HRr.out g).mono ?_
        rintro e w2 ⟨rfl, hR2, hf⟩
        have HR2 := Lib.hid (hR2.al (o' := .cells #[.int .i64 0, .int .i64 0, .int .i64 0] 52))
        have HO2 := Lib.hid (HO.out.keep (Fr.al (o := .cells #[.int .i64 0, .int .i64 0, .int .i64 0] 52) hf) (by simp))
        have HF2 := Lib.hid (Fr.al (o := .cells #[.int .i64 0, .int .i64 0, .int .i64 0] 52) (HF.out.then hf (fun x hx => .inr (by simp at hx; omega))))
        clear hf hR2 HO HF HRr g
        go_wp2
        go_roundw
        case rel => exact ⟨k + 1, by omega, by go_num, by rw [HEV.out, List.append_nil]; exact HO2.out, by rw [HSS.out]; exact HR2.out, HF2.out⟩
        case measure => simp [intOf]; omega
      · go_wp2_with fail
        refine (tick_1 L E B _ HEr.out h1 h8 h18 t HTB.out p HC.out _ HBG.out m HM.out rb HRr.out g).mono ?_
        rintro e w2 ⟨rfl, hR2, hf⟩
        have HR2 := Lib.hid hR2
        have HO2 := Lib.hid (HO.out.keep (Fr.al (o := .cells #[.int .i64 (from_ + 1 + k), .int .i64 1, .int .i64 (m)] 52) (Fr.al (o := .cells #[.int .i64 (from_ + 1 + k), .int .i64 1, .int .i64 (m)] 52) hf)) (by simp))
        have HF2 := Lib.hid (HF.out.then hf (fun x hx => .inr (by simp at hx; omega)))
        have hs2 := hf.size
        clear hf hR2 HO HF HRr g
        go_wp2_with (at_builtin; refine wpl_append_e (n := (from_ + 1 + k, 1, m)) Tryd.underlying47 Tryd.infoEvent rfl (by decide) rfl (.tmp 34) (.tmp 36) rfl rfl rfl (At.new (by simp)) HO2.out (by omega) (by simp; omega) ?_)
        intro v' w' h5 h6
        have HR3 := Lib.hid (HR2.out.al.al.grown h6 (HO2.out.ne (by omega)))
        have HF3 := Lib.hid (Fr.own (Fr.al (Fr.al HF2.out)) h6 HO2.out (by omega))
        have HE3 := Lib.hid (show At w' w2.heap.size (.cells #[.int .i64 (from_ + 1 + k), .int .i64 1, .int .i64 (m)] 52) from (At.al (At.new rfl)).grown h6 (by
          intro hh
          have := HOWN.out _ hh
          omega))
        clear HO2 h6 HR2 HF2
        have e0 := HE3.out.cell 0
        have e1 := HE3.out.cell 1
        have e2 := HE3.out.cell 2
        simp only [List.getElem?_toArray, List.getElem?_cons_zero, List.getElem?_cons_succ] at e0 e1 e2
        go_wp2_with fail
        refine (nop_ok _ rb _ _ _).mono ?_
        rintro e w4 ⟨rfl, hf⟩
        have HR4 := Lib.hid (HR3.out.keep0 hf)
        have HF4 := Lib.hid (HF3.out.trans hf)
        have HO4 := Lib.hid (OwnE.keep0 h5 hf)
        clear hf HR3 HF3 h5 HE3 e0 e1 e2
        go_wp2
        go_roundw
        case rel => exact ⟨k + 1, by omega, by go_num, by rw [HEV.out]; exact HO4.out, by rw [HSS.out]; exact HR4.out, HF4.out⟩
        case measure => simp [intOf]; omega
      · go_wp2_with fail
        refine (tick_2 L E B _ HEr.out h1 h8 h18 t HTB.out p HC.out _ HBG.out m HM.out rb HRr.out g).mono ?_
        rintro e w2 ⟨rfl, hR2, hf⟩
        have HR2 := Lib.hid hR2
        have HO2 := Lib.hid (HO.out.keep (Fr.al (o := .cells #[.int .i64 (from_ + 1 + k), .int .i64 2, .int .i64 (t.opn)] 52) (Fr.al (o := .cells #[.int .i64 (from_ + 1 + k), .int .i64 2, .int .i64 (t.opn)] 52) hf)) (by simp))
        have HF2 := Lib.hid (HF.out.then hf (fun x hx => .inr (by simp at hx; omega)))
        have hs2 := hf.size
        clear hf hR2 HO HF HRr g
        go_wp2_with (at_builtin; refine wpl_append_e (n := (from_ + 1 + k, 2, t.opn)) Tryd.underlying47 Tryd.infoEvent rfl (by decide) rfl (.tmp 34) (.tmp 36) rfl rfl rfl (At.new (by simp)) HO2.out (by omega) (by simp; omega) ?_)
        intro v' w' h5 h6
        have HR3 := Lib.hid (HR2.out.al.al.grown h6 (HO2.out.ne (by omega)))
        have HF3 := Lib.hid (Fr.own (Fr.al (Fr.al HF2.out)) h6 HO2.out (by omega))
        have HE3 := Lib.hid (show At w' w2.heap.size (.cells #[.int .i64 (from_ + 1 + k), .int .i64 2, .int .i64 (t.opn)] 52) from (At.al (At.new rfl)).grown h6 (by
          intro hh
          have := HOWN.out _ hh
          omega))
        clear HO2 h6 HR2 HF2
        have e0 := HE3.out.cell 0
        have e1 := HE3.out.cell 1
        have e2 := HE3.out.cell 2
        simp only [List.getElem?_toArray, List.getElem?_cons_zero, List.getElem?_cons_succ] at e0 e1 e2
        go_wp2_with fail
        refine (nop_ok _ rb _ _ _).mono ?_
        rintro e w4 ⟨rfl, hf⟩
        have HR4 := Lib.hid (HR3.out.keep0 hf)
        have HF4 := Lib.hid (HF3.out.trans hf)
        have HO4 := Lib.hid (OwnE.keep0 h5 hf)
        clear hf HR3 HF3 h5 HE3 e0 e1 e2
        go_wp2
        go_roundw
        case rel => exact ⟨k + 1, by omega, by go_num, by rw [HEV.out]; exact HO4.out, by rw [HSS.out]; exact HR4.out, HF4.out⟩
        case measure => simp [intOf]; omega
      · go_wp2_with fail
        refine (tick_3 L E B _ HEr.out h1 h8 h18 t HTB.out p HC.out _ HBG.out m HM.out rb HRr.out g).mono ?_
        rintro e w2 ⟨rfl, hR2, hf⟩
        have HR2 := Lib.hid hR2
        have HO2 := Lib.hid (HO.out.keep (Fr.al (o := .cells #[.int .i64 (from_ + 1 + k), .int .i64 3, .int .i64 (t.opn)] 52) (Fr.al (o := .cells #[.int .i64 (from_ + 1 + k), .int .i64 3, .int .i64 (t.opn)] 52) hf)) (by simp))
        have HF2 := Lib.hid (HF.out.then hf (fun x hx => .inr (by simp at hx; omega)))
        have hs2 := hf.size
        clear hf hR2 HO HF HRr g
        go_wp2_with (at_builtin; refine wpl_append_e (n := (from_ + 1 + k, 3, t.opn)) Tryd.underlying47 Tryd.infoEvent rfl (by decide) rfl (.tmp 34) (.tmp 36) rfl rfl rfl (At.new (by simp)) HO2.out (by omega) (by simp; omega) ?_)
        intro v' w' h5 h6
        have HR3 := Lib.hid (HR2.out.al.al.grown h6 (HO2.out.ne (by omega)))
        have HF3 := Lib.hid (Fr.own (Fr.al (Fr.al HF2.out)) h6 HO2.out (by omega))
        have HE3 := Lib.hid (show At w' w2.heap.size (.cells #[.int .i64 (from_ + 1 + k), .int .i64 3, .int .i64 (t.opn)] 52) from (At.al (At.new rfl)).grown h6 (by
          intro hh
          have := HOWN.out _ hh
          omega))
        clear HO2 h6 HR2 HF2
        have e0 := HE3.out.cell 0
        have e1 := HE3.out.cell 1
        have e2 := HE3.out.cell 2
        simp only [List.getElem?_toArray, List.getElem?_cons_zero, List.getElem?_cons_succ] at e0 e1 e2
        go_wp2_with fail
        refine (nop_ok _ rb _ _ _).mono ?_
        rintro e w4 ⟨rfl, hf⟩
        have HR4 := Lib.hid (HR3.out.keep0 hf)
        have HF4 := Lib.hid (HF3.out.trans hf)
        have HO4 := Lib.hid (OwnE.keep0 h5 hf)
        clear hf HR3 HF3 h5 HE3 e0 e1 e2
        go_wp2
        go_roundw
        case rel => exact ⟨k + 1, by omega, by go_num, by rw [HEV.out]; exact HO4.out, by rw [HSS.out]; exact HR4.out, HF4.out⟩
        case measure => simp [intOf]; omega
    · obtain rfl : k = n := by omega
      clear HRr HST HNew
      go_wp2
      go_ret
      exact ⟨_, rfl, own_base HO.out (by omega), HF.out⟩
end Go.Proofs.YtbohmnblegljkaaDoor
