/-
  Layer 31: all acts of bytes.
-/
import Derived.Test.YtbohmnblegljkaaDoorActC0
import Derived.Test.YtbohmnblegljkaaDoorActC1
import Derived.Test.YtbohmnblegljkaaDoorActC2
import Derived.Test.YtbohmnblegljkaaDoorActC3
import Derived.Test.YtbohmnblegljkaaDoorActC4
namespace Go.Proofs.YtbohmnblegljkaaDoor
open Go.RowKit Go.Bl
set_option linter.unusedVariables false

/-- rows of one type and blocks of another one are apart -/
theorem own_ne_ty' {e te : TypeId} {base size n : Nat} {w : World} {v : Value} {xs : List Value} (h : w.ownsRow base e size v n xs) {b : Nat} {c : Array Value} {fz : Nat × Nat} (hb : w.heap[b]? = some (.cells c te fz)) (hne : te ≠ e) : v.ownBlock ≠ some b := by
  intro hg
  rcases h.2 with ⟨rfl, -⟩ | ⟨g, cap, cur, rfl, hbg, hh, -⟩
  · simp [Value.ownBlock] at hg
  · simp [Value.ownBlock] at hg
    subst hg
    have := hh.symm.trans hb
    simp at this
    exact hne this.2.1.symm

theorem act_any (A : Nat → Prop) (w : World) (rb : Nat) (xs : List UInt8) (hr : Rd A w rb xs) (hn : xs.length ≤ 4000000) :
   Calls Tryd.prog 52 #[.pointer (some ⟨rb, 0, none⟩)] w fun e w' => ∃ bv, e = .returned (.agg (actC (rdAct xs).1 bv)) ∧ OwnB 5 w.heap.size w' bv (rdAct xs).1.bytes ∧ Rd A w' rb (xs.drop (rdAct xs).2) ∧ Fr [rb] w w' := by
  by_cases h10 : nb 1 xs = 10
  · exact act_10 A w rb xs hr hn h10
  by_cases h1 : nb 1 xs = 1
  · exact act_1 A w rb xs hr hn h1
  by_cases h9 : nb 1 xs = 9
  · exact act_9 A w rb xs hr hn h9
  by_cases h13 : nb 1 xs = 13
  · exact act_13 A w rb xs hr hn h13
  · exact act_o A w rb xs hr hn h10 h1 (by omega)

theorem rdAct_pos (xs : List UInt8) : 8 ≤ (rdAct xs).2 := by
  unfold rdAct
  split
  · show 8 ≤ 18; omega
  · split
    · show 8 ≤ 9 + _ + 11 + _; omega
    · split
      · show 8 ≤ 10 + _; omega
      · exact Nat.le_refl 8
/-- all acts -/
def acts (xs : List UInt8) : List ActP := if h : xs = [] then [] else (rdAct xs).1 :: acts (xs.drop (rdAct xs).2)
termination_by xs.length
decreasing_by
  have := rdAct_pos xs
  have : 0 < xs.length := List.length_pos_iff.2 h
  rw [List.length_drop]; omega
theorem acts_nil : acts [] = [] := by rw [acts]; simp
theorem acts_cons (xs : List UInt8) (h : xs ≠ []) : acts xs = (rdAct xs).1 :: acts (xs.drop (rdAct xs).2) := by rw [acts]; simp [h]

abbrev AV := ActP × Value
def avC (x : AV) : List Value := (actC x.1 x.2).toList
/-- acts of the call's own: a row of acts, and each act's bytes -/
def OwnA (ty base : Nat) (w : World) (v : Value) (l : List AV) : Prop := w.ownsRow base ty 16 v l.length (l.flatMap avC) ∧ ∀ x ∈ l, OwnB 5 base w x.2 x.1.bytes
theorem OwnA.keep {ty base : Nat} {w w' : World} {v : Value} {l : List AV} {S : List Nat} (h : OwnA ty base w v l) (hf : Fr S w w') (hS : ∀ g ∈ S, g < base) : OwnA ty base w' v l :=
  ⟨own_keep h.1 hf fun g hg hm => by have := h.1.lt g hg; have := hS g hm; omega, fun x hx => (h.2 x hx).keep hf hS⟩
theorem OwnA.keep' {ty base base' : Nat} {w : World} {v : Value} {l : List AV} (h : OwnA ty base w v l) (hb : base' ≤ base) : OwnA ty base' w v l := ⟨own_base h.1 hb, fun x hx => (h.2 x hx).base hb⟩
theorem avC_len (l : List AV) : (l.flatMap avC).length = l.length * 16 := by
  induction l with
  | nil => rfl
  | cons e l ih => simp only [List.flatMap_cons, List.length_append, ih, List.length_cons, avC, actC]; simp; omega
theorem ownB_one {e base : Nat} {w : World} {v : Value} {xs : List UInt8} (h : OwnB e base w v xs) : v.oneCell' = true := by
  obtain ⟨a, cap, rfl, -⟩ := h.bs (A := fun _ => False) (by simp)
  rfl
theorem avC_one {w : World} {ty base : Nat} {v : Value} {l : List AV} (h : OwnA ty base w v l) : ∀ u ∈ l.flatMap avC, u.oneCell' = true := by
  intro u hu
  obtain ⟨x, hx, h1⟩ := List.mem_flatMap.1 hu
  have h2 := ownB_one (h.2 x hx)
  simp only [avC, actC, List.mem_cons, List.not_mem_nil, or_false] at h1
  rcases h1 with rfl | rfl | rfl | rfl | rfl | rfl | rfl | rfl | rfl | rfl | rfl | rfl | rfl | rfl | rfl | rfl <;> first | exact h2 | rfl

/-- append of one act -/
theorem wpl_append_a {w : World} {ops : Array Oper} {rest : List Oper} {o : Oper} {a : Act} {Q : Exit → Act → World → Prop} {t e : TypeId} {z : Value} {bytes : Nat}
    (ht : Tryd.prog.underlying t = some (.slice e)) (hinfo : (Tryd.prog.info? e).map (fun i => (i.zero, i.size, i.bytes)) = some (some z, 16, bytes)) (hz1 : z.cells.size = 16) (hbb : bytes ≤ 256) (hne : e ≠ 5) (hgd : o.guard = none) (s x : Operand)
    (ho : o.op = .call { callee := .builtin .append, args := #[s, x], argTypes := #[t, t] })
    {base b : Nat} {v bv : Value} {l : List AV} {n : ActP} (hs : a.eval s = v) (hx : a.eval x = .slice (some ⟨b, 0, none⟩) 1 1) (hb : At w b (.cells (actC n bv) e (0, 0))) (hown : OwnA e base w v l) (hn : OwnB 5 base w bv n.bytes)
    (hlen : l.length ≤ 4000000) (hbase : base ≤ w.heap.size)
    (h : ∀ v' w', OwnA e base w' v' (l ++ [(n, bv)]) → w.grownBy w' v.ownBlock → wpList Tryd.prog ops Q rest (a.put o.dst v') w') : wpList Tryd.prog ops Q (o :: rest) a w := by
  obtain ⟨i, hi, hz, hsz, hby⟩ := info_bytes hinfo
  have hr : Row (fun _ => False) w (some ⟨b, 0, none⟩) (avC (n, bv)) := Row.of_block hb (by simp)
  have h1 : ∀ u ∈ avC (n, bv), u.oneCell' = true := by
    have := ownB_one hn
    intro u hu
    simp only [avC, actC, List.mem_cons, List.not_mem_nil, or_false] at hu
    rcases hu with rfl | rfl | rfl | rfl | rfl | rfl | rfl | rfl | rfl | rfl | rfl | rfl | rfl | rfl | rfl | rfl <;> first | exact this | rfl
  refine wpl_append hgd s x t ho base e i z 16 bytes ht hi hz hsz hby hz1 (by decide) v l.length _ hs hown.1 (some ⟨b, 0, none⟩) 1 1 (avC (n, bv)) hx rfl hr h1 (by simp [maxLen]; omega) ?_ hbase fun v' w' h2 h3 => ?_
  · have : (l.length + 1) * bytes ≤ (l.length + 1) * 256 := Nat.mul_le_mul_left _ hbb
    omega
  · refine h v' w' ⟨?_, fun y hy => ?_⟩ h3
    · rw [List.length_append, List.flatMap_append]
      simpa using h2
    · have hk : ∀ {u : Value} {ys : List UInt8}, OwnB 5 base w u ys → OwnB 5 base w' u ys := fun {u} {ys} hu => own_keep hu (Fr.grown (S := v.ownBlock.toList) h3 (by intro k hk; simp [hk])) (fun g hg hm => by
        rcases hown.1.2 with ⟨rfl, -⟩ | ⟨g', cap, cur, rfl, hbg, hh, -⟩
        · simp [Value.ownBlock] at hm
        · simp [Value.ownBlock] at hm
          subst hm
          exact own_ne_ty' hu hh hne hg)
      rcases List.mem_append.1 hy with hy | hy
      · exact hk (hown.2 y hy)
      · simp at hy; subst hy; exact hk hn

theorem Tryd.infoAct : (Tryd.prog.info? 71).map (fun i => (i.zero, i.size, i.bytes)) = some (some (.agg #[.int .i64 0, .int .i64 0, .int .i64 0, .int .i64 0, .int .i64 0, .string ⟨#[]⟩, .slice none 0 0, .int .i64 0, .int .i64 0, .int .i64 0, .int .i64 0, .int .i64 0, .int .i64 0, .int .i64 0, .int .i64 0, .int .u64 0]), 16, 152) := by kernel_rfl
def lenV : Value → Nat
  | .slice _ n _ => n
  | _ => 0
theorem ownA_shape {ty base : Nat} {w : World} {v : Value} {l : List AV} (h : OwnA ty base w v l) : ∃ a cap, v = .slice a l.length cap := by
  rcases h.1.2 with ⟨rfl, h0⟩ | ⟨g, cap, cur, rfl, -⟩
  · exact ⟨none, 0, by rw [h0]⟩
  · exact ⟨_, cap, rfl⟩

set_option maxRecDepth 100000 in
set_option maxHeartbeats 4000000 in
theorem decode_any (A : Nat → Prop) (w : World) (v : Value) (xs : List UInt8) (hb : Bs A w v xs) (hx : xs.length ≤ 4000000) :
    Calls Tryd.prog 32 #[v] w fun e w' => ∃ u l, e = .returned u ∧ OwnA 71 w.heap.size w' u l ∧ l.map (·.1) = acts xs ∧ Fr [] w w' := by
  have HR0 := Lib.hid (show Rd (fun b => w.heap.size ≤ b) (w.alloc (.cells #[v] 104)) w.heap.size xs from ⟨Nat.le_refl _, v, At.new rfl, (hb.mono (Fr.alloc (S := []) w _) (by simp) (fun b h => .inr h)).mono (A' := fun b => w.heap.size ≤ b) (Fr.refl [] _) (by simp) (fun b h => .inl h)⟩)
  have hal : ∀ ys : List UInt8, (acts ys).length ≤ ys.length := by
    intro ys
    induction hl : ys.length using Nat.strongRecOn generalizing ys with
    | _ n ih =>
      by_cases h : ys = []
      · subst h; rw [acts_nil]; simp
      · rw [acts_cons ys h]
        have h0 : 0 < ys.length := List.length_pos_iff.2 h
        have hp := rdAct_pos ys
        have := ih (ys.drop (rdAct ys).2).length (by rw [List.length_drop]; omega) _ rfl
        rw [List.length_drop] at this
        simp only [List.length_cons]; omega
  have HAL := Lib.hid hal
  obtain ⟨a, cap, rfl, -⟩ := id hb
  clear hb hal
  go_enter Tryd.func32, Tryd.ntmps32
  go_wp2
  go_loopw [3] (fun v wr => ∃ (l : List AV) (ys : List UInt8), Hid (OwnA 71 (w.heap.size + 1) wr v l) ∧ Hid (Rd (fun b => w.heap.size ≤ b) wr w.heap.size ys) ∧ Hid (l.map (·.1) ++ acts ys = acts xs) ∧ ys.length ≤ 4000000 ∧ Hid (Fr [] w wr)) (fun v _ => (acts xs).length - lenV v)
  case atStart => exact ⟨[], xs, ⟨World.ownsRow_nil _ _ _ _, fun x hx => by simp at hx⟩, HR0.out, rfl, hx, Fr.al (Fr.refl [] w)⟩
  case round =>
    obtain ⟨l, ys, HO, HR, HL, hy, HF⟩ := hrel
    obtain ⟨oa, oc, rfl⟩ := ownA_shape HO.out
    obtain ⟨-, sv, hsv, hbs⟩ := id HR.out
    obtain ⟨a1, cap1, rfl, h2, h3, -⟩ := hbs
    have q0 := cell_of_one hsv
    have HLL := Lib.hid (show l.length + (acts ys).length = (acts xs).length by rw [← HL.out]; simp)
    have hrlt := HR.out.lt
    clear hsv
    unfold maxLen at h3
    by_cases hne : ys = []
    · subst hne
      clear HAL
      go_wp2
      go_ret
      exact ⟨_, l, rfl, HO.out.keep' (by omega), by have := HL.out; rw [acts_nil, List.append_nil] at this; exact this, HF.out⟩
    · have h0 : 0 < ys.length := List.length_pos_iff.2 hne
      have HAC := Lib.hid (acts_cons ys hne)
      have hAL := HAL.out ys
      have hll : l.length ≤ 4000000 := by have := HLL.out; have := HAL.out xs; omega
      obtain ⟨N, hN⟩ : ∃ N, ys.length = N := ⟨_, rfl⟩
      have HACT := Lib.hid (act_any (fun b => w.heap.size ≤ b) wr w.heap.size ys HR.out hy)
      rw [hN] at h0 h2 q0
      have HN := Lib.hid hN
      clear hN hAL hne
      go_wp2_with fail
      refine HACT.out.mono ?_
      rintro e w2 ⟨bv, rfl, ho, hr, hf⟩
      obtain ⟨q, hq⟩ : ∃ q, (rdAct ys).2 = q := ⟨_, rfl⟩
      obtain ⟨ac, hac⟩ : ∃ ac, (rdAct ys).1 = ac := ⟨_, rfl⟩
      rw [hac, hq] at HAC
      rw [hac] at ho ⊢
      rw [hq] at hr
      have HQ := Lib.hid (And.intro hq hac)
      clear hq hac
      have HO2 := Lib.hid (HO.out.keep (Fr.al (o := .cells (actC ac bv) 71) hf) (by simp))
      have HB2 := Lib.hid ((ho.base (base' := w.heap.size + 1) (by omega)).keep (Fr.alloc (S := []) w2 (.cells (actC ac bv) 71)) (by simp))
      have HR2 := Lib.hid (hr.keep (Fr.alloc (S := []) w2 (.cells (actC ac bv) 71)) (by simp) (by simp))
      have HF2 := Lib.hid (show Fr [] w (w2.alloc (.cells (actC ac bv) 71)) from Fr.al (HF.out.then hf (fun x hx => .inr (by simp at hx; omega))))
      have hs2 := hf.size
      have hlen2 : (ys.drop q).length ≤ 4000000 := by rw [List.length_drop]; omega
      clear ho hr hf q0 HO HR HF HACT
      unfold actC
      go_wp2_with (at_builtin; refine wpl_append_a (n := ac) (bv := bv) Tryd.underlying57 Tryd.infoAct rfl (by decide) (by decide) rfl (.tmp 14) (.tmp 17) rfl rfl rfl (At.new (by simp)) HO2.out HB2.out (by omega) (by simp; omega) ?_)
      intro v' w3 h5 h6
      have HO3 := Lib.hid h5
      have HF3 := Lib.hid (show Fr [] w w3 from Fr.own HF2.out h6 HO2.out.1 (by omega))
      have HR3 := Lib.hid (HR2.out.keep (Fr.grown (S := (Value.slice oa l.length oc).ownBlock.toList) h6 (by intro k hk; simp [hk])) (fun b hb => by
        have := (HO2.out.1.lt b (by simpa using hb)).1
        omega) (fun hm => by
        have := (HO2.out.1.lt _ (by simpa using hm)).1
        omega))
      have HL3 := Lib.hid (show (l ++ [(ac, bv)]).map (·.1) ++ acts (ys.drop q) = acts xs by
        rw [← HL.out, HAC.out]; simp)
      have hlt : (l.length : Nat) < (acts xs).length := by have := HLL.out; rw [HAC.out] at this; simp at this; omega
      obtain ⟨oa', oc', rfl⟩ := ownA_shape h5
      have hln : (l ++ [(ac, bv)]).length = l.length + 1 := by simp
      rw [hln] at HO3 ⊢
      clear h5 h6 HO2 HB2 HR2 HF2 HL HLL HAC HN hln
      go_wp2
      go_roundw
      case rel => exact ⟨_, _, HO3.out, HR3.out, HL3.out, hlen2, HF3.out⟩
      case measure => simp [lenV]; omega
end Go.Proofs.YtbohmnblegljkaaDoor
