/-
  Layer 31: acts as of the document: Of of layers 30 and 31.
-/
import Derived.Test.YtbohmnblegljkaaDoorDec
import Derived.Deep.MidRow
namespace Go.Proofs.YtbohmnblegljkaaDoor
open Go.RowKit Go.Bl
set_option linter.unusedVariables false

/-- a struct loaded out of cells that are known -/
theorem wpl_load_row {P : Program} {w : World} {ops : Array Oper} {rest : List Oper} {o : Oper} {a : Go.Act} {Q : Exit → Go.Act → World → Prop} {ty : TypeId} {d : TypeDesc} (x : Operand) (ho : o.op = .load ty x) (hgd : o.guard = none)
    (b off : Nat) (c : Array Value) (hx : a.eval x = .pointer (some ⟨b, off, none⟩)) (hc : w.rangeAt b off c.toList) (hu : P.underlying ty = some d) (hd : d.isRow = true) (hi : (P.info? ty).map (·.size) = some c.size)
    (h : wpList P ops Q rest (a.put o.dst (.agg c)) w) : wpList P ops Q (o :: rest) a w := by
  refine wpl_val _ ho hgd (.agg c) ?_ h
  have := run_loadAt_mid (P := P) w b off ty c.toList d hc hu hd (by simpa using hi)
  unfold execOp
  simp only [ho, hx, Sem.run_bind, this, Result.andThen_ok, Sem.run_pure]

/-- acts that can be read -/
def RdA (A : Nat → Prop) (w : World) (v : Value) (l : List AV) : Prop :=
  (∃ a cap, v = .slice a l.length cap ∧ l.length ≤ cap ∧ cap ≤ maxLen ∧ Row A w a (l.flatMap avC)) ∧ ∀ x ∈ l, Bs A w x.2 x.1.bytes
theorem RdA.mono {A A' : Nat → Prop} {w w' : World} {S : List Nat} {v : Value} {l : List AV} (h : RdA A w v l) (hf : Fr S w w') (hS : ∀ b ∈ S, A b)
    (hA : ∀ b, A' b → A b ∨ w.heap.size ≤ b) : RdA A' w' v l := by
  obtain ⟨⟨a, cap, h1, h2, h3, h4⟩, h5⟩ := h
  exact ⟨⟨a, cap, h1, h2, h3, h4.mono hf hS hA⟩, fun x hx => (h5 x hx).mono hf hS hA⟩
theorem RdA.keep {A : Nat → Prop} {w w' : World} {S : List Nat} {v : Value} {l : List AV} (h : RdA A w v l) (hf : Fr S w w') (hS : ∀ b ∈ S, A b) : RdA A w' v l :=
  h.mono hf hS fun _ h => .inl h
theorem avC_get (l : List AV) : ∀ (j f : Nat) (x : AV), l[j]? = some x → f < 16 → (l.flatMap avC)[j * 16 + f]? = (avC x)[f]? := by
  induction l with
  | nil => intro j f x h; simp at h
  | cons e l ih =>
    intro j f x h hf
    have hl : (avC e).length = 16 := rfl
    rw [List.flatMap_cons]
    cases j with
    | zero =>
      simp at h; subst h
      rw [List.getElem?_append_left (by omega)]; simp
    | succ j =>
      rw [List.getElem?_append_right (by omega), hl, show (j + 1) * 16 + f - 16 = j * 16 + f by omega]
      exact ih j f x (by simpa using h) hf
theorem RdA.shape {A : Nat → Prop} {w : World} {v : Value} {l : List AV} (h : RdA A w v l) :
    ∃ a cap, v = .slice a l.length cap ∧ l.length ≤ cap ∧ cap ≤ maxLen ∧ (0 < l.length → ∃ b off, a = some ⟨b, off, none⟩ ∧ ¬ A b ∧ ∀ j x, l[j]? = some x → w.rangeAt b (off + j * 16) (avC x)) := by
  obtain ⟨⟨a, cap, h1, h2, h3, h4⟩, h5⟩ := h
  refine ⟨a, cap, h1, h2, h3, fun hx => ?_⟩
  obtain ⟨b, off, rfl, h6, h7⟩ := h4.some_of (by rw [avC_len]; omega)
  refine ⟨b, off, rfl, h6, fun j x hj f u hu => ?_⟩
  have hf : f < 16 := by
    rcases Nat.lt_or_ge f 16 with h | h
    · exact h
    · have : (avC x)[f]? = none := List.getElem?_eq_none (show (avC x).length ≤ f from h)
      rw [this] at hu; cases hu
  have hjl : j < l.length := by
    rcases Nat.lt_or_ge j l.length with h | h
    · exact h
    · rw [List.getElem?_eq_none h] at hj; cases hj
  rw [Nat.add_assoc, h7 _ (by rw [avC_len]; omega), avC_get l j f x hj hf, hu]
/-- a row of acts of the call's own -/
def OwnR (ty base : Nat) (w : World) (v : Value) (l : List AV) : Prop := w.ownsRow base ty 16 v l.length (l.flatMap avC)
theorem OwnR.keep {ty base : Nat} {w w' : World} {v : Value} {l : List AV} {S : List Nat} (h : OwnR ty base w v l) (hf : Fr S w w') (hS : ∀ g ∈ S, g < base) : OwnR ty base w' v l :=
  own_keep h hf fun g hg hm => by have := h.lt g hg; have := hS g hm; omega
theorem OwnR.shape {ty base : Nat} {w : World} {v : Value} {l : List AV} (h : OwnR ty base w v l) : ∃ a cap, v = .slice a l.length cap := by
  rcases h.2 with ⟨rfl, h0⟩ | ⟨g, cap, cur, rfl, -⟩
  · exact ⟨none, 0, by rw [h0]⟩
  · exact ⟨_, cap, rfl⟩
theorem RdA.of_own {A : Nat → Prop} {ty base : Nat} {w : World} {v : Value} {l : List AV} (h : OwnR ty base w v l) (hA : ∀ b, A b → b < base) (hb : ∀ x ∈ l, Bs A w x.2 x.1.bytes) : RdA A w v l :=
  ⟨Row.of_own h hA, hb⟩
theorem OwnA.rd {A : Nat → Prop} {ty base : Nat} {w : World} {v : Value} {l : List AV} (h : OwnA ty base w v l) (hA : ∀ b, A b → b < base) : RdA A w v l :=
  ⟨Row.of_own h.1 hA, fun x hx => (h.2 x hx).bs hA⟩

/-- append of one act, its bytes wherever they lie -/
theorem wpl_append_r {w : World} {ops : Array Oper} {rest : List Oper} {o : Oper} {a : Go.Act} {Q : Exit → Go.Act → World → Prop} {t e : TypeId} {z : Value} {bytes : Nat}
    (ht : Tryd.prog.underlying t = some (.slice e)) (hinfo : (Tryd.prog.info? e).map (fun i => (i.zero, i.size, i.bytes)) = some (some z, 16, bytes)) (hz1 : z.cells.size = 16) (hbb : bytes ≤ 256) (hgd : o.guard = none) (s x : Operand)
    (ho : o.op = .call { callee := .builtin .append, args := #[s, x], argTypes := #[t, t] })
    {base b : Nat} {v bv : Value} {l : List AV} {n : ActP} (hs : a.eval s = v) (hx : a.eval x = .slice (some ⟨b, 0, none⟩) 1 1) (hb : w.heap[b]? = some (.cells (actC n bv) e (0, 0))) (hown : OwnR e base w v l) (hn : bv.oneCell' = true)
    (hlen : l.length ≤ 4000000) (hbase : base ≤ w.heap.size)
    (h : ∀ v' w', OwnR e base w' v' (l ++ [(n, bv)]) → w.grownBy w' v.ownBlock → wpList Tryd.prog ops Q rest (a.put o.dst v') w') : wpList Tryd.prog ops Q (o :: rest) a w := by
  obtain ⟨i, hi, hz, hsz, hby⟩ := info_bytes hinfo
  have hr : Row (fun _ => False) w (some ⟨b, 0, none⟩) (avC (n, bv)) := Row.of_block hb (by simp)
  have h1 : ∀ u ∈ avC (n, bv), u.oneCell' = true := by
    intro u hu
    simp only [avC, actC, List.mem_cons, List.not_mem_nil, or_false] at hu
    rcases hu with rfl | rfl | rfl | rfl | rfl | rfl | rfl | rfl | rfl | rfl | rfl | rfl | rfl | rfl | rfl | rfl <;> first | exact hn | rfl
  refine wpl_append hgd s x t ho base e i z 16 bytes ht hi hz hsz hby hz1 (by decide) v l.length _ hs hown (some ⟨b, 0, none⟩) 1 1 (avC (n, bv)) hx rfl hr h1 (by simp [maxLen]; omega) ?_ hbase fun v' w' h2 h3 => ?_
  · have : (l.length + 1) * bytes ≤ (l.length + 1) * 256 := Nat.mul_le_mul_left _ hbb
    omega
  · refine h v' w' ?_ h3
    unfold OwnR
    rw [List.length_append, List.flatMap_append]
    simpa using h2
theorem Tryd.infoRAct' : (Tryd.prog.info? 99).map (fun i => (i.zero, i.size, i.bytes)) = some (some (.agg #[.int .i64 0, .int .i64 0, .int .i64 0, .int .i64 0, .int .i64 0, .string ⟨#[]⟩, .slice none 0 0, .int .i64 0, .int .i64 0, .int .i64 0, .int .i64 0, .int .i64 0, .int .i64 0, .int .i64 0, .int .i64 0, .int .u64 0]), 16, 152) := by kernel_rfl

set_option maxRecDepth 100000 in
set_option maxHeartbeats 4000000 in
theorem of30_any (w : World) (a : ActP) (bo : Option Addr) (bn bc : Nat) :
    Calls Tryd.prog 51 #[.agg (actC a (.slice bo bn bc))] w fun e w' => e = .returned (.agg (actC a (.slice bo bn bc))) ∧ Fr [] w w' := by
  obtain ⟨kind, n, i, at_, by_, name, bytes, p0, p1, p2, p3, p4, p5, kept, torn, scat⟩ := a
  unfold actC
  go_enter Tryd.func51, Tryd.ntmps51
  go_wp2
  exact bodyPost_ret (v := .agg (actC ⟨kind, n, i, at_, by_, name, bytes, p0, p1, p2, p3, p4, p5, kept, torn, scat⟩ (.slice bo bn bc))) (by simp [results, Tryd.results51, go_sem, actC]) rfl ⟨rfl, Fr.al (Fr.al (Fr.refl _ _))⟩

theorem cell_mono {w w' : World} {b i : Nat} {v : Value} (h : Fr [] w w') (hc : w.cell? ⟨b, i, none⟩ = some v) : w'.cell? ⟨b, i, none⟩ = some v := by
  unfold World.cell? at hc ⊢
  rcases Nat.lt_or_ge b w.heap.size with hb | hb
  · rw [h.block b hb (by simp)]; exact hc
  · rw [Array.getElem?_eq_none hb] at hc; simp at hc
theorem bs_shape {A : Nat → Prop} {w : World} {v : Value} {xs : List UInt8} (h : Bs A w v xs) : ∃ bo bn bc, v = .slice bo bn bc := by
  obtain ⟨a, cap, rfl, -⟩ := h
  exact ⟨_, _, _, rfl⟩
def AV0 : AV := (⟨0, 0, 0, 0, 0, ⟨#[]⟩, [], 0, 0, 0, 0, 0, 0, 0, 0, 0⟩, .slice none 0 0)

set_option maxRecDepth 100000 in
set_option maxHeartbeats 4000000 in
theorem of31_any (A : Nat → Prop) (w : World) (v : Value) (l : List AV) (hr : RdA A w v l) (hl : l.length ≤ 4000000) :
    Calls Tryd.prog 31 #[v] w fun e w' => ∃ u, e = .returned u ∧ OwnR 99 w.heap.size w' u l ∧ Fr [] w w' := by
  have HR := Lib.hid hr
  obtain ⟨a, cap, rfl, h2, h3, h4⟩ := hr.shape
  obtain ⟨N, hN⟩ : ∃ N, l.length = N := ⟨_, rfl⟩
  rw [hN] at HR h2 h4 hl ⊢
  have HN := Lib.hid hN
  have H4 := Lib.hid h4
  clear hr hN h4
  unfold maxLen at h3
  go_enter Tryd.func31, Tryd.ntmps31
  go_wp2
  go_loopw [3, 9] (fun o i wr => ∃ j : Nat, j ≤ N ∧ i = .int .i64 j ∧ Hid (OwnR 99 w.heap.size wr o (l.take j)) ∧ Hid (Fr [] w wr)) (fun _ i _ => N - (intOf i).toNat)
  case atStart => exact ⟨0, by omega, rfl, ⟨rfl, .inr ⟨w.heap.size, 0, #[], rfl, Nat.le_refl _, At.new rfl, Nat.le_refl _, by simp [maxLen], rfl, rfl⟩⟩, Fr.al (Fr.refl _ _)⟩
  case round =>
    obtain ⟨j, hj, rfl, HO, HF⟩ := hrel
    obtain ⟨oa, oc, rfl⟩ := OwnR.shape HO.out
    have htl : (l.take j).length = j := by simp; have := HN.out; omega
    rw [htl] at HO ⊢
    by_cases hjn : j < N
    · obtain ⟨b, off, rfl, hnA, hcell⟩ := H4.out (by omega)
      obtain ⟨x, hx⟩ : ∃ x, l[j]? = some x := ⟨_, List.getElem?_eq_getElem (by have := HN.out; omega)⟩
      have hc := hcell j x hx
      have hm : x ∈ l := List.mem_of_getElem? hx
      obtain ⟨bo, bn, bc, hb⟩ := bs_shape (HR.out.2 x hm)
      obtain ⟨ac, bv⟩ := x
      simp only at hb
      subst hb
      have HX := Lib.hid hx
      have hc' : wr.rangeAt b (off + j * 16) (avC (ac, .slice bo bn bc)) := by
        intro f u hu
        have := hc f u hu
        exact cell_mono HF.out this
      have HC := Lib.hid hc'
      have HOF := Lib.hid (fun w => of30_any w ac bo bn bc)
      have htk := List.take_add_one (l := l) (i := j)
      rw [hx] at htk
      have HTK := Lib.hid htk
      clear hcell hc hc' hx hm htk
      go_wp2_with (refine wpl_load_row (.tmp 11) rfl rfl b (off + j * 16) #[.int .i64 ac.kind, .int .i64 ac.n, .int .i64 ac.i, .int .i64 ac.at_, .int .i64 ac.by_, .string ac.name, .slice bo bn bc, .int .i64 ac.p0, .int .i64 ac.p1, .int .i64 ac.p2, .int .i64 ac.p3, .int .i64 ac.p4, .int .i64 ac.p5, .int .i64 ac.kept, .int .i64 ac.torn, .int .u64 ac.scat] rfl HC.out Tryd.underlying71 rfl (by kernel_rfl) ?_)
      have G := Lib.hid (show Fr [] w (wr.alloc (.cells #[.int .i64 ac.kind, .int .i64 ac.n, .int .i64 ac.i, .int .i64 ac.at_, .int .i64 ac.by_, .string ac.name, .slice bo bn bc, .int .i64 ac.p0, .int .i64 ac.p1, .int .i64 ac.p2, .int .i64 ac.p3, .int .i64 ac.p4, .int .i64 ac.p5, .int .i64 ac.kept, .int .i64 ac.torn, .int .u64 ac.scat] 71)) from Fr.al HF.out)
      replace HO := Lib.hid (HO.out.keep (Fr.alloc (S := []) wr (.cells #[.int .i64 ac.kind, .int .i64 ac.n, .int .i64 ac.i, .int .i64 ac.at_, .int .i64 ac.by_, .string ac.name, .slice bo bn bc, .int .i64 ac.p0, .int .i64 ac.p1, .int .i64 ac.p2, .int .i64 ac.p3, .int .i64 ac.p4, .int .i64 ac.p5, .int .i64 ac.kept, .int .i64 ac.torn, .int .u64 ac.scat] 71)) (by simp))
      go_wp2_with fail
      refine (HOF.out _).mono ?_
      rintro e w2 ⟨rfl, hf⟩
      unfold actC
      have G2 := Lib.hid (show Fr [] w (w2.alloc (.cells (actC ac (.slice bo bn bc)) 99)) from Fr.al (G.out.trans hf))
      have HO2 := Lib.hid ((HO.out.keep hf (by simp)).keep (Fr.alloc (S := []) w2 (.cells (actC ac (.slice bo bn bc)) 99)) (by simp))
      have hlj : (l.take j).length = j := htl
      clear hf
      go_wp2_with (at_builtin; refine wpl_append_r (n := ac) (bv := .slice bo bn bc) Tryd.underlying64 Tryd.infoRAct' rfl (by decide) rfl (.tmp 13) (.tmp 16) rfl rfl rfl (At.new (by simp)) (l := l.take j) HO2.out rfl (by omega) G2.out.size ?_)
      intro v' w3 h5 h6
      have HF3 := Lib.hid (show Fr [] w w3 from Fr.own G2.out h6 HO2.out (Nat.le_refl _))
      have htk := HTK.out
      simp only [Option.toList_some] at htk
      rw [← htk] at h5
      obtain ⟨oa', oc', rfl⟩ := OwnR.shape h5
      have hln : (l.take (j + 1)).length = j + 1 := by simp; have := HN.out; omega
      rw [hln] at h5 ⊢
      have HO3 := Lib.hid h5
      clear h5 h6 HO2 G2 HTK htk hln HO HF HC HOF G hlj htl H4
      go_wp2
      go_roundw
      case rel => exact ⟨j + 1, by omega, by go_num, HO3, HF3⟩
      case measure => simp [intOf]; omega
    · obtain rfl : j = N := by omega
      have hla : l.take j = l := List.take_of_length_le (by have := HN.out; omega)
      rw [hla] at HO
      clear H4 hla htl
      go_wp2
      go_ret
      exact ⟨_, rfl, HO.out, HF.out⟩
end Go.Proofs.YtbohmnblegljkaaDoor
