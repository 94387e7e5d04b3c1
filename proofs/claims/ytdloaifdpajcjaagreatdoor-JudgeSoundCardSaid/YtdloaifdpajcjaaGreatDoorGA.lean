import Derived.WalkKit
import Derived.Laws.AppendOwnNone
import Derived.Lib.Hide
import Derived.Lib.AppendZerosOnto
import Derived.Deep.WholeRow
import Derived.BigQuiet
set_option linter.unusedVariables false
set_option linter.unusedSimpArgs false
namespace Go
theorem Y0 {p : Prop} (h : p := by
 have ec : ∀ v, b.eval (.const v) = v := fun _ => rfl
 obtain ⟨ρ, hρ⟩ := exq (b.eval)
 rw [hρ] at e0 ec ⊢
 exact ⟨_, by rfl, rfl, by unfold execOp; simp [go_sem, e0, ec]⟩) : p := h
theorem Y1 {p : Prop} (h : p := by
 refine gw0 rfl rfl ?_
 obtain ⟨ρ, hρ, ec⟩ := evx b
 rw [hρ] at e0 ⊢
 unfold execOp; simp [go_sem, e0, ec]) : p := h
theorem Y2 {p : Prop} (h : p := by
 go_ret
 exact ⟨_, rfl, by rw [HB.out]; exact .wrap _ (by decide) _ _ _ Tryz.laid30, HF.out.trans ((Fr.alloc _ _).trans (Fr.alloc _ _))⟩) : p := h
theorem Y3 {p : Prop} (h : p := by
 exact nil h (fun op hop => by rcases hop with rfl | rfl <;> rfl) (fun op hop => by rcases hop with rfl | rfl <;> rfl) (eq_in hu rfl)) : p := h
theorem Y4 {p : Prop} (h : p := by
 clear hc ht
 go_enter Tryz.func157, Tryz.ntmps157
 go_wp2_with (go_at_call 209; fail)
 refine HC.out.mono ?_
 rintro e w1 ⟨rfl, hb⟩
 have HF := Hdq (fr_below hb)
 clear hb HC
 go_wp2
 go_ret
 exact ⟨rfl, HF.out⟩) : p := h
theorem Y5 {p : Prop} (h : p := by
 refine gw0 rfl rfl ?_
 obtain ⟨ρ, hρ, ec⟩ := evx b
 rw [hρ] at e0 ⊢
 unfold execOp; simp [go_sem, e0, ec, c0]) : p := h
theorem Y6 {p : Prop} (h : p := by
 obtain ⟨a', c', e, -⟩ := ho.bs (A := fun _ => False) (by simp)
 cases e
 exact HN.out) : p := h
theorem Y7 {p : Prop} (h : p := by
 go_wp2
 go_ret
 exact ⟨_, rfl, HO.out, HF.out⟩) : p := h
theorem Y8 {p : Prop} (h : p := by
 exact h.elim) : p := h
theorem Y9 {p : Prop} (h : p := by
 exact ⟨(by rw [slot_put_ne (by decide)]; exact x1), x2, x3⟩) : p := h
theorem Y10 {p : Prop} (h : p := by
 have e0 := h.er 0 32 (by kernel_rfl) rfl rfl
 have e1 := h.er 3 35 (by kernel_rfl) rfl rfl
 have ec : ∀ v, b.eval (.const v) = v := fun _ => rfl
 obtain ⟨ρ, hρ⟩ := exq (b.eval)
 rw [hρ] at e0 e1 ec ⊢
 exact ⟨_, by rfl, rfl, by unfold execOp; simp [go_sem, e0, e1, ec, show 0 <= (i : Int) + k /\ (i : Int) + k < n by omega, show ((i : Int) + k).toNat = i + k by omega]⟩) : p := h
theorem Y11 {p : Prop} (h : p := by
 intro b p h1 h2 h3 h4 h5
 obtain ⟨g, h4, h6⟩ := h4
 obtain ⟨hf, m0, m1⟩ := h4
 exact hQ b p h1 (h2.trans hsz) (fun s hs => h3 s (fun hm => hs (by simpa using hm))) hf (m1 (by decide))) : p := h
theorem Y12 {p : Prop} (h : p := by
 refine gw0 rfl rfl ?_
 obtain ⟨ρ, hρ, ec⟩ := evx b
 rw [hρ] at e0 e1 ⊢
 unfold execOp; simp [go_sem, e0, e1, ec, w_add]) : p := h
theorem Y13 {p : Prop} (h : p := by
 have ec : ∀ v, b.eval (.const v) = v := fun _ => rfl
 obtain ⟨ρ, hρ⟩ := exq (b.eval)
 rw [hρ] at e0 ec ⊢
 exact ⟨_, by rfl, rfl, by unfold execOp; simp [go_sem, e0, ec, c0]⟩) : p := h
theorem Y14 {p : Prop} (h : p := by
 refine gw0 rfl rfl ?_
 obtain ⟨ρ, hρ, ec⟩ := evx b
 rw [hρ] at e0 e1 ⊢
 unfold execOp; simp [go_sem, e0, e1, ec, show (k : Int) < 8 by omega, show k < 8 by omega]) : p := h
theorem Y15 {p : Prop} (h : p := by
 have e0 := h.er 0 41 (by kernel_rfl) rfl rfl
 have e1 := h.er 1 42 (by kernel_rfl) rfl rfl
 have ec : ∀ v, b.eval (.const v) = v := fun _ => rfl
 obtain ⟨ρ, hρ⟩ := exq (b.eval)
 rw [hρ] at e0 e1 ec ⊢
 exact ⟨_, by rfl, rfl, by unfold execOp; simp [go_sem, e0, e1, ec, show ¬ (32 : Int) <= (k : Int) by omega]⟩) : p := h
theorem Y16 {p : Prop} (h : p := by
 exact ⟨_, _, h, rfl, by simp only [Sem.run_bind, g1, Result.andThen_ok, hX.h, binOp, g2, Sem.run_pure]⟩) : p := h
theorem Y17 {p : Prop} (h : p := by
 rintro e p' ⟨rfl, hf'⟩
 exact ⟨_, rfl, ⟨hf.trans (hf').weak, fun _ => ((m0 (by decide))).keep0 hf', fun hk => absurd hk (by decide)⟩, .inr rfl⟩) : p := h
theorem Y18 {p : Prop} (h : p := by
 refine main _ _ (fun _ => false) _ _ (by simp) (fun i hi => by simp [isDone, Array.getD, hi]) ?_ (h0 _ (Fr.of_heap rfl rfl rfl rfl))
 have := List.length_filter_le (fun s : Kind × Nat => !isDone (Array.replicate A.size false) s.2) ((List.range A.size).map fun i => (Kind.val, i))
 simpa using this) : p := h
theorem Y19 {p : Prop} (h : p := by
 exact .inr ⟨by simp [Region.wanted, hg, hy], β, (S.val (fun d e => (hd d e).1) (by intro y e; cases e; exact .pv (.t .nil))).fewer fun n hn => hn.1⟩) : p := h
theorem Y20 {p : Prop} (h : p := by
 have := run_loadAt_mid (P := P) w b off ty c d hc hu hd hi
 unfold execOp
 simp only [ho, hx, Sem.run_bind, this, Result.andThen_ok, Sem.run_pure]) : p := h
theorem Y21 {p : Prop} (h : p := by
 rw [Nat.mod_eq_of_lt (Nat.lt_trans ha (by decide)), Nat.mod_eq_of_lt (Nat.lt_trans hb (by decide)), wrap_i64 (by omega) (by omega)]) : p := h
theorem Y22 {p : Prop} (h : p := by
 subst hki'
 rw [hki] at hk'; cases hk'
 rw [hd] at hd'; cases hd'
 rw [hdd]; exact slotc_self (by rw [h2]; exact hslot _ _ hd)) : p := h
theorem Y23 {p : Prop} (h : p := by
 simp only [IntKind.wrap, IntKind.signed, IntKind.bits]; first | omega | (simp; omega)) : p := h
theorem Y24 {p : Prop} (h : p := by
 refine ⟨?_, fin dn a w (fun i hi => by rw [<- hd i hi]; exact hall i hi) hI⟩
 rw [List.eq_nil_iff_forall_not_mem]
 intro i hi
 have hl := ready_lt hi
 have := ((ready_iff hz hl).1 hi).1
 rw [hall i hl] at this
 cases this) : p := h
theorem Y25 {p : Prop} (h : p := by
 subst hki'
 have : j2 = s := (List.getElem?_inj (getc_lt hj) hcn).1 (hj.trans c1.symm)
 subst this
 simp [also_self]) : p := h
theorem Y26 {p : Prop} (h : p := by
 rw [also_ne dn hki', hiff j2 k hj]
 have : j2 ≠ s := by rintro rfl; rw [c1] at hj; cases hj; exact hki' rfl
 omega) : p := h
theorem Y27 {p : Prop} (h : p := by
 exact ⟨(by rw [slot_put_ne (by decide)]; exact x1), (x2).keep0 hf2, x3⟩) : p := h
theorem Y28 {p : Prop} (h : p := by
 rw [this]
 refine hK _ _ (h _ ⟨rfl, rfl, rfl, by simp [World.setRow], fun k hk hn => ?_⟩ (setRow_heap w g cur _ te (0, 0) hb) (by simp [World.setRow]))
 exact setRow_other w g k _ (by simpa using hn)) : p := h
theorem Y29 {p : Prop} (h : p := by
 have ec : ∀ v, b.eval (.const v) = v := fun _ => rfl
 obtain ⟨ρ, hρ⟩ := exq (b.eval)
 rw [hρ] at e0 e1 ec ⊢
 exact ⟨_, by rfl, rfl, by unfold execOp; simp [go_sem, e0, e1, ec, u8_xor_u]⟩) : p := h
theorem Y30 {p : Prop} (h : p := by
 rw [hat] at h; exact h.elim) : p := h
theorem Y31 {p : Prop} (h : p := by
 simp only [hh]
 rw [hts, List.map_append]
 simp [hh, shownP, leafP, *]) : p := h
theorem Y32 {p : Prop} (h : p := by
 obtain ⟨e, e2⟩ := h; cases e; exact ⟨rfl, e2⟩) : p := h
theorem Y33 {p : Prop} (h : p := by
 have := (count_set (listed := listed) q1 (by omega) ((List.range A.size).map fun i => (Kind.val, i))).2 ⟨(Kind.val, i), List.mem_map.2 ⟨i, List.mem_range.2 hl, rfl⟩, rfl⟩
 omega) : p := h
theorem Y34 {p : Prop} (h : p := by
 intro k j d' hk' hdk hd'
 have hne : k ≠ i := by rintro rfl; rw [hki] at hk'; cases hk'
 rw [hoth v d' (hneD k d' hne hd')]
 exact h5 k j d' hk' (by rwa [also_ne dn hne] at hdk) hd') : p := h
theorem Y35 {p : Prop} (h : p := by
 have hjn : j < n := by rw [<- hul]; exact (List.getElem?_eq_some_iff.1 hj).1
 rw [qM hB, <- Array.getElem?_toList]
 rw [<- ht, List.getElem?_take, if_pos hjn] at hj
 exact hj) : p := h
theorem Y36 {p : Prop} (h : p := by
 refine ⟨us.drop (i + j), h3.drop _, fun c hc => h4 c (List.mem_of_mem_drop hc), ?_⟩
 rw [h2, Nat.mul_one]
 refine mem_block hh fun q hq => ?_
 rw [List.getElem?_drop]
 simp) : p := h
theorem Y37 {p : Prop} (h : p := by
 rw [slot_put_ne (by decide)]
 exact c2 hk) : p := h
theorem Y38 {p : Prop} (h : p := by
 rw [slot_put_ne (by decide)]
 exact c0 hk) : p := h
theorem Y39 {p : Prop} (h : p := by
 refine bodyPost_ret (results_none rfl _ _ _) rfl ?_
 exact ⟨⟨_, rfl⟩, .inr hJx3⟩) : p := h
theorem Y40 {p : Prop} (h : p := by
 have : i ∈ Region.ready .any A listed := (ready_iff hz hi).2 ⟨hd, fun k hk => ih k (lt i hi k hk) (by have := lt i hi k hk; omega)⟩
 rw [hr] at this
 cases this) : p := h
theorem Y41 {p : Prop} (h : p := by
 subst hm
 rw [ho1] at ho; cases ho
 exact .inr ⟨k, [], h1, rfl, hz, .nil, by simp, by simp, World.ownsRow_nil _ _ _ _, fun b hb' => by rw [hb] at hb'; cases hb'⟩) : p := h
theorem Y42 {p : Prop} (h : p := by
 intro i hi
 have h := congrArg (fun l : List (Option Tmp) => l[i]?) hD
 simp only [List.getElem?_map, List.getElem?_range hi, Option.map_some] at h
 exact h.symm) : p := h
theorem Y43 {p : Prop} (h : p := by
 obtain ⟨k', us, b', h1, h2, h3, h4, h5, h6, h7⟩ := h
 rw [hk] at h1; cases h1
 simp [Bk.blk, h5] at hb
 subst hb
 exact ⟨us, h2, h3, h4, h7, h6⟩) : p := h
theorem Y44 {p : Prop} (h : p := by
 simp only [List.size_toArray, List.length_append, List.length_take, List.length_drop, List.length_map, Array.length_toList, hsize, Nat.mul_one]
 omega) : p := h
theorem Y45 {p : Prop} (h : p := by
 exact ⟨_, β', σ', rfl, S', hq⟩) : p := h
theorem Y46 {p : Prop} (h : p := by
 obtain ⟨k', us, c, h1, h2, h3, h4, h5, h6, h7⟩ := h
 rw [hk] at h1; cases h1
 simp [Bk.blk, h5] at hb; subst hb; exact .inl ⟨_, _, _, h6⟩) : p := h
theorem Y47 {p : Prop} (h : p := by
 obtain ⟨k, us, b, h1, h2, h3, h4, h5, h6, h7⟩ := h
 exact ⟨k, h1, fun c hc => by simp [Bk.blk, h5] at hc; subst hc; exact qk h6⟩) : p := h
theorem Y48 {p : Prop} (h : p := by
 cases e <;> simp only [Exit.xt, Option.some.injEq, reduceCtorEq] at he
 exact S'.leaves rfl (fun b o hb => qk (henv.obj b o hb).1) post') : p := h
theorem Y49 {p : Prop} (h : p := by
 cases e <;> simp only [Exit.xt, Option.some.injEq, reduceCtorEq] at he
 exact S'.leaves rfl (fun b o hb => qk (henv.obj b o hb).1) post) : p := h
theorem Y50 {p : Prop} (h : p := by
 intro k j hk' hdk
 have hne : k ≠ i := by rintro rfl; rw [hki] at hk'; cases hk'
 have := h7 k j hk' (by rwa [also_ne dn hne] at hdk)
 omega) : p := h
theorem Y51 {p : Prop} (h : p := by
 have := ib M (K - M)
 rw [show M + (K - M) = K by omega, h2, m2] at this
 exact h4 (K - M) (by omega) (by omega) (by rw [<- this]; exact m3)) : p := h
theorem Y52 {p : Prop} (h : p := by
 obtain ⟨d, hd⟩ : ∃ d, P.depth = d + 2 := ⟨2 * (P.types.size + Made.depth), rfl⟩
 rw [hd]
 simp only [Program.eqGuardType, hu, he1]) : p := h
theorem Y53 {p : Prop} (h : p := by
 exact ⟨_, _, h, rfl, by simp only [Sem.run_bind, eqGuard_str, Result.andThen_ok, hX.h, binOp, run_equal_str, run_unequal_str]⟩) : p := h
theorem Y54 {p : Prop} (h : p := by
 omega) : p := h
theorem Y55 {p : Prop} (h : p := by
 kernel_rfl) : p := h
theorem Y56 {p : Prop} (h : p := by
 have := HN.out; simp; omega) : p := h
theorem Y57 {p : Prop} (h : p := by
 simp; omega) : p := h
theorem Y58 {p : Prop} (h : p := by
 simpa using h5) : p := h
theorem Y59 {p : Prop} (h : p := by
 have := HN.out; omega) : p := h
theorem Y60 {p : Prop} (h : p := by
 rw [slot_put_ne (by decide)]; exact x1) : p := h
theorem Y61 {p : Prop} (h : p := by
 intro b hb; simp at hb; omega) : p := h
theorem Y62 {p : Prop} (h : p := by
 simpa using h) : p := h
theorem Y63 {p : Prop} (h : p := by
 rwa [also_ne dn hne] at hdk) : p := h
theorem Y64 {p : Prop} (h : p := by
 simpa [AV.has] using hp) : p := h
theorem Y65 {p : Prop} (h : p := by
 rw [HI.out]; omega) : p := h
theorem Y66 {p : Prop} (h : p := by
 rintro ⟨⟩; exact hsn (by simp)) : p := h
theorem Y67 {p : Prop} (h : p := by
 intro x hx z hz b h1 h2; simp at hx hz; subst hx; subst hz; rfl) : p := h
theorem Y68 {p : Prop} (h : p := by
 rwa [also_ne dn hki'] at hdk) : p := h
theorem Y69 {p : Prop} (h : p := by
 simpa using h1) : p := h
theorem Y70 {p : Prop} (h : p := by
 simp at hy; have := HZ.out; omega) : p := h
theorem Y71 {p : Prop} (h : p := by
 simpa [Go.Act.put] using hs) : p := h
theorem Y72 {p : Prop} (h : p := by
 rfl) : p := h
theorem Y73 {p : Prop} (h : p := by
 rw [List.length_drop]; omega) : p := h
theorem Y74 {p : Prop} (h : p := by
 simpa using hj) : p := h
theorem Y75 {p : Prop} (h : p := by
 simp <;> omega) : p := h
theorem Y76 {p : Prop} (h : p := by
 simpa using Ne.symm hs) : p := h
theorem Y77 {p : Prop} (h : p := by
 simpa using h2) : p := h
theorem Y78 {p : Prop} (h : p := by
 simpa using hgt.symm) : p := h
theorem Y79 {p : Prop} (h : p := by
 rw [hs]; decide) : p := h
theorem Y80 {p : Prop} (h : p := by
 simpa using hb) : p := h
theorem Y81 {p : Prop} (h : p := by
 simp [execOp, hr]) : p := h
theorem Y82 {p : Prop} (h : p := by
 rw [hl]; exact hi) : p := h
theorem Y83 {p : Prop} (h : p := by
 rw [subL_len]; decide) : p := h
theorem Y84 {p : Prop} (h : p := by
 rw [List.length_take]; omega) : p := h
theorem Y85 {p : Prop} (h : p := by
 simp) : p := h
theorem Y86 {p : Prop} (h : p := by
 decide) : p := h
theorem fdq {F R : Nat → Prop} {m n : Nat} {dn : Nat → Bool} {cons : List (Nat × Nat)} (hF : ∀ k, k < m → (k < n → dn k = true) → (∀ c, (k, c) ∈ cons → dn c = false) → F k) (hr : ∀ k, R k → k < n ∧ dn k = true) (k : Nat) (h1 : k < m := by decide) (h2 : R k := by kernel_rfl) (h3 : ∀ c, (k, c) ∈ cons → dn c = false := by intro c hc; exact absurd hc (by simp)) : F k := hF k h1 (fun _ => (hr k h2).2) h3
end Go
namespace Go.Bl
open Go.RowKit
abbrev xL : Array Value := #[.int .u8 0, .int .u8 0, .int .u8 0, .int .u8 0, .int .u8 0, .int .u8 0, .int .u8 0, .int .u8 0, .int .u8 0, .int .u8 0, .int .u8 0, .int .u8 0, .int .u8 0, .int .u8 0, .int .u8 0, .int .u8 0, .int .u8 0, .int .u8 0, .int .u8 0, .int .u8 0, .int .u8 0, .int .u8 0, .int .u8 0, .int .u8 0, .int .u8 0, .int .u8 0, .int .u8 0, .int .u8 0, .int .u8 0, .int .u8 0, .int .u8 0, .int .u8 0]
abbrev n5q : Array Value := #[.slice none 0 0, .slice none 0 0, .slice none 0 0, .slice none 0 0, .slice none 0 0]
theorem Hdq {p : Prop} (h : p) : Hid p := Lib.hid h
theorem exq {A : Type} (a : A) : ∃ x, a = x := ⟨_, rfl⟩
structure Fr (S : List Nat) (w w' : World) : Prop where
 os : w'.os = w.os
 tape : w'.tape = w.tape
 output : w'.output = w.output
 size : w.heap.size <= w'.heap.size
 block : ∀ k, k < w.heap.size -> k ∉ S -> w'.heap[k]? = w.heap[k]?
theorem Fr.refl (S : List Nat) (w : World) : Fr S w w := ⟨rfl, rfl, rfl, Nat.le_refl _, fun _ _ _ => rfl⟩
theorem Fr.trans {S : List Nat} {a b c : World} (h : Fr S a b) (k : Fr S b c) : Fr S a c :=
 ⟨k.os.trans h.os, k.tape.trans h.tape, k.output.trans h.output, Nat.le_trans h.size k.size,
  fun i hi hS => (k.block i (Nat.lt_of_lt_of_le hi h.size) hS).trans (h.block i hi hS)⟩
theorem Fr.mono {S S' : List Nat} {a b : World} (h : Fr S a b) (hS : ∀ x ∈ S, x ∈ S' ∨ a.heap.size <= x) : Fr S' a b :=
 ⟨h.os, h.tape, h.output, h.size, fun i hi hn => h.block i hi fun hm => by
   rcases hS i hm with h | h
   ·exact hn h
   ·omega⟩
theorem Fr.weak {S : List Nat} {a b : World} (h : Fr [] a b) : Fr S a b := h.mono fun x hx => by cases hx
theorem Fr.then {S S' : List Nat} {a b c : World} (h : Fr S a b) (k : Fr S' b c) (hS : ∀ x ∈ S', x ∈ S ∨ a.heap.size <= x) : Fr S a c :=
 ⟨k.os.trans h.os, k.tape.trans h.tape, k.output.trans h.output, Nat.le_trans h.size k.size,
  fun i hi hn => (k.block i (Nat.lt_of_lt_of_le hi h.size) (fun hm => by
   rcases hS i hm with h | h
   ·exact hn h
   ·omega)).trans (h.block i hi hn)⟩
theorem Fr.alloc {S : List Nat} (w : World) (o : Obj) : Fr S w (w.alloc o) := ⟨rfl, rfl, rfl, by simp, fun k hk _ => Below.heap_alloc _ _ _ hk⟩
theorem Fr.drew {S : List Nat} (w : World) : Fr S w w.drew := ⟨rfl, rfl, rfl, Nat.le_refl _, fun _ _ _ => rfl⟩
theorem Fr.setCell {S : List Nat} (w : World) (a : Addr) (u : Value) (h : a.block ∈ S) : Fr S w (w.setCell a u) :=
 ⟨rfl, rfl, rfl, by simp [World.setCell], fun k hk hn => Below.heap_setCell _ _ _ _ (fun e => hn (e ▸ h))⟩
theorem Fr.grown {S : List Nat} {w w' : World} {row : Option Nat} (h : w.grownBy w' row) (hS : ∀ k, row = some k -> k ∈ S) : Fr S w w' :=
 ⟨h.os, h.tape, h.output, h.size, fun k hk hn => h.block k hk fun e => hn (hS k e.symm)⟩
theorem Fr.of_heap {S : List Nat} {w w' : World} (h : w'.heap = w.heap) (ho : w'.os = w.os) (ht : w'.tape = w.tape) (hp : w'.output = w.output) : Fr S w w' :=
 ⟨ho, ht, hp, by rw [h]; exact Nat.le_refl _, fun k _ _ => by rw [h]⟩
theorem Fr.below {w w' : World} (h : Fr [] w w') : Below w.heap.size w w' := ⟨h.os, h.tape, h.output, h.size, fun k hk => h.block k hk (by simp)⟩
theorem Fr.keep {S : List Nat} {w w' : World} (h : Fr S w w') {b : Nat} {o : Obj} (hb : w.heap[b]? = some o) (hn : b ∉ S) : w'.heap[b]? = some o :=
 (h.block b (Array.getElem?_eq_some_iff.1 hb).1 hn).trans hb
theorem qk {w : World} {b : Nat} {o : Obj} (hb : w.heap[b]? = some o) : b < w.heap.size := (Array.getElem?_eq_some_iff.1 hb).1
theorem qM {w : World} {b : Nat} {c : Array Value} {e : TypeId} {fz : Nat × Nat} (h : w.heap[b]? = some (.cells c e fz)) (i : Nat) : w.cell? ⟨b, i, none⟩ = c[i]? := by
 simp [World.cell?, h]
theorem vN {w : World} {b : Nat} {c : Array Value} {e : TypeId} (h : w.heap[b]? = some (.cells c e (0, 0))) (i : Nat) : w.frozen? ⟨b, i, none⟩ = false := by
 simp [World.frozen?, h]
def Row (A : Nat -> Prop) (w : World) (a : Option Addr) (cs : List Value) : Prop :=
 cs = [] ∨ ∃ b off c e fz, a = some ⟨b, off, none⟩ /\ ¬ A b /\ w.heap[b]? = some (.cells c e fz) /\ ∀ i, i < cs.length -> c[off + i]? = cs[i]?
theorem Row.nil (A : Nat -> Prop) (w : World) (a : Option Addr) : Row A w a [] := .inl rfl
theorem Row.mono {A A' : Nat -> Prop} {w w' : World} {S : List Nat} {a : Option Addr} {cs : List Value} (h : Row A w a cs) (hf : Fr S w w') (hS : ∀ b ∈ S, A b)
  (hA : ∀ b, A' b -> A b ∨ w.heap.size <= b) : Row A' w' a cs := by
 rcases h with h | ⟨b, off, c, e, fz, rfl, hn, hb, hc⟩
 ·exact .inl h
 ·refine .inr ⟨b, off, c, e, fz, rfl, fun h => ?_, hf.keep hb (fun hm => hn (hS b hm)), hc⟩
  rcases hA b h with h | h
  ·exact hn h
  ·have := qk hb; omega
theorem Row.keep {A : Nat -> Prop} {w w' : World} {S : List Nat} {a : Option Addr} {cs : List Value} (h : Row A w a cs) (hf : Fr S w w') (hS : ∀ b ∈ S, A b) : Row A w' a cs :=
 h.mono hf hS fun _ h => .inl h
theorem Row.cell {A : Nat -> Prop} {w : World} {ad : Addr} {cs : List Value} (h : Row A w (some ad) cs) (i : Nat) (hi : i < cs.length) : w.cell? (ad.add i) = cs[i]? := by
 rcases h with rfl | ⟨b, off, c, e, fz, he, hn, hb, hc⟩
 ·simp at hi
 ·cases he
  have : (⟨b, off, none⟩ : Addr).add i = ⟨b, off + i, none⟩ := by unfold Addr.add; split <;> simp_all
  rw [this, qM hb, hc i hi]
theorem Row.some_of {A : Nat -> Prop} {w : World} {a : Option Addr} {cs : List Value} (h : Row A w a cs) (hi : 0 < cs.length) : ∃ b off, a = some ⟨b, off, none⟩ /\ ¬ A b /\ ∀ i, i < cs.length -> w.cell? ⟨b, off + i, none⟩ = cs[i]? := by
 rcases h with rfl | ⟨b, off, c, e, fz, he, hn, hb, hc⟩
 ·simp at hi
 ·exact ⟨b, off, he, hn, fun i hi => by rw [qM hb, hc i hi]⟩
theorem Row.drop {A : Nat -> Prop} {w : World} {b off : Nat} {cs : List Value} (h : Row A w (some ⟨b, off, none⟩) cs) (k : Nat) : Row A w (some ⟨b, off + k, none⟩) (cs.drop k) := by
 rcases h with rfl | ⟨b', off', c, e, fz, he, hn, hb, hc⟩
 ·exact .inl (by simp)
 ·cases he
  refine .inr ⟨b, off + k, c, e, fz, rfl, hn, hb, fun i hi => ?_⟩
  rw [List.length_drop] at hi
  rw [List.getElem?_drop, Nat.add_assoc]
  exact hc _ (by omega)
theorem Row.take {A : Nat -> Prop} {w : World} {a : Option Addr} {cs : List Value} (h : Row A w a cs) (k : Nat) : Row A w a (cs.take k) := by
 rcases h with rfl | ⟨b', off', c, e, fz, he, hn, hb, hc⟩
 ·exact .inl (by simp)
 ·refine .inr ⟨b', off', c, e, fz, he, hn, hb, fun i hi => ?_⟩
  rw [List.length_take] at hi
  rw [List.getElem?_take, if_pos (by omega)]
  exact hc i (by omega)
theorem Row.cut {A : Nat -> Prop} {w : World} {a : Option Addr} {cs : List Value} (h : Row A w a cs) (k m size : Nat) (hm : m = k -> cs.drop (k * size) = []) :
  Row A w (if m = k then a else a.map (·.add (k * size))) (cs.drop (k * size)) := by
 by_cases hk : m = k
 ·rw [hm hk]; exact .inl rfl
 ·rw [if_neg hk]
  rcases h with rfl | ⟨b, off, c, e, fz, rfl, hn, hb, hc⟩
  ·exact .inl (by simp)
  ·have : (⟨b, off, none⟩ : Addr).add (k * size) = ⟨b, off + k * size, none⟩ := by unfold Addr.add; split <;> simp_all
   simp only [Option.map_some, this]
   exact Row.drop (.inr ⟨b, off, c, e, fz, rfl, hn, hb, hc⟩) _
theorem Row.of_block {A : Nat -> Prop} {w : World} {b : Nat} {c : Array Value} {e : TypeId} {fz : Nat × Nat} (hb : w.heap[b]? = some (.cells c e fz)) (hA : ¬ A b) : Row A w (some ⟨b, 0, none⟩) c.toList :=
 .inr ⟨b, 0, c, e, fz, rfl, hA, hb, fun i hi => by simp⟩
theorem Row.of_own {A : Nat -> Prop} {w : World} {base : Nat} {e : TypeId} {size : Nat} {v : Value} {n : Nat} {xs : List Value} (h : w.ownsRow base e size v n xs) (hA : ∀ b, A b -> b < base) :
  ∃ a cap, v = .slice a n cap /\ n <= cap /\ cap <= maxLen /\ Row A w a xs := by
 obtain ⟨hl, h⟩ := h
 rcases h with ⟨rfl, rfl⟩ | ⟨g, cap, cur, rfl, hg, hh, hn, hm, hs, ht⟩
 ·exact ⟨none, 0, rfl, Nat.le_refl _, by simp [maxLen], .inl (List.eq_nil_of_length_eq_zero (by simpa using hl))⟩
 ·refine ⟨some ⟨g, 0, none⟩, cap, rfl, hn, hm, .inr ⟨g, 0, cur, e, (0, 0), rfl, fun h => by have := hA g h; omega, hh, fun i hi => ?_⟩⟩
  rw [<- ht, List.getElem?_take, if_pos (by rw [<- hl]; exact hi)]
  simp
theorem vZ {w w' : World} {base : Nat} {e : TypeId} {size : Nat} {v : Value} {n : Nat} {xs : List Value} {S : List Nat} (h : w.ownsRow base e size v n xs) (hf : Fr S w w')
  (hS : ∀ g, v.ownBlock = some g -> g ∉ S) : w'.ownsRow base e size v n xs := by
 refine ⟨h.1, ?_⟩
 rcases h.2 with h | ⟨g, cap, cur, rfl, hg, hh, r⟩
 ·exact .inl h
 ·exact .inr ⟨g, cap, cur, rfl, hg, hf.keep hh (hS g rfl), r⟩
theorem Vw {w : World} {base base' : Nat} {e : TypeId} {size : Nat} {v : Value} {n : Nat} {xs : List Value} (h : w.ownsRow base e size v n xs) (hb : base' <= base) : w.ownsRow base' e size v n xs := by
 refine ⟨h.1, ?_⟩
 rcases h.2 with h | ⟨g, cap, cur, hv, hg, r⟩
 ·exact .inl h
 ·exact .inr ⟨g, cap, cur, hv, Nat.le_trans hb hg, r⟩
def u8v (b : UInt8) : Value := .int .u8 b.toNat
theorem Jl (xs : List UInt8) : ∀ u ∈ xs.map u8v, u.oneCell' = true := by
 intro u hu
 obtain ⟨b, _, rfl⟩ := List.mem_map.1 hu
 rfl
def Bs (A : Nat -> Prop) (w : World) (v : Value) (xs : List UInt8) : Prop :=
 ∃ a cap, v = .slice a xs.length cap /\ xs.length <= cap /\ cap <= maxLen /\ Row A w a (xs.map u8v)
theorem Bs.mono {A A' : Nat -> Prop} {w w' : World} {S : List Nat} {v : Value} {xs : List UInt8} (h : Bs A w v xs) (hf : Fr S w w') (hS : ∀ b ∈ S, A b)
  (hA : ∀ b, A' b -> A b ∨ w.heap.size <= b) : Bs A' w' v xs := by
 obtain ⟨a, cap, h1, h2, h3, h4⟩ := h
 exact ⟨a, cap, h1, h2, h3, h4.mono hf hS hA⟩
theorem Bs.keep {A : Nat -> Prop} {w w' : World} {S : List Nat} {v : Value} {xs : List UInt8} (h : Bs A w v xs) (hf : Fr S w w') (hS : ∀ b ∈ S, A b) : Bs A w' v xs :=
 h.mono hf hS fun _ h => .inl h
theorem Bs.of_own {A : Nat -> Prop} {w : World} {base : Nat} {e : TypeId} {v : Value} {n : Nat} {xs : List UInt8} (h : w.ownsRow base e 1 v n (xs.map u8v)) (hA : ∀ b, A b -> b < base) : Bs A w v xs := by
 have hl : n = xs.length := by have := h.1; simp at this; omega
 subst hl
 exact Row.of_own h hA
theorem Bs.nil (A : Nat -> Prop) (w : World) (a : Option Addr) (cap : Nat) (h : cap <= maxLen) : Bs A w (.slice a 0 cap) [] := ⟨a, cap, rfl, Nat.zero_le _, h, .inl rfl⟩
theorem Bs.take {A : Nat -> Prop} {w : World} {a : Option Addr} {n cap : Nat} {xs : List UInt8} (h : Bs A w (.slice a n cap) xs) (k : Nat) (hk : k <= n) : Bs A w (.slice a k cap) (xs.take k) := by
 obtain ⟨a', cap', h1, h2, h3, h4⟩ := h
 cases h1
 refine ⟨a, cap, ?_, by rw [List.length_take]; omega, h3, by rw [List.map_take]; exact h4.take k⟩
 rw [List.length_take, Nat.min_eq_left hk]
theorem Bs.cut {A : Nat -> Prop} {w : World} {a : Option Addr} {n cap : Nat} {xs : List UInt8} (h : Bs A w (.slice a n cap) xs) (k : Nat) (hk : k <= n) :
  Bs A w (.slice (if cap = k then a else a.map (·.add k)) (n - k) (cap - k)) (xs.drop k) := by
 obtain ⟨a', cap', h1, h2, h3, h4⟩ := h
 cases h1
 refine ⟨if cap = k then a else a.map (·.add k), cap - k, ?_, by rw [List.length_drop]; omega, by omega, ?_⟩
 ·rw [List.length_drop]
 ·have := h4.cut k cap 1 (fun e => by subst e; simp; omega)
  simpa [List.map_drop] using this
theorem Vv {P : Program} {w : World} {A : Nat -> Prop} (base : Nat) (t ty e : TypeId) (i : TypeInfo) (z : Value) (size bytes : Nat) (ht : P.underlying t = some (.slice e)) (hi : P.info? e = some i) (hz : i.zero = some z)
  (hsize : i.size = size) (hby : i.bytes = bytes) (hzs : z.cells.size = size) (hsz : 0 < size)
  (v : Value) (n : Nat) (xs : List Value) (hown : w.ownsRow base e size v n xs)
  (a : Option Addr) (m c : Nat) (news : List Value) (hl : news.length = m * size) (hnews : Row A w a news) (h1 : ∀ u ∈ news, u.oneCell' = true)
  (h63 : n + m <= maxLen) (hbytes : (n + m) * bytes <= 140737488355328) (hbase : base <= w.heap.size) :
  ∃ v' w', (Builtin.append_ #[t, t] ty #[v, .slice a m c]).run P w = .ok v' w' /\ w'.ownsRow base e size v' (n + m) (xs ++ news) /\ w.grownBy w' v.ownBlock := by
 cases a with
 | some ad =>
  obtain ⟨v', w', h1, h2, h3, -⟩ := run_append_own (P := P) w base t ty e i z size bytes ht hi hz hsize hby hzs hsz v n xs hown ad m c news hl (fun j u hj => by
   have hlt : j < news.length := by
    rcases Nat.lt_or_ge j news.length with h | h
    ·exact h
    ·rw [List.getElem?_eq_none h] at hj; cases hj
   rw [hnews.cell j hlt, hj]) h1 h63 hbytes hbase
  exact ⟨v', w', h1, h2, h3⟩
 | none =>
  have hn : news = [] := by
   rcases hnews with h | ⟨b, off, c, e, fz, h, _⟩
   ·exact h
   ·cases h
  subst hn
  have hm : m = 0 := by
   simp only [List.length_nil] at hl
   rcases Nat.eq_zero_or_pos m with h | h
   ·exact h
   ·have := Nat.mul_pos h hsz; omega
  subst hm
  refine ⟨v, w, ?_, by simpa using hown, ⟨rfl, rfl, rfl, Nat.le_refl _, fun _ _ _ => rfl⟩⟩
  rcases hown.2 with ⟨rfl, rfl⟩ | ⟨g, cap, cur, rfl, _, _, hnc, _⟩
  ·simp [Builtin.append_, run_underlying ht, sizeOf, typeInfo, hi, Builtin.lenOf, Builtin.firstCells]
  ·simp [Builtin.append_, run_underlying ht, sizeOf, typeInfo, hi, Builtin.lenOf, Builtin.firstCells, hnc, storeCells]
theorem VG {P : Program} {w : World} {ops : Array Oper} {rest : List Oper} {o : Oper} {a : Act} {Q : Exit -> Act -> World -> Prop} {A : Nat -> Prop} (hgd : o.guard = none) (s x : Operand) (t : TypeId)
  (ho : o.op = .call { callee := .builtin .append, args := #[s, x], argTypes := #[t, t] })
  (base : Nat) (e : TypeId) (i : TypeInfo) (z : Value) (size bytes : Nat) (ht : P.underlying t = some (.slice e)) (hi : P.info? e = some i) (hz : i.zero = some z)
  (hsize : i.size = size) (hby : i.bytes = bytes) (hzs : z.cells.size = size) (hsz : 0 < size)
  (v : Value) (n : Nat) (xs : List Value) (hs : a.eval s = v) (hown : w.ownsRow base e size v n xs)
  (ad : Option Addr) (m c : Nat) (news : List Value) (hx : a.eval x = .slice ad m c) (hl : news.length = m * size) (hnews : Row A w ad news) (h1 : ∀ u ∈ news, u.oneCell' = true)
  (h63 : n + m <= maxLen) (hbytes : (n + m) * bytes <= 140737488355328) (hbase : base <= w.heap.size)
  (h : ∀ v' w', w'.ownsRow base e size v' (n + m) (xs ++ news) -> w.grownBy w' v.ownBlock -> wpList P ops Q rest (a.put o.dst v') w') : wpList P ops Q (o :: rest) a w := by
 refine wpList_plain hgd fun K hK => ?_
 obtain ⟨v', w', hr, h2, h3⟩ := Vv (P := P) (w := w) base t o.type e i z size bytes ht hi hz hsize hby hzs hsz v n xs hown ad m c news hl hnews h1 h63 hbytes hbase
 unfold Oper.wp execOp
 simp only [ho, resolve, invoke, builtin, Sem.run_bind, Sem.run_pure, Result.andThen_ok, List.map_toArray, List.map_cons, List.map_nil, hs, hx, hr]
 exact hK _ _ (h v' w' h2 h3)
theorem Fr.own {S : List Nat} {w0 w w' : World} {base : Nat} {e : TypeId} {size : Nat} {v : Value} {n : Nat} {xs : List Value} (h : Fr S w0 w) (hg : w.grownBy w' v.ownBlock)
  (hown : w.ownsRow base e size v n xs) (hb : w0.heap.size <= base) : Fr S w0 w' :=
 h.then (Fr.grown (S := v.ownBlock.toList) hg fun k hk => by simp [hk]) fun x hx => .inr (by
  have := hown.lt x (by simpa using hx)
  omega)
theorem jw {P : Program} {e : TypeId} {z : Option Value} {m k : Nat} (h : (P.info? e).map (fun i => (i.zero, i.size, i.bytes)) = some (z, m, k)) : ∃ i, P.info? e = some i /\ i.zero = z /\ i.size = m /\ i.bytes = k := by
 cases hi : P.info? e with
 | none => simp [hi] at h
 | some i => simp [hi] at h; exact ⟨i, rfl, h.1, h.2.1, h.2.2⟩
def qt (e : TypeId) (base : Nat) (w : World) (v : Value) (xs : List UInt8) : Prop := w.ownsRow base e 1 v xs.length (xs.map u8v)
theorem qt.bs {A : Nat -> Prop} {e : TypeId} {base : Nat} {w : World} {v : Value} {xs : List UInt8} (h : qt e base w v xs) (hA : ∀ b, A b -> b < base) : Bs A w v xs := Bs.of_own h hA
theorem qt.keep {e : TypeId} {base : Nat} {w w' : World} {v : Value} {xs : List UInt8} {S : List Nat} (h : qt e base w v xs) (hf : Fr S w w') (hS : ∀ g ∈ S, g < base) : qt e base w' v xs :=
 vZ h hf fun g hg hm => by have := h.lt g hg; have := hS g hm; omega
theorem qt.base {e : TypeId} {base base' : Nat} {w : World} {v : Value} {xs : List UInt8} (h : qt e base w v xs) (hb : base' <= base) : qt e base' w v xs := Vw h hb
theorem qt.nil (e : TypeId) (base : Nat) (w : World) : qt e base w (.slice none 0 0) [] := World.ownsRow_nil _ _ _ _
theorem qt.empty (e : TypeId) (base : Nat) (w : World) (hb : base <= w.heap.size) : qt e base (w.alloc (.cells #[] e)) (.slice (some ⟨w.heap.size, 0, none⟩) 0 0) [] :=
 World.ownsRow_lit (size := 1) w #[] 0 hb (by decide) rfl
theorem qt.fr {S : List Nat} {w0 w w' : World} {base : Nat} {e : TypeId} {v : Value} {xs : List UInt8} (hown : qt e base w v xs) (h : Fr S w0 w) (hg : w.grownBy w' v.ownBlock) (hb : w0.heap.size <= base) : Fr S w0 w' :=
 Fr.own h hg hown hb
theorem QA {w : World} {b : Nat} {c : Array Value} {e : TypeId} {fz : Nat × Nat} (h : w.heap[b]? = some (.cells c e fz)) (i : Nat) (v : Value) :
  (w.setCell ⟨b, i, none⟩ v).heap[b]? = some (.cells (c.setIfInBounds i v) e fz) := by
 simp only [World.setCell, Array.getElem?_modify, if_pos, h, Option.map_some]
 simp
theorem qd {P : Program} {w : World} {ops : Array Oper} {rest : List Oper} {o : Oper} {a : Act} {Q : Exit -> Act -> World -> Prop} {A : Nat -> Prop} {t e : TypeId}
  (ht : P.underlying t = some (.slice e)) (hinfo : (P.info? e).map (fun i => (i.zero, i.size, i.bytes)) = some (some (.int .u8 0), 1, 1)) (hgd : o.guard = none) (s x : Operand)
  (ho : o.op = .call { callee := .builtin .append, args := #[s, x], argTypes := #[t, t] })
  {base : Nat} {v u : Value} {xs ys : List UInt8} (hs : a.eval s = v) (hx : a.eval x = u) (hown : qt e base w v xs) (hb : Bs A w u ys)
  (hlen : xs.length + ys.length <= 140737488355328) (hbase : base <= w.heap.size)
  (h : ∀ v' w', qt e base w' v' (xs ++ ys) -> w.grownBy w' v.ownBlock -> wpList P ops Q rest (a.put o.dst v') w') : wpList P ops Q (o :: rest) a w := by
 obtain ⟨i, hi, hz, hsz, hby⟩ := jw hinfo
 obtain ⟨ad, cap, rfl, h2, h3, h4⟩ := hb
 refine VG hgd s x t ho base e i (.int .u8 0) 1 1 ht hi hz hsz hby rfl (by decide) v xs.length _ hs hown ad ys.length cap (ys.map u8v) hx (by simp) h4 (Jl _) (by simp only [maxLen]; omega) (by omega) hbase fun v' w' h5 h6 => ?_
 refine h v' w' ?_ h6
 unfold qt
 rw [List.length_append, List.map_append]
 exact h5
theorem Qt (z : Value) (k : Nat) : (Builtin.zeroCells #[z] k).toList = List.replicate k z := by
 apply List.ext_getElem?
 intro i
 simp only [Builtin.zeroCells, List.size_toArray, List.length_singleton, Nat.mul_one, Array.toList_map, List.getElem?_map]
 rcases Nat.lt_or_ge i k with h | h
 ·rw [show (Array.range k).toList[i]? = some i by simp [h]]
  simp [List.getElem?_replicate, h, Nat.mod_one]
 ·rw [show (Array.range k).toList[i]? = none by simp [h]]
  simp [List.getElem?_replicate]
  omega
theorem uE {P : Program} {w : World} (base : Nat) (t tn ty e : TypeId) (i : TypeInfo) (z : Value) (kq kn : IntKind) (ht : P.underlying t = some (.slice e)) (htn : P.underlying tn = some (.int kn))
  (hi : P.info? e = some i) (hz : i.zero = some z) (hsize : i.size = 1) (hzs : z.cells = #[z]) (hz1 : z.oneCell' = true)
  (v : Value) (n : Nat) (xs : List Value) (hown : w.ownsRow base e 1 v n xs) (k : Nat)
  (h63 : n + k <= maxLen) (hbytes : (n + k) * i.bytes <= 140737488355328) (hbase : base <= w.heap.size) :
  ∃ v' w', (Builtin.append_ #[t, tn] ty #[v, .int kq k]).run P w = .ok v' w' /\ w'.ownsRow base e 1 v' (n + k) (xs ++ List.replicate k z) /\ w.grownBy w' v.ownBlock := by
 have hm63 : n + k <= 9223372036854775807 := by simpa only [maxLen] using h63
 have hw : IntKind.i64.wrap (k : Int) = k := by rw [IntKind.wrap_i64]; omega
 have hneg : ¬ ((k : Int) < 0) := by omega
 have hkb : k * i.bytes <= 140737488355328 := Nat.le_trans (Nat.mul_le_mul_right _ (by omega)) hbytes
 have h48i : ¬ (281474976710656 < (k : Int) * (i.bytes : Int)) := by
  rw [<- Int.natCast_mul]
  omega
 by_cases hk0 : k = 0
 ·subst hk0
  refine ⟨v, w, ?_, by simpa using hown, ⟨rfl, rfl, rfl, Nat.le_refl _, fun _ _ _ => rfl⟩⟩
  rcases hown.2 with ⟨rfl, rfl⟩ | ⟨g, cap, cur, rfl, _, _, hnc, _⟩
  ·simp [Builtin.append_, run_underlying ht, run_underlying htn, sizeOf, typeInfo, zeroValue, hi, hz, asInt, asIntOf, IntKind.wrap_i64]
  ·simp [Builtin.append_, run_underlying ht, run_underlying htn, sizeOf, typeInfo, zeroValue, hi, hz, asInt, asIntOf, IntKind.wrap_i64, hnc, storeCells]
 have hl : (xs ++ List.replicate k z).length = (n + k) * 1 := by rw [List.length_append, hown.1, List.length_replicate]; omega
 have grow : ∀ (bs : Option Addr) (cap : Nat), cap < n + k -> (Builtin.firstCells i.size n (.slice bs n cap)).run P w.drew = .ok xs.toArray w.drew -> ∀ row,
   ∃ v' w', (Builtin.append_ #[t, tn] ty #[.slice bs n cap, .int kq k]).run P w = .ok v' w' /\ w'.ownsRow base e 1 v' (n + k) (xs ++ List.replicate k z) /\ w.grownBy w' row := by
  intro bs cap hc hf row
  have hr := Lib.run_append_grow_zeros (P := P) w t tn ty e i z kq kn ht htn hi hz bs n cap xs hf k (by omega) (by omega) hc (by omega) (by omega) (growslice_fits (by omega) hbytes)
  refine ⟨_, _, hr, ⟨hl, .inr ⟨w.heap.size, _, _, rfl, hbase, heap_alloc_new w.drew _, grownCap_ge w (n + k) cap e, grownCap_le_maxLen w (n + k) cap e h63, ?_, ?_⟩⟩, ⟨rfl, rfl, rfl, by simp, fun k' hk' _ => Below.heap_alloc w.drew _ k' hk'⟩⟩
  ·have := grownCap_ge w (n + k) cap e
   simp only [Array.size_append, List.size_toArray, size_zeroCells, hzs, hown.1]
   simp
   omega
  ·simp only [Array.toList_append, hzs, Qt]
   rw [<- hl]
   exact List.take_left
 rcases hown.2 with ⟨rfl, rfl⟩ | ⟨g, cap, cur, rfl, hbg, hg, hnc, hcm, hcs, htake⟩
 ·have hx : xs = [] := List.eq_nil_of_length_eq_zero (by simpa using hown.1)
  subst hx
  exact grow none 0 (by omega) (by simp [Builtin.firstCells]) _
 ·by_cases hroom : n + k <= cap
  ·have hst := run_storeCells_at P g n e (List.replicate k z) 0 cur w hg (by simp; omega) (fun u hu => by rw [List.eq_of_mem_replicate hu]; exact hz1)
   simp only [Nat.add_zero] at hst
   refine ⟨.slice (some ⟨g, 0, none⟩) (n + k) cap, w.setRow g (cur.toList.take n ++ List.replicate k z ++ cur.toList.drop (n + k)).toArray, ?_, ⟨hl, .inr ⟨g, cap, _, rfl, hbg, setRow_heap w g cur _ e _ hg, hroom, hcm, ?_, ?_⟩⟩, ⟨rfl, rfl, rfl, by simp, fun k hk hk' => setRow_other w g k _ (fun e => hk' (by simp [Value.ownBlock, e]))⟩⟩
   ·have hns : ¬ (k * 1 = 0) := by omega
    simp [Builtin.append_, run_underlying ht, run_underlying htn, sizeOf, typeInfo, zeroValue, hi, hz, hsize, asInt, asIntOf, hw, hneg, h48i, hk0, hroom, hzs, Qt, Addr.add_lit, hst]
   ·simp only [List.size_toArray, List.length_append, List.length_take, List.length_drop, Array.length_toList, List.length_replicate]
    omega
   ·have ht' : cur.toList.take n = xs := by simpa using htake
    rw [ht', <- hl]
    exact List.take_left
  ·refine grow (some ⟨g, 0, none⟩) cap (by omega) ?_ _
   have holds : ∀ j u, xs[j]? = some u -> w.drew.cell? ((⟨g, 0, none⟩ : Addr).add j) = some u := fun j u hj => by simpa using hown.cells (g := g) rfl j u hj
   exact run_firstCells_some (P := P) w.drew i.size n ⟨g, 0, none⟩ n cap xs (by rw [hown.1, hsize]) holds
theorem Qp {P : Program} {w : World} {ops : Array Oper} {rest : List Oper} {o : Oper} {a : Act} {Q : Exit -> Act -> World -> Prop} {t tn e : TypeId} {kn : IntKind}
  (ht : P.underlying t = some (.slice e)) (htn : P.underlying tn = some (.int kn)) (hinfo : (P.info? e).map (fun i => (i.zero, i.size, i.bytes)) = some (some (.int .u8 0), 1, 1)) (hgd : o.guard = none) (s x : Operand)
  (ho : o.op = .call { callee := .builtin .append, args := #[s, x], argTypes := #[t, tn] })
  {base : Nat} {v : Value} {xs : List UInt8} {kq : IntKind} {k : Nat} {K : Int} (hs : a.eval s = v) (hx : a.eval x = .int kq K) (hK : K = k) (hown : qt e base w v xs)
  (hlen : xs.length + k <= 140737488355328) (hbase : base <= w.heap.size)
  (h : ∀ v' w', qt e base w' v' (xs ++ List.replicate k 0) -> w.grownBy w' v.ownBlock -> wpList P ops Q rest (a.put o.dst v') w') : wpList P ops Q (o :: rest) a w := by
 obtain ⟨i, hi, hz, hsz, hby⟩ := jw hinfo
 subst hK
 obtain ⟨v', w', hr, h2, h3⟩ := uE (P := P) (w := w) base t tn o.type e i (.int .u8 0) kq kn ht htn hi hz hsz rfl rfl v xs.length _ hown k (by simp only [maxLen]; omega) (by rw [hby]; omega) hbase
 refine wpList_plain hgd fun K hK => ?_
 unfold Oper.wp execOp
 simp only [ho, resolve, invoke, builtin, Sem.run_bind, Sem.run_pure, Result.andThen_ok, List.map_toArray, List.map_cons, List.map_nil, hs, hx, hr]
 refine hK _ _ (h v' w' ?_ h3)
 unfold qt
 rw [List.length_append, List.map_append, List.length_replicate, List.map_replicate]
 exact h2
theorem qt.blk {e : TypeId} {base : Nat} {w : World} {v : Value} {xs : List UInt8} (h : qt e base w v xs) {g : Nat} (hg : g ∈ v.ownBlock.toList) : base <= g := (h.lt g (by simpa using hg)).1
theorem qt.shape {e : TypeId} {base : Nat} {w : World} {v : Value} {xs : List UInt8} (h : qt e base w v xs) (hx : 0 < xs.length) :
  ∃ g cap, v = .slice (some ⟨g, 0, none⟩) xs.length cap /\ base <= g /\ xs.length <= cap /\ cap <= maxLen /\ ∀ j, j < xs.length -> w.cell? ⟨g, j, none⟩ = some (.int .u8 (xs.getD j 0).toNat) := by
 obtain ⟨hl, h⟩ := h
 rcases h with ⟨rfl, h0⟩ | ⟨g, cap, cur, rfl, hg, hh, hn, hm, hs, ht⟩
 ·omega
 ·refine ⟨g, cap, rfl, hg, hn, hm, fun j hj => ?_⟩
  rw [qM hh]
  have e : (xs.map u8v)[j]? = some (u8v (xs.getD j 0)) := by simp [List.getElem?_map, List.getD_eq_getElem?_getD, hj]
  rw [<- ht, List.getElem?_take, if_pos (by omega)] at e
  simpa [u8v] using e
def Vs (A : Nat -> Prop) (w : World) (v : Value) (cs : List Value) : Prop :=
 ∃ a cap, v = .slice a cs.length cap /\ cs.length <= cap /\ cap <= maxLen /\ Row A w a cs
theorem Vs.mono {A A' : Nat -> Prop} {w w' : World} {S : List Nat} {v : Value} {cs : List Value} (h : Vs A w v cs) (hf : Fr S w w') (hS : ∀ b ∈ S, A b)
  (hA : ∀ b, A' b -> A b ∨ w.heap.size <= b) : Vs A' w' v cs := by
 obtain ⟨a, cap, h1, h2, h3, h4⟩ := h
 exact ⟨a, cap, h1, h2, h3, h4.mono hf hS hA⟩
theorem Vs.keep {A : Nat -> Prop} {w w' : World} {S : List Nat} {v : Value} {cs : List Value} (h : Vs A w v cs) (hf : Fr S w w') (hS : ∀ b ∈ S, A b) : Vs A w' v cs :=
 h.mono hf hS fun _ h => .inl h
theorem Vs.keep0 {A : Nat -> Prop} {w w' : World} {v : Value} {cs : List Value} (h : Vs A w v cs) (hf : Fr [] w w') : Vs A w' v cs := h.keep hf (by simp)
theorem Vs.shape {A : Nat -> Prop} {w : World} {v : Value} {cs : List Value} (h : Vs A w v cs) (hx : 0 < cs.length) :
  ∃ b off cap, v = .slice (some ⟨b, off, none⟩) cs.length cap /\ ¬ A b /\ cs.length <= cap /\ cap <= maxLen /\ ∀ j, j < cs.length -> w.cell? ⟨b, off + j, none⟩ = cs[j]? := by
 obtain ⟨a, cap, h1, h2, h3, h4⟩ := h
 obtain ⟨b, off, rfl, h5, h6⟩ := h4.some_of hx
 exact ⟨b, off, cap, h1, h5, h2, h3, h6⟩
theorem Vs.nil (A : Nat -> Prop) (w : World) (a : Option Addr) (cap : Nat) (h : cap <= maxLen) : Vs A w (.slice a 0 cap) [] := ⟨a, cap, rfl, Nat.zero_le _, h, .inl rfl⟩
theorem Vs.block {A : Nat -> Prop} (w : World) (cs : Array Value) (e : TypeId) (hA : ¬ A w.heap.size) (hl : cs.size <= maxLen) : Vs A (w.alloc (.cells cs e)) (.slice (some ⟨w.heap.size, 0, none⟩) cs.size cs.size) cs.toList :=
 ⟨_, cs.size, by simp, by simp, hl, Row.of_block (heap_alloc_new w _) hA⟩
def ja (e : TypeId) (base : Nat) (w : World) (v : Value) (cs : List Value) : Prop := w.ownsRow base e 1 v cs.length cs
theorem ja.vs {A : Nat -> Prop} {e : TypeId} {base : Nat} {w : World} {v : Value} {cs : List Value} (h : ja e base w v cs) (hA : ∀ b, A b -> b < base) : Vs A w v cs := by
 obtain ⟨a, cap, h1, h2, h3, h4⟩ := Row.of_own h hA
 exact ⟨a, cap, h1, h2, h3, h4⟩
theorem ja.keep {e : TypeId} {base : Nat} {w w' : World} {v : Value} {cs : List Value} {S : List Nat} (h : ja e base w v cs) (hf : Fr S w w') (hS : ∀ g ∈ S, g < base) : ja e base w' v cs :=
 vZ h hf fun g hg hm => by have := h.lt g hg; have := hS g hm; omega
theorem ja.keep0 {e : TypeId} {base : Nat} {w w' : World} {v : Value} {cs : List Value} (h : ja e base w v cs) (hf : Fr [] w w') : ja e base w' v cs := h.keep hf (by simp)
theorem ja.base {e : TypeId} {base base' : Nat} {w : World} {v : Value} {cs : List Value} (h : ja e base w v cs) (hb : base' <= base) : ja e base' w v cs := Vw h hb
theorem ja.nil (e : TypeId) (base : Nat) (w : World) : ja e base w (.slice none 0 0) [] := World.ownsRow_nil _ _ _ _
theorem ja.lit (e : TypeId) (base : Nat) (w : World) (cs : Array Value) (hb : base <= w.heap.size) (hl : cs.size <= maxLen) : ja e base (w.alloc (.cells cs e)) (.slice (some ⟨w.heap.size, 0, none⟩) cs.size cs.size) cs.toList := by
 have := World.ownsRow_lit (base := base) (e := e) (size := 1) w cs cs.size hb hl (by simp)
 unfold ja
 simpa using this
theorem ja.fr {S : List Nat} {w0 w w' : World} {base : Nat} {e : TypeId} {v : Value} {cs : List Value} (hown : ja e base w v cs) (h : Fr S w0 w) (hg : w.grownBy w' v.ownBlock) (hb : w0.heap.size <= base) : Fr S w0 w' :=
 Fr.own h hg hown hb
theorem ja.blk {e : TypeId} {base : Nat} {w : World} {v : Value} {cs : List Value} (h : ja e base w v cs) {g : Nat} (hg : g ∈ v.ownBlock.toList) : base <= g := (h.lt g (by simpa using hg)).1
theorem uB {P : Program} {w : World} {ops : Array Oper} {rest : List Oper} {o : Oper} {a : Act} {Q : Exit -> Act -> World -> Prop} {A : Nat -> Prop} {t e : TypeId} {z : Value} {bytes : Nat}
  (ht : P.underlying t = some (.slice e)) (hinfo : (P.info? e).map (fun i => (i.zero, i.size, i.bytes)) = some (some z, 1, bytes)) (hz1 : z.cells.size = 1) (hgd : o.guard = none) (s x : Operand)
  (ho : o.op = .call { callee := .builtin .append, args := #[s, x], argTypes := #[t, t] })
  {base : Nat} {v u : Value} {xs ys : List Value} (hs : a.eval s = v) (hx : a.eval x = u) (hown : ja e base w v xs) (hb : Vs A w u ys) (h1 : ∀ u ∈ ys, u.oneCell' = true)
  (h63 : xs.length + ys.length <= maxLen) (hlen : (xs.length + ys.length) * bytes <= 140737488355328) (hbase : base <= w.heap.size)
  (h : ∀ v' w', ja e base w' v' (xs ++ ys) -> w.grownBy w' v.ownBlock -> wpList P ops Q rest (a.put o.dst v') w') : wpList P ops Q (o :: rest) a w := by
 obtain ⟨i, hi, hz, hsz, hby⟩ := jw hinfo
 obtain ⟨ad, cap, rfl, h2, h3, h4⟩ := hb
 refine VG hgd s x t ho base e i z 1 bytes ht hi hz hsz hby hz1 (by decide) v xs.length _ hs hown ad ys.length cap ys hx (by simp) h4 h1 h63 hlen hbase fun v' w' h5 h6 => ?_
 refine h v' w' ?_ h6
 unfold ja
 rw [List.length_append]
 exact h5
def iv (n : Int) : Value := .int .i64 n
def Is (A : Nat -> Prop) (w : World) (v : Value) (xs : List Int) : Prop := Vs A w v (xs.map iv)
def vB (e : TypeId) (base : Nat) (w : World) (v : Value) (xs : List Int) : Prop := ja e base w v (xs.map iv)
theorem Is.keep0 {A : Nat -> Prop} {w w' : World} {v : Value} {xs : List Int} (h : Is A w v xs) (hf : Fr [] w w') : Is A w' v xs := Vs.keep0 h hf
theorem Is.keep {A : Nat -> Prop} {w w' : World} {S : List Nat} {v : Value} {xs : List Int} (h : Is A w v xs) (hf : Fr S w w') (hS : ∀ b ∈ S, A b) : Is A w' v xs := Vs.keep h hf hS
theorem Is.shape {A : Nat -> Prop} {w : World} {v : Value} {xs : List Int} (h : Is A w v xs) :
  ∃ a cap, v = .slice a xs.length cap /\ xs.length <= cap /\ cap <= maxLen /\ (0 < xs.length -> ∃ b off, a = some ⟨b, off, none⟩ /\ ¬ A b /\ ∀ j, j < xs.length -> w.cell? ⟨b, off + j, none⟩ = some (.int .i64 (xs.getD j 0))) := by
 obtain ⟨a, cap, h1, h2, h3, h4⟩ := h
 simp only [List.length_map] at h1 h2
 refine ⟨a, cap, h1, h2, h3, fun hx => ?_⟩
 obtain ⟨b, off, rfl, h5, h6⟩ := h4.some_of (by simpa using hx)
 refine ⟨b, off, rfl, h5, fun j hj => ?_⟩
 rw [h6 j (by simpa using hj)]
 simp [List.getD_eq_getElem?_getD, hj, iv]
theorem vB.is {A : Nat -> Prop} {e : TypeId} {base : Nat} {w : World} {v : Value} {xs : List Int} (h : vB e base w v xs) (hA : ∀ b, A b -> b < base) : Is A w v xs := ja.vs h hA
theorem vB.keep0 {e : TypeId} {base : Nat} {w w' : World} {v : Value} {xs : List Int} (h : vB e base w v xs) (hf : Fr [] w w') : vB e base w' v xs := ja.keep0 h hf
theorem vB.fr {S : List Nat} {w0 w w' : World} {base : Nat} {e : TypeId} {v : Value} {xs : List Int} (hown : vB e base w v xs) (h : Fr S w0 w) (hg : w.grownBy w' v.ownBlock) (hb : w0.heap.size <= base) : Fr S w0 w' :=
 Fr.own h hg hown hb
theorem vB.nil (e : TypeId) (base : Nat) (w : World) : vB e base w (.slice none 0 0) [] := World.ownsRow_nil _ _ _ _
theorem Yi {P : Program} {w : World} {ops : Array Oper} {rest : List Oper} {o : Oper} {a : Act} {Q : Exit -> Act -> World -> Prop} {t e : TypeId}
  (ht : P.underlying t = some (.slice e)) (hinfo : (P.info? e).map (fun i => (i.zero, i.size, i.bytes)) = some (some (.int .i64 0), 1, 8)) (hgd : o.guard = none) (s x : Operand)
  (ho : o.op = .call { callee := .builtin .append, args := #[s, x], argTypes := #[t, t] })
  {base : Nat} {v : Value} {xs : List Int} {n : Int} (hs : a.eval s = v) (hx : a.eval x = .slice (some ⟨w.heap.size, 0, none⟩) 1 1) (hown : vB e base w v xs)
  (hlen : xs.length <= 17592186044414) (hbase : base <= w.heap.size)
  (h : ∀ v' w', vB e base w' v' (xs ++ [n]) -> (w.alloc (.cells #[.int .i64 n] e)).grownBy w' v.ownBlock -> wpList P ops Q rest (a.put o.dst v') w') : wpList P ops Q (o :: rest) a (w.alloc (.cells #[.int .i64 n] e)) := by
 have hb := Vs.block (A := fun _ => False) w #[.int .i64 n] e (by simp) (by simp [maxLen])
 refine uB ht hinfo rfl hgd s x ho hs hx (ja.keep0 hown (Fr.alloc _ _)) hb (by simp [Value.oneCell']) (by simp [maxLen]; omega) (by simp; omega) (by simp; omega) fun v' w' h1 h2 => ?_
 refine h v' w' ?_ h2
 unfold vB
 rw [List.map_append]
 exact h1
structure Dr (w w' : World) : Prop where
 heap : w'.heap = w.heap
 os : w'.os = w.os
 tape : w'.tape = w.tape
 output : w'.output = w.output
theorem Dr.refl (w : World) : Dr w w := ⟨rfl, rfl, rfl, rfl⟩
theorem Dr.drewN {w w' : World} (h : Dr w w') (n : Nat) : Dr w (w'.drewN n) := ⟨h.heap, h.os, h.tape, h.output⟩
theorem Dr.drew {w w' : World} (h : Dr w w') : Dr w w'.drew := ⟨h.heap, h.os, h.tape, h.output⟩
theorem Dr.trans {a b c : World} (h : Dr a b) (k : Dr b c) : Dr a c := ⟨k.heap.trans h.heap, k.os.trans h.os, k.tape.trans h.tape, k.output.trans h.output⟩
theorem Dr.fr {S : List Nat} {w w' : World} (h : Dr w w') : Fr S w w' := Fr.of_heap h.heap h.os h.tape h.output
theorem Dr.cell {w w' : World} (h : Dr w w') (a : Addr) : w'.cell? a = w.cell? a := by simp [World.cell?, h.heap]
theorem Fr.al {S : List Nat} {w0 w : World} {o : Obj} (h : Fr S w0 w) : Fr S w0 (w.alloc o) := h.trans (Fr.alloc _ _)
theorem Fr.dn {S : List Nat} {w0 w : World} {n : Nat} (h : Fr S w0 w) : Fr S w0 (w.drewN n) := h.trans (Fr.of_heap rfl rfl rfl rfl)
theorem Fr.dr {S : List Nat} {w0 w : World} (h : Fr S w0 w) : Fr S w0 w.drew := h.trans (Fr.drew _)
theorem Fr.sc {S : List Nat} {w0 w : World} {a : Addr} {u : Value} (h : Fr S w0 w) (hb : w0.heap.size <= a.block ∨ a.block ∈ S) : Fr S w0 (w.setCell a u) :=
 h.then (Fr.setCell (S := [a.block]) w a u (by simp)) fun x hx => by
  simp only [List.mem_singleton] at hx
  subst hx
  exact hb.symm
end Go.Bl
namespace Go.Bl
open Go.RowKit
theorem zI {P : Program} {w : World} {ops : Array Oper} {rest : List Oper} {o : Oper} {a : Act} {Q : Exit -> Act -> World -> Prop} {t : TypeId} {c : Array Value} (p x : Operand) (hgd : o.guard = none)
  (ho : o.op = .store t p x) (c' : Array Value) (hp : a.eval p = .pointer (some ⟨w.heap.size, 0, none⟩)) (hx : a.eval x = .agg c') (hi : (P.info? t).map (·.size) = some c'.size) (hsz : c.size = c'.size) (h1 : c'.all (·.oneCell') = true)
  (h : wpList P ops Q rest (a.put o.dst undef) (w.alloc (.cells c' t))) : wpList P ops Q (o :: rest) a (w.alloc (.cells c t)) := by
 refine wpList_plain hgd fun K hK => ?_
 unfold Oper.wp execOp
 simp only [ho, hp, hx, Sem.run_bind, Sem.run_pure, Result.andThen_ok, run_storeAt_new w t c c' hi hsz h1]
 exact hK _ _ h
structure Kin (w0 : World) where
 w : World
 fr : Fr [] w0 w
instance (w0 : World) : Nonempty (Kin w0) := ⟨⟨w0, Fr.refl _ _⟩⟩
theorem Uw {P : Program} {id : Nat} {Q : Exit -> Act -> World -> Prop} {a : Act} {w : World} {l : List Oper} (w0 : World) (hm : P.follows .mixedOrders = true) (hB : Region.lexB .any l.toArray = true) (hf : Fr [] w0 w)
  (h : wpQuiet P l.toArray (fun w' => ∃ x : Kin w0, w' = x.w) (fun a' => ∀ w', (∃ x : Kin w0, w' = x.w) -> Q .normal a' w') l a) : (Code.region id l.toArray true).wp P Q a w :=
 wp_region_quiet (C := fun w' => ∃ x : Kin w0, w' = x.w) hm hB ⟨⟨{ w with drawn := w.drawn + 1 }, hf.trans ⟨rfl, rfl, rfl, Nat.le_refl _, fun _ _ _ => rfl⟩⟩, rfl⟩ (by simpa using h)
theorem Kin.cell {w0 : World} {b : Nat} {o : Obj} (h : w0.heap[b]? = some o) (x : Kin w0) : x.w.heap[b]? = some o := x.fr.keep h (by simp)
theorem jf {P : Program} {w : World} {ops : Array Oper} {rest : List Oper} {o : Oper} {a : Act} {Q : Exit -> Act -> World -> Prop} (p : Op) (ho : o.op = p) (hgd : o.guard = none) (v : Value)
  (hr : (execOp a.eval o).run P w = .ok (.value v) w) (h : wpList P ops Q rest (a.put o.dst v) w) : wpList P ops Q (o :: rest) a w := by
 refine wpList_plain hgd fun K hK => ?_
 unfold Oper.wp
 rw [hr]
 exact hK _ _ h
theorem vB.keepS {e : TypeId} {base : Nat} {w w' : World} {v : Value} {xs : List Int} {S : List Nat} (h : vB e base w v xs) (hf : Fr S w w') (hS : ∀ g ∈ S, g < base) : vB e base w' v xs := ja.keep h hf hS
theorem Uh {w : World} {b : Nat} {o : Obj} {a : Addr} {v : Value} (h : w.heap[b]? = some o) (hne : a.block ≠ b) : (w.setCell a v).heap[b]? = some o := by
 rw [Below.heap_setCell _ _ _ _ (Ne.symm hne)]; exact h
theorem U8 {w : World} {b : Nat} {o o' : Obj} (h : w.heap[b]? = some o) : (w.alloc o').heap[b]? = some o := by
 rw [Below.heap_alloc _ _ _ (qk h)]; exact h
theorem vW {w : World} {b : Nat} {o : Obj} (h : b = w.heap.size) : (w.alloc o).heap[b]? = some o := by subst h; exact heap_alloc_new _ _
theorem LX {w w' : World} {row : Option Nat} {b : Nat} {o : Obj} (h : w.grownBy w' row) (hb : w.heap[b]? = some o) (hne : row ≠ some b) : w'.heap[b]? = some o :=
 (Fr.grown (S := row.toList) h (by intro k hk; simp [hk])).keep hb (by simp [hne])
theorem vB.ne {e : TypeId} {base : Nat} {w : World} {v : Value} {xs : List Int} (h : vB e base w v xs) {b : Nat} (hb : b < base) : v.ownBlock ≠ some b := fun e => by
 have := ja.blk h (g := b) (by simp [e]); omega
end Go.Bl
namespace Go.Bl
open Go.RowKit
def At (w : World) (b : Nat) (o : Obj) : Prop := w.heap[b]? = some o
theorem At.keep {w w' : World} {b : Nat} {o : Obj} {S : List Nat} (h : At w b o) (hf : Fr S w w') (hn : b ∉ S) : At w' b o := hf.keep h hn
theorem At.keep0 {w w' : World} {b : Nat} {o : Obj} (h : At w b o) (hf : Fr [] w w') : At w' b o := hf.keep h (by simp)
theorem At.lt {w : World} {b : Nat} {o : Obj} (h : At w b o) : b < w.heap.size := qk h
theorem At.al {w : World} {b : Nat} {o o' : Obj} (h : At w b o) : At (w.alloc o') b o := U8 h
theorem At.new {w : World} {b : Nat} {o : Obj} (h : b = w.heap.size) : At (w.alloc o) b o := vW h
theorem At.other {w : World} {b : Nat} {o : Obj} {a : Addr} {v : Value} (h : At w b o) (hne : a.block ≠ b) : At (w.setCell a v) b o := Uh h hne
theorem At.set {w : World} {b : Nat} {c : Array Value} {e : TypeId} {fz : Nat × Nat} (h : At w b (.cells c e fz)) (i : Nat) (v : Value) : At (w.setCell ⟨b, i, none⟩ v) b (.cells (c.setIfInBounds i v) e fz) := QA h i v
theorem At.grown {w w' : World} {row : Option Nat} {b : Nat} {o : Obj} (h : At w b o) (hg : w.grownBy w' row) (hne : row ≠ some b) : At w' b o := LX hg h hne
theorem At.cell {w : World} {b : Nat} {c : Array Value} {e : TypeId} {fz : Nat × Nat} (h : At w b (.cells c e fz)) (i : Nat) : w.cell? ⟨b, i, none⟩ = c[i]? := qM h i
theorem At.free {w : World} {b : Nat} {c : Array Value} {e : TypeId} (h : At w b (.cells c e (0, 0))) (i : Nat) : w.frozen? ⟨b, i, none⟩ = false := vN h i
end Go.Bl
