/-
  Layer 31: the document's Encode: its operations. (printed by genren.py)
  Layer 31: the document's Encode: the first bytes of an act. (printed by genren.py)
  Layer 31: the document's Encode: a crash's bytes. (printed by genren.py)
  Layer 31: the document's Encode: a name and a size. (printed by genren.py)
  Layer 31: the document's Encode: sentinels, spots, period. (printed by genren.py)
  Layer 31: the document's Encode: patience and retries. (printed by genren.py)
-/
import Derived.Test.YtbohmnblegljkaaDoorGB
import Derived.Test.YtbohmnblegljkaaDoorGD
import Derived.Test.YtbohmnblegljkaaDoorGF
import Derived.Test.YtbohmnblegljkaaDoorHlp
namespace Go.Proofs.YtbohmnblegljkaaDoor
open Go.RowKit Go.Bl
set_option linter.unusedVariables false

theorem opV_put {ops : Array Oper} {i : Nat} {b : Go.Act} {p : World} {n : Int} {sz : Nat} (o : Oper) (ho : ops[i]? = some o) (hg : o.guard = none) (k : Nat) (hop : o.op = .call { callee := .value (.func 50), args := #[.tmp k, .const (.int .i64 sz)], argTypes := #[3, 3] })
    (h : b.eval (.tmp k) = .int .i64 n) (h1 : 1 ≤ sz) (h2 : sz ≤ 8) : opV Tryd.prog ops i b p fun u p' => Fr [] p p' ∧ Bs (fun g => g < p.heap.size) p' u (beK sz n) := by
  have hc : b.eval (.const (.int .i64 sz)) = .int .i64 sz := rfl
  have hf : b.eval (.func 50) = .func (.func 50) #[] #[] := rfl
  unfold opV
  simp only [ho, Region.wanted, hg, if_true]
  obtain ⟨ρ, hρ⟩ : ∃ ρ, b.eval = ρ := ⟨_, rfl⟩
  rw [hρ] at h hc hf ⊢
  have hr : (execOp ρ o).run Tryd.prog p = .ok (.enter 50 #[.int .i64 n, .int .i64 sz]) p := by
    unfold execOp
    simp [hop, resolve, invoke, go_sem, h, hc, hf]
  rw [hr]
  refine (put_any p n sz h1 h2).mono ?_
  rintro e p' ⟨u, rfl, ho, hf⟩
  exact ⟨hf, ho.bs fun _ h => h⟩
theorem opV_block {ops : Array Oper} {i : Nat} {b : Go.Act} {p : World} {ys : List UInt8} (o : Oper) (ho : ops[i]? = some o) (hg : o.guard = none) (c : Array Value) (hr : (execOp b.eval o).run Tryd.prog p = .ok (.value (.slice (some ⟨p.heap.size, 0, none⟩) ys.length ys.length)) (p.alloc (.cells c 5))) (hc : c.toList = ys.map u8v) (hl : ys.length ≤ 1000) : opV Tryd.prog ops i b p fun u p' => Fr [] p p' ∧ Bs (fun g => g < p.heap.size) p' u ys :=
  opV_run o ho hg hr ⟨Fr.alloc _ _, bs_block (At.new rfl) hc (by simp) hl⟩
theorem opV_str {ops : Array Oper} {i : Nat} {b : Go.Act} {p : World} {s : ByteArray} (o : Oper) (hi : ops[i]? = some o) (hg : o.guard = none) (k : Nat) (ho : o.op = .convert 9 59 (.tmp k)) (h : b.eval (.tmp k) = .string s) (hs : s.size ≤ 1000) : opV Tryd.prog ops i b p fun u p' => Fr [] p p' ∧ Bs (fun g => g < p.heap.size) p' u s.data.toList := by
  have hr := run_bytes_of_string (P := Tryd.prog) p 9 59 5 s Tryd.underlying9 Tryd.underlying59 Tryd.underlying5
  obtain ⟨cap, hcap⟩ : ∃ cap, grownCap p s.size 0 5 = cap := ⟨_, rfl⟩
  have h1 := grownCap_ge p s.size 0 5
  have h2 := grownCap_le_maxLen p s.size 0 5 (by simp [maxLen]; omega)
  rw [hcap] at hr h1 h2
  refine opV_run (v := .slice (some ⟨p.heap.size, 0, none⟩) s.size cap) (p := p.drew.alloc (.cells (bytesRow s cap) 5 ((bytesRow s cap).size, (bytesRow s cap).size + 1))) o hi hg ?_ ⟨(Fr.drew p).trans (Fr.alloc _ _), ?_⟩
  · unfold execOp
    simp only [ho, h, Sem.run_bind, hr, Result.andThen_ok, Sem.run_pure]
  · have hl : s.data.toList.length = s.size := by simp
    refine ⟨some ⟨p.heap.size, 0, none⟩, cap, by rw [hl], by rw [hl]; exact h1, h2, .inr ⟨p.heap.size, 0, bytesRow s cap, 5, _, rfl, fun h => Nat.lt_irrefl _ h, heap_alloc_at (w := p.drew) rfl, fun i hi => ?_⟩⟩
    have hi' : i < s.data.size := by simpa using hi
    rw [Nat.zero_add]
    have hi2 : i < s.size := hi'
    simp [bytesRow, Array.getElem?_append, hi2]
    rfl
end Go.Proofs.YtbohmnblegljkaaDoor
namespace Go.Proofs.YtbohmnblegljkaaDoor
open Go.RowKit Go.Bl
set_option linter.unusedVariables false

noncomputable def rencReg7 : Code := ((Tryd.f30.body.bind (findRegion 7)).getD .skip)
set_option maxRecDepth 1000000 in
set_option maxHeartbeats 8000000 in
theorem renc_7 (w : World) (a : Go.Act) (hsz : a.tmps.size = 144) (base : Nat) (v0 : Value) (xs : List UInt8) (x : ActP) (bv : Value) (r6 : Nat) (hv0 : slot a 4 = v0) (hown : OwnB 5 base w v0 xs) (hbase : base ≤ w.heap.size) (hlen : xs.length ≤ 100000000) (h6 : slot a 6 = .pointer (some ⟨r6, 0, none⟩)) (hA : At w r6 (actO x bv 99)) (hr6 : r6 ∉ v0.ownBlock.toList) (Q : Exit → Go.Act → World → Prop)
    (hQ : ∀ (b : Go.Act) (p : World), b.defers = a.defers → b.tmps.size = a.tmps.size → (∀ s, s ∉ [25, 26, 27, 28, 29, 30, 31, 32, 33, 34, 35, 36, 37, 38, 39, 40, 41, 42, 43, 44, 45, 46, 47, 4] → slot b s = slot a s) → OwnB 5 base p (slot b 4) (xs ++ entBase x) → Fr v0.ownBlock.toList w p → Q .normal b p) : Code.wp Tryd.prog rencReg7 Q a w := by
  conv => arg 2; whnf
  refine wp_region_app (t := 59) (e := 5) (by kernel_rfl) (by kernel_rfl) Tryd.underlying59 Tryd.infoByte [25, 26, 27, 28, 29, 30, 31, 32, 33, 34, 35, 36, 37, 38, 39, 40, 41, 42, 43, 44, 45, 46, 47, 4] [5, 9, 13, 17, 22] [[b8 x.kind], beK 2 x.n, beK 2 x.i, beK 2 x.at_, [b8 x.by_]] [.mv, .rd (.pointer (some ⟨r6, 0, none⟩)), .rd (.int .i64 x.kind), .rd (.int .u8 (x.kind % 256)), .pc [b8 x.kind], .ap 0 4 ([b8 x.kind]), .rd (.pointer (some ⟨r6, 1, none⟩)), .rd (.int .i64 x.n), .pc (beK 2 x.n), .ap 1 8 (beK 2 x.n), .rd (.pointer (some ⟨r6, 2, none⟩)), .rd (.int .i64 x.i), .pc (beK 2 x.i), .ap 2 12 (beK 2 x.i), .rd (.pointer (some ⟨r6, 3, none⟩)), .rd (.int .i64 x.at_), .pc (beK 2 x.at_), .ap 3 16 (beK 2 x.at_), .rd (.pointer (some ⟨r6, 4, none⟩)), .rd (.int .i64 x.by_), .rd (.int .u8 (x.by_ % 256)), .pc [b8 x.by_], .ap 4 21 ([b8 x.by_]), .fin] 23 base v0 xs (by kernel_rfl) (by decide) (by rw [hsz]; rfl) (by kernel_rfl) (by kernel_rfl) (by decide) (by decide) (of_decide_eq_true (by kernel_rfl)) (by decide) hv0 hown hbase (by simp [beK_len]; omega) rfl ⟨?_, ?_, ?_, ?_, ?_, ?_, ?_, ?_, ?_, ?_, ?_, ?_, ?_, ?_, ?_, ?_, ?_, ?_, ?_, ?_, ?_, ?_, ?_, ?_, trivial⟩ ?_
  · exact ⟨rfl, _, by simp only [List.getElem?_toArray, List.getElem?_cons_succ, List.getElem?_cons_zero]; rfl, rfl, rfl⟩
  · refine ⟨by decide, by decide, fun b p h => ?_⟩
    have e : b.eval (.tmp 6) = .pointer (some ⟨r6, 0, none⟩) := (h.old 6 (by decide)).trans h6
    obtain ⟨ρ, hρ⟩ : ∃ ρ, b.eval = ρ := ⟨_, rfl⟩
    rw [hρ] at e ⊢
    exact ⟨_, by simp only [List.getElem?_toArray, List.getElem?_cons_succ, List.getElem?_cons_zero]; rfl, rfl, by unfold execOp; simp [go_sem, e]⟩
  · refine ⟨by decide, by decide, fun b p h => ?_⟩
    have e := (show b.eval (.tmp 26) = .pointer (some ⟨r6, 0, none⟩) from h.rd 1 _ (by kernel_rfl) rfl)
    have c := (actCells (hA.keep h.fr hr6)).1
    obtain ⟨ρ, hρ⟩ : ∃ ρ, b.eval = ρ := ⟨_, rfl⟩
    rw [hρ] at e ⊢
    exact ⟨_, by simp only [List.getElem?_toArray, List.getElem?_cons_succ, List.getElem?_cons_zero]; rfl, rfl, by unfold execOp; simp [go_sem, e, c]⟩
  · refine ⟨by decide, by decide, fun b p h => ?_⟩
    have e := (show b.eval (.tmp 27) = .int .i64 x.kind from h.rd 2 _ (by kernel_rfl) rfl)
    obtain ⟨ρ, hρ⟩ : ∃ ρ, b.eval = ρ := ⟨_, rfl⟩
    rw [hρ] at e ⊢
    exact ⟨_, by simp only [List.getElem?_toArray, List.getElem?_cons_succ, List.getElem?_cons_zero]; rfl, rfl, by unfold execOp; simp [go_sem, e, IntKind.wrap_u8]⟩
  · refine ⟨by decide, by decide, fun b p h => ?_⟩
    have e0 := (show b.eval (.tmp 28) = .int .u8 (x.kind % 256) from h.rd 3 _ (by kernel_rfl) rfl)
    refine opV_block _ (by simp only [List.getElem?_toArray, List.getElem?_cons_succ, List.getElem?_cons_zero]; rfl) rfl #[.int .u8 (x.kind % 256)] ?_ (by simp [b8v]) (by simp)
    obtain ⟨ρ, hρ⟩ : ∃ ρ, b.eval = ρ := ⟨_, rfl⟩
    rw [hρ] at e0 ⊢
    unfold execOp; simp [go_sem, e0]
  · exact ⟨by decide, by decide, rfl, rfl, by kernel_rfl, rfl, .inl ⟨rfl, by kernel_rfl⟩, _, by simp only [List.getElem?_toArray, List.getElem?_cons_succ, List.getElem?_cons_zero]; rfl, rfl, rfl⟩
  · refine ⟨by decide, by decide, fun b p h => ?_⟩
    have e : b.eval (.tmp 6) = .pointer (some ⟨r6, 0, none⟩) := (h.old 6 (by decide)).trans h6
    obtain ⟨ρ, hρ⟩ : ∃ ρ, b.eval = ρ := ⟨_, rfl⟩
    rw [hρ] at e ⊢
    exact ⟨_, by simp only [List.getElem?_toArray, List.getElem?_cons_succ, List.getElem?_cons_zero]; rfl, rfl, by unfold execOp; simp [go_sem, e]⟩
  · refine ⟨by decide, by decide, fun b p h => ?_⟩
    have e := (show b.eval (.tmp 31) = .pointer (some ⟨r6, 1, none⟩) from h.rd 6 _ (by kernel_rfl) rfl)
    have c := (actCells (hA.keep h.fr hr6)).2.1
    obtain ⟨ρ, hρ⟩ : ∃ ρ, b.eval = ρ := ⟨_, rfl⟩
    rw [hρ] at e ⊢
    exact ⟨_, by simp only [List.getElem?_toArray, List.getElem?_cons_succ, List.getElem?_cons_zero]; rfl, rfl, by unfold execOp; simp [go_sem, e, c]⟩
  · refine ⟨by decide, by decide, fun b p h => ?_⟩
    have e := (show b.eval (.tmp 32) = .int .i64 x.n from h.rd 7 _ (by kernel_rfl) rfl)
    exact opV_put _ (by simp only [List.getElem?_toArray, List.getElem?_cons_succ, List.getElem?_cons_zero]; rfl) rfl 32 rfl e (by decide) (by decide)
  · exact ⟨by decide, by decide, rfl, rfl, by kernel_rfl, rfl, .inr ⟨5, rfl, by kernel_rfl⟩, _, by simp only [List.getElem?_toArray, List.getElem?_cons_succ, List.getElem?_cons_zero]; rfl, rfl, rfl⟩
  · refine ⟨by decide, by decide, fun b p h => ?_⟩
    have e : b.eval (.tmp 6) = .pointer (some ⟨r6, 0, none⟩) := (h.old 6 (by decide)).trans h6
    obtain ⟨ρ, hρ⟩ : ∃ ρ, b.eval = ρ := ⟨_, rfl⟩
    rw [hρ] at e ⊢
    exact ⟨_, by simp only [List.getElem?_toArray, List.getElem?_cons_succ, List.getElem?_cons_zero]; rfl, rfl, by unfold execOp; simp [go_sem, e]⟩
  · refine ⟨by decide, by decide, fun b p h => ?_⟩
    have e := (show b.eval (.tmp 35) = .pointer (some ⟨r6, 2, none⟩) from h.rd 10 _ (by kernel_rfl) rfl)
    have c := (actCells (hA.keep h.fr hr6)).2.2.1
    obtain ⟨ρ, hρ⟩ : ∃ ρ, b.eval = ρ := ⟨_, rfl⟩
    rw [hρ] at e ⊢
    exact ⟨_, by simp only [List.getElem?_toArray, List.getElem?_cons_succ, List.getElem?_cons_zero]; rfl, rfl, by unfold execOp; simp [go_sem, e, c]⟩
  · refine ⟨by decide, by decide, fun b p h => ?_⟩
    have e := (show b.eval (.tmp 36) = .int .i64 x.i from h.rd 11 _ (by kernel_rfl) rfl)
    exact opV_put _ (by simp only [List.getElem?_toArray, List.getElem?_cons_succ, List.getElem?_cons_zero]; rfl) rfl 36 rfl e (by decide) (by decide)
  · exact ⟨by decide, by decide, rfl, rfl, by kernel_rfl, rfl, .inr ⟨9, rfl, by kernel_rfl⟩, _, by simp only [List.getElem?_toArray, List.getElem?_cons_succ, List.getElem?_cons_zero]; rfl, rfl, rfl⟩
  · refine ⟨by decide, by decide, fun b p h => ?_⟩
    have e : b.eval (.tmp 6) = .pointer (some ⟨r6, 0, none⟩) := (h.old 6 (by decide)).trans h6
    obtain ⟨ρ, hρ⟩ : ∃ ρ, b.eval = ρ := ⟨_, rfl⟩
    rw [hρ] at e ⊢
    exact ⟨_, by simp only [List.getElem?_toArray, List.getElem?_cons_succ, List.getElem?_cons_zero]; rfl, rfl, by unfold execOp; simp [go_sem, e]⟩
  · refine ⟨by decide, by decide, fun b p h => ?_⟩
    have e := (show b.eval (.tmp 39) = .pointer (some ⟨r6, 3, none⟩) from h.rd 14 _ (by kernel_rfl) rfl)
    have c := (actCells (hA.keep h.fr hr6)).2.2.2.1
    obtain ⟨ρ, hρ⟩ : ∃ ρ, b.eval = ρ := ⟨_, rfl⟩
    rw [hρ] at e ⊢
    exact ⟨_, by simp only [List.getElem?_toArray, List.getElem?_cons_succ, List.getElem?_cons_zero]; rfl, rfl, by unfold execOp; simp [go_sem, e, c]⟩
  · refine ⟨by decide, by decide, fun b p h => ?_⟩
    have e := (show b.eval (.tmp 40) = .int .i64 x.at_ from h.rd 15 _ (by kernel_rfl) rfl)
    exact opV_put _ (by simp only [List.getElem?_toArray, List.getElem?_cons_succ, List.getElem?_cons_zero]; rfl) rfl 40 rfl e (by decide) (by decide)
  · exact ⟨by decide, by decide, rfl, rfl, by kernel_rfl, rfl, .inr ⟨13, rfl, by kernel_rfl⟩, _, by simp only [List.getElem?_toArray, List.getElem?_cons_succ, List.getElem?_cons_zero]; rfl, rfl, rfl⟩
  · refine ⟨by decide, by decide, fun b p h => ?_⟩
    have e : b.eval (.tmp 6) = .pointer (some ⟨r6, 0, none⟩) := (h.old 6 (by decide)).trans h6
    obtain ⟨ρ, hρ⟩ : ∃ ρ, b.eval = ρ := ⟨_, rfl⟩
    rw [hρ] at e ⊢
    exact ⟨_, by simp only [List.getElem?_toArray, List.getElem?_cons_succ, List.getElem?_cons_zero]; rfl, rfl, by unfold execOp; simp [go_sem, e]⟩
  · refine ⟨by decide, by decide, fun b p h => ?_⟩
    have e := (show b.eval (.tmp 43) = .pointer (some ⟨r6, 4, none⟩) from h.rd 18 _ (by kernel_rfl) rfl)
    have c := (actCells (hA.keep h.fr hr6)).2.2.2.2.1
    obtain ⟨ρ, hρ⟩ : ∃ ρ, b.eval = ρ := ⟨_, rfl⟩
    rw [hρ] at e ⊢
    exact ⟨_, by simp only [List.getElem?_toArray, List.getElem?_cons_succ, List.getElem?_cons_zero]; rfl, rfl, by unfold execOp; simp [go_sem, e, c]⟩
  · refine ⟨by decide, by decide, fun b p h => ?_⟩
    have e := (show b.eval (.tmp 44) = .int .i64 x.by_ from h.rd 19 _ (by kernel_rfl) rfl)
    obtain ⟨ρ, hρ⟩ : ∃ ρ, b.eval = ρ := ⟨_, rfl⟩
    rw [hρ] at e ⊢
    exact ⟨_, by simp only [List.getElem?_toArray, List.getElem?_cons_succ, List.getElem?_cons_zero]; rfl, rfl, by unfold execOp; simp [go_sem, e, IntKind.wrap_u8]⟩
  · refine ⟨by decide, by decide, fun b p h => ?_⟩
    have e0 := (show b.eval (.tmp 45) = .int .u8 (x.by_ % 256) from h.rd 20 _ (by kernel_rfl) rfl)
    refine opV_block _ (by simp only [List.getElem?_toArray, List.getElem?_cons_succ, List.getElem?_cons_zero]; rfl) rfl #[.int .u8 (x.by_ % 256)] ?_ (by simp [b8v]) (by simp)
    obtain ⟨ρ, hρ⟩ : ∃ ρ, b.eval = ρ := ⟨_, rfl⟩
    rw [hρ] at e0 ⊢
    unfold execOp; simp [go_sem, e0]
  · exact ⟨by decide, by decide, rfl, rfl, by kernel_rfl, rfl, .inr ⟨17, rfl, by kernel_rfl⟩, _, by simp only [List.getElem?_toArray, List.getElem?_cons_succ, List.getElem?_cons_zero]; rfl, rfl, rfl⟩
  · exact ⟨rfl, _, by simp only [List.getElem?_toArray, List.getElem?_cons_succ, List.getElem?_cons_zero]; rfl, rfl, rfl, 22, rfl, by kernel_rfl⟩
  · intro b p h1 h2 h3 h4 h5 h6 h7
    refine hQ b p h1 h2 h3 ?_ h5
    replace h4 : OwnB 5 base p (slot b 4) _ := h4
    simpa [entBase, beK_two] using h4
end Go.Proofs.YtbohmnblegljkaaDoor
namespace Go.Proofs.YtbohmnblegljkaaDoor
open Go.RowKit Go.Bl
set_option linter.unusedVariables false

noncomputable def rencReg9 : Code := ((Tryd.f30.body.bind (findRegion 9)).getD .skip)
set_option maxRecDepth 1000000 in
set_option maxHeartbeats 8000000 in
theorem renc_9 (w : World) (a : Go.Act) (hsz : a.tmps.size = 144) (base : Nat) (v0 : Value) (xs : List UInt8) (x : ActP) (bv : Value) (r6 : Nat) (hv0 : slot a 4 = v0) (hown : OwnB 5 base w v0 xs) (hbase : base ≤ w.heap.size) (hlen : xs.length ≤ 100000000) (h6 : slot a 6 = .pointer (some ⟨r6, 0, none⟩)) (hA : At w r6 (actO x bv 99)) (hr6 : r6 ∉ v0.ownBlock.toList) (Q : Exit → Go.Act → World → Prop)
    (hQ : ∀ (b : Go.Act) (p : World), b.defers = a.defers → b.tmps.size = a.tmps.size → (∀ s, s ∉ [51, 52, 53, 54, 55, 56, 57, 58, 59, 60, 61, 62, 63, 64, 65, 66, 4] → slot b s = slot a s) → OwnB 5 base p (slot b 4) (xs ++ ([b8 x.kept, b8 x.torn] ++ beK 8 (wrap64 x.scat))) → Fr v0.ownBlock.toList w p → Q .normal b p) : Code.wp Tryd.prog rencReg9 Q a w := by
  conv => arg 2; whnf
  refine wp_region_app (t := 59) (e := 5) (by kernel_rfl) (by kernel_rfl) Tryd.underlying59 Tryd.infoByte [51, 52, 53, 54, 55, 56, 57, 58, 59, 60, 61, 62, 63, 64, 65, 66, 4] [5, 10, 15] [[b8 x.kept], [b8 x.torn], beK 8 (wrap64 x.scat)] [.mv, .rd (.pointer (some ⟨r6, 13, none⟩)), .rd (.int .i64 x.kept), .rd (.int .u8 (x.kept % 256)), .pc [b8 x.kept], .ap 0 4 ([b8 x.kept]), .rd (.pointer (some ⟨r6, 14, none⟩)), .rd (.int .i64 x.torn), .rd (.int .u8 (x.torn % 256)), .pc [b8 x.torn], .ap 1 9 ([b8 x.torn]), .rd (.pointer (some ⟨r6, 15, none⟩)), .rd (.int .u64 x.scat), .rd (.int .i64 (wrap64 x.scat)), .pc (beK 8 (wrap64 x.scat)), .ap 2 14 (beK 8 (wrap64 x.scat)), .fin] 16 base v0 xs (by kernel_rfl) (by decide) (by rw [hsz]; rfl) (by kernel_rfl) (by kernel_rfl) (by decide) (by decide) (of_decide_eq_true (by kernel_rfl)) (by decide) hv0 hown hbase (by simp [beK_len]; omega) rfl ⟨?_, ?_, ?_, ?_, ?_, ?_, ?_, ?_, ?_, ?_, ?_, ?_, ?_, ?_, ?_, ?_, ?_, trivial⟩ ?_
  · exact ⟨rfl, _, by simp only [List.getElem?_toArray, List.getElem?_cons_succ, List.getElem?_cons_zero]; rfl, rfl, rfl⟩
  · refine ⟨by decide, by decide, fun b p h => ?_⟩
    have e : b.eval (.tmp 6) = .pointer (some ⟨r6, 0, none⟩) := (h.old 6 (by decide)).trans h6
    obtain ⟨ρ, hρ⟩ : ∃ ρ, b.eval = ρ := ⟨_, rfl⟩
    rw [hρ] at e ⊢
    exact ⟨_, by simp only [List.getElem?_toArray, List.getElem?_cons_succ, List.getElem?_cons_zero]; rfl, rfl, by unfold execOp; simp [go_sem, e]⟩
  · refine ⟨by decide, by decide, fun b p h => ?_⟩
    have e := (show b.eval (.tmp 52) = .pointer (some ⟨r6, 13, none⟩) from h.rd 1 _ (by kernel_rfl) rfl)
    have c := (actCells (hA.keep h.fr hr6)).2.2.2.2.2.2.2.2.2.2.2.2.2.1
    obtain ⟨ρ, hρ⟩ : ∃ ρ, b.eval = ρ := ⟨_, rfl⟩
    rw [hρ] at e ⊢
    exact ⟨_, by simp only [List.getElem?_toArray, List.getElem?_cons_succ, List.getElem?_cons_zero]; rfl, rfl, by unfold execOp; simp [go_sem, e, c]⟩
  · refine ⟨by decide, by decide, fun b p h => ?_⟩
    have e := (show b.eval (.tmp 53) = .int .i64 x.kept from h.rd 2 _ (by kernel_rfl) rfl)
    obtain ⟨ρ, hρ⟩ : ∃ ρ, b.eval = ρ := ⟨_, rfl⟩
    rw [hρ] at e ⊢
    exact ⟨_, by simp only [List.getElem?_toArray, List.getElem?_cons_succ, List.getElem?_cons_zero]; rfl, rfl, by unfold execOp; simp [go_sem, e, IntKind.wrap_u8]⟩
  · refine ⟨by decide, by decide, fun b p h => ?_⟩
    have e0 := (show b.eval (.tmp 54) = .int .u8 (x.kept % 256) from h.rd 3 _ (by kernel_rfl) rfl)
    refine opV_block _ (by simp only [List.getElem?_toArray, List.getElem?_cons_succ, List.getElem?_cons_zero]; rfl) rfl #[.int .u8 (x.kept % 256)] ?_ (by simp [b8v]) (by simp)
    obtain ⟨ρ, hρ⟩ : ∃ ρ, b.eval = ρ := ⟨_, rfl⟩
    rw [hρ] at e0 ⊢
    unfold execOp; simp [go_sem, e0]
  · exact ⟨by decide, by decide, rfl, rfl, by kernel_rfl, rfl, .inl ⟨rfl, by kernel_rfl⟩, _, by simp only [List.getElem?_toArray, List.getElem?_cons_succ, List.getElem?_cons_zero]; rfl, rfl, rfl⟩
  · refine ⟨by decide, by decide, fun b p h => ?_⟩
    have e : b.eval (.tmp 6) = .pointer (some ⟨r6, 0, none⟩) := (h.old 6 (by decide)).trans h6
    obtain ⟨ρ, hρ⟩ : ∃ ρ, b.eval = ρ := ⟨_, rfl⟩
    rw [hρ] at e ⊢
    exact ⟨_, by simp only [List.getElem?_toArray, List.getElem?_cons_succ, List.getElem?_cons_zero]; rfl, rfl, by unfold execOp; simp [go_sem, e]⟩
  · refine ⟨by decide, by decide, fun b p h => ?_⟩
    have e := (show b.eval (.tmp 57) = .pointer (some ⟨r6, 14, none⟩) from h.rd 6 _ (by kernel_rfl) rfl)
    have c := (actCells (hA.keep h.fr hr6)).2.2.2.2.2.2.2.2.2.2.2.2.2.2.1
    obtain ⟨ρ, hρ⟩ : ∃ ρ, b.eval = ρ := ⟨_, rfl⟩
    rw [hρ] at e ⊢
    exact ⟨_, by simp only [List.getElem?_toArray, List.getElem?_cons_succ, List.getElem?_cons_zero]; rfl, rfl, by unfold execOp; simp [go_sem, e, c]⟩
  · refine ⟨by decide, by decide, fun b p h => ?_⟩
    have e := (show b.eval (.tmp 58) = .int .i64 x.torn from h.rd 7 _ (by kernel_rfl) rfl)
    obtain ⟨ρ, hρ⟩ : ∃ ρ, b.eval = ρ := ⟨_, rfl⟩
    rw [hρ] at e ⊢
    exact ⟨_, by simp only [List.getElem?_toArray, List.getElem?_cons_succ, List.getElem?_cons_zero]; rfl, rfl, by unfold execOp; simp [go_sem, e, IntKind.wrap_u8]⟩
  · refine ⟨by decide, by decide, fun b p h => ?_⟩
    have e0 := (show b.eval (.tmp 59) = .int .u8 (x.torn % 256) from h.rd 8 _ (by kernel_rfl) rfl)
    refine opV_block _ (by simp only [List.getElem?_toArray, List.getElem?_cons_succ, List.getElem?_cons_zero]; rfl) rfl #[.int .u8 (x.torn % 256)] ?_ (by simp [b8v]) (by simp)
    obtain ⟨ρ, hρ⟩ : ∃ ρ, b.eval = ρ := ⟨_, rfl⟩
    rw [hρ] at e0 ⊢
    unfold execOp; simp [go_sem, e0]
  · exact ⟨by decide, by decide, rfl, rfl, by kernel_rfl, rfl, .inr ⟨5, rfl, by kernel_rfl⟩, _, by simp only [List.getElem?_toArray, List.getElem?_cons_succ, List.getElem?_cons_zero]; rfl, rfl, rfl⟩
  · refine ⟨by decide, by decide, fun b p h => ?_⟩
    have e : b.eval (.tmp 6) = .pointer (some ⟨r6, 0, none⟩) := (h.old 6 (by decide)).trans h6
    obtain ⟨ρ, hρ⟩ : ∃ ρ, b.eval = ρ := ⟨_, rfl⟩
    rw [hρ] at e ⊢
    exact ⟨_, by simp only [List.getElem?_toArray, List.getElem?_cons_succ, List.getElem?_cons_zero]; rfl, rfl, by unfold execOp; simp [go_sem, e]⟩
  · refine ⟨by decide, by decide, fun b p h => ?_⟩
    have e := (show b.eval (.tmp 62) = .pointer (some ⟨r6, 15, none⟩) from h.rd 11 _ (by kernel_rfl) rfl)
    have c := (actCells (hA.keep h.fr hr6)).2.2.2.2.2.2.2.2.2.2.2.2.2.2.2
    obtain ⟨ρ, hρ⟩ : ∃ ρ, b.eval = ρ := ⟨_, rfl⟩
    rw [hρ] at e ⊢
    exact ⟨_, by simp only [List.getElem?_toArray, List.getElem?_cons_succ, List.getElem?_cons_zero]; rfl, rfl, by unfold execOp; simp [go_sem, e, c]⟩
  · refine ⟨by decide, by decide, fun b p h => ?_⟩
    have e := (show b.eval (.tmp 63) = .int .u64 x.scat from h.rd 12 _ (by kernel_rfl) rfl)
    obtain ⟨ρ, hρ⟩ : ∃ ρ, b.eval = ρ := ⟨_, rfl⟩
    rw [hρ] at e ⊢
    exact ⟨_, by simp only [List.getElem?_toArray, List.getElem?_cons_succ, List.getElem?_cons_zero]; rfl, rfl, by unfold execOp; simp [go_sem, e, IntKind.wrap_u8, IntKind.wrap_i64, wrap64]⟩
  · refine ⟨by decide, by decide, fun b p h => ?_⟩
    have e := (show b.eval (.tmp 64) = .int .i64 (wrap64 x.scat) from h.rd 13 _ (by kernel_rfl) rfl)
    exact opV_put _ (by simp only [List.getElem?_toArray, List.getElem?_cons_succ, List.getElem?_cons_zero]; rfl) rfl 64 rfl e (by decide) (by decide)
  · exact ⟨by decide, by decide, rfl, rfl, by kernel_rfl, rfl, .inr ⟨10, rfl, by kernel_rfl⟩, _, by simp only [List.getElem?_toArray, List.getElem?_cons_succ, List.getElem?_cons_zero]; rfl, rfl, rfl⟩
  · exact ⟨rfl, _, by simp only [List.getElem?_toArray, List.getElem?_cons_succ, List.getElem?_cons_zero]; rfl, rfl, rfl, 15, rfl, by kernel_rfl⟩
  · intro b p h1 h2 h3 h4 h5 h6 h7
    refine hQ b p h1 h2 h3 ?_ h5
    replace h4 : OwnB 5 base p (slot b 4) _ := h4
    simpa using h4
end Go.Proofs.YtbohmnblegljkaaDoor
namespace Go.Proofs.YtbohmnblegljkaaDoor
open Go.RowKit Go.Bl
set_option linter.unusedVariables false

noncomputable def rencReg15 : Code := ((Tryd.f30.body.bind (findRegion 15)).getD .skip)
set_option maxRecDepth 1000000 in
set_option maxHeartbeats 8000000 in
theorem renc_15 (w : World) (a : Go.Act) (hsz : a.tmps.size = 144) (base : Nat) (v0 : Value) (xs : List UInt8) (x : ActP) (r8 : Nat) (nm : ByteArray) (hv0 : slot a 4 = v0) (hown : OwnB 5 base w v0 xs) (hbase : base ≤ w.heap.size) (hlen : xs.length ≤ 100000000) (h7 : slot a 7 = .string nm) (hnl : nm.size ≤ 1000) (h8 : slot a 8 = .pointer (some ⟨r8, 0, none⟩)) (hB : At w r8 (.cells #[.int .i64 x.p0, .int .i64 x.p1, .int .i64 x.p2, .int .i64 x.p3, .int .i64 x.p4, .int .i64 x.p5] 40)) (hr8 : r8 ∉ v0.ownBlock.toList) (Q : Exit → Go.Act → World → Prop)
    (hQ : ∀ (b : Go.Act) (p : World), b.defers = a.defers → b.tmps.size = a.tmps.size → (∀ s, s ∉ [79, 80, 81, 82, 83, 84, 85, 86, 87, 88, 89, 90, 91, 4] → slot b s = slot a s) → OwnB 5 base p (slot b 4) (xs ++ (b8 nm.size :: (nm.data.toList ++ be2 x.p0))) → Fr v0.ownBlock.toList w p → Q .normal b p) : Code.wp Tryd.prog rencReg15 Q a w := by
  conv => arg 2; whnf
  refine wp_region_app (t := 59) (e := 5) (by kernel_rfl) (by kernel_rfl) Tryd.underlying59 Tryd.infoByte [79, 80, 81, 82, 83, 84, 85, 86, 87, 88, 89, 90, 91, 4] [5, 8, 12] [[b8 nm.size], nm.data.toList, beK 2 x.p0] [.mv, .rd (.string nm), .rd (.int .i64 nm.size), .rd (.int .u8 ((nm.size : Int) % 256)), .pc [b8 nm.size], .ap 0 4 ([b8 nm.size]), .rd (.string nm), .pc nm.data.toList, .ap 1 7 (nm.data.toList), .rd (.pointer (some ⟨r8, 0, none⟩)), .rd (.int .i64 x.p0), .pc (beK 2 x.p0), .ap 2 11 (beK 2 x.p0), .fin] 13 base v0 xs (by kernel_rfl) (by decide) (by rw [hsz]; rfl) (by kernel_rfl) (by kernel_rfl) (by decide) (by decide) (of_decide_eq_true (by kernel_rfl)) (by decide) hv0 hown hbase (by have h9 : nm.data.size = nm.size := rfl; simp [beK_len]; omega) rfl ⟨?_, ?_, ?_, ?_, ?_, ?_, ?_, ?_, ?_, ?_, ?_, ?_, ?_, ?_, trivial⟩ ?_
  · exact ⟨rfl, _, by simp only [List.getElem?_toArray, List.getElem?_cons_succ, List.getElem?_cons_zero]; rfl, rfl, rfl⟩
  · refine ⟨by decide, by decide, fun b p h => ?_⟩
    have e : b.eval (.tmp 7) = .string nm := (h.old 7 (by decide)).trans h7
    obtain ⟨ρ, hρ⟩ : ∃ ρ, b.eval = ρ := ⟨_, rfl⟩
    rw [hρ] at e ⊢
    exact ⟨_, by simp only [List.getElem?_toArray, List.getElem?_cons_succ, List.getElem?_cons_zero]; rfl, rfl, by unfold execOp; simp [go_sem, e]⟩
  · refine ⟨by decide, by decide, fun b p h => ?_⟩
    have e := (show b.eval (.tmp 80) = .string nm from h.rd 1 _ (by kernel_rfl) rfl)
    exact ⟨_, by simp only [List.getElem?_toArray, List.getElem?_cons_succ, List.getElem?_cons_zero]; rfl, rfl, run_len_str _ _ _ 80 _ e rfl⟩
  · refine ⟨by decide, by decide, fun b p h => ?_⟩
    have e := (show b.eval (.tmp 81) = .int .i64 nm.size from h.rd 2 _ (by kernel_rfl) rfl)
    obtain ⟨ρ, hρ⟩ : ∃ ρ, b.eval = ρ := ⟨_, rfl⟩
    rw [hρ] at e ⊢
    exact ⟨_, by simp only [List.getElem?_toArray, List.getElem?_cons_succ, List.getElem?_cons_zero]; rfl, rfl, by unfold execOp; simp [go_sem, e, IntKind.wrap_u8]⟩
  · refine ⟨by decide, by decide, fun b p h => ?_⟩
    have e0 := (show b.eval (.tmp 82) = .int .u8 ((nm.size : Int) % 256) from h.rd 3 _ (by kernel_rfl) rfl)
    refine opV_block _ (by simp only [List.getElem?_toArray, List.getElem?_cons_succ, List.getElem?_cons_zero]; rfl) rfl #[.int .u8 ((nm.size : Int) % 256)] ?_ (by simp [b8v]) (by simp)
    obtain ⟨ρ, hρ⟩ : ∃ ρ, b.eval = ρ := ⟨_, rfl⟩
    rw [hρ] at e0 ⊢
    unfold execOp; simp [go_sem, e0]
  · exact ⟨by decide, by decide, rfl, rfl, by kernel_rfl, rfl, .inl ⟨rfl, by kernel_rfl⟩, _, by simp only [List.getElem?_toArray, List.getElem?_cons_succ, List.getElem?_cons_zero]; rfl, rfl, rfl⟩
  · refine ⟨by decide, by decide, fun b p h => ?_⟩
    have e : b.eval (.tmp 7) = .string nm := (h.old 7 (by decide)).trans h7
    obtain ⟨ρ, hρ⟩ : ∃ ρ, b.eval = ρ := ⟨_, rfl⟩
    rw [hρ] at e ⊢
    exact ⟨_, by simp only [List.getElem?_toArray, List.getElem?_cons_succ, List.getElem?_cons_zero]; rfl, rfl, by unfold execOp; simp [go_sem, e]⟩
  · refine ⟨by decide, by decide, fun b p h => ?_⟩
    have e := (show b.eval (.tmp 85) = .string nm from h.rd 6 _ (by kernel_rfl) rfl)
    exact opV_str _ (by simp only [List.getElem?_toArray, List.getElem?_cons_succ, List.getElem?_cons_zero]; rfl) rfl 85 rfl e hnl
  · exact ⟨by decide, by decide, rfl, rfl, by kernel_rfl, rfl, .inr ⟨5, rfl, by kernel_rfl⟩, _, by simp only [List.getElem?_toArray, List.getElem?_cons_succ, List.getElem?_cons_zero]; rfl, rfl, rfl⟩
  · refine ⟨by decide, by decide, fun b p h => ?_⟩
    have e : b.eval (.tmp 8) = .pointer (some ⟨r8, 0, none⟩) := (h.old 8 (by decide)).trans h8
    obtain ⟨ρ, hρ⟩ : ∃ ρ, b.eval = ρ := ⟨_, rfl⟩
    rw [hρ] at e ⊢
    exact ⟨_, by simp only [List.getElem?_toArray, List.getElem?_cons_succ, List.getElem?_cons_zero]; rfl, rfl, by unfold execOp; simp [go_sem, e]⟩
  · refine ⟨by decide, by decide, fun b p h => ?_⟩
    have e := (show b.eval (.tmp 88) = .pointer (some ⟨r8, 0, none⟩) from h.rd 9 _ (by kernel_rfl) rfl)
    have c := (show p.cell? ⟨r8, 0, none⟩ = some (.int .i64 x.p0) by rw [cell_of (hB.keep h.fr hr8)]; rfl)
    obtain ⟨ρ, hρ⟩ : ∃ ρ, b.eval = ρ := ⟨_, rfl⟩
    rw [hρ] at e ⊢
    exact ⟨_, by simp only [List.getElem?_toArray, List.getElem?_cons_succ, List.getElem?_cons_zero]; rfl, rfl, by unfold execOp; simp [go_sem, e, c]⟩
  · refine ⟨by decide, by decide, fun b p h => ?_⟩
    have e := (show b.eval (.tmp 89) = .int .i64 x.p0 from h.rd 10 _ (by kernel_rfl) rfl)
    exact opV_put _ (by simp only [List.getElem?_toArray, List.getElem?_cons_succ, List.getElem?_cons_zero]; rfl) rfl 89 rfl e (by decide) (by decide)
  · exact ⟨by decide, by decide, rfl, rfl, by kernel_rfl, rfl, .inr ⟨8, rfl, by kernel_rfl⟩, _, by simp only [List.getElem?_toArray, List.getElem?_cons_succ, List.getElem?_cons_zero]; rfl, rfl, rfl⟩
  · exact ⟨rfl, _, by simp only [List.getElem?_toArray, List.getElem?_cons_succ, List.getElem?_cons_zero]; rfl, rfl, rfl, 12, rfl, by kernel_rfl⟩
  · intro b p h1 h2 h3 h4 h5 h6 h7
    refine hQ b p h1 h2 h3 ?_ h5
    replace h4 : OwnB 5 base p (slot b 4) _ := h4
    simpa [beK_two] using h4
end Go.Proofs.YtbohmnblegljkaaDoor
namespace Go.Proofs.YtbohmnblegljkaaDoor
open Go.RowKit Go.Bl
set_option linter.unusedVariables false

noncomputable def rencReg16 : Code := ((Tryd.f30.body.bind (findRegion 16)).getD .skip)
set_option maxRecDepth 1000000 in
set_option maxHeartbeats 8000000 in
theorem renc_16 (w : World) (a : Go.Act) (hsz : a.tmps.size = 144) (base : Nat) (v0 : Value) (xs : List UInt8) (x : ActP) (r8 : Nat) (hv0 : slot a 4 = v0) (hown : OwnB 5 base w v0 xs) (hbase : base ≤ w.heap.size) (hlen : xs.length ≤ 100000000) (h8 : slot a 8 = .pointer (some ⟨r8, 0, none⟩)) (hB : At w r8 (.cells #[.int .i64 x.p0, .int .i64 x.p1, .int .i64 x.p2, .int .i64 x.p3, .int .i64 x.p4, .int .i64 x.p5] 40)) (hr8 : r8 ∉ v0.ownBlock.toList) (Q : Exit → Go.Act → World → Prop)
    (hQ : ∀ (b : Go.Act) (p : World), b.defers = a.defers → b.tmps.size = a.tmps.size → (∀ s, s ∉ [92, 93, 94, 95, 96, 97, 98, 99, 100, 101, 102, 103, 104, 4] → slot b s = slot a s) → OwnB 5 base p (slot b 4) (xs ++ (b8 x.p1 :: b8 x.p2 :: be2 x.p3)) → Fr v0.ownBlock.toList w p → Q .normal b p) : Code.wp Tryd.prog rencReg16 Q a w := by
  conv => arg 2; whnf
  refine wp_region_app (t := 59) (e := 5) (by kernel_rfl) (by kernel_rfl) Tryd.underlying59 Tryd.infoByte [92, 93, 94, 95, 96, 97, 98, 99, 100, 101, 102, 103, 104, 4] [8, 12] [[b8 x.p1, b8 x.p2], beK 2 x.p3] [.mv, .rd (.pointer (some ⟨r8, 1, none⟩)), .rd (.int .i64 x.p1), .rd (.int .u8 (x.p1 % 256)), .rd (.pointer (some ⟨r8, 2, none⟩)), .rd (.int .i64 x.p2), .rd (.int .u8 (x.p2 % 256)), .pc [b8 x.p1, b8 x.p2], .ap 0 7 ([b8 x.p1, b8 x.p2]), .rd (.pointer (some ⟨r8, 3, none⟩)), .rd (.int .i64 x.p3), .pc (beK 2 x.p3), .ap 1 11 (beK 2 x.p3), .fin] 13 base v0 xs (by kernel_rfl) (by decide) (by rw [hsz]; rfl) (by kernel_rfl) (by kernel_rfl) (by decide) (by decide) (of_decide_eq_true (by kernel_rfl)) (by decide) hv0 hown hbase (by simp [beK_len]; omega) rfl ⟨?_, ?_, ?_, ?_, ?_, ?_, ?_, ?_, ?_, ?_, ?_, ?_, ?_, ?_, trivial⟩ ?_
  · exact ⟨rfl, _, by simp only [List.getElem?_toArray, List.getElem?_cons_succ, List.getElem?_cons_zero]; rfl, rfl, rfl⟩
  · refine ⟨by decide, by decide, fun b p h => ?_⟩
    have e : b.eval (.tmp 8) = .pointer (some ⟨r8, 0, none⟩) := (h.old 8 (by decide)).trans h8
    obtain ⟨ρ, hρ⟩ : ∃ ρ, b.eval = ρ := ⟨_, rfl⟩
    rw [hρ] at e ⊢
    exact ⟨_, by simp only [List.getElem?_toArray, List.getElem?_cons_succ, List.getElem?_cons_zero]; rfl, rfl, by unfold execOp; simp [go_sem, e]⟩
  · refine ⟨by decide, by decide, fun b p h => ?_⟩
    have e := (show b.eval (.tmp 93) = .pointer (some ⟨r8, 1, none⟩) from h.rd 1 _ (by kernel_rfl) rfl)
    have c := (show p.cell? ⟨r8, 1, none⟩ = some (.int .i64 x.p1) by rw [cell_of (hB.keep h.fr hr8)]; rfl)
    obtain ⟨ρ, hρ⟩ : ∃ ρ, b.eval = ρ := ⟨_, rfl⟩
    rw [hρ] at e ⊢
    exact ⟨_, by simp only [List.getElem?_toArray, List.getElem?_cons_succ, List.getElem?_cons_zero]; rfl, rfl, by unfold execOp; simp [go_sem, e, c]⟩
  · refine ⟨by decide, by decide, fun b p h => ?_⟩
    have e := (show b.eval (.tmp 94) = .int .i64 x.p1 from h.rd 2 _ (by kernel_rfl) rfl)
    obtain ⟨ρ, hρ⟩ : ∃ ρ, b.eval = ρ := ⟨_, rfl⟩
    rw [hρ] at e ⊢
    exact ⟨_, by simp only [List.getElem?_toArray, List.getElem?_cons_succ, List.getElem?_cons_zero]; rfl, rfl, by unfold execOp; simp [go_sem, e, IntKind.wrap_u8]⟩
  · refine ⟨by decide, by decide, fun b p h => ?_⟩
    have e : b.eval (.tmp 8) = .pointer (some ⟨r8, 0, none⟩) := (h.old 8 (by decide)).trans h8
    obtain ⟨ρ, hρ⟩ : ∃ ρ, b.eval = ρ := ⟨_, rfl⟩
    rw [hρ] at e ⊢
    exact ⟨_, by simp only [List.getElem?_toArray, List.getElem?_cons_succ, List.getElem?_cons_zero]; rfl, rfl, by unfold execOp; simp [go_sem, e]⟩
  · refine ⟨by decide, by decide, fun b p h => ?_⟩
    have e := (show b.eval (.tmp 96) = .pointer (some ⟨r8, 2, none⟩) from h.rd 4 _ (by kernel_rfl) rfl)
    have c := (show p.cell? ⟨r8, 2, none⟩ = some (.int .i64 x.p2) by rw [cell_of (hB.keep h.fr hr8)]; rfl)
    obtain ⟨ρ, hρ⟩ : ∃ ρ, b.eval = ρ := ⟨_, rfl⟩
    rw [hρ] at e ⊢
    exact ⟨_, by simp only [List.getElem?_toArray, List.getElem?_cons_succ, List.getElem?_cons_zero]; rfl, rfl, by unfold execOp; simp [go_sem, e, c]⟩
  · refine ⟨by decide, by decide, fun b p h => ?_⟩
    have e := (show b.eval (.tmp 97) = .int .i64 x.p2 from h.rd 5 _ (by kernel_rfl) rfl)
    obtain ⟨ρ, hρ⟩ : ∃ ρ, b.eval = ρ := ⟨_, rfl⟩
    rw [hρ] at e ⊢
    exact ⟨_, by simp only [List.getElem?_toArray, List.getElem?_cons_succ, List.getElem?_cons_zero]; rfl, rfl, by unfold execOp; simp [go_sem, e, IntKind.wrap_u8]⟩
  · refine ⟨by decide, by decide, fun b p h => ?_⟩
    have e0 := (show b.eval (.tmp 95) = .int .u8 (x.p1 % 256) from h.rd 3 _ (by kernel_rfl) rfl)
    have e1 := (show b.eval (.tmp 98) = .int .u8 (x.p2 % 256) from h.rd 6 _ (by kernel_rfl) rfl)
    refine opV_block _ (by simp only [List.getElem?_toArray, List.getElem?_cons_succ, List.getElem?_cons_zero]; rfl) rfl #[.int .u8 (x.p1 % 256), .int .u8 (x.p2 % 256)] ?_ (by simp [b8v]) (by simp)
    obtain ⟨ρ, hρ⟩ : ∃ ρ, b.eval = ρ := ⟨_, rfl⟩
    rw [hρ] at e0 e1 ⊢
    unfold execOp; simp [go_sem, e0, e1]
  · exact ⟨by decide, by decide, rfl, rfl, by kernel_rfl, rfl, .inl ⟨rfl, by kernel_rfl⟩, _, by simp only [List.getElem?_toArray, List.getElem?_cons_succ, List.getElem?_cons_zero]; rfl, rfl, rfl⟩
  · refine ⟨by decide, by decide, fun b p h => ?_⟩
    have e : b.eval (.tmp 8) = .pointer (some ⟨r8, 0, none⟩) := (h.old 8 (by decide)).trans h8
    obtain ⟨ρ, hρ⟩ : ∃ ρ, b.eval = ρ := ⟨_, rfl⟩
    rw [hρ] at e ⊢
    exact ⟨_, by simp only [List.getElem?_toArray, List.getElem?_cons_succ, List.getElem?_cons_zero]; rfl, rfl, by unfold execOp; simp [go_sem, e]⟩
  · refine ⟨by decide, by decide, fun b p h => ?_⟩
    have e := (show b.eval (.tmp 101) = .pointer (some ⟨r8, 3, none⟩) from h.rd 9 _ (by kernel_rfl) rfl)
    have c := (show p.cell? ⟨r8, 3, none⟩ = some (.int .i64 x.p3) by rw [cell_of (hB.keep h.fr hr8)]; rfl)
    obtain ⟨ρ, hρ⟩ : ∃ ρ, b.eval = ρ := ⟨_, rfl⟩
    rw [hρ] at e ⊢
    exact ⟨_, by simp only [List.getElem?_toArray, List.getElem?_cons_succ, List.getElem?_cons_zero]; rfl, rfl, by unfold execOp; simp [go_sem, e, c]⟩
  · refine ⟨by decide, by decide, fun b p h => ?_⟩
    have e := (show b.eval (.tmp 102) = .int .i64 x.p3 from h.rd 10 _ (by kernel_rfl) rfl)
    exact opV_put _ (by simp only [List.getElem?_toArray, List.getElem?_cons_succ, List.getElem?_cons_zero]; rfl) rfl 102 rfl e (by decide) (by decide)
  · exact ⟨by decide, by decide, rfl, rfl, by kernel_rfl, rfl, .inr ⟨8, rfl, by kernel_rfl⟩, _, by simp only [List.getElem?_toArray, List.getElem?_cons_succ, List.getElem?_cons_zero]; rfl, rfl, rfl⟩
  · exact ⟨rfl, _, by simp only [List.getElem?_toArray, List.getElem?_cons_succ, List.getElem?_cons_zero]; rfl, rfl, rfl, 12, rfl, by kernel_rfl⟩
  · intro b p h1 h2 h3 h4 h5 h6 h7
    refine hQ b p h1 h2 h3 ?_ h5
    replace h4 : OwnB 5 base p (slot b 4) _ := h4
    simpa [beK_two] using h4
end Go.Proofs.YtbohmnblegljkaaDoor
namespace Go.Proofs.YtbohmnblegljkaaDoor
open Go.RowKit Go.Bl
set_option linter.unusedVariables false

noncomputable def rencReg17 : Code := ((Tryd.f30.body.bind (findRegion 17)).getD .skip)
set_option maxRecDepth 1000000 in
set_option maxHeartbeats 8000000 in
theorem renc_17 (w : World) (a : Go.Act) (hsz : a.tmps.size = 144) (base : Nat) (v0 : Value) (xs : List UInt8) (x : ActP) (r8 : Nat) (hv0 : slot a 4 = v0) (hown : OwnB 5 base w v0 xs) (hbase : base ≤ w.heap.size) (hlen : xs.length ≤ 100000000) (h8 : slot a 8 = .pointer (some ⟨r8, 0, none⟩)) (hB : At w r8 (.cells #[.int .i64 x.p0, .int .i64 x.p1, .int .i64 x.p2, .int .i64 x.p3, .int .i64 x.p4, .int .i64 x.p5] 40)) (hr8 : r8 ∉ v0.ownBlock.toList) (Q : Exit → Go.Act → World → Prop)
    (hQ : ∀ (b : Go.Act) (p : World), b.defers = a.defers → b.tmps.size = a.tmps.size → (∀ s, s ∉ [105, 106, 107, 108, 109, 110, 111, 112, 113, 114, 4] → slot b s = slot a s) → OwnB 5 base p (slot b 4) (xs ++ (be2 x.p4 ++ [b8 x.p5])) → Fr v0.ownBlock.toList w p → Q .normal b p) : Code.wp Tryd.prog rencReg17 Q a w := by
  conv => arg 2; whnf
  refine wp_region_app (t := 59) (e := 5) (by kernel_rfl) (by kernel_rfl) Tryd.underlying59 Tryd.infoByte [105, 106, 107, 108, 109, 110, 111, 112, 113, 114, 4] [4, 9] [beK 2 x.p4, [b8 x.p5]] [.mv, .rd (.pointer (some ⟨r8, 4, none⟩)), .rd (.int .i64 x.p4), .pc (beK 2 x.p4), .ap 0 3 (beK 2 x.p4), .rd (.pointer (some ⟨r8, 5, none⟩)), .rd (.int .i64 x.p5), .rd (.int .u8 (x.p5 % 256)), .pc [b8 x.p5], .ap 1 8 ([b8 x.p5]), .fin] 10 base v0 xs (by kernel_rfl) (by decide) (by rw [hsz]; rfl) (by kernel_rfl) (by kernel_rfl) (by decide) (by decide) (of_decide_eq_true (by kernel_rfl)) (by decide) hv0 hown hbase (by simp [beK_len]; omega) rfl ⟨?_, ?_, ?_, ?_, ?_, ?_, ?_, ?_, ?_, ?_, ?_, trivial⟩ ?_
  · exact ⟨rfl, _, by simp only [List.getElem?_toArray, List.getElem?_cons_succ, List.getElem?_cons_zero]; rfl, rfl, rfl⟩
  · refine ⟨by decide, by decide, fun b p h => ?_⟩
    have e : b.eval (.tmp 8) = .pointer (some ⟨r8, 0, none⟩) := (h.old 8 (by decide)).trans h8
    obtain ⟨ρ, hρ⟩ : ∃ ρ, b.eval = ρ := ⟨_, rfl⟩
    rw [hρ] at e ⊢
    exact ⟨_, by simp only [List.getElem?_toArray, List.getElem?_cons_succ, List.getElem?_cons_zero]; rfl, rfl, by unfold execOp; simp [go_sem, e]⟩
  · refine ⟨by decide, by decide, fun b p h => ?_⟩
    have e := (show b.eval (.tmp 106) = .pointer (some ⟨r8, 4, none⟩) from h.rd 1 _ (by kernel_rfl) rfl)
    have c := (show p.cell? ⟨r8, 4, none⟩ = some (.int .i64 x.p4) by rw [cell_of (hB.keep h.fr hr8)]; rfl)
    obtain ⟨ρ, hρ⟩ : ∃ ρ, b.eval = ρ := ⟨_, rfl⟩
    rw [hρ] at e ⊢
    exact ⟨_, by simp only [List.getElem?_toArray, List.getElem?_cons_succ, List.getElem?_cons_zero]; rfl, rfl, by unfold execOp; simp [go_sem, e, c]⟩
  · refine ⟨by decide, by decide, fun b p h => ?_⟩
    have e := (show b.eval (.tmp 107) = .int .i64 x.p4 from h.rd 2 _ (by kernel_rfl) rfl)
    exact opV_put _ (by simp only [List.getElem?_toArray, List.getElem?_cons_succ, List.getElem?_cons_zero]; rfl) rfl 107 rfl e (by decide) (by decide)
  · exact ⟨by decide, by decide, rfl, rfl, by kernel_rfl, rfl, .inl ⟨rfl, by kernel_rfl⟩, _, by simp only [List.getElem?_toArray, List.getElem?_cons_succ, List.getElem?_cons_zero]; rfl, rfl, rfl⟩
  · refine ⟨by decide, by decide, fun b p h => ?_⟩
    have e : b.eval (.tmp 8) = .pointer (some ⟨r8, 0, none⟩) := (h.old 8 (by decide)).trans h8
    obtain ⟨ρ, hρ⟩ : ∃ ρ, b.eval = ρ := ⟨_, rfl⟩
    rw [hρ] at e ⊢
    exact ⟨_, by simp only [List.getElem?_toArray, List.getElem?_cons_succ, List.getElem?_cons_zero]; rfl, rfl, by unfold execOp; simp [go_sem, e]⟩
  · refine ⟨by decide, by decide, fun b p h => ?_⟩
    have e := (show b.eval (.tmp 110) = .pointer (some ⟨r8, 5, none⟩) from h.rd 5 _ (by kernel_rfl) rfl)
    have c := (show p.cell? ⟨r8, 5, none⟩ = some (.int .i64 x.p5) by rw [cell_of (hB.keep h.fr hr8)]; rfl)
    obtain ⟨ρ, hρ⟩ : ∃ ρ, b.eval = ρ := ⟨_, rfl⟩
    rw [hρ] at e ⊢
    exact ⟨_, by simp only [List.getElem?_toArray, List.getElem?_cons_succ, List.getElem?_cons_zero]; rfl, rfl, by unfold execOp; simp [go_sem, e, c]⟩
  · refine ⟨by decide, by decide, fun b p h => ?_⟩
    have e := (show b.eval (.tmp 111) = .int .i64 x.p5 from h.rd 6 _ (by kernel_rfl) rfl)
    obtain ⟨ρ, hρ⟩ : ∃ ρ, b.eval = ρ := ⟨_, rfl⟩
    rw [hρ] at e ⊢
    exact ⟨_, by simp only [List.getElem?_toArray, List.getElem?_cons_succ, List.getElem?_cons_zero]; rfl, rfl, by unfold execOp; simp [go_sem, e, IntKind.wrap_u8]⟩
  · refine ⟨by decide, by decide, fun b p h => ?_⟩
    have e0 := (show b.eval (.tmp 112) = .int .u8 (x.p5 % 256) from h.rd 7 _ (by kernel_rfl) rfl)
    refine opV_block _ (by simp only [List.getElem?_toArray, List.getElem?_cons_succ, List.getElem?_cons_zero]; rfl) rfl #[.int .u8 (x.p5 % 256)] ?_ (by simp [b8v]) (by simp)
    obtain ⟨ρ, hρ⟩ : ∃ ρ, b.eval = ρ := ⟨_, rfl⟩
    rw [hρ] at e0 ⊢
    unfold execOp; simp [go_sem, e0]
  · exact ⟨by decide, by decide, rfl, rfl, by kernel_rfl, rfl, .inr ⟨4, rfl, by kernel_rfl⟩, _, by simp only [List.getElem?_toArray, List.getElem?_cons_succ, List.getElem?_cons_zero]; rfl, rfl, rfl⟩
  · exact ⟨rfl, _, by simp only [List.getElem?_toArray, List.getElem?_cons_succ, List.getElem?_cons_zero]; rfl, rfl, rfl, 9, rfl, by kernel_rfl⟩
  · intro b p h1 h2 h3 h4 h5 h6 h7
    refine hQ b p h1 h2 h3 ?_ h5
    replace h4 : OwnB 5 base p (slot b 4) _ := h4
    simpa [beK_two] using h4
end Go.Proofs.YtbohmnblegljkaaDoor
