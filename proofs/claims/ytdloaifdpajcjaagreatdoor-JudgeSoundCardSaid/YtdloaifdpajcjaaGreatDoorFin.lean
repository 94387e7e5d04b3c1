import Derived.Test.YtdloaifdpajcjaaGreatDoorGE
import Derived.OpenShut
import Derived.LaidMore
import Derived.Stop.LaidErr
import Derived.Deep.DeepHandedRow
set_option linter.unusedVariables false
set_option linter.unusedSimpArgs false
set_option maxRecDepth 1000000
set_option maxHeartbeats 8000000
namespace Go.Proofs.YtdloaifdpajcjaaGreatDoor
open Go.RowKit Go.Bl Go.ChangeShapes Go.WideShapes
theorem Tryz.own : ownKnob Tryz.prog.godebug = none := by kernel_rfl
theorem Tryz.laidOutAll : laidOutB Tryz.prog = true := by kernel_rfl
theorem QD {H : Type} {enc : TypeId × Value -> H} {W W' : World} (hf : Below W.heap.size W W') : ∀ (ts : List TypeId) (vs : List Value) (ds : List (DataW H)) (ps : List MemPlace),
  (∀ t ∈ ts, Tryz.prog.readableRec t = true /\ t < Tryz.prog.types.size) -> (∀ x ∈ ps, x.block < W.heap.size) ->
  DataW.TrodAll enc Tryz.prog W 0 (fun _ => true) true ts vs ds ps -> DataW.TrodAll enc Tryz.prog W' 0 (fun b => decide (b < W.heap.size)) true ts vs ds ps
 | [], vs, ds, ps, _, _, h => by
  obtain ⟨rfl, rfl, rfl⟩ := trodAll_nil h
  exact trodAll_mk0
 | t :: ts, vs, ds, ps, ht, hlt, h => by
  obtain ⟨v, vs', d, ds', p, q, rfl, rfl, rfl, h1, h2⟩ := trodAll_cons h
  have h1' := Below.trod Tryz.laidOutAll (ht t Y85).1 (ht t Y85).2 h1 hf (fun x hx => hlt x (List.mem_append_left _ hx))
  have h2' := QD hf ts vs' ds' q (fun t h => ht t (by simp [h])) (fun x hx => hlt x (List.mem_append_right _ hx)) h2
  exact trodAll_cons_mk h1' h2'
theorem qex {H : Type} {enc : TypeId × Value -> H} {f : Func} {s : ChangeSpec} {W W' : World} {args : Array Value} {ds gs : List (DataW H)} {before : List MemPlace}
  (hW : DataW.Whole enc Tryz.prog f.params.toList s.vars false W args.toList ds gs before) (hvars : s.vars = []) (hr : f.resultTypes = #[4])
  (hres : (s.fn H (ds ++ gs)).results = [.lit (.bool true)]) (hargs : (s.fn H (ds ++ gs)).args = ds) (hvs : (s.fn H (ds ++ gs)).vars = [])
  (ht : ∀ t ∈ f.params.toList, Tryz.prog.readableRec t = true /\ t < Tryz.prog.types.size) (hf : Fr [] W W') :
  s.post enc Tryz.prog f false true false false W args (.bool true) W' := by
 have hW' := hW
 obtain ⟨p, q, hA, hV, rfl, hfz, hnd⟩ := hW
 have hV' := hV
 rw [hvars] at hV'
 obtain ⟨rfl, rfl⟩ := trodVars_none hV'
 refine ⟨ds, [], p ++ [], [], p, [], hW', ?_, ?_, ?_, hf.below.frame _, fun h => by cases h⟩
 ·rw [hres, hr]
  exact trodAll_mk1 (shut_bool Tryz.underlying4 _)
 ·rw [hargs]
  exact QD hf.below _ _ _ _ ht (fun x hx => by simpa using hW'.lt x (by simpa using hx)) hA
 ·rw [hvs, hvars]
  rfl
theorem Tryz.rowE (u : TypeId) (h : Tryz.prog.typeName? 3 u = some "*errors.errorString") : u = 393 :=
 typeName_ptr_named (nm := "errors.errorString") (by rw [show "*" ++ "errors.errorString" = "*errors.errorString" from by decide]; kernel_rfl) Y55 Y86 u (by rw [show "*" ++ "errors.errorString" = "*errors.errorString" from by decide]; exact h)
theorem Tryz.cellsErrs : Tryz.prog.cellsOf 416 = 1 := by kernel_rfl
theorem Tryz.cellsString : Tryz.prog.cellsOf 9 = 1 := by kernel_rfl
def Lh (k : Nat) : String := ["", "bailee/api.ErrRange", "bailee/api.ErrShort", "bailee/api.ErrLong", "bailee/api.ErrForm", "bailee/api.ErrSum", "bailee/api.ErrName", "bailee/api.ErrKind", "bailee/api.ErrSize", "bailee/api.ErrKey", "bailee/api.ErrDup", "bailee/api.ErrNone", "bailee/api.ErrFull", "bailee/api.ErrState", "bailee/api.ErrPower", "bailee/api.ErrProof", "bailee/api.ErrSpare", "bailee/api.ErrLost", "bailee/api.ErrBudget", "bailee/api.ErrLate", "bailee/api.ErrZero"].getD k ""
def jB (E : Nat -> Addr) : List Nat -> List MemPlace
 | [] => []
 | k :: r => MemPlace.row ⟨gOf k, 0, none⟩ 1 ++ MemPlace.row (E k) 1 ++ jB E r
theorem ZQ {P : Program} {W : World} {n : String} {g : Nat} {cs : Array Value} (hg : P.globalNamed n = some g) (h : W.var? P n = some cs) : ∃ t fz, W.heap[g]? = some (.cells cs t fz) := by
 unfold World.var? at h
 rw [hg] at h
 simp only [Option.bind_some] at h
 split at h
 ·rename_i c t fz hh
  cases h
  exact ⟨t, fz, hh⟩
 ·cases h
theorem Xj {W : World} (text : Nat -> List UInt8) : ∀ (ks : List Nat), ks.Nodup -> (∀ k ∈ ks, Tryz.prog.globalNamed (Lh k) = some (gOf k) /\ (Tryz.prog.globals[gOf k]?).map (·.type) = some 40) ->
  ∀ (ps : List MemPlace), DataW.LaidVars Tryz.prog W (ks.map fun k => (Lh k, .iface "*errors.errorString" (.ptr (.agg [.lit (.string (text k))])))) ps ->
  (∀ b off, MemPlace.cell b off ∈ ps -> ∀ u v, W.cell? ⟨b, off, none⟩ = some (.iface u v) -> Value.okWide Tryz.prog W .any 0 u v) ->
  ∃ E : Nat -> Addr, ps = jB E ks /\ ∀ k ∈ ks, (∃ t fz, W.heap[gOf k]? = some (.cells #[.iface 393 (.pointer (some (E k)))] t fz)) /\ (E k).spot = none
 | [], _, _, ps, h, _ => ⟨fun _ => ⟨0, 0, none⟩, h, fun k hk => by cases hk⟩
 | k :: r, hn, hcl, ps, h, hok => by
  obtain ⟨g0, t0, cs0, f0, p0, q0, hg0, ht0, hv0, hd0, hq, e0⟩ := h
  obtain ⟨hg, ht⟩ := hcl k Y85
  obtain rfl := Option.some.inj (hg.symm.trans hg0)
  obtain rfl := Option.some.inj (ht.symm.trans ht0)
  subst e0
  obtain ⟨l0⟩ := cs0
  have ok0 : ∀ u v, l0 = [.iface u v] -> Value.okWide Tryz.prog W .any 0 u v := fun u v e => by
   subst e
   obtain ⟨t, fz, hh⟩ := ZQ hg hv0
   exact hok (gOf k) 0 (List.mem_append_left _ (List.mem_append_left _ (by simp [MemPlace.row]))) u v (by rw [qM hh]; rfl)
  obtain ⟨a0, s0, rfl, hc0, hs0, hz0, rfl⟩ := errorString_of_trod Tryz.underlying40 Tryz.rowE Tryz.underlying393 Tryz.underlying416 rfl rfl Tryz.underlying9 Tryz.cellsErrs Tryz.cellsString hd0 ok0
  obtain ⟨E, rfl, hE⟩ := Xj text r (List.nodup_cons.1 hn).2 (fun k hk => hcl k (by simp [hk])) q0 hq (fun b off hm => hok b off (List.mem_append_right _ hm))
  have hspot : a0.spot = none := by
   unfold World.cell? at hc0
   split at hc0
   ·split at hc0
    ·cases hc0
    ·rename_i hs
     cases hsp : a0.spot with
     | none => rfl
     | some x => rw [hsp] at hs; simp at hs
   ·cases hc0
  have hnot := (List.nodup_cons.1 hn).1
  have hpl : ∀ (r : List Nat), k ∉ r -> jB (fun j => if j = k then a0 else E j) r = jB E r := by
   intro r
   induction r with
   | nil => intro _; rfl
   | cons x r ih =>
    intro hx
    simp only [List.mem_cons, not_or] at hx
    simp only [jB, if_neg (Ne.symm hx.1), ih hx.2]
  refine ⟨fun j => if j = k then a0 else E j, ?_, fun j hj => ?_⟩
  ·simp only [jB, if_true, hpl r hnot]
   rfl
  ·by_cases hjk : j = k
   ·subst hjk
    simp only [if_true]
    exact ⟨ZQ hg hv0, hspot⟩
   ·simp only [if_neg hjk]
    exact hE j (by simpa [hjk] using hj)
theorem uC (E : Nat -> Addr) (k : Nat) : ∀ (ks : List Nat), k ∈ ks -> MemPlace.cell (gOf k) 0 ∈ jB E ks /\ MemPlace.cell (E k).block (E k).off ∈ jB E ks
 | [], h => by cases h
 | x :: r, h => by
  by_cases hx : k = x
  ·subst hx; simp [jB, MemPlace.row]
  ·have := uC E k r (by simpa [hx] using h)
   simp only [jB, List.mem_append]
   exact ⟨.inr this.1, .inr this.2⟩
theorem Qs (E : Nat -> Addr) : ∀ (ks : List Nat), (jB E ks).Nodup -> ∀ j ∈ ks, ∀ k ∈ ks, j ≠ k -> (E j).block = (E k).block -> (E j).off = (E k).off -> False
 | [], _, j, hj, _, _, _, _, _ => by cases hj
 | x :: r, hn, j, hj, k, hk, hne, hb, ho => by
  simp only [jB] at hn
  have hn2 := (List.nodup_append.1 hn).2.1
  have hap := (List.nodup_append.1 hn).2.2
  by_cases hjx : j = x
  ·subst hjx
   have hk' : k ∈ r := by simpa [Ne.symm hne] using hk
   exact hap (MemPlace.cell (E j).block (E j).off) (by simp [MemPlace.row]) (MemPlace.cell (E k).block (E k).off) (uC E k r hk').2 (by rw [hb, ho])
  ·by_cases hkx : k = x
   ·subst hkx
    have hj' : j ∈ r := by simpa [hjx] using hj
    exact hap (MemPlace.cell (E k).block (E k).off) (by simp [MemPlace.row]) (MemPlace.cell (E j).block (E j).off) (uC E j r hj').2 (by rw [hb, ho])
   ·exact Qs E r hn2 j (by simpa [hjx] using hj) k (by simpa [hkx] using hk) hne hb ho
theorem XT {W : World} (text : Nat -> List UInt8) (ks : List Nat) (hn : ks.Nodup) (hcl : ∀ k ∈ ks, Tryz.prog.globalNamed (Lh k) = some (gOf k) /\ (Tryz.prog.globals[gOf k]?).map (·.type) = some 40)
  (h : laidMet Tryz.prog (ks.map fun k => (Lh k, .iface "*errors.errorString" (.ptr (.agg [.lit (.string (text k))])))) W) : ∃ E, ya ks E W.heap.size W := by
 obtain ⟨ps, hv, hnd, hrows⟩ := h
 obtain ⟨E, rfl, hE⟩ := Xj text ks hn hcl ps hv (fun b off hm => (hrows b off hm).2)
 have lt : ∀ (b : Nat) (o : Obj), W.heap[b]? = some o -> b < W.heap.size := fun b o h => qk h
 have hblk : ∀ k ∈ ks, ∃ c t, W.heap[(E k).block]? = some (.cells c t (0, 0)) := fun k hk => (hrows _ _ (uC E k ks hk).2).1
 refine ⟨E, fun k hk => (hE k hk).1, hblk, fun j hj k hk hne e => ?_, fun k hk => ?_, fun k hk => ?_⟩
 ·exact Qs E ks hnd j hj k hk hne (by rw [e]) (by rw [e])
 ·obtain ⟨t, fz, h⟩ := (hE k hk).1
  exact lt _ _ h
 ·obtain ⟨c, t, h⟩ := hblk k hk
  exact lt _ _ h
end Go.Proofs.YtdloaifdpajcjaaGreatDoor
