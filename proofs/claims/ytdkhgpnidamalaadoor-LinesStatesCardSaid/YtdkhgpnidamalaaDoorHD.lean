/-
  The project's errors: what the listed variables hold, errors.Is between them, and the number of an error.
  From a walk to a statement: what every law of this seat does alike.
-/
import Derived.Test.YtdkhgpnidamalaaDoorRows
import Derived.Test.YtdkhgpnidamalaaDoorGA
import Derived.ProofKit
import Derived.WalkLawsBesides
import Derived.WalkSpells
import Derived.LaidEql
import Derived.Stop.Asserts
import Derived.RowKitTokens
import Derived.OpenShut
import Derived.LaidMore
import Derived.Stop.Joined
import Derived.Stop.LaidErr
import Derived.Deep.DeepHandedRow
import Derived.SizedLaws
namespace Go.Proofs.YtdkhgpnidamalaaDoor
open Go.RowKit Go.Bl Go.Extern.Stop Go.Stop Go.Extern
set_option linter.unusedVariables false

/-- the variable that holds the error of a number -/
def gOf (k : Nat) : Nat := [0, 0, 0, 0, 0, 0, 0, 0, 0, 0, 0, 0, 0, 0, 0, 0, 0, 0, 0, 0, 0].getD k 0

/-! closed facts -/
def all20 : List Nat := []
end Go.Proofs.YtdkhgpnidamalaaDoor
namespace Go.Proofs.YtdkhgpnidamalaaDoor
open Go.RowKit Go.Bl Go.ChangeShapes Go.WideShapes
set_option linter.unusedVariables false

theorem Tryd.own : ownKnob Tryd.prog.godebug = none := by kernel_rfl
theorem Tryd.laidOutAll : laidOutB Tryd.prog = true := by kernel_rfl

theorem trodAll_stays {H : Type} {enc : TypeId × Value → H} {W W' : World} (hf : Below W.heap.size W W') : ∀ (ts : List TypeId) (vs : List Value) (ds : List (DataW H)) (ps : List MemPlace),
    (∀ t ∈ ts, Tryd.prog.readableRec t = true ∧ t < Tryd.prog.types.size) → (∀ x ∈ ps, x.block < W.heap.size) →
    DataW.TrodAll enc Tryd.prog W 0 (fun _ => true) true ts vs ds ps → DataW.TrodAll enc Tryd.prog W' 0 (fun b => decide (b < W.heap.size)) true ts vs ds ps
  | [], vs, ds, ps, _, _, h => by
    obtain ⟨rfl, rfl, rfl⟩ := trodAll_nil h
    exact trodAll_mk0
  | t :: ts, vs, ds, ps, ht, hlt, h => by
    obtain ⟨v, vs', d, ds', p, q, rfl, rfl, rfl, h1, h2⟩ := trodAll_cons h
    have h1' := Below.trod Tryd.laidOutAll (ht t (by simp)).1 (ht t (by simp)).2 h1 hf (fun x hx => hlt x (List.mem_append_left _ hx))
    have h2' := trodAll_stays hf ts vs' ds' q (fun t h => ht t (by simp [h])) (fun x hx => hlt x (List.mem_append_right _ hx)) h2
    exact trodAll_cons_mk h1' h2'

/-- what a law's walk comes to, as its row asks it -/
theorem law_post {H : Type} {enc : TypeId × Value → H} {f : Func} {s : ChangeSpec} {W W' : World} {args : Array Value} {ds gs : List (DataW H)} {before : List MemPlace}
    (hW : DataW.Whole enc Tryd.prog f.params.toList s.vars false W args.toList ds gs before) (hvars : s.vars = []) (hr : f.resultTypes = #[4])
    (hres : (s.fn H (ds ++ gs)).results = [.lit (.bool true)]) (hargs : (s.fn H (ds ++ gs)).args = ds) (hvs : (s.fn H (ds ++ gs)).vars = [])
    (ht : ∀ t ∈ f.params.toList, Tryd.prog.readableRec t = true ∧ t < Tryd.prog.types.size) (hf : Fr [] W W') :
    s.post enc Tryd.prog f false true false false W args (.bool true) W' := by
  have hW' := hW
  obtain ⟨p, q, hA, hV, rfl, hfz, hnd⟩ := hW
  have hV' := hV
  rw [hvars] at hV'
  obtain ⟨rfl, rfl⟩ := trodVars_none hV'
  refine ⟨ds, [], p ++ [], [], p, [], hW', ?_, ?_, ?_, hf.below.frame _, fun h => by cases h⟩
  · rw [hres, hr]
    exact trodAll_mk1 (shut_bool Tryd.underlying4 _)
  · rw [hargs]
    exact trodAll_stays hf.below _ _ _ _ ht (fun x hx => by simpa using hW'.lt x (by simpa using hx)) hA
  · rw [hvs, hvars]
    rfl

/-! what the listed variables give -/
theorem Tryd.cellsString : Tryd.prog.cellsOf 9 = 1 := by kernel_rfl

def nmOf (k : Nat) : String := ["", "bailee/api.ErrRange", "bailee/api.ErrShort", "bailee/api.ErrLong", "bailee/api.ErrForm", "bailee/api.ErrSum", "bailee/api.ErrName", "bailee/api.ErrKind", "bailee/api.ErrSize", "bailee/api.ErrKey", "bailee/api.ErrDup", "bailee/api.ErrNone", "bailee/api.ErrFull", "bailee/api.ErrState", "bailee/api.ErrPower", "bailee/api.ErrProof", "bailee/api.ErrSpare", "bailee/api.ErrLost", "bailee/api.ErrBudget", "bailee/api.ErrLate", "bailee/api.ErrZero"].getD k ""

/-- the places that the listed errors take up -/
def errPlaces (E : Nat → Addr) : List Nat → List MemPlace
  | [] => []
  | k :: r => MemPlace.row ⟨gOf k, 0, none⟩ 1 ++ MemPlace.row (E k) 1 ++ errPlaces E r

theorem heap_of_var {P : Program} {W : World} {n : String} {g : Nat} {cs : Array Value} (hg : P.globalNamed n = some g) (h : W.var? P n = some cs) : ∃ t fz, W.heap[g]? = some (.cells cs t fz) := by
  unfold World.var? at h
  rw [hg] at h
  simp only [Option.bind_some] at h
  split at h
  · rename_i c t fz hh
    cases h
    exact ⟨t, fz, hh⟩
  · cases h

theorem mem_errPlaces (E : Nat → Addr) (k : Nat) : ∀ (ks : List Nat), k ∈ ks → MemPlace.cell (gOf k) 0 ∈ errPlaces E ks ∧ MemPlace.cell (E k).block (E k).off ∈ errPlaces E ks
  | [], h => by cases h
  | x :: r, h => by
    by_cases hx : k = x
    · subst hx; simp [errPlaces, MemPlace.row]
    · have := mem_errPlaces E k r (by simpa [hx] using h)
      simp only [errPlaces, List.mem_append]
      exact ⟨.inr this.1, .inr this.2⟩

theorem inj_errPlaces (E : Nat → Addr) : ∀ (ks : List Nat), (errPlaces E ks).Nodup → ∀ j ∈ ks, ∀ k ∈ ks, j ≠ k → (E j).block = (E k).block → (E j).off = (E k).off → False
  | [], _, j, hj, _, _, _, _, _ => by cases hj
  | x :: r, hn, j, hj, k, hk, hne, hb, ho => by
    simp only [errPlaces] at hn
    have hn2 := (List.nodup_append.1 hn).2.1
    have hap := (List.nodup_append.1 hn).2.2
    by_cases hjx : j = x
    · subst hjx
      have hk' : k ∈ r := by simpa [Ne.symm hne] using hk
      exact hap (MemPlace.cell (E j).block (E j).off) (by simp [MemPlace.row]) (MemPlace.cell (E k).block (E k).off) (mem_errPlaces E k r hk').2 (by rw [hb, ho])
    · by_cases hkx : k = x
      · subst hkx
        have hj' : j ∈ r := by simpa [hjx] using hj
        exact hap (MemPlace.cell (E k).block (E k).off) (by simp [MemPlace.row]) (MemPlace.cell (E j).block (E j).off) (mem_errPlaces E j r hj').2 (by rw [hb, ho])
      · exact inj_errPlaces E r hn2 j (by simpa [hjx] using hj) k (by simpa [hkx] using hk) hne hb ho

end Go.Proofs.YtdkhgpnidamalaaDoor
