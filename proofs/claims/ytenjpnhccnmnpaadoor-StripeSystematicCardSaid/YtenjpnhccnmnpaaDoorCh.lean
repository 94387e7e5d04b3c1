/-
  A law on the model: a region that draws its order: operations that read, and a chain of operations (calls, stores) one behind another.
-/
import Derived.Test.YtenjpnhccnmnpaaDoorInv
namespace Go.Bl
open Go.RowKit
set_option linter.unusedVariables false

inductive CK where
  | rd (v : Value) (mx : Nat)
  | st (j : Nat)
def CK.isSt : Option CK → Bool
  | some (.st _) => true
  | _ => false
def allAtC (f : Nat → CK → Prop) : Nat → List CK → Prop
  | _, [] => True
  | i, k :: l => f i k ∧ allAtC f (i + 1) l
theorem allAtC_get {f : Nat → CK → Prop} : ∀ (l : List CK) (i0 j : Nat) (k : CK), allAtC f i0 l → l[j]? = some k → f (i0 + j) k
  | [], _, _, _, _, h => by simp at h
  | x :: l, i0, 0, k, h, hk => by simp at hk; subst hk; exact h.1
  | x :: l, i0, j + 1, k, h, hk => by
    have := allAtC_get l (i0 + 1) j k h.2 (by simpa using hk)
    rwa [show i0 + 1 + j = i0 + (j + 1) by omega] at this
theorem slotc_self {a : Act} {d : Nat} {v : Value} (h : d < a.tmps.size) : slot (a.put (some d) v) d = v := by simp [slot, Act.put, h]
theorem slotc_ne {a : Act} {d k : Nat} {v : Value} (h : k ≠ d) : slot (a.put (some d) v) k = slot a k := by
  simp only [slot, Act.put, Array.getD_eq_getD_getElem?]
  rw [Array.getElem?_setIfInBounds_ne (Ne.symm h)]
/-- what an operation may lean on -/
structure SeesC (ops : Array Oper) (D : List (Option Nat)) (kl : List CK) (cv : Nat → Value) (a : Act) (i : Nat) (b : Act) : Prop where
  old : ∀ s, some s ∉ D → slot b s = slot a s
  rd : ∀ k v mx d, (afters ops i).contains k = true → kl[k]? = some (.rd v mx) → D[k]? = some (some d) → slot b d = v
  st : ∀ k j d, (afters ops i).contains k = true → kl[k]? = some (.st j) → D[k]? = some (some d) → slot b d = cv j
def kindOkC (P : Program) (ops : Array Oper) (D : List (Option Nat)) (ch : List Nat) (kl : List CK) (cv : Nat → Value) (St : Nat → World → Prop) (a : Act) (i : Nat) : CK → Prop
  | .rd v mx => (∃ d, D[i]? = some (some d)) ∧ (mx = ch.length ∨ ∃ i', ch[mx]? = some i' ∧ (afters ops i').contains i = true) ∧ ∀ b p s, s ≤ mx → St s p → SeesC ops D kl cv a i b → ∃ o, ops[i]? = some o ∧ o.guard = none ∧ (execOp b.eval o).run P p = .ok (.value v) p
  | .st j => ch[j]? = some i ∧ (j = 0 ∨ ∃ i', ch[j - 1]? = some i' ∧ (afters ops i).contains i' = true) ∧ ∀ b p, St j p → SeesC ops D kl cv a i b → opV P ops i b p fun v p' => St (j + 1) p' ∧ (D[i]? = some none ∨ v = cv j)
structure CInv (ops : Array Oper) (D : List (Option Nat)) (ch : List Nat) (kl : List CK) (cv : Nat → Value) (St : Nat → World → Prop) (a : Act) (dn : Nat → Bool) (b : Act) (p : World) : Prop where
  defers : b.defers = a.defers
  size : b.tmps.size = a.tmps.size
  old : ∀ s, some s ∉ D → slot b s = slot a s
  rd : ∀ (k : Nat) v mx d, kl[k]? = some (CK.rd v mx) → dn k = true → D[k]? = some (some d) → slot b d = v
  out : ∃ s, s ≤ ch.length ∧ (∀ (j i : Nat), ch[j]? = some i → (dn i = true ↔ j < s)) ∧ St s p
  cl : ∀ i k, dn i = true → (afters ops i).contains k = true → dn k = true
  st : ∀ (k j : Nat) d, kl[k]? = some (CK.st j) → dn k = true → D[k]? = some (some d) → slot b d = cv j
/-- no slot is written twice -/
def noDup : List (Option Nat) → Bool
  | [] => true
  | none :: l => noDup l
  | some d :: l => !l.contains (some d) && noDup l
theorem noDup_inj : ∀ (l : List (Option Nat)) (i j d : Nat), noDup l = true → l[i]? = some (some d) → l[j]? = some (some d) → i = j
  | [], i, j, d, _, h, _ => by simp at h
  | x :: l, i, j, d, hn, hi, hj => by
    have ht : noDup l = true := by
      cases x with
      | none => exact hn
      | some e => simp only [noDup, Bool.and_eq_true] at hn; exact hn.2
    have hx : ∀ k, x = some d → l[k]? = some (some d) → False := fun k he hk => by
      subst he
      simp only [noDup, Bool.and_eq_true, Bool.not_eq_true', List.contains_eq_mem, decide_eq_false_iff_not] at hn
      exact hn.1 (List.mem_of_getElem? hk)
    cases i with
    | zero =>
      cases j with
      | zero => rfl
      | succ j => exact (hx j (by simpa using hi) (by simpa using hj)).elim
    | succ i =>
      cases j with
      | zero => exact (hx i (by simpa using hj) (by simpa using hi)).elim
      | succ j => rw [noDup_inj l i j d ht (by simpa using hi) (by simpa using hj)]
theorem getc_lt {α : Type} {l : List α} {i : Nat} {x : α} (h : l[i]? = some x) : i < l.length := (List.getElem?_eq_some_iff.1 h).1

theorem wp_region_chain {P : Program} {ops : List Oper} {Q : Exit → Act → World → Prop} {id : Nat} {a : Act} {w : World} (hm : P.follows .mixedOrders = true)
    (hlt : ((List.range ops.toArray.size).all fun i => (afters ops.toArray i).all fun k => decide (k < i)) = true)
    (D : List (Option Nat)) (ch : List Nat) (kl : List CK) (cv : Nat → Value) (St : Nat → World → Prop)
    (hD : (List.range ops.toArray.size).map (dstOf ops.toArray) = D) (hnd : noDup D = true) (hDs : D.all (fun d => match d with | some d => decide (d < a.tmps.size) | none => true) = true)
    (hkl : kl.length = ops.toArray.size) (hch : ch.all (fun i => CK.isSt kl[i]?) = true) (hcn : ch.Nodup)
    (h0 : ∀ w1, Fr [] w w1 → St 0 w1)
    (hk : allAtC (kindOkC P ops.toArray D ch kl cv St a) 0 kl)
    (hQ : ∀ (b : Act) (p : World), b.defers = a.defers → b.tmps.size = a.tmps.size → (∀ s, some s ∉ D → slot b s = slot a s) → St ch.length p → (∀ (k : Nat) v mx d, kl[k]? = some (CK.rd v mx) → D[k]? = some (some d) → slot b d = v) → Q .normal b p) :
    (Code.region id ops.toArray true).wp P Q a w := by
  have hDl : D.length = ops.toArray.size := by have := congrArg List.length hD; simpa using this.symm
  have hdst : ∀ i, i < ops.toArray.size → D[i]? = some (dstOf ops.toArray i) := by
    intro i hi
    have h := congrArg (fun l : List (Option Tmp) => l[i]?) hD
    simp only [List.getElem?_map, List.getElem?_range hi, Option.map_some] at h
    exact h.symm
  have hst : ∀ (j i : Nat), ch[j]? = some i → ∃ j', kl[i]? = some (CK.st j') := by
    intro j i hj
    have h := List.all_eq_true.1 hch i (List.mem_of_getElem? hj)
    cases hx : kl[i]? with
    | none => simp [hx, CK.isSt] at h
    | some k =>
      cases k with
      | rd v mx => simp [hx, CK.isSt] at h
      | st j' => exact ⟨_, rfl⟩
  have hkind : ∀ (i : Nat) k, kl[i]? = some k → kindOkC P ops.toArray D ch kl cv St a i k := fun i k hi => by
    have := allAtC_get kl 0 i k hk hi
    rwa [Nat.zero_add] at this
  have hslot : ∀ i d, D[i]? = some (some d) → d < a.tmps.size := fun i d h => by
    have := List.all_eq_true.1 hDs (some d) (List.mem_of_getElem? h)
    exact of_decide_eq_true this
  refine wp_region_inv (CInv ops.toArray D ch kl cv St a) hm hlt ?_ ?_ ?_
  · intro w1 hw1
    exact ⟨rfl, rfl, fun _ _ => rfl, (fun _ _ _ _ _ h => by cases h), ⟨0, Nat.zero_le _, fun j i _ => ⟨fun h => by (cases h), fun h => by omega⟩, h0 w1 hw1⟩, (fun _ _ h => by cases h), (fun _ _ _ _ h => by cases h)⟩
  · intro i hi dn b p hdn haft ⟨h1, h2, h3, h4, ⟨s, hsl, hiff, hS⟩, hcl, h5⟩
    have hcl2 : ∀ x k, also dn i x = true → (afters ops.toArray x).contains k = true → also dn i k = true := fun x k hx hk => by
      by_cases hki : k = i
      · subst hki; exact also_self dn k
      · rw [also_ne dn hki]
        by_cases hxi : x = i
        · subst hxi; exact haft k hk
        · rw [also_ne dn hxi] at hx; exact hcl x k hx hk
    obtain ⟨k, hki⟩ : ∃ k, kl[i]? = some k := ⟨_, List.getElem?_eq_getElem (by omega)⟩
    have hok := hkind i k hki
    have hsee : SeesC ops.toArray D kl cv a i b := ⟨h3, fun k v mx d hc hv hd => h4 k v mx d hv (haft k hc) hd, fun k j d hc hv hd => h5 k j d hv (haft k hc) hd⟩
    have hDi := hdst i hi
    have hsz2 : ∀ v, (b.put (dstOf ops.toArray i) v).tmps.size = a.tmps.size := fun v => by
      cases dstOf ops.toArray i <;> simp [Act.put, h2]
    have hdf : ∀ v, (b.put (dstOf ops.toArray i) v).defers = a.defers := fun v => by
      cases dstOf ops.toArray i <;> exact h1
    have hoth : ∀ v s, some s ≠ dstOf ops.toArray i → slot (b.put (dstOf ops.toArray i) v) s = slot b s := fun v s hs => by
      cases hd : dstOf ops.toArray i with
      | none => rfl
      | some d => exact slotc_ne (fun e => hs (by rw [hd, e]))
    have hold : ∀ v s, some s ∉ D → slot (b.put (dstOf ops.toArray i) v) s = slot a s := fun v s hs => by
      rw [hoth v s (fun e => hs (by rw [e]; exact List.mem_of_getElem? hDi))]; exact h3 s hs
    have hneD : ∀ k d, k ≠ i → D[k]? = some (some d) → some d ≠ dstOf ops.toArray i := fun k d hne hd e => hne (noDup_inj D k i d hnd hd (by rw [hDi, e]))
    cases k with
    | rd v mx =>
      obtain ⟨⟨d, hd⟩, c2, c3⟩ := hok
      have hdd : dstOf ops.toArray i = some d := by rw [hDi] at hd; exact Option.some.inj hd
      have hsm : s ≤ mx := by
        rcases c2 with rfl | ⟨i', hi', hc'⟩
        · exact hsl
        · rcases Nat.lt_or_ge mx s with h | h
          · exfalso
            have hdi := (hiff mx i' hi').2 h
            have := hcl i' i hdi hc'
            rw [hdn] at this; cases this
          · exact h
      obtain ⟨o, ho1, ho2, ho3⟩ := c3 b p s hsm hS hsee
      refine opV_run (v := v) (p := p) o ho1 ho2 ho3 ⟨hdf v, hsz2 v, hold v, ?_, ⟨s, hsl, ?_, hS⟩, hcl2, ?_⟩
      · intro k v' mx' d' hk' hdk hd'
        by_cases hki' : k = i
        · subst hki'
          rw [hki] at hk'; cases hk'
          rw [hd] at hd'; cases hd'
          rw [hdd]; exact slotc_self (by rw [h2]; exact hslot _ _ hd)
        · rw [hoth v d' (hneD k d' hki' hd')]
          exact h4 k v' mx' d' hk' (by rwa [also_ne dn hki'] at hdk) hd'
      · intro j k hj
        have hne : k ≠ i := by
          rintro rfl
          obtain ⟨_, hq⟩ := hst j _ hj
          rw [hki] at hq; cases hq
        rw [also_ne dn hne]; exact hiff j k hj
      · intro k j d' hk' hdk hd'
        have hne : k ≠ i := by rintro rfl; rw [hki] at hk'; cases hk'
        rw [hoth v d' (hneD k d' hne hd')]
        exact h5 k j d' hk' (by rwa [also_ne dn hne] at hdk) hd'
    | st j =>
      obtain ⟨c1, c2, c3⟩ := hok
      have hsj : s = j := by
        have h0 : ¬ j < s := fun h => by
          have := (hiff j i c1).2 h
          rw [hdn] at this; cases this
        rcases c2 with rfl | ⟨i', hi', hc'⟩
        · omega
        · have := (hiff _ i' hi').1 (haft i' hc')
          omega
      subst hsj
      refine opV_mono (fun v p' hv => ?_) (c3 b p hS hsee)
      obtain ⟨hS', hvv⟩ := hv
      refine ⟨hdf v, hsz2 v, hold v, ?_, ⟨s + 1, getc_lt c1, ?_, hS'⟩, hcl2, ?_⟩
      · intro k v' mx' d' hk' hdk hd'
        have hne : k ≠ i := by rintro rfl; rw [hki] at hk'; cases hk'
        rw [hoth v d' (hneD k d' hne hd')]
        exact h4 k v' mx' d' hk' (by rwa [also_ne dn hne] at hdk) hd'
      · intro j2 k hj
        by_cases hki' : k = i
        · subst hki'
          have : j2 = s := (List.getElem?_inj (getc_lt hj) hcn).1 (hj.trans c1.symm)
          subst this
          simp [also_self]
        · rw [also_ne dn hki', hiff j2 k hj]
          have : j2 ≠ s := by rintro rfl; rw [c1] at hj; cases hj; exact hki' rfl
          omega
      · intro k j d' hk' hdk hd'
        by_cases hki' : k = i
        · subst hki'
          rw [hki] at hk'; cases hk'
          have hdd : dstOf ops.toArray k = some d' := by rw [hDi] at hd'; exact Option.some.inj hd'
          rw [hdd]
          rw [slotc_self (by rw [h2]; exact hslot _ _ hd')]
          rcases hvv with h | h
          · rw [hd'] at h; cases h
          · exact h
        · rw [hoth v d' (hneD k d' hki' hd')]
          exact h5 k j d' hk' (by rwa [also_ne dn hki'] at hdk) hd'
  · intro dn b p hall ⟨h1, h2, h3, h4, ⟨s, hsl, hiff, hS⟩, hcl, h5⟩
    have hs : s = ch.length := by
      rcases Nat.lt_or_ge s ch.length with h | h
      · exfalso
        have hj := List.getElem?_eq_getElem h
        obtain ⟨_, hq⟩ := hst s _ hj
        have := (hiff s _ hj).1 (hall _ (by have := getc_lt hq; omega))
        omega
      · omega
    subst hs
    exact hQ b p h1 h2 h3 hS fun k v mx d hv hd => h4 k v mx d hv (hall k (by have := getc_lt hv; omega)) hd
end Go.Bl
