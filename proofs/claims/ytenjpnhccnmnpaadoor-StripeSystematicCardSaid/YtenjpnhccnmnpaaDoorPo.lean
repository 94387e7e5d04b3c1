/-
  A generic law on the model: a region whose order the model draws may be proved in one fixed order, if what is shown of each operation is stable under what the others may do.
-/
import Derived.Orders
import Derived.KernelRfl
namespace Go.Bl
set_option linter.unusedVariables false

inductive Kind where
  | val
  | mem
  | call
  | tail
  deriving DecidableEq

def dstOf (ops : Array Oper) (i : Nat) : Option Tmp := (ops[i]?).bind (·.dst)
def slot (a : Act) (t : Nat) : Value := a.tmps.getD t undef
def looks (ops : Array Oper) (i : Nat) : List Tmp := match ops[i]? with | some o => o.looksAt ops | none => []
def afters (ops : Array Oper) (i : Nat) : List Nat := match ops[i]? with | some o => (o.after.toList.filter (Region.binds .any)).map (·.on) | none => []

/-- what comes of a result that ends normally -/
def outV (P : Program) (Kv : Value → World → Prop) : Result Next → Prop
  | .ok (.value v) w' => Kv v w'
  | .ok .skip w' => Kv undef w'
  | .ok (.enter f args) w' => Calls P f args w' fun
      | .returned v, w'' => Kv v w''
      | _, _ => False
  | .ok (.row row args) w' => Rows P row args w' fun v w'' => Kv v w''
  | _ => False

theorem outV_mono {P : Program} {K K' : Value → World → Prop} (h : ∀ v w, K v w → K' v w) : ∀ {r : Result Next}, outV P K r → outV P K' r
  | .ok (.value v) w', hr => h _ _ hr
  | .ok .skip w', hr => h _ _ hr
  | .ok (.enter f args) w', hr => Calls.mono hr fun e w he => by cases e <;> first | exact h _ _ he | exact he
  | .ok (.row row args) w', hr => Rows.mono hr fun v w he => h _ _ he

theorem outV_ex {P : Program} {K : Value → World → Prop} : ∀ {r : Result Next}, outV P K r → ∃ v w, K v w
  | .ok (.value v) w', hr => ⟨_, _, hr⟩
  | .ok .skip w', hr => ⟨_, _, hr⟩
  | .ok (.enter f args) w', hr => by
    obtain ⟨e, w', fr, he, -⟩ := hr []
    cases e with
    | returned v => exact ⟨_, _, he⟩
    | panicked c => exact he.elim
    | outgrown => exact he.elim
  | .ok (.row row args) w', hr => by
    obtain ⟨v, w', he, -⟩ := hr default []
    exact ⟨_, _, he⟩

def opV (P : Program) (ops : Array Oper) (i : Nat) (a : Act) (u : World) (Kv : Value → World → Prop) : Prop :=
  match ops[i]? with
  | none => False
  | some o => if Region.wanted o (yielded ops a.tmps) = true then outV P Kv ((execOp a.eval o).run P u) else Kv undef u

def runV (P : Program) (ops : Array Oper) (i : Nat) (a : Act) (u : World) : Option (Value × World) :=
  match ops[i]? with
  | none => none
  | some o => if Region.wanted o (yielded ops a.tmps) = true then
      (match (execOp a.eval o).run P u with
       | .ok (.value v) p => some (v, p)
       | .ok .skip p => some (undef, p)
       | _ => none)
    else some (undef, u)

theorem opV_mono {P : Program} {ops : Array Oper} {i : Nat} {a : Act} {u : World} {K K' : Value → World → Prop} (h : ∀ v w, K v w → K' v w)
    (hh : opV P ops i a u K) : opV P ops i a u K' := by
  unfold opV at *
  split
  · simp_all
  · rename_i o ho
    simp only [ho] at hh
    split
    · rename_i hw; simp only [hw, if_true] at hh; exact outV_mono h hh
    · rename_i hw; simp only [hw] at hh; exact h _ _ hh

theorem opV_ex {P : Program} {ops : Array Oper} {i : Nat} {a : Act} {u : World} {K : Value → World → Prop}
    (hh : opV P ops i a u K) : ∃ v w, K v w := by
  unfold opV at hh
  split at hh
  · exact hh.elim
  · split at hh
    · exact outV_ex hh
    · exact ⟨_, _, hh⟩

theorem wpOp_of_opV {P : Program} {ops : Array Oper} {Q : Exit → Act → World → Prop} {i : Nat} {a : Act} {w : World} {K : Act → World → Prop} {Kv : Value → World → Prop}
    (hh : opV P ops i a w Kv) (hK : ∀ v p, Kv v p → K (a.put (dstOf ops i) v) p) : wpOp P ops Q i K a w := by
  unfold opV at hh
  unfold wpOp
  split at hh
  · exact hh.elim
  · rename_i o ho
    have hd : dstOf ops i = o.dst := by simp [dstOf, ho]
    rw [hd] at hK
    simp only [ho]
    split
    · rename_i hw
      simp only [hw, if_true] at hh
      refine .inl ?_
      unfold Oper.wp
      generalize (execOp a.eval o).run P w = r at *
      cases r with
      | ok n w' =>
        cases n <;> simp only [Oper.upon, outV] at hh ⊢
        case value v => exact hK _ _ hh
        case skip => exact hK _ _ hh
        case enter f args => exact Calls.mono hh fun e w he => by cases e <;> first | exact hK _ _ he | exact he.elim
        case row row args => exact Rows.mono hh fun v w he => hK _ _ he
      | halt x w' => exact hh.elim
    · rename_i hw
      simp only [hw] at hh
      exact hK _ _ hh

theorem wpOp_of_runV {P : Program} {ops : Array Oper} {Q : Exit → Act → World → Prop} {i : Nat} {a : Act} {w : World} {K : Act → World → Prop} {v : Value} {p : World}
    (hh : runV P ops i a w = some (v, p)) (hK : K (a.put (dstOf ops i) v) p) : wpOp P ops Q i K a w := by
  refine wpOp_of_opV (Kv := fun v' p' => v' = v ∧ p' = p) ?_ (fun v' p' h => by rw [h.1, h.2]; exact hK)
  unfold runV at hh
  unfold opV
  split at hh
  · cases hh
  · rename_i o ho
    split at hh
    · rename_i hw
      simp only [hw, if_true]
      split at hh <;> rename_i hr
      · rw [hr]; cases hh; exact ⟨rfl, rfl⟩
      · rw [hr]; cases hh; exact ⟨rfl, rfl⟩
      · cases hh
    · rename_i hw
      simp only [hw]
      cases hh
      exact ⟨rfl, rfl⟩

/-! agreement of two frames on what an operation looks at -/

theorem exec_agree {ops : Array Oper} {o : Oper} (hs : ∀ cs b, o.op ≠ .select cs b) {a a' : Act}
    (h : ∀ t ∈ o.looksAt ops, slot a t = slot a' t) : execOp a.eval o = execOp a'.eval o :=
  execOp_congr o hs fun x hx => by
    cases x with
    | tmp t => exact h t (List.mem_append_left _ (List.mem_filterMap.2 ⟨.tmp t, by simpa using hx, rfl⟩))
    | _ => rfl

theorem getElem?_agree {x y : Array Value} {t : Nat} (hsz : x.size = y.size) (h : x.getD t undef = y.getD t undef) : x[t]? = y[t]? := by
  rcases Nat.lt_or_ge t x.size with hl | hl
  · have hl' : t < y.size := hsz ▸ hl
    simp only [Array.getD, hl, hl', dif_pos] at h
    simp only [Array.getElem?_eq_getElem hl, Array.getElem?_eq_getElem hl']
    exact congrArg some h
  · rw [Array.getElem?_eq_none hl, Array.getElem?_eq_none (hsz ▸ hl)]

theorem wanted_agree {ops : Array Oper} {o : Oper} {a a' : Act} (hsz : a.tmps.size = a'.tmps.size)
    (h : ∀ t ∈ o.looksAt ops, slot a t = slot a' t) : Region.wanted o (yielded ops a.tmps) = Region.wanted o (yielded ops a'.tmps) := by
  unfold Region.wanted
  cases hg : o.guard with
  | none => rfl
  | some gw =>
    obtain ⟨g, want⟩ := gw
    have hy : yielded ops a.tmps g = yielded ops a'.tmps g := by
      unfold yielded
      cases ht : (ops[g]?).bind (·.dst) with
      | none => rfl
      | some t =>
        have hm : t ∈ o.looksAt ops := by simp [Oper.looksAt, hg, ht]
        have := getElem?_agree hsz (h t hm)
        simp only [Option.bind_some, this]
    simp only [hy]

section
variable {P : Program} {ops : Array Oper} (hns : Region.noSelect ops = true)
include hns

theorem runV_agree {i : Nat} {a a' : Act} (hsz : a.tmps.size = a'.tmps.size) (h : ∀ t ∈ looks ops i, slot a t = slot a' t) (u : World) :
    runV P ops i a u = runV P ops i a' u := by
  unfold runV
  cases ho : ops[i]? with
  | none => rfl
  | some o =>
    have h' : ∀ t ∈ o.looksAt ops, slot a t = slot a' t := by simpa [looks, ho] using h
    simp only [wanted_agree hsz h', exec_agree (Region.noSelect_spec hns i o · · ho) h']

theorem opV_agree {i : Nat} {a a' : Act} (hsz : a.tmps.size = a'.tmps.size) (h : ∀ t ∈ looks ops i, slot a t = slot a' t) (u : World) (K : Value → World → Prop) :
    opV P ops i a u K = opV P ops i a' u K := by
  unfold opV
  cases ho : ops[i]? with
  | none => rfl
  | some o =>
    have h' : ∀ t ∈ o.looksAt ops, slot a t = slot a' t := by simpa [looks, ho] using h
    simp only [wanted_agree hsz h', exec_agree (Region.noSelect_spec hns i o · · ho) h']
end

theorem slot_put_self {a : Act} {d : Tmp} {v : Value} (h : d < a.tmps.size) : slot (a.put (some d) v) d = v := by
  simp [slot, Act.put, h]
theorem slot_put_ne {a : Act} {d : Option Tmp} {t : Nat} {v : Value} (h : d ≠ some t) : slot (a.put d v) t = slot a t := by
  cases d with
  | none => rfl
  | some d =>
    have hne : d ≠ t := fun e => h (by rw [e])
    simp [slot, Act.put, Array.getElem?_setIfInBounds_ne hne]
theorem size_put (a : Act) (d : Option Tmp) (v : Value) : (a.put d v).tmps.size = a.tmps.size := by cases d <;> simp [Act.put]
theorem defers_put (a : Act) (d : Option Tmp) (v : Value) : (a.put d v).defers = a.defers := by cases d <;> rfl

theorem act_ext {a b : Act} (hsz : a.tmps.size = b.tmps.size) (hd : a.defers = b.defers) (h : ∀ t, slot a t = slot b t) : a = b := by
  obtain ⟨x, dx⟩ := a
  obtain ⟨y, dy⟩ := b
  simp only at hd hsz
  subst hd
  congr 1
  exact Array.ext_getElem? fun t => getElem?_agree hsz (h t)

/-! the static look -/

def maskOf (tbl : List Nat) : List Nat → Nat
  | [] => 0
  | k :: l => (2 ^ k ||| tbl.getD k 0) ||| maskOf tbl l
def anc (tbl : List Nat) (i j : Nat) : Bool := (tbl.getD i 0).testBit j
def mkTbl (ops : Array Oper) : List Nat := (List.range ops.size).foldl (fun tbl i => tbl ++ [maskOf tbl (afters ops i)]) []

def okFrom (ops : Array Oper) (tbl : List Nat) : List (Kind × Nat) → List Nat → Bool
  | [], _ => true
  | (k, i) :: r, done => !done.contains i && decide (i < ops.size) && (afters ops i).all done.contains && (decide (k ≠ .call ∧ k ≠ .tail) || done.all (anc tbl i)) && (decide (k ≠ .tail) || r.all fun s => decide (s.1 = .tail)) && okFrom ops tbl r (i :: done)

def staticOk (ops : Array Oper) (tbl : List Nat) (π : List (Kind × Nat)) (sz : Nat) : Bool :=
  Region.noSelect ops &&
  ((List.range ops.size).all fun i => (afters ops i).all (fun k => decide (k < i)) && (tbl.getD i 0 == maskOf tbl (afters ops i))) &&
  okFrom ops tbl π [] && ((List.range ops.size).all fun i => π.any (fun s => s.2 == i)) &&
  ((List.range ops.size).all fun i => (List.range ops.size).all fun j => i == j || match dstOf ops j with
    | none => true
    | some d => dstOf ops i != some d && (!(looks ops i).contains d || anc tbl i j || anc tbl j i)) &&
  ((List.range ops.size).all fun i => match dstOf ops i with | none => true | some d => decide (d < sz))

theorem anc_maskOf {tbl : List Nat} {j : Nat} : ∀ {l : List Nat}, (maskOf tbl l).testBit j = true → ∃ k ∈ l, j = k ∨ anc tbl k j = true
  | [], h => by simp [maskOf] at h
  | k :: l, h => by
    simp only [maskOf, Nat.testBit_or, Bool.or_eq_true] at h
    rcases h with (h | h) | h
    · exact ⟨k, by simp, .inl (by
        have := Nat.testBit_two_pow (n := k) (m := j)
        rw [this] at h
        exact (of_decide_eq_true h).symm)⟩
    · exact ⟨k, by simp, .inr h⟩
    · obtain ⟨k', hk, h'⟩ := anc_maskOf h
      exact ⟨k', by simp [hk], h'⟩

section
variable (P : Program) (ops : Array Oper) (Q : Exit → Act → World → Prop) (RF RC : World → World → Prop) (w0 : World)

/-- the walk in the fixed order -/
def poW : List (Kind × Nat) → Act → World → Prop
  | [], ac, wc => ∀ w', RF wc w' → Q .normal ac w'
  | (.val, i) :: r, ac, wc => ∃ v, (∀ u, RC w0 u → runV P ops i ac u = some (v, u)) ∧ poW r (ac.put (dstOf ops i) v) wc
  | (.mem, i) :: r, ac, wc => ∀ u, RC w0 u → ∃ v p, runV P ops i ac u = some (v, p) ∧ RF u p ∧ ∀ w', RF wc w' → RC p w' → poW r (ac.put (dstOf ops i) v) w'
  | (.call, i) :: r, ac, wc => ∀ u, RF wc u → opV P ops i ac u fun v p => RC u p ∧ poW r (ac.put (dstOf ops i) v) p
  | (.tail, i) :: r, ac, wc => ∀ u, RF wc u → opV P ops i ac u fun v p => poW r (ac.put (dstOf ops i) v) p

/-- the same with what has been done -/
def G (dn : Nat → Bool) (a : Act) (w : World) : List (Kind × Nat) → Act → World → Prop
  | [], ac, wc => ∀ w', RF wc w' → Q .normal ac w'
  | (.val, i) :: r, ac, wc => ∃ v, (∀ u, RC w0 u → runV P ops i ac u = some (v, u)) ∧ (dn i = true → ∀ d, dstOf ops i = some d → slot a d = v) ∧ G dn a w r (ac.put (dstOf ops i) v) wc
  | (.mem, i) :: r, ac, wc =>
    (dn i = true → ∃ v p, (∀ d, dstOf ops i = some d → slot a d = v) ∧ RC p w ∧ ∀ w', RF wc w' → RC p w' → G dn a w r (ac.put (dstOf ops i) v) w') ∧
    (dn i = false → ∀ u, RC w0 u → ∃ v p, runV P ops i ac u = some (v, p) ∧ RF u p ∧ ∀ w', RF wc w' → RC p w' → G dn a w r (ac.put (dstOf ops i) v) w')
  | (.call, i) :: r, ac, wc => dn i = false ∧ ∀ u, RF wc u → opV P ops i ac u fun v p => RC u p ∧ G dn a w r (ac.put (dstOf ops i) v) p
  | (.tail, i) :: r, ac, wc => dn i = false ∧ ∀ u, RF wc u → opV P ops i ac u fun v p => G dn a w r (ac.put (dstOf ops i) v) p
end

section
variable {P : Program} {ops : Array Oper} {Q : Exit → Act → World → Prop} {RF RC : World → World → Prop} {w0 : World}

theorem G_of_poW (a : Act) (w : World) : ∀ (π : List (Kind × Nat)) (ac : Act) (wc : World), poW P ops Q RF RC w0 π ac wc → G P ops Q RF RC w0 (fun _ => false) a w π ac wc
  | [], _, _, h => h
  | (.val, i) :: r, ac, wc, ⟨v, h1, h2⟩ => ⟨v, h1, fun h => (by cases h), G_of_poW a w r _ _ h2⟩
  | (.mem, i) :: r, ac, wc, h => ⟨fun h => (by cases h), fun _ u hu => by
      obtain ⟨v, p, h1, h2, h3⟩ := h u hu
      exact ⟨v, p, h1, h2, fun w' a1 a2 => G_of_poW a w r _ _ (h3 w' a1 a2)⟩⟩
  | (.call, i) :: r, ac, wc, h => ⟨rfl, fun u hu => opV_mono (fun v p hh => ⟨hh.1, G_of_poW a w r _ _ hh.2⟩) (h u hu)⟩
  | (.tail, i) :: r, ac, wc, h => ⟨rfl, fun u hu => opV_mono (fun v p hh => G_of_poW a w r _ _ hh) (h u hu)⟩

/-- what has been done stays done while other things come -/
theorem G_mono {dn dn' : Nat → Bool} {a a' : Act} {w p : World} (hRC : ∀ x, RC x w → RC x p) :
    ∀ (π : List (Kind × Nat)), (∀ s ∈ π, dn' s.2 = dn s.2) → (∀ s ∈ π, dn s.2 = true → ∀ d, dstOf ops s.2 = some d → slot a' d = slot a d) →
      ∀ (ac : Act) (wc : World), G P ops Q RF RC w0 dn a w π ac wc → G P ops Q RF RC w0 dn' a' p π ac wc
  | [], _, _, _, _, h => h
  | (.val, i) :: r, hd, hs, ac, wc, ⟨v, h1, h2, h3⟩ =>
    have hdi := hd (.val, i) (by simp)
    ⟨v, h1, fun hi d hdd => (hs (.val, i) (by simp) (hdi ▸ hi) d hdd).trans (h2 (hdi ▸ hi) d hdd),
      G_mono hRC r (fun s hm => hd s (by simp [hm])) (fun s hm => hs s (by simp [hm])) _ _ h3⟩
  | (.mem, i) :: r, hd, hs, ac, wc, ⟨h1, h2⟩ =>
    have hdi := hd (.mem, i) (by simp)
    have ih := G_mono hRC r (fun s hm => hd s (by simp [hm])) (fun s hm => hs s (by simp [hm]))
    ⟨fun hi => by
      obtain ⟨v, p', e1, e2, e3⟩ := h1 (hdi ▸ hi)
      exact ⟨v, p', fun d hdd => (hs (.mem, i) (by simp) (hdi ▸ hi) d hdd).trans (e1 d hdd), hRC _ e2, fun w' a1 a2 => ih _ _ (e3 w' a1 a2)⟩,
     fun hi u hu => by
      obtain ⟨v, p', e1, e2, e3⟩ := h2 (hdi ▸ hi) u hu
      exact ⟨v, p', e1, e2, fun w' a1 a2 => ih _ _ (e3 w' a1 a2)⟩⟩
  | (.call, i) :: r, hd, hs, ac, wc, ⟨h1, h2⟩ =>
    have hdi := hd (.call, i) (by simp)
    have ih := G_mono hRC r (fun s hm => hd s (by simp [hm])) (fun s hm => hs s (by simp [hm]))
    ⟨by rw [hdi]; exact h1, fun u hu => opV_mono (fun v p' hh => ⟨hh.1, ih _ _ hh.2⟩) (h2 u hu)⟩
  | (.tail, i) :: r, hd, hs, ac, wc, ⟨h1, h2⟩ =>
    have hdi := hd (.tail, i) (by simp)
    have ih := G_mono hRC r (fun s hm => hd s (by simp [hm])) (fun s hm => hs s (by simp [hm]))
    ⟨by rw [hdi]; exact h1, fun u hu => opV_mono (fun v p' hh => ih _ _ hh) (h2 u hu)⟩

/-- a tail leans on nothing that came before -/
theorem G_tail {w0' : World} {dn dn' : Nat → Bool} {a a' : Act} {w p : World} :
    ∀ (π : List (Kind × Nat)), (∀ s ∈ π, s.1 = .tail) → (∀ s ∈ π, dn' s.2 = false) →
      ∀ (ac : Act) (wc : World), G P ops Q RF RC w0 dn a w π ac wc → G P ops Q RF RC w0' dn' a' p π ac wc
  | [], _, _, _, _, h => h
  | (.tail, i) :: r, ht, hd, ac, wc, ⟨h1, h2⟩ =>
    ⟨hd (.tail, i) (by simp), fun u hu => opV_mono (fun v p' hh => G_tail r (fun s hm => ht s (by simp [hm])) (fun s hm => hd s (by simp [hm])) _ _ hh) (h2 u hu)⟩
  | (.val, i) :: r, ht, _, _, _, _ => absurd (ht (.val, i) (by simp)) (by simp)
  | (.mem, i) :: r, ht, _, _, _, _ => absurd (ht (.mem, i) (by simp)) (by simp)
  | (.call, i) :: r, ht, _, _, _, _ => absurd (ht (.call, i) (by simp)) (by simp)

variable (hF : ∀ x, RF x x) (hFF : ∀ x y z, RF x y → RF y z → RF x z) (hC : ∀ x, RC x x) (hCC : ∀ x y z, RC x y → RC y z → RC x z) (hFC : ∀ x y, RF x y → RC x y)
variable (hns : Region.noSelect ops = true)

include hF in
/-- all that stands ahead is done: pass on to what follows -/
theorem passDone {dn : Nat → Bool} {a : Act} {w : World} (rest : List (Kind × Nat)) : ∀ (π : List (Kind × Nat)), (∀ s ∈ π, dn s.2 = true) →
    ∀ (ac : Act) (wc : World), G P ops Q RF RC w0 dn a w (π ++ rest) ac wc → RF wc w → ac.tmps.size = a.tmps.size → ac.defers = a.defers →
      (∀ i d, dstOf ops i = some d → d < a.tmps.size) →
      (∀ t, (∀ s ∈ π ++ rest, dn s.2 = true → dstOf ops s.2 ≠ some t) → slot ac t = slot a t) →
      ∃ ac' wc', G P ops Q RF RC w0 dn a w rest ac' wc' ∧ RF wc' w ∧ ac'.tmps.size = a.tmps.size ∧ ac'.defers = a.defers ∧
        (∀ t, (∀ s ∈ rest, dn s.2 = true → dstOf ops s.2 ≠ some t) → slot ac' t = slot a t)
  | [], _, ac, wc, h, hw, hz, hd, hb, hg => ⟨ac, wc, h, hw, hz, hd, hg⟩
  | s :: π, hdn, ac, wc, h, hw, hz, hd, hb, hg => by
    have hs := hdn s (by simp)
    have next : ∀ v wc', G P ops Q RF RC w0 dn a w (π ++ rest) (ac.put (dstOf ops s.2) v) wc' → RF wc' w → (∀ d, dstOf ops s.2 = some d → slot a d = v) →
        ∃ ac' wc', G P ops Q RF RC w0 dn a w rest ac' wc' ∧ RF wc' w ∧ ac'.tmps.size = a.tmps.size ∧ ac'.defers = a.defers ∧
          (∀ t, (∀ s ∈ rest, dn s.2 = true → dstOf ops s.2 ≠ some t) → slot ac' t = slot a t) := by
      intro v wc' h' hw' hv
      refine passDone rest π (fun s hm => hdn s (by simp [hm])) _ _ h' hw' (by rw [size_put, hz]) (by rw [defers_put, hd]) hb (fun t ht => ?_)
      by_cases hdt : dstOf ops s.2 = some t
      · rw [hdt, slot_put_self (by rw [hz]; exact hb _ _ hdt), hv t hdt]
      · rw [slot_put_ne hdt]
        refine hg t fun s' hm hdn' => ?_
        rcases List.mem_cons.1 (List.cons_append ▸ hm) with rfl | hm
        · exact hdt
        · exact ht s' hm hdn'
    obtain ⟨k, i⟩ := s
    cases k with
    | val => obtain ⟨v, _, h2, h3⟩ := h; exact next v wc h3 hw (h2 hs)
    | mem =>
      obtain ⟨v, p, e1, e2, e3⟩ := h.1 hs
      exact next v w (e3 w hw e2) (hF w) e1
    | call => exact absurd hs (by rw [h.1]; simp)
    | tail => exact absurd hs (by rw [h.1]; simp)

include hF hFF hC hCC hFC hns in
/-- a floating operation that may come up runs to its end -/
theorem floatRun {dn : Nat → Bool} {a : Act} {w : World} (k : Kind) (i : Nat) (hk : k ≠ .call) (hkt : k ≠ .tail) (hi : dn i = false) (π2 : List (Kind × Nat)) (h0w : RC w0 w)
    (hb : ∀ i d, dstOf ops i = some d → d < a.tmps.size)
    (hpost : ∀ s ∈ π2, dn s.2 = true → ∀ d, dstOf ops s.2 = some d → d ∉ looks ops i) :
    ∀ (π1 : List (Kind × Nat)), (∀ s ∈ π1, s.1 ≠ .tail) → (∀ s ∈ π1, dn s.2 = false → ∀ d, dstOf ops s.2 = some d → d ∉ looks ops i) →
    ∀ (ac : Act) (wc h : World), G P ops Q RF RC w0 dn a w (π1 ++ (k, i) :: π2) ac wc → RF wc h → RC w h → ac.tmps.size = a.tmps.size →
      (∀ t ∈ looks ops i, (∀ s ∈ π1 ++ (k, i) :: π2, dn s.2 = true → dstOf ops s.2 ≠ some t) → slot ac t = slot a t) →
      ∃ v p, runV P ops i a w = some (v, p) ∧ RF w p
  | [], _, _, ac, wc, h, hg, hwh, hch, hz, hag => by
    have hag' : ∀ t ∈ looks ops i, slot ac t = slot a t := fun t ht => hag t ht fun s hm hd => by
      rcases List.mem_cons.1 (by simpa using hm) with rfl | hm
      · exact absurd hd (by simp [hi])
      · exact fun e => hpost s hm hd t e ht
    have hr := runV_agree (P := P) hns hz hag' w
    cases k with
    | val => obtain ⟨v, h1, _, _⟩ := hg; exact ⟨v, w, by rw [← hr]; exact h1 w h0w, hF w⟩
    | mem =>
      obtain ⟨v, p, h1, h2, _⟩ := hg.2 hi w h0w
      exact ⟨v, p, by rw [← hr]; exact h1, h2⟩
    | call => exact absurd rfl hk
    | tail => exact absurd rfl hkt
  | s :: π1, hnt, hno, ac, wc, h, hg, hwh, hch, hz, hag => by
    have next : ∀ v wc' h', G P ops Q RF RC w0 dn a w (π1 ++ (k, i) :: π2) (ac.put (dstOf ops s.2) v) wc' → RF wc' h' → RC w h' → (dn s.2 = true → ∀ d, dstOf ops s.2 = some d → slot a d = v) →
        ∃ v p, runV P ops i a w = some (v, p) ∧ RF w p := by
      intro v wc' h' hg' hw' hc' hv
      refine floatRun k i hk hkt hi π2 h0w hb hpost π1 (fun s hm => hnt s (by simp [hm])) (fun s hm => hno s (by simp [hm])) _ _ h' hg' hw' hc' (by rw [size_put, hz]) (fun t ht hcond => ?_)
      by_cases hdt : dstOf ops s.2 = some t
      · cases hdn : dn s.2 with
        | false => exact absurd ht (hno s (by simp) hdn t hdt)
        | true => rw [hdt, slot_put_self (by rw [hz]; exact hb _ _ hdt), hv hdn t hdt]
      · rw [slot_put_ne hdt]
        refine hag t ht fun s' hm hdn' => ?_
        rcases List.mem_cons.1 (List.cons_append ▸ hm) with rfl | hm
        · exact hdt
        · exact hcond s' hm hdn'
    obtain ⟨k', j⟩ := s
    cases k' with
    | val => obtain ⟨v, _, h2, h3⟩ := hg; exact next v wc h h3 hwh hch h2
    | mem =>
      cases hdj : dn j with
      | true =>
        obtain ⟨v, p, e1, e2, e3⟩ := hg.1 hdj
        exact next v h h (e3 h hwh (hCC _ _ _ e2 hch)) (hF h) hch (fun _ => e1)
      | false =>
        obtain ⟨v, p, e1, e2, e3⟩ := hg.2 hdj h (hCC _ _ _ h0w hch)
        exact next v p p (e3 p (hFF _ _ _ hwh e2) (hC p)) (hF p) (hCC _ _ _ hch (hFC _ _ e2)) (fun hh => by simp only [hdj] at hh; cases hh)
    | call =>
      obtain ⟨v, p, e1, e2⟩ := opV_ex (hg.2 h hwh)
      exact next v p p e2 (hF p) (hCC _ _ _ hch e1) (fun hh => by have := hg.1; simp only [this] at hh; cases hh)
    | tail => exact absurd rfl (hnt (.tail, j) (by simp))

include hC hCC hFC hns in
/-- and all that was shown stands behind it -/
theorem rebuild {dn dn' : Nat → Bool} {a : Act} {w p : World} {v : Value} (k : Kind) (i : Nat) (hk : k ≠ .call) (hkt : k ≠ .tail) (hi : dn i = false) (π2 : List (Kind × Nat)) (h0w : RC w0 w)
    (hb : ∀ i d, dstOf ops i = some d → d < a.tmps.size)
    (hdn : ∀ j, j ≠ i → dn' j = dn j) (hdi : dn' i = true)
    (hdst : ∀ j d, j ≠ i → dstOf ops j = some d → dstOf ops i ≠ some d)
    (hrun : runV P ops i a w = some (v, p)) (hwp : RF w p)
    (hpost : ∀ s ∈ π2, dn s.2 = true → ∀ d, dstOf ops s.2 = some d → d ∉ looks ops i) (hne2 : ∀ s ∈ π2, s.2 ≠ i) :
    ∀ (π1 : List (Kind × Nat)), (∀ s ∈ π1, s.1 ≠ .tail) → (∀ s ∈ π1, s.2 ≠ i) → (∀ s ∈ π1, dn s.2 = false → ∀ d, dstOf ops s.2 = some d → d ∉ looks ops i) →
    ∀ (ac : Act) (wc : World), G P ops Q RF RC w0 dn a w (π1 ++ (k, i) :: π2) ac wc → ac.tmps.size = a.tmps.size →
      (∀ t ∈ looks ops i, (∀ s ∈ π1 ++ (k, i) :: π2, dn s.2 = true → dstOf ops s.2 ≠ some t) → slot ac t = slot a t) →
      G P ops Q RF RC w0 dn' (a.put (dstOf ops i) v) p (π1 ++ (k, i) :: π2) ac wc
  | [], _, _, _, ac, wc, hg, hz, hag => by
    have hag' : ∀ t ∈ looks ops i, slot ac t = slot a t := fun t ht => hag t ht fun s hm hd => by
      rcases List.mem_cons.1 (by simpa using hm) with rfl | hm
      · exact absurd hd (by simp [hi])
      · exact fun e => hpost s hm hd t e ht
    have hr := (runV_agree (P := P) hns hz hag' w).trans hrun
    have hself : ∀ d, dstOf ops i = some d → slot (a.put (dstOf ops i) v) d = v := fun d hd => by rw [hd]; exact slot_put_self (hb _ _ hd)
    have hm : ∀ ac' wc', G P ops Q RF RC w0 dn a w π2 ac' wc' → G P ops Q RF RC w0 dn' (a.put (dstOf ops i) v) p π2 ac' wc' := fun ac' wc' hh =>
      G_mono (fun x hx => hCC _ _ _ hx (hFC _ _ hwp)) π2 (fun s hs => hdn _ (hne2 s hs)) (fun s hs _ d hd => slot_put_ne (hdst _ _ (hne2 s hs) hd)) _ _ hh
    cases k with
    | val =>
      obtain ⟨v0, h1, _, h3⟩ := hg
      have := (h1 w h0w).symm.trans hr
      cases this
      exact ⟨_, h1, fun _ d hd => hself d hd, hm _ _ h3⟩
    | mem =>
      refine ⟨fun _ => ?_, fun hh => by simp only [hdi] at hh; cases hh⟩
      obtain ⟨v0, p0, e1, e2, e3⟩ := hg.2 hi w h0w
      have := e1.symm.trans hr
      cases this
      exact ⟨_, _, hself, hC _, fun w' a1 a2 => hm _ _ (e3 w' a1 a2)⟩
    | call => exact absurd rfl hk
    | tail => exact absurd rfl hkt
  | s :: π1, hnt, hne, hno, ac, wc, hg, hz, hag => by
    have hnes := hne s (by simp)
    have hds := hdn _ hnes
    have hsl : ∀ d, dstOf ops s.2 = some d → slot (a.put (dstOf ops i) v) d = slot a d := fun d hd => slot_put_ne (hdst _ _ hnes hd)
    have next : ∀ v' wc', G P ops Q RF RC w0 dn a w (π1 ++ (k, i) :: π2) (ac.put (dstOf ops s.2) v') wc' → (dn s.2 = true → ∀ d, dstOf ops s.2 = some d → slot a d = v') →
        G P ops Q RF RC w0 dn' (a.put (dstOf ops i) v) p (π1 ++ (k, i) :: π2) (ac.put (dstOf ops s.2) v') wc' := by
      intro v' wc' hg' hv
      refine rebuild k i hk hkt hi π2 h0w hb hdn hdi hdst hrun hwp hpost hne2 π1 (fun s hm => hnt s (by simp [hm])) (fun s hm => hne s (by simp [hm])) (fun s hm => hno s (by simp [hm])) _ _ hg' (by rw [size_put, hz]) (fun t ht hcond => ?_)
      by_cases hdt : dstOf ops s.2 = some t
      · cases hdn : dn s.2 with
        | false => exact absurd ht (hno s (by simp) hdn t hdt)
        | true => rw [hdt, slot_put_self (by rw [hz]; exact hb _ _ hdt), hv hdn t hdt]
      · rw [slot_put_ne hdt]
        refine hag t ht fun s' hm hdn' => ?_
        rcases List.mem_cons.1 (List.cons_append ▸ hm) with rfl | hm
        · exact hdt
        · exact hcond s' hm hdn'
    obtain ⟨k', j⟩ := s
    cases k' with
    | val =>
      obtain ⟨v', h1, h2, h3⟩ := hg
      exact ⟨v', h1, fun hh d hd => (hsl d hd).trans (h2 (hds ▸ hh) d hd), next v' wc h3 h2⟩
    | mem =>
      refine ⟨fun hh => ?_, fun hh u hu => ?_⟩
      · obtain ⟨v', p', e1, e2, e3⟩ := hg.1 (hds ▸ hh)
        exact ⟨v', p', fun d hd => (hsl d hd).trans (e1 d hd), hCC _ _ _ e2 (hFC _ _ hwp), fun w' a1 a2 => next v' w' (e3 w' a1 a2) (fun _ => e1)⟩
      · obtain ⟨v', p', e1, e2, e3⟩ := hg.2 (hds ▸ hh) u hu
        have hf : dn j = false := hds ▸ hh
        exact ⟨v', p', e1, e2, fun w' a1 a2 => next v' w' (e3 w' a1 a2) (fun h' => by simp only [hf] at h'; cases h')⟩
    | call =>
      have hf : dn j = false := hg.1
      exact ⟨by rw [hds]; exact hf, fun u hu => opV_mono (fun v' p' hh => ⟨hh.1, next v' p' hh.2 (fun h' => by simp only [hf] at h'; cases h')⟩) (hg.2 u hu)⟩
    | tail => exact absurd rfl (hnt (.tail, j) (by simp))

/-- the static facts, as propositions -/
structure Static (ops : Array Oper) (an : Nat → Nat → Bool) (sz : Nat) : Prop where
  lt : ∀ i, i < ops.size → ∀ k ∈ afters ops i, k < i
  step : ∀ i j, i < ops.size → an i j = true → ∃ k ∈ afters ops i, j = k ∨ an k j = true
  apart : ∀ i j d, i < ops.size → j < ops.size → i ≠ j → dstOf ops j = some d → dstOf ops i ≠ some d ∧ (d ∈ looks ops i → an i j = true ∨ an j i = true)
  bound : ∀ i d, dstOf ops i = some d → d < sz

theorem dstOf_lt {i : Nat} {d : Tmp} (h : dstOf ops i = some d) : i < ops.size := by
  rcases Nat.lt_or_ge i ops.size with hl | hl
  · exact hl
  · simp [dstOf, Array.getElem?_eq_none hl] at h

theorem anc_done {an : Nat → Nat → Bool} {sz : Nat} (S : Static ops an sz) {dn : Nat → Bool} (hcl : ∀ i, i < ops.size → dn i = true → ∀ k ∈ afters ops i, dn k = true) :
    ∀ (n i : Nat), i < n → i < ops.size → (∀ k ∈ afters ops i, dn k = true) → ∀ j, an i j = true → dn j = true
  | 0, i, h, _, _, _, _ => by omega
  | n + 1, i, h, hi, ha, j, hj => by
    obtain ⟨k, hk, rfl | hk'⟩ := S.step i j hi hj
    · exact ha _ hk
    · have := S.lt i hi k hk
      exact anc_done S hcl n k (by omega) (by omega) (hcl k (by omega) (ha k hk)) j hk'

def Ord (ops : Array Oper) (an : Nat → Nat → Bool) : List (Kind × Nat) → List Nat → Prop
  | [], _ => True
  | (k, i) :: r, done => i ∉ done ∧ i < ops.size ∧ (∀ j ∈ afters ops i, j ∈ done) ∧ ((k = .call ∨ k = .tail) → ∀ j ∈ done, an i j = true) ∧ (k = .tail → ∀ s ∈ r, s.1 = .tail) ∧ Ord ops an r (i :: done)

theorem ord_of {tbl : List Nat} : ∀ {π : List (Kind × Nat)} {done : List Nat}, okFrom ops tbl π done = true → Ord ops (anc tbl) π done
  | [], _, _ => trivial
  | (k, i) :: r, done, h => by
    simp only [okFrom, Bool.and_eq_true, Bool.not_eq_true', decide_eq_true_eq, Bool.or_eq_true] at h
    obtain ⟨⟨⟨⟨⟨h1, h2⟩, h3⟩, h4⟩, h6⟩, h5⟩ := h
    refine ⟨by simpa using h1, h2, fun j hj => by simpa using List.all_eq_true.1 h3 j hj, fun hk j hj => ?_, fun hk s hs => ?_, ord_of h5⟩
    · rcases h4 with h4 | h4
      · rcases hk with hk | hk
        · exact absurd hk h4.1
        · exact absurd hk h4.2
      · exact List.all_eq_true.1 h4 j hj
    · rcases h6 with h6 | h6
      · exact absurd hk h6
      · exact of_decide_eq_true (List.all_eq_true.1 h6 s hs)

theorem Ord.split {an : Nat → Nat → Bool} : ∀ {π1 : List (Kind × Nat)} {rest : List (Kind × Nat)} {done : List Nat}, Ord ops an (π1 ++ rest) done →
    Ord ops an rest ((π1.map (·.2)).reverse ++ done)
  | [], _, _, h => by simpa using h
  | (k, i) :: π1, rest, done, h => by
    have := Ord.split (π1 := π1) (rest := rest) (done := i :: done) h.2.2.2.2.2
    simpa using this

theorem Ord.notMem {an : Nat → Nat → Bool} : ∀ {π : List (Kind × Nat)} {done : List Nat}, Ord ops an π done → ∀ s ∈ π, s.2 ∉ done
  | [], _, _, s, hs => by cases hs
  | (k, i) :: r, done, h, s, hs => by
    rcases List.mem_cons.1 hs with rfl | hs
    · exact h.1
    · exact fun hm => Ord.notMem h.2.2.2.2.2 s hs (List.mem_cons_of_mem _ hm)

theorem Ord.lt {an : Nat → Nat → Bool} : ∀ {π : List (Kind × Nat)} {done : List Nat}, Ord ops an π done → ∀ s ∈ π, s.2 < ops.size
  | [], _, _, s, hs => by cases hs
  | (k, i) :: r, done, h, s, hs => by
    rcases List.mem_cons.1 hs with rfl | hs
    · exact h.2.1
    · exact Ord.lt h.2.2.2.2.2 s hs

def isDone (listed : Array Bool) (i : Nat) : Bool := listed.getD i false

theorem isDone_set {listed : Array Bool} {i : Nat} (h : i < listed.size) : isDone (listed.setIfInBounds i true) i = true := by simp [isDone, h]
theorem isDone_set_ne {listed : Array Bool} {i j : Nat} (h : j ≠ i) : isDone (listed.setIfInBounds i true) j = isDone listed j :=
  getD_set_ne false (Ne.symm h)

theorem count_set {listed : Array Bool} {i : Nat} (hi : isDone listed i = false) (hl : i < listed.size) :
    ∀ (π : List (Kind × Nat)), ((π.filter fun s => !isDone (listed.setIfInBounds i true) s.2).length ≤ (π.filter fun s => !isDone listed s.2).length) ∧
      ((∃ s ∈ π, s.2 = i) → (π.filter fun s => !isDone (listed.setIfInBounds i true) s.2).length + 1 ≤ (π.filter fun s => !isDone listed s.2).length)
  | [] => ⟨by simp, fun ⟨s, hs, _⟩ => by cases hs⟩
  | s :: π => by
    obtain ⟨h1, h2⟩ := count_set hi hl π
    by_cases hs : s.2 = i
    · have e1 : isDone (listed.setIfInBounds i true) s.2 = true := by rw [hs]; exact isDone_set hl
      have e2 : isDone listed s.2 = false := by rw [hs]; exact hi
      simp only [List.filter_cons, e1, e2]
      exact ⟨by simp; omega, fun _ => by simp; omega⟩
    · have e1 := isDone_set_ne (listed := listed) hs
      simp only [List.filter_cons, e1]
      refine ⟨by (split <;> (try simp only [List.length_cons])) <;> omega, fun ⟨s', hm, hs'⟩ => ?_⟩
      rcases List.mem_cons.1 hm with rfl | hm
      · exact absurd hs' hs
      · have := h2 ⟨s', hm, hs'⟩
        (split <;> (try simp only [List.length_cons])) <;> omega

theorem split_at {i : Nat} : ∀ {π : List (Kind × Nat)}, (∃ s ∈ π, s.2 = i) → ∃ π1 k π2, π = π1 ++ (k, i) :: π2 ∧ ∀ s ∈ π1, s.2 ≠ i
  | [], ⟨s, hs, _⟩ => by cases hs
  | s :: π, ⟨s', hm, hs'⟩ => by
    by_cases hs : s.2 = i
    · exact ⟨[], s.1, π, by rw [← hs]; rfl, fun s hs => by cases hs⟩
    · have : ∃ s ∈ π, s.2 = i := by
        rcases List.mem_cons.1 hm with rfl | hm
        · exact absurd hs' hs
        · exact ⟨s', hm, hs'⟩
      obtain ⟨π1, k, π2, rfl, h⟩ := split_at this
      exact ⟨s :: π1, k, π2, rfl, fun s'' hm => by
        rcases List.mem_cons.1 hm with rfl | hm
        · exact hs
        · exact h s'' hm⟩

/-- if nothing is ready all is done -/
theorem all_done {an : Nat → Nat → Bool} {listed : Array Bool} (hlz : listed.size = ops.size) (hr : Region.ready .any ops listed = []) :
    ∀ (π : List (Kind × Nat)) (done : List Nat), Ord ops an π done → (∀ j ∈ done, isDone listed j = true) → ∀ s ∈ π, isDone listed s.2 = true
  | [], _, _, _, s, hs => by cases hs
  | (k, i) :: r, done, ho, hd, s, hs => by
    have hi : isDone listed i = true := by
      cases hdi : isDone listed i with
      | true => rfl
      | false =>
        exfalso
        have hlt : i < listed.size := by rw [hlz]; exact ho.2.1
        have : i ∈ Region.ready .any ops listed := by
          rw [mem_ready]
          refine ⟨?_, ops[i]'ho.2.1, by simp [ho.2.1], fun e he hb => ?_⟩
          · simp only [isDone, Array.getD, hlt, dif_pos] at hdi ⊢
            exact hdi
          · refine hd e.on (ho.2.2.1 e.on ?_)
            have hoi : ops[i]? = some (ops[i]'ho.2.1) := by simp [ho.2.1]
            simp only [afters, hoi, List.mem_map, List.mem_filter]
            exact ⟨e, ⟨by simpa using he, hb⟩, rfl⟩
        rw [hr] at this
        cases this
    rcases List.mem_cons.1 hs with rfl | hs
    · exact hi
    · exact all_done hlz hr r (i :: done) ho.2.2.2.2.2 (fun j hj => by
        rcases List.mem_cons.1 hj with rfl | hj
        · exact hi
        · exact hd j hj) s hs

theorem anc_mem {an : Nat → Nat → Bool} {sz : Nat} (S : Static ops an sz) {M : List Nat} (hM : ∀ j ∈ M, j < ops.size) (hcl : ∀ j ∈ M, ∀ k ∈ afters ops j, k ∈ M) :
    ∀ (n i : Nat), i < n → i < ops.size → (∀ k ∈ afters ops i, k ∈ M) → ∀ j, an i j = true → j ∈ M
  | 0, i, h, _, _, _, _ => by omega
  | n + 1, i, h, hi, ha, j, hj => by
    obtain ⟨k, hk, rfl | hk'⟩ := S.step i j hi hj
    · exact ha _ hk
    · have := S.lt i hi k hk
      exact anc_mem S hM hcl n k (by omega) (by omega) (hcl k (ha k hk)) j hk'

theorem Ord.closed {an : Nat → Nat → Bool} : ∀ {π1 : List (Kind × Nat)} {rest : List (Kind × Nat)} {done : List Nat}, Ord ops an (π1 ++ rest) done →
    (∀ j ∈ done, j < ops.size ∧ ∀ k ∈ afters ops j, k ∈ done) → ∀ j ∈ (π1.map (·.2)).reverse ++ done, j < ops.size ∧ ∀ k ∈ afters ops j, k ∈ (π1.map (·.2)).reverse ++ done
  | [], _, _, _, h => by simpa using h
  | (k, i) :: π1, rest, done, hO, h => by
    have h' : ∀ j ∈ i :: done, j < ops.size ∧ ∀ k ∈ afters ops j, k ∈ i :: done := by
      intro j hj
      rcases List.mem_cons.1 hj with rfl | hj
      · exact ⟨hO.2.1, fun k hk => List.mem_cons_of_mem _ (hO.2.2.1 k hk)⟩
      · exact ⟨(h j hj).1, fun k hk => List.mem_cons_of_mem _ ((h j hj).2 k hk)⟩
    have := Ord.closed (π1 := π1) (rest := rest) hO.2.2.2.2.2 h'
    simpa using this

/-- an ancestor of what stands in the order stands ahead of it -/
theorem ancAhead {an : Nat → Nat → Bool} {sz : Nat} (S : Static ops an sz) {k : Kind} {i : Nat} {π1 π2 : List (Kind × Nat)} {done : List Nat} (hO : Ord ops an (π1 ++ (k, i) :: π2) done)
    (hcl : ∀ j ∈ done, j < ops.size ∧ ∀ k ∈ afters ops j, k ∈ done)
    {j : Nat} (hj : an i j = true) : (∃ s' ∈ π1, s'.2 = j) ∨ j ∈ done := by
  have hc := Ord.closed hO hcl
  have h2 := Ord.split hO
  have := anc_mem S (fun j hj => (hc j hj).1) (fun j hj => (hc j hj).2) (i + 1) i (by omega) h2.2.1 h2.2.2.1 j hj
  simpa only [List.mem_append, List.mem_reverse, List.mem_map] using this

theorem ancAhead' {an : Nat → Nat → Bool} {sz : Nat} (S : Static ops an sz) {π1 : List (Kind × Nat)} {rest : List (Kind × Nat)} {done : List Nat} (hO : Ord ops an (π1 ++ rest) done)
    (hcl : ∀ j ∈ done, j < ops.size ∧ ∀ k ∈ afters ops j, k ∈ done)
    {s : Kind × Nat} (hs : s ∈ π1) {j : Nat} (hj : an s.2 j = true) : (∃ s' ∈ π1, s'.2 = j) ∨ j ∈ done := by
  obtain ⟨p1, p2, rfl⟩ := List.append_of_mem hs
  have hO' : Ord ops an (p1 ++ (s.1, s.2) :: (p2 ++ rest)) done := by simpa using hO
  rcases ancAhead S hO' hcl hj with ⟨s', h1, h2⟩ | h
  · exact .inl ⟨s', by simp [h1], h2⟩
  · exact .inr h

def upTo (n k : Nat) : Array Bool := ((List.range n).map fun i => decide (i < k)).toArray
theorem upTo_size (n k : Nat) : (upTo n k).size = n := by simp [upTo]
theorem isDone_upTo {n k i : Nat} (h : i < n) : isDone (upTo n k) i = decide (i < k) := by
  simp [isDone, upTo, Array.getD, h]
theorem upTo_ext {listed : Array Bool} {n k : Nat} (hs : listed.size = n) (h : ∀ i, i < n → isDone listed i = decide (i < k)) : listed = upTo n k := by
  apply Array.ext
  · rw [hs, upTo_size]
  · intro i h1 h2
    have := h i (by omega)
    simp only [isDone, Array.getD, h1, dif_pos] at this
    rw [show listed[i] = decide (i < k) from this]
    simp [upTo]
theorem upTo_set {n k : Nat} (h : k < n) : (upTo n k).setIfInBounds k true = upTo n (k + 1) := by
  apply upTo_ext
  · simp [upTo_size]
  · intro i hi
    by_cases hik : i = k
    · subst hik
      rw [isDone_set (by rw [upTo_size]; exact hi)]
      simp
    · rw [isDone_set_ne hik, isDone_upTo hi]
      by_cases h1 : i < k
      · simp [h1]; omega
      · simp [h1]; omega
end
/-- the first k operations are done: what is left -/
def Up (P : Program) (ops : Array Oper) (Q : Exit → Act → World → Prop) (k : Nat) (a : Act) (w : World) : Prop := ∀ fuel, ops.size - k ≤ fuel → wpAny P .any ops Q fuel (upTo ops.size k) a w
section
variable {P : Program} {ops : Array Oper} {Q : Exit → Act → World → Prop} {RF RC : World → World → Prop} {w0 : World}
variable (hF : ∀ x, RF x x) (hFF : ∀ x y z, RF x y → RF y z → RF x z) (hC : ∀ x, RC x x) (hCC : ∀ x y z, RC x y → RC y z → RC x z) (hFC : ∀ x y, RF x y → RC x y)
variable (hns : Region.noSelect ops = true)

include hF hFF hC hCC hFC hns in
theorem po_main {Q' : Exit → Act → World → Prop} {k2 : Nat} (hk2 : k2 ≤ ops.size) (K : ∀ ac w', Q .normal ac w' → Up P ops Q' k2 ac w') {an : Nat → Nat → Bool} {sz : Nat} (S : Static ops an sz) : ∀ (fuel : Nat) (w0 : World) (π : List (Kind × Nat)) (pre : List Nat) (ac : Act) (wc : World) (listed : Array Bool) (a : Act) (w : World),
    G P ops Q RF RC w0 (isDone listed) a w π ac wc → RF wc w → RC w0 w → Ord ops an π pre → (∀ j ∈ pre, j < ops.size ∧ ∀ k ∈ afters ops j, k ∈ pre) → (∀ j ∈ pre, isDone listed j = true) →
    (∀ i, i < k2 → i ∈ pre ∨ ∃ s ∈ π, s.2 = i) → (∀ i, k2 ≤ i → i < ops.size → isDone listed i = false ∧ ∀ s ∈ π, an i s.2 = true) → (∀ i, i < ops.size → isDone listed i = true → ∀ k ∈ afters ops i, isDone listed k = true) →
    listed.size = ops.size → a.tmps.size = sz → ac.tmps.size = sz → ac.defers = a.defers →
    (∀ t, (∀ s ∈ π, isDone listed s.2 = true → dstOf ops s.2 ≠ some t) → slot ac t = slot a t) →
    (π.filter fun s => !isDone listed s.2).length + (ops.size - k2) ≤ fuel → wpAny P .any ops Q' fuel listed a w := by
  intro fuel
  have finish : ∀ (fuel : Nat) (w0 : World) (π : List (Kind × Nat)) (pre : List Nat) (ac : Act) (wc : World) (listed : Array Bool) (a : Act) (w : World),
      G P ops Q RF RC w0 (isDone listed) a w π ac wc → RF wc w → (∀ j ∈ pre, isDone listed j = true) →
      (∀ i, i < k2 → i ∈ pre ∨ ∃ s ∈ π, s.2 = i) → (∀ i, k2 ≤ i → i < ops.size → isDone listed i = false ∧ ∀ s ∈ π, an i s.2 = true) →
      listed.size = ops.size → a.tmps.size = sz → ac.tmps.size = sz → ac.defers = a.defers →
      (∀ t, (∀ s ∈ π, isDone listed s.2 = true → dstOf ops s.2 ≠ some t) → slot ac t = slot a t) →
      (ops.size - k2) ≤ fuel → (∀ s ∈ π, isDone listed s.2 = true) → wpAny P .any ops Q' fuel listed a w := by
    intro fuel w0 π pre ac wc listed a w hG hRF hpre hall hlat hlz haz hacz hdf hag hcnt hd
    obtain ⟨ac', wc', h1, h2, h3, h4, h5⟩ := passDone hF [] π hd ac wc (by rw [List.append_nil]; exact hG) hRF (by rw [hacz, haz]) hdf (fun i d h => by rw [haz]; exact S.bound i d h) (by rw [List.append_nil]; exact hag)
    have : ac' = a := act_ext h3 h4 fun t => h5 t fun s hs => by cases hs
    have hl : listed = upTo ops.size k2 := by
      apply upTo_ext hlz
      intro i hi
      by_cases hik : i < k2
      · rw [decide_eq_true hik]
        rcases hall i hik with h | ⟨s, hs, rfl⟩
        · exact hpre i h
        · exact hd s hs
      · rw [decide_eq_false hik]
        exact (hlat i (by omega) hi).1
    rw [hl, ← this]
    exact K _ _ (h1 w h2) fuel hcnt
  induction fuel with
  | zero =>
    intro w0 π pre ac wc listed a w hG hRF h0w hOrd hpc hpre hall hlat hcl hlz haz hacz hdf hag hcnt
    refine finish 0 w0 π pre ac wc listed a w hG hRF hpre hall hlat hlz haz hacz hdf hag (by omega) fun s hs => ?_
    have : (π.filter fun s => !isDone listed s.2) = [] := List.eq_nil_of_length_eq_zero (by omega)
    have := List.filter_eq_nil_iff.1 this s hs
    simpa using this
  | succ fuel ih =>
    intro w0 π pre ac wc listed a w hG hRF h0w hOrd hpc hpre hall hlat hcl hlz haz hacz hdf hag hcnt
    by_cases hd : ∀ s ∈ π, isDone listed s.2 = true
    · exact finish (fuel + 1) w0 π pre ac wc listed a w hG hRF hpre hall hlat hlz haz hacz hdf hag (by omega) hd
    refine ⟨fun hr => absurd (all_done hlz hr π pre hOrd hpre) hd, fun i hi => ?_⟩
    obtain ⟨hl1, o, ho, hall'⟩ := mem_ready.1 hi
    have hlt : i < ops.size := (Array.getElem?_eq_some_iff.1 ho).1
    have hlt' : i < listed.size := by omega
    have hdi : isDone listed i = false := by
      simp only [isDone, Array.getD, hlt', dif_pos] at hl1 ⊢
      exact hl1
    have haf : ∀ k ∈ afters ops i, isDone listed k = true := by
      intro k hk
      simp only [afters, ho, List.mem_map, List.mem_filter] at hk
      obtain ⟨e, ⟨he, hb⟩, rfl⟩ := hk
      exact hall' e (by simpa using he) hb
    have hanc := anc_done S hcl (i + 1) i (by omega) hlt haf
    have hnd : ∀ j, j < ops.size → isDone listed j = true → an j i = true → False := fun j hj hdj hji => by
      have := anc_done S hcl (j + 1) j (by omega) hj (hcl j hj hdj) i hji
      rw [hdi] at this
      cases this
    have hik : i < k2 := by
      rcases Nat.lt_or_ge i k2 with h | h
      · exact h
      · exact absurd (fun s hs => hanc s.2 ((hlat i h hlt).2 s hs)) hd
    have hlat' : ∀ (π' : List (Kind × Nat)), (∀ s ∈ π', s ∈ π) → ∀ j, k2 ≤ j → j < ops.size → isDone (listed.setIfInBounds i true) j = false ∧ ∀ s ∈ π', an j s.2 = true := fun π' hπ j hj hjs => by
      rw [isDone_set_ne (by omega)]
      exact ⟨(hlat j hj hjs).1, fun s hs => (hlat j hj hjs).2 s (hπ s hs)⟩
    have hex : ∃ s ∈ π, s.2 = i := by
      rcases hall i hik with h | h
      · have := hpre i h; rw [hdi] at this; cases this
      · exact h
    obtain ⟨π1, k, π2, rfl, hne1⟩ := split_at hex
    have hO2 := Ord.split hOrd
    have hne2 : ∀ s ∈ π2, s.2 ≠ i := fun s hs e => Ord.notMem hO2.2.2.2.2.2 s hs (by rw [e]; simp)
    have hlt1 : ∀ s ∈ π1, s.2 < ops.size := fun s hs => Ord.lt hOrd s (by simp [hs])
    have hlt2 : ∀ s ∈ π2, s.2 < ops.size := fun s hs => Ord.lt hOrd s (by simp [hs])
    have hdst : ∀ j d, j ≠ i → dstOf ops j = some d → dstOf ops i ≠ some d := fun j d hj hd => (S.apart i j d hlt (dstOf_lt hd) (Ne.symm hj) hd).1
    have hcl' : ∀ j, j < ops.size → isDone (listed.setIfInBounds i true) j = true → ∀ k ∈ afters ops j, isDone (listed.setIfInBounds i true) k = true := by
      intro j hj hdj k' hk'
      by_cases hki : k' = i
      · rw [hki]; exact isDone_set hlt'
      · rw [isDone_set_ne hki]
        by_cases hji : j = i
        · subst hji; exact haf k' hk'
        · rw [isDone_set_ne hji] at hdj
          exact hcl j hj hdj k' hk'
    have hpost : ∀ s ∈ π2, isDone listed s.2 = true → ∀ d, dstOf ops s.2 = some d → d ∉ looks ops i := by
      intro s hs hds d hd hm
      rcases (S.apart i s.2 d hlt (hlt2 s hs) (Ne.symm (hne2 s hs)) hd).2 hm with h | h
      · obtain ⟨k', hk', hh⟩ := S.step i s.2 hlt h
        -- an ancestor of i stands ahead of it
        exact absurd (ancAhead S hOrd hpc h) (by
          intro hmem
          exact Ord.notMem hO2.2.2.2.2.2 s hs (by
            rcases hmem with hmem | hmem
            · exact List.mem_cons_of_mem _ (by simp only [List.mem_append, List.mem_reverse, List.mem_map]; exact .inl hmem)
            · exact List.mem_cons_of_mem _ (List.mem_append_right _ hmem)))
      · exact hnd s.2 (hlt2 s hs) hds h
    by_cases hk : k = .call
    · subst hk
      have hd1 : ∀ s ∈ π1, isDone listed s.2 = true := fun s hs => hanc s.2 (hO2.2.2.2.1 (.inl rfl) s.2 (by simp only [List.mem_append, List.mem_reverse, List.mem_map]; exact .inl ⟨s, hs, rfl⟩))
      obtain ⟨ac', wc', g1, g2, g3, g4, g5⟩ := passDone hF _ π1 hd1 ac wc hG hRF (by rw [hacz, haz]) hdf (fun i d h => by rw [haz]; exact S.bound i d h) hag
      have hag' : ∀ t ∈ looks ops i, slot ac' t = slot a t := fun t ht => g5 t fun s hs hds e => by
        rcases List.mem_cons.1 hs with rfl | hs
        · simp only [hdi] at hds; cases hds
        · exact hpost s hs hds t e ht
      have h1 := g1.2 w g2
      rw [opV_agree hns g3 hag'] at h1
      refine wpOp_of_opV h1 fun v p hvp => ?_
      refine ih w0 π2 (i :: ((π1.map (·.2)).reverse ++ pre)) (ac'.put (dstOf ops i) v) p (listed.setIfInBounds i true) _ p ?_ (hF p) (hCC _ _ _ h0w hvp.1) hO2.2.2.2.2.2 ?_ ?_ ?_ (hlat' π2 fun s hs => by simp [hs]) hcl' (by simpa using hlz) (by rw [size_put, haz]) (by rw [size_put, g3, haz]) (by rw [defers_put, defers_put, g4]) ?_ ?_
      · exact G_mono (fun x hx => hCC _ _ _ hx hvp.1) π2 (fun s hs => isDone_set_ne (hne2 s hs)) (fun s hs _ d hd => slot_put_ne (hdst _ _ (hne2 s hs) hd)) _ _ hvp.2
      · have := Ord.closed (π1 := π1 ++ [(Kind.call, i)]) (rest := π2) (by simpa using hOrd) hpc
        simpa using this
      · intro j hj
        by_cases hji : j = i
        · rw [hji]; exact isDone_set hlt'
        · rw [isDone_set_ne hji]
          rcases List.mem_cons.1 hj with h | h
          · exact absurd h hji
          · simp only [List.mem_append, List.mem_reverse, List.mem_map] at h
            rcases h with ⟨s, hs, rfl⟩ | h
            · exact hd1 s hs
            · exact hpre j h
      · intro j hj
        rcases hall j hj with h | ⟨s, hs, rfl⟩
        · exact .inl (List.mem_cons_of_mem _ (List.mem_append_right _ h))
        · rcases List.mem_append.1 hs with hs | hs
          · exact .inl (List.mem_cons_of_mem _ (by simp only [List.mem_append, List.mem_reverse, List.mem_map]; exact .inl ⟨s, hs, rfl⟩))
          · rcases List.mem_cons.1 hs with rfl | hs
            · exact .inl (by simp)
            · exact .inr ⟨s, hs, rfl⟩
      · intro t ht
        by_cases hdt : dstOf ops i = some t
        · rw [hdt, slot_put_self (by rw [g3, haz]; exact S.bound _ _ hdt), slot_put_self (by rw [haz]; exact S.bound _ _ hdt)]
        · rw [slot_put_ne hdt, slot_put_ne hdt]
          refine g5 t fun s hs hds => ?_
          rcases List.mem_cons.1 hs with rfl | hs
          · exact hdt
          · exact ht s hs (by rw [isDone_set_ne (hne2 s hs)]; exact hds)
      · have hc := (count_set hdi hlt' π2).1
        have : ((π1 ++ (Kind.call, i) :: π2).filter fun s => !isDone listed s.2).length = (π1.filter fun s => !isDone listed s.2).length + ((π2.filter fun s => !isDone listed s.2).length + 1) := by
          simp [List.filter_append, List.filter_cons, hdi]
        omega
    · by_cases hkt : k = .tail
      · subst hkt
        have hd1 : ∀ s ∈ π1, isDone listed s.2 = true := fun s hs => hanc s.2 (hO2.2.2.2.1 (.inr rfl) s.2 (by simp only [List.mem_append, List.mem_reverse, List.mem_map]; exact .inl ⟨s, hs, rfl⟩))
        obtain ⟨ac', wc', g1, g2, g3, g4, g5⟩ := passDone hF _ π1 hd1 ac wc hG hRF (by rw [hacz, haz]) hdf (fun i d h => by rw [haz]; exact S.bound i d h) hag
        have hag' : ∀ t ∈ looks ops i, slot ac' t = slot a t := fun t ht => g5 t fun s hs hds e => by
          rcases List.mem_cons.1 hs with rfl | hs
          · simp only [hdi] at hds; cases hds
          · exact hpost s hs hds t e ht
        have h1 := g1.2 w g2
        rw [opV_agree hns g3 hag'] at h1
        refine wpOp_of_opV h1 fun v p hvp => ?_
        refine ih p π2 (i :: ((π1.map (·.2)).reverse ++ pre)) (ac'.put (dstOf ops i) v) p (listed.setIfInBounds i true) _ p ?_ (hF p) (hC p) hO2.2.2.2.2.2 ?_ ?_ ?_ (hlat' π2 fun s hs => by simp [hs]) hcl' (by simpa using hlz) (by rw [size_put, haz]) (by rw [size_put, g3, haz]) (by rw [defers_put, defers_put, g4]) ?_ ?_
        · refine G_tail π2 (hO2.2.2.2.2.1 rfl) (fun s hs => ?_) _ _ hvp
          rw [isDone_set_ne (hne2 s hs)]
          cases hds : isDone listed s.2 with
          | false => rfl
          | true =>
            have hsk := hO2.2.2.2.2.1 rfl s hs
            obtain ⟨q1, q2, rfl⟩ := List.append_of_mem hs
            have hO3 := Ord.split (π1 := π1 ++ (Kind.tail, i) :: q1) (rest := s :: q2) (by simpa using hOrd)
            have := hO3.2.2.2.1 (.inr hsk) i (by simp)
            exact (hnd s.2 (hlt2 s hs) hds this).elim
        · have := Ord.closed (π1 := π1 ++ [(Kind.tail, i)]) (rest := π2) (by simpa using hOrd) hpc
          simpa using this
        · intro j hj
          by_cases hji : j = i
          · rw [hji]; exact isDone_set hlt'
          · rw [isDone_set_ne hji]
            rcases List.mem_cons.1 hj with h | h
            · exact absurd h hji
            · simp only [List.mem_append, List.mem_reverse, List.mem_map] at h
              rcases h with ⟨s, hs, rfl⟩ | h
              · exact hd1 s hs
              · exact hpre j h
        · intro j hj
          rcases hall j hj with h | ⟨s, hs, rfl⟩
          · exact .inl (List.mem_cons_of_mem _ (List.mem_append_right _ h))
          · rcases List.mem_append.1 hs with hs | hs
            · exact .inl (List.mem_cons_of_mem _ (by simp only [List.mem_append, List.mem_reverse, List.mem_map]; exact .inl ⟨s, hs, rfl⟩))
            · rcases List.mem_cons.1 hs with rfl | hs
              · exact .inl (by simp)
              · exact .inr ⟨s, hs, rfl⟩
        · intro t ht
          by_cases hdt : dstOf ops i = some t
          · rw [hdt, slot_put_self (by rw [g3, haz]; exact S.bound _ _ hdt), slot_put_self (by rw [haz]; exact S.bound _ _ hdt)]
          · rw [slot_put_ne hdt, slot_put_ne hdt]
            refine g5 t fun s hs hds => ?_
            rcases List.mem_cons.1 hs with rfl | hs
            · exact hdt
            · exact ht s hs (by rw [isDone_set_ne (hne2 s hs)]; exact hds)
        · have hc := (count_set hdi hlt' π2).1
          have : ((π1 ++ (Kind.tail, i) :: π2).filter fun s => !isDone listed s.2).length = (π1.filter fun s => !isDone listed s.2).length + ((π2.filter fun s => !isDone listed s.2).length + 1) := by
            simp [List.filter_append, List.filter_cons, hdi]
          omega
      · have hnt : ∀ s ∈ π1, s.1 ≠ .tail := by
          intro s hs e
          obtain ⟨q1, q2, rfl⟩ := List.append_of_mem hs
          have hO3 := Ord.split (π1 := q1) (rest := s :: (q2 ++ (k, i) :: π2)) (by simpa using hOrd)
          exact hkt (hO3.2.2.2.2.1 e (k, i) (by simp))
        have hno : ∀ s ∈ π1, isDone listed s.2 = false → ∀ d, dstOf ops s.2 = some d → d ∉ looks ops i := by
          intro s hs hds d hd hm
          rcases (S.apart i s.2 d hlt (hlt1 s hs) (Ne.symm (hne1 s hs)) hd).2 hm with h | h
          · rw [hanc s.2 h] at hds; cases hds
          · -- i would stand ahead of s
            exact absurd (ancAhead' S hOrd hpc hs h) (by
              intro hmem
              rcases hmem with ⟨s', hs', e⟩ | hmem
              · exact hne1 s' hs' e
              · exact absurd (hpre i hmem) (by rw [hdi]; simp))
        obtain ⟨v, p, hrun, hwp⟩ := floatRun hF hFF hC hCC hFC hns k i hk hkt hdi π2 h0w (fun i d h => by rw [haz]; exact S.bound i d h) hpost π1 hnt hno ac wc w hG hRF (hC w) (by rw [hacz, haz]) (fun t _ => hag t)
        refine wpOp_of_runV hrun ?_
        refine ih w0 (π1 ++ (k, i) :: π2) pre ac wc (listed.setIfInBounds i true) _ p ?_ (hFF _ _ _ hRF hwp) (hCC _ _ _ h0w (hFC _ _ hwp)) hOrd hpc ?_ hall (hlat' _ fun s hs => hs) hcl' (by simpa using hlz) (by rw [size_put, haz]) hacz (by rw [defers_put, hdf]) ?_ ?_
        · exact rebuild hC hCC hFC hns k i hk hkt hdi π2 h0w (fun i d h => by rw [haz]; exact S.bound i d h) (fun j hj => isDone_set_ne hj) (isDone_set hlt') hdst hrun hwp hpost hne2 π1 hnt hne1 hno ac wc hG (by rw [hacz, haz]) (fun t _ => hag t)
        · intro j hj
          by_cases hji : j = i
          · rw [hji]; exact isDone_set hlt'
          · rw [isDone_set_ne hji]; exact hpre j hj
        · intro t ht
          have hti : dstOf ops i ≠ some t := ht (k, i) (by simp) (isDone_set hlt')
          rw [slot_put_ne hti]
          refine hag t fun s hs hds => ?_
          by_cases hsi : s.2 = i
          · rw [hsi]; exact hti
          · exact ht s hs (by rw [isDone_set_ne hsi]; exact hds)
        · have hc := (count_set hdi hlt' (π1 ++ (k, i) :: π2)).2 ⟨(k, i), by simp, rfl⟩
          omega


theorem static_of {tbl : List Nat} {π : List (Kind × Nat)} {sz : Nat} (h : staticOk ops tbl π sz = true) :
    Region.noSelect ops = true ∧ Static ops (anc tbl) sz ∧ Ord ops (anc tbl) π [] ∧ (∀ i, i < ops.size → ∃ s ∈ π, s.2 = i) := by
  simp only [staticOk, Bool.and_eq_true] at h
  obtain ⟨⟨⟨⟨⟨h1, h2⟩, h3⟩, h4⟩, h5⟩, h6⟩ := h
  have at2 : ∀ i, i < ops.size → (∀ k ∈ afters ops i, k < i) ∧ tbl.getD i 0 = maskOf tbl (afters ops i) := by
    intro i hi
    have := List.all_eq_true.1 h2 i (List.mem_range.2 hi)
    simp only [Bool.and_eq_true, beq_iff_eq] at this
    exact ⟨fun k hk => of_decide_eq_true (List.all_eq_true.1 this.1 k hk), this.2⟩
  refine ⟨h1, ⟨fun i hi => (at2 i hi).1, fun i j hi hj => ?_, fun i j d hi hj hne hd => ?_, fun i d hd => ?_⟩, ord_of h3, fun i hi => ?_⟩
  · unfold anc at hj
    rw [(at2 i hi).2] at hj
    exact anc_maskOf hj
  · have := List.all_eq_true.1 (List.all_eq_true.1 h5 i (List.mem_range.2 hi)) j (List.mem_range.2 hj)
    simp only [Bool.or_eq_true, beq_iff_eq, hne, false_or, hd, Bool.and_eq_true, bne_iff_ne, Bool.not_eq_true'] at this
    refine ⟨this.1, fun hm => ?_⟩
    rcases this.2 with (hh | hh) | hh
    · have : (looks ops i).contains d = true := by simpa using hm
      rw [this] at hh; cases hh
    · exact .inl hh
    · exact .inr hh
  · have := List.all_eq_true.1 h6 i (List.mem_range.2 (dstOf_lt hd))
    simp only [hd] at this
    exact of_decide_eq_true this
  · have := List.all_eq_true.1 h4 i (List.mem_range.2 hi)
    obtain ⟨s, hs, e⟩ := List.any_eq_true.1 this
    exact ⟨s, hs, by simpa using e⟩
end

theorem List.Nodup.length_le_of_lt : ∀ {n : Nat} {l : List Nat}, l.Nodup → (∀ j ∈ l, j < n) → l.length ≤ n
  | 0, l, _, h => by
    cases l with
    | nil => simp
    | cons x l => exact absurd (h x (by simp)) (by omega)
  | n + 1, l, hn, h => by
    by_cases hm : n ∈ l
    · have hn' : (l.erase n).Nodup := hn.erase _
      have := List.Nodup.length_le_of_lt (n := n) hn' (fun j hj => by
        have h1 := h j (List.mem_of_mem_erase hj)
        have h2 : j ≠ n := fun e => by
          subst e
          exact (List.Nodup.not_mem_erase hn) hj
        omega)
      rw [List.length_erase_of_mem hm] at this
      omega
    · have := List.Nodup.length_le_of_lt (n := n) hn (fun j hj => by
        have h1 := h j hj
        have h2 : j ≠ n := fun e => hm (e ▸ hj)
        omega)
      omega

/-! stages: a region is walked piece by piece -/
section
variable {P : Program} {ops : Array Oper}

theorem ready_iff {listed : Array Bool} {i : Nat} (hz : listed.size = ops.size) (hi : i < ops.size) : i ∈ Region.ready .any ops listed ↔ (isDone listed i = false ∧ ∀ k ∈ afters ops i, isDone listed k = true) := by
  have hoi : ops[i]? = some (ops[i]) := by simp [hi]
  have hlt : i < listed.size := by omega
  rw [mem_ready]
  constructor
  · rintro ⟨h1, o, ho, h2⟩
    refine ⟨by simp only [isDone, Array.getD, hlt, dif_pos] at h1 ⊢; exact h1, fun k hk => ?_⟩
    simp only [afters, ho, List.mem_map, List.mem_filter] at hk
    obtain ⟨e, ⟨he, hb⟩, rfl⟩ := hk
    exact h2 e (by simpa using he) hb
  · rintro ⟨h1, h2⟩
    refine ⟨by simp only [isDone, Array.getD, hlt, dif_pos] at h1 ⊢; exact h1, _, hoi, fun e he hb => ?_⟩
    refine h2 e.on ?_
    simp only [afters, hoi, List.mem_map, List.mem_filter]
    exact ⟨e, ⟨by simpa using he, hb⟩, rfl⟩
theorem ready_lt {listed : Array Bool} {i : Nat} (h : i ∈ Region.ready .any ops listed) : i < ops.size := by
  obtain ⟨_, o, ho, _⟩ := mem_ready.1 h
  exact (Array.getElem?_eq_some_iff.1 ho).1

def staticAt (ops : Array Oper) (tbl : List Nat) (k1 k2 : Nat) (π : List (Kind × Nat)) (sz : Nat) : Bool :=
  Region.noSelect ops &&
  ((List.range ops.size).all fun i => (afters ops i).all (fun k => decide (k < i)) && (tbl.getD i 0 == maskOf tbl (afters ops i))) &&
  okFrom ops tbl π (List.range k1) && ((List.range k2).all fun i => decide (i < k1) || π.any (fun s => s.2 == i)) &&
  ((List.range ops.size).all fun i => (List.range ops.size).all fun j => i == j || match dstOf ops j with
    | none => true
    | some d => dstOf ops i != some d && (!(looks ops i).contains d || anc tbl i j || anc tbl j i)) &&
  ((List.range ops.size).all fun i => match dstOf ops i with | none => true | some d => decide (d < sz)) &&
  ((List.range ops.size).all fun i => decide (i < k2) || π.all fun s => anc tbl i s.2) && decide (k2 ≤ ops.size) && decide (k1 ≤ k2) && decide (π.length + k1 ≤ k2)

theorem static_core {tbl : List Nat} {sz : Nat} (h2 : ((List.range ops.size).all fun i => (afters ops i).all (fun k => decide (k < i)) && (tbl.getD i 0 == maskOf tbl (afters ops i))) = true)
    (h5 : ((List.range ops.size).all fun i => (List.range ops.size).all fun j => i == j || match dstOf ops j with
      | none => true
      | some d => dstOf ops i != some d && (!(looks ops i).contains d || anc tbl i j || anc tbl j i)) = true)
    (h6 : ((List.range ops.size).all fun i => match dstOf ops i with | none => true | some d => decide (d < sz)) = true) : Static ops (anc tbl) sz := by
  have at2 : ∀ i, i < ops.size → (∀ k ∈ afters ops i, k < i) ∧ tbl.getD i 0 = maskOf tbl (afters ops i) := by
    intro i hi
    have := List.all_eq_true.1 h2 i (List.mem_range.2 hi)
    simp only [Bool.and_eq_true, beq_iff_eq] at this
    exact ⟨fun k hk => of_decide_eq_true (List.all_eq_true.1 this.1 k hk), this.2⟩
  refine ⟨fun i hi => (at2 i hi).1, fun i j hi hj => ?_, fun i j d hi hj hne hd => ?_, fun i d hd => ?_⟩
  · unfold anc at hj
    rw [(at2 i hi).2] at hj
    exact anc_maskOf hj
  · have := List.all_eq_true.1 (List.all_eq_true.1 h5 i (List.mem_range.2 hi)) j (List.mem_range.2 hj)
    simp only [Bool.or_eq_true, beq_iff_eq, hne, false_or, hd, Bool.and_eq_true, bne_iff_ne, Bool.not_eq_true'] at this
    refine ⟨this.1, fun hm => ?_⟩
    rcases this.2 with (hh | hh) | hh
    · have : (looks ops i).contains d = true := by simpa using hm
      rw [this] at hh; cases hh
    · exact .inl hh
    · exact .inr hh
  · have := List.all_eq_true.1 h6 i (List.mem_range.2 (dstOf_lt hd))
    simp only [hd] at this
    exact of_decide_eq_true this

theorem po_stage {Q : Exit → Act → World → Prop} {a : Act} {w : World} (RF RC : World → World → Prop)
    (hF : ∀ x, RF x x) (hFF : ∀ x y z, RF x y → RF y z → RF x z) (hC : ∀ x, RC x x) (hCC : ∀ x y z, RC x y → RC y z → RC x z) (hFC : ∀ x y, RF x y → RC x y)
    (tbl : List Nat) (k1 k2 : Nat) (π : List (Kind × Nat)) (hst : staticAt ops tbl k1 k2 π a.tmps.size = true)
    (h : poW P ops (fun e a' w' => e = .normal → Up P ops Q k2 a' w') RF RC w π a w) : Up P ops Q k1 a w := by
  simp only [staticAt, Bool.and_eq_true] at hst
  obtain ⟨⟨⟨⟨⟨⟨⟨⟨⟨h1, h2⟩, h3⟩, h4⟩, h5⟩, h6⟩, h7⟩, h8⟩, h9⟩, h10⟩ := hst
  have h8 := of_decide_eq_true h8
  have h9 := of_decide_eq_true h9
  have h10 := of_decide_eq_true h10
  have S := static_core (tbl := tbl) h2 h5 h6
  have hO := ord_of h3
  intro fuel hfuel
  have hge : ∀ s ∈ π, k1 ≤ s.2 := fun s hs => by
    have := Ord.notMem hO s hs
    simpa using this
  have hlt : ∀ s ∈ π, s.2 < ops.size := fun s hs => Ord.lt hO s hs
  have hnd : ∀ s ∈ π, isDone (upTo ops.size k1) s.2 = false := fun s hs => by
    rw [isDone_upTo (hlt s hs)]
    have := hge s hs
    simpa using this
  refine po_main (Q := fun e a' w' => e = .normal → Up P ops Q k2 a' w') hF hFF hC hCC hFC h1 h8 (fun ac w' hh => hh rfl) S fuel w π (List.range k1) a w (upTo ops.size k1) a w ?_ (hF _) (hC _) hO (fun j hj => ?_) (fun j hj => ?_) (fun i hi => ?_) (fun i hi hil => ?_) (fun i hi hid k hk => ?_) (upTo_size _ _) rfl rfl rfl (fun t _ => rfl) ?_
  · exact G_mono (dn := fun _ => false) (a := a) (w := w) (fun x hx => hx) π (fun s hs => hnd s hs) (fun s _ hh => by cases hh) a w (G_of_poW a w π a w h)
  · have hj := List.mem_range.1 hj
    exact ⟨by omega, fun k hk => List.mem_range.2 (by have := S.lt j (by omega) k hk; omega)⟩
  · have hj := List.mem_range.1 hj
    rw [isDone_upTo (by omega)]
    simpa using hj
  · have := List.all_eq_true.1 h4 i (List.mem_range.2 hi)
    simp only [Bool.or_eq_true, decide_eq_true_eq] at this
    rcases this with h | h
    · exact .inl (List.mem_range.2 h)
    · obtain ⟨s, hs, e⟩ := List.any_eq_true.1 h
      exact .inr ⟨s, hs, by simpa using e⟩
  · refine ⟨by rw [isDone_upTo hil]; simp; omega, fun s hs => ?_⟩
    have := List.all_eq_true.1 h7 i (List.mem_range.2 hil)
    simp only [Bool.or_eq_true, decide_eq_true_eq] at this
    rcases this with h | h
    · omega
    · exact List.all_eq_true.1 h s hs
  · rw [isDone_upTo hi] at hid
    have hid := of_decide_eq_true hid
    have := S.lt i hi k hk
    rw [isDone_upTo (by omega)]
    simp; omega
  · have := List.length_filter_le (fun s : Kind × Nat => !isDone (upTo ops.size k1) s.2) π
    omega

theorem up_end {Q : Exit → Act → World → Prop} {a : Act} {w : World} (h : Q .normal a w) : Up P ops Q ops.size a w := by
  have hr : Region.ready .any ops (upTo ops.size ops.size) = [] := by
    rw [List.eq_nil_iff_forall_not_mem]
    intro i hi
    have hlt := ready_lt hi
    have := ((ready_iff (upTo_size _ _) hlt).1 hi).1
    rw [isDone_upTo hlt] at this
    simp [hlt] at this
  intro fuel _
  cases fuel with
  | zero => exact ⟨hr, h⟩
  | succ fuel => exact ⟨fun _ => h, fun i hi => by rw [hr] at hi; cases hi⟩

theorem wp_region_up {Q : Exit → Act → World → Prop} {id : Nat} {a : Act} {w : World} (hm : P.follows .mixedOrders = true)
    (h : ∀ w1 : World, w1.heap = w.heap → w1.os = w.os → w1.tape = w.tape → w1.output = w.output → Up P ops Q 0 a w1) : (Code.region id ops true).wp P Q a w := by
  refine wp_region_any hm ?_
  have e : Array.replicate ops.size false = upTo ops.size 0 := upTo_ext (by simp) (fun i hi => by simp [isDone, Array.getD, hi])
  rw [e]
  exact h { w with drawn := w.drawn + 1 } rfl rfl rfl rfl ops.size (Nat.sub_le _ _)

/-- two that stand side by side and write: in either order -/
def pairAt (ops : Array Oper) (tbl : List Nat) (k : Nat) : Bool :=
  ((List.range ops.size).all fun i => (afters ops i).all (fun k => decide (k < i)) && (tbl.getD i 0 == maskOf tbl (afters ops i))) &&
  (afters ops (k + 1)).all (fun j => decide (j < k)) && decide (k + 2 ≤ ops.size) && (dstOf ops k == none) && (dstOf ops (k + 1) == none) &&
  ((List.range ops.size).all fun i => decide (i < k + 2) || (anc tbl i k && anc tbl i (k + 1)))
theorem put_none (a : Act) (v : Value) : a.put none v = a := rfl
theorem up_pair {Q : Exit → Act → World → Prop} {a : Act} {w : World} (tbl : List Nat) (k : Nat) (hst : pairAt ops tbl k = true)
    (h1 : opV P ops k a w fun _ p => opV P ops (k + 1) a p fun _ p' => Up P ops Q (k + 2) a p')
    (h2 : opV P ops (k + 1) a w fun _ p => opV P ops k a p fun _ p' => Up P ops Q (k + 2) a p') : Up P ops Q k a w := by
  simp only [pairAt, Bool.and_eq_true, beq_iff_eq] at hst
  obtain ⟨⟨⟨⟨⟨g1, g2⟩, g3⟩, g4⟩, g5⟩, g6⟩ := hst
  have g3 := of_decide_eq_true g3
  have lt : ∀ i, i < ops.size → ∀ j ∈ afters ops i, j < i := fun i hi j hj => by
    have := List.all_eq_true.1 g1 i (List.mem_range.2 hi)
    simp only [Bool.and_eq_true] at this
    exact of_decide_eq_true (List.all_eq_true.1 this.1 j hj)
  have step : ∀ i j, i < ops.size → anc tbl i j = true → ∃ k ∈ afters ops i, j = k ∨ anc tbl k j = true := fun i j hi hj => by
    have := List.all_eq_true.1 g1 i (List.mem_range.2 hi)
    simp only [Bool.and_eq_true, beq_iff_eq] at this
    unfold anc at hj
    rw [this.2] at hj
    exact anc_maskOf hj
  have ancd : ∀ (dn : Nat → Bool), (∀ i, i < ops.size → dn i = true → ∀ j ∈ afters ops i, dn j = true) → ∀ (n i : Nat), i < n → i < ops.size → (∀ j ∈ afters ops i, dn j = true) → ∀ j, anc tbl i j = true → dn j = true := by
    intro dn hcl n
    induction n with
    | zero => intro i h; omega
    | succ n ih =>
      intro i hin hi ha j hj
      obtain ⟨m, hm, rfl | hm'⟩ := step i j hi hj
      · exact ha _ hm
      · have := lt i hi m hm
        exact ih m (by omega) (by omega) (hcl m (by omega) (ha m hm)) j hm'
  have late : ∀ i, k + 2 ≤ i → i < ops.size → anc tbl i k = true ∧ anc tbl i (k + 1) = true := fun i h hi => by
    have := List.all_eq_true.1 g6 i (List.mem_range.2 hi)
    simp only [Bool.or_eq_true, decide_eq_true_eq, Bool.and_eq_true] at this
    rcases this with h' | h'
    · omega
    · exact h'
  have af : ∀ j ∈ afters ops (k + 1), j < k := fun j hj => of_decide_eq_true (List.all_eq_true.1 g2 j hj)
  have af0 : ∀ j ∈ afters ops k, j < k := lt k (by omega)
  -- what is listed: the first k, and one or none of the two
  have main : ∀ (m : Nat) (listed : Array Bool), listed.size = ops.size → (∀ i, i < ops.size → isDone listed i = (decide (i < k) || decide (i = m))) → (m = k ∨ m = k + 1) → ∀ i ∈ Region.ready .any ops listed, i = k ∨ i = k + 1 := by
    intro m listed hz hd hm i hi
    have hil := ready_lt hi
    obtain ⟨q1, q2⟩ := (ready_iff hz hil).1 hi
    rcases Nat.lt_or_ge i (k + 2) with h | h
    · rw [hd i hil] at q1
      simp at q1
      omega
    · exfalso
      have hcl : ∀ i, i < ops.size → isDone listed i = true → ∀ j ∈ afters ops i, isDone listed j = true := by
        intro i hi hdi j hj
        rw [hd i hi] at hdi
        have := lt i hi j hj
        rw [hd j (by omega)]
        simp only [Bool.or_eq_true, decide_eq_true_eq] at hdi ⊢
        rcases hdi with h | h
        · left; omega
        · left
          rcases hm with e | e
          · exact af0 j (by rw [← e, ← h]; exact hj)
          · exact af j (by rw [← e, ← h]; exact hj)
      have hl := late i h hil
      have e1 := ancd (isDone listed) hcl (i + 1) i (by omega) hil q2 k hl.1
      have e2 := ancd (isDone listed) hcl (i + 1) i (by omega) hil q2 (k + 1) hl.2
      rw [hd k (by omega)] at e1
      rw [hd (k + 1) (by omega)] at e2
      simp at e1 e2
      omega
  have last : ∀ (listed : Array Bool) (m : Nat), listed.size = ops.size → (∀ i, i < ops.size → isDone listed i = (decide (i < k) || decide (i = m))) → (m = k ∨ m = k + 1) → ∀ (m' : Nat), (m' = k ∧ m = k + 1 ∨ m' = k + 1 ∧ m = k) → listed.setIfInBounds m' true = upTo ops.size (k + 2) := by
    intro listed m hz hd hm m' hm'
    apply upTo_ext (by simpa using hz)
    intro i hi
    by_cases him : i = m'
    · subst him
      rw [isDone_set (by omega)]
      simp; omega
    · rw [isDone_set_ne him, hd i hi]
      by_cases h : i < k + 2
      · simp [h]; omega
      · simp [h]; omega
  have one : ∀ (m m' : Nat) (p : World) (fuel : Nat), (m' = k ∧ m = k + 1 ∨ m' = k + 1 ∧ m = k) → ops.size - (k + 2) ≤ fuel → (opV P ops m' a p fun _ p' => Up P ops Q (k + 2) a p') →
      wpAny P .any ops Q (fuel + 1) ((upTo ops.size k).setIfInBounds m true) a p := by
    intro m m' p fuel hm hf ho
    have hz : ((upTo ops.size k).setIfInBounds m true).size = ops.size := by simp [upTo_size]
    have hd : ∀ i, i < ops.size → isDone ((upTo ops.size k).setIfInBounds m true) i = (decide (i < k) || decide (i = m)) := by
      intro i hi
      by_cases him : i = m
      · subst him
        rw [isDone_set (by rw [upTo_size]; exact hi)]
        simp
      · rw [isDone_set_ne him, isDone_upTo hi]
        simp [him]
    have hmm : m = k ∨ m = k + 1 := by omega
    refine ⟨fun hr => ?_, fun i hi => ?_⟩
    · exfalso
      have hml : m' < ops.size := by omega
      have : m' ∈ Region.ready .any ops ((upTo ops.size k).setIfInBounds m true) := by
        rw [ready_iff hz hml]
        refine ⟨by rw [hd m' hml]; simp; omega, fun j hj => ?_⟩
        have hjk : j < k := by
          rcases hm with ⟨rfl, _⟩ | ⟨rfl, _⟩
          · exact af0 j hj
          · exact af j hj
        rw [hd j (by omega)]
        simp [hjk]
      rw [hr] at this
      cases this
    · have hk := main m _ hz hd hmm i hi
      have hnd := ((ready_iff hz (ready_lt hi)).1 hi).1
      rw [hd i (ready_lt hi)] at hnd
      simp at hnd
      have hie : i = m' := by omega
      subst hie
      refine wpOp_of_opV ho fun v p' hp' => ?_
      rw [last _ m hz hd hmm i hm]
      have hdn : dstOf ops i = none := by
        rcases hm with ⟨rfl, _⟩ | ⟨rfl, _⟩
        · exact g4
        · exact g5
      rw [hdn]
      exact hp' fuel hf
  intro fuel hfuel
  obtain ⟨f, rfl⟩ : ∃ f, fuel = f + 1 + 1 := ⟨fuel - 2, by omega⟩
  have hz := upTo_size ops.size k
  refine ⟨fun hr => ?_, fun i hi => ?_⟩
  · exfalso
    have : k ∈ Region.ready .any ops (upTo ops.size k) := by
      rw [ready_iff hz (by omega)]
      refine ⟨by rw [isDone_upTo (by omega)]; simp, fun j hj => ?_⟩
      have := af0 j hj
      rw [isDone_upTo (by omega)]
      simpa using this
    rw [hr] at this
    cases this
  · have hil := ready_lt hi
    obtain ⟨q1, q2⟩ := (ready_iff hz hil).1 hi
    rw [isDone_upTo hil] at q1
    simp at q1
    have hk : i = k ∨ i = k + 1 := by
      rcases Nat.lt_or_ge i (k + 2) with h | h
      · omega
      · exfalso
        have hcl : ∀ i, i < ops.size → isDone (upTo ops.size k) i = true → ∀ j ∈ afters ops i, isDone (upTo ops.size k) j = true := by
          intro i hi hdi j hj
          rw [isDone_upTo hi] at hdi
          have := lt i hi j hj
          rw [isDone_upTo (by omega)]
          simp at hdi ⊢
          omega
        have e1 := ancd (isDone (upTo ops.size k)) hcl (i + 1) i (by omega) hil q2 k (late i h hil).1
        rw [isDone_upTo (by omega)] at e1
        simp at e1
    rcases hk with rfl | rfl
    · refine wpOp_of_opV h1 fun v p hp => ?_
      rw [g4]
      exact one i (i + 1) p f (.inr ⟨rfl, rfl⟩) (by omega) hp
    · refine wpOp_of_opV h2 fun v p hp => ?_
      rw [g5]
      exact one (k + 1) k p f (.inl ⟨rfl, rfl⟩) (by omega) hp

end

/-- THE LAW: a region that draws its order is proved by one walk in the order π. -/
theorem wp_region_po {P : Program} {ops : Array Oper} {Q : Exit → Act → World → Prop} {id : Nat} {a : Act} {w : World} (RF RC : World → World → Prop)
    (hF : ∀ x, RF x x) (hFF : ∀ x y z, RF x y → RF y z → RF x z) (hC : ∀ x, RC x x) (hCC : ∀ x y z, RC x y → RC y z → RC x z) (hFC : ∀ x y, RF x y → RC x y)
    (tbl : List Nat) (π : List (Kind × Nat)) (hm : P.follows .mixedOrders = true) (hst : staticAt ops tbl 0 ops.size π a.tmps.size = true)
    (h : ∀ w1 : World, w1.heap = w.heap → w1.os = w.os → w1.tape = w.tape → w1.output = w.output → poW P ops Q RF RC w1 π a w1) : (Code.region id ops true).wp P Q a w := by
  refine wp_region_up hm fun w1 e1 e2 e3 e4 => po_stage RF RC hF hFF hC hCC hFC tbl 0 ops.size π hst ?_
  have := h w1 e1 e2 e3 e4
  have mono : ∀ (π : List (Kind × Nat)) (ac : Act) (wc : World), poW P ops Q RF RC w1 π ac wc → poW P ops (fun e a' w' => e = .normal → Up P ops Q ops.size a' w') RF RC w1 π ac wc := by
    intro π
    induction π with
    | nil => intro ac wc h w' hw' _; exact up_end (h w' hw')
    | cons s r ih =>
      intro ac wc h
      obtain ⟨k, i⟩ := s
      cases k with
      | val => obtain ⟨v, h1, h2⟩ := h; exact ⟨v, h1, ih _ _ h2⟩
      | mem =>
        intro u hu
        obtain ⟨v, p, h1, h2, h3⟩ := h u hu
        exact ⟨v, p, h1, h2, fun w' a1 a2 => ih _ _ (h3 w' a1 a2)⟩
      | call => exact fun u hu => opV_mono (fun v p hh => ⟨hh.1, ih _ _ hh.2⟩) (h u hu)
      | tail => exact fun u hu => opV_mono (fun v p hh => ih _ _ hh) (h u hu)
  exact mono _ _ _ this
end Go.Bl
